/- The row and the card of StreamOpen. -/
import Derived.Test.YtnjobkbblhaliaaGreatDoorZSE
import Derived.Test.YtnjobkbblhaliaaGreatDoorZSA
import Derived.Lib.ItoaLen
import Derived.Test.YtnjobkbblhaliaaGreatDoorZSD
import Derived.Test.YtnjobkbblhaliaaGreatDoorCards
import Derived.Test.YtnjobkbblhaliaaGreatDoorTie
import Derived.Deep.DeepHandedRow
import Derived.Deep.CondSized
import Derived.Lay
import Derived.MakeChecks
import Derived.LaidSub
set_option linter.unusedSimpArgs false
set_option linter.unusedVariables false
set_option maxRecDepth 100000
namespace Go.Proofs.YtnjobkbblhaliaaGreatDoor
section
open Go Go.W Go.RowKit
theorem td_len (l:List Td):(l.flatMap tdRow).length=l.length*2:=by
 induction l with
 | nil=>rfl
 | cons t l ih=>rw [List.flatMap_cons,List.length_append,ih,tdRow_len,List.length_cons];omega
theorem tup_snoc:∀ i,tupS i++[.text ⟨#[44,32]⟩,.val]=tupS (i+1)
 | 0=>rfl
 | i+1=>by
   have:=tup_snoc i;simp only [tupS,List.cons_append] at this ⊢;rw [this]
theorem arg_snoc:∀ i,argS i++[.text ⟨#[32]⟩,.arg]=argS (i+1)
 | 0=>rfl
 | i+1=>by
   have:=arg_snoc i;simp only [argS,List.cons_append] at this ⊢;rw [this]
theorem tup_len (i:Nat):(tupS i).length=2*i:=by
 induction i with
 | zero=>rfl
 | succ i ih=>simp only [tupS,List.length_cons,ih];omega
theorem arg_len (i:Nat):(argS i).length=2*i:=by
 induction i with
 | zero=>rfl
 | succ i ih=>simp only [argS,List.length_cons,ih];omega
def TdL (w0 w:World) (v:Value) (l:List Td):Prop:=∃ fp,OwnS w 122 2 v (l.flatMap tdRow) l.length fp∧(∀ b,fp=some b→w0.heap.size≤b)∧Mod (fun _=>False) w0 w
theorem TdL.nil (w:World):TdL w w (.slice none 0 0) []:=⟨none,OwnS.nil _ _ _,(fun b h=>by cases h),Mod.refl _ _⟩
theorem tdl_of {w0 w w1:World} {l:List Td} {n:Nat} (hm:Mod (fun _=>False) w0 w) (hb:w1.heap[w.heap.size]? = some (.cells (l.flatMap tdRow).toArray 122 (0,0))) (hm1:Mod (fun _=>False) w w1) (hn:l.length=n):TdL w0 w1 (.slice (some ⟨w.heap.size,0,none⟩) n n) l:=by
 subst hn;refine ⟨some w.heap.size,OwnS.of_block hb ?_,(fun b h=>by cases h;exact hm.size),hm.trans hm1⟩;exact td_len l
theorem tdl_ap {w0 w w1:World} {ρ:Go.W.Env} {K:Value→World→Prop} {v:Value} {l news:List Td} {n:Nat} {x y:O} (h:TdL w0 w v l) (hb:w1.heap[w.heap.size]? = some (.cells (news.flatMap tdRow).toArray 122 (0,0))) (hm1:Mod (fun _=>False) w w1)
   (hx:x.ev ρ=some v) (hy:y.ev ρ=some (.slice (some ⟨w.heap.size,0,none⟩) n n)) (hn:news.length=n) (hl:l.length+news.length≤1048576)
   (hk:∀ v' w',TdL w0 w' v' (l++news)→K v' w'):E.wp Tryz.prog w1 ρ K (.ap 122 2 24 #[.int .i64 0,.string ⟨#[]⟩] x y):=by
 subst hn;obtain ⟨fp,h1,h2,h3⟩:=h;have hnl:=td_len news;refine e_ap (news:=news.flatMap tdRow) (m:=news.length) hx (h1.mod hm1 (fun _ _ hh=>hh)) hy (fun e=>by cases e) (OwnS.of_block hb hnl).rd (tdRow_one _) rfl (by omega) (by omega) ?_;intro v2 w2 fp2 ho2 hm2 hf2;refine hk v2 w2 ⟨fp2,by rw [List.flatMap_append,List.length_append];exact ho2,fun b hb=>?_,(h3.trans hm1).step hm2 (fun b hb hlt=>by have:=h2 b hb;omega)⟩;rcases hf2 b hb with h' | ⟨h',_⟩
 · exact h2 b h'
 · have:=h3.size;have:=hm1.size;omega
section
variable {lo p mp:Nat} {w:World} {vI:Value} {s:Ws} {items:List It} {L:List (ByteArray×Int)}
theorem f_laterL {w0:World} {v:Value} {l:List Td} (h:WrAt lo w0 p vI mp s) (hl:TdL w0 w v l) (h1:l.length≤1048576) (hr:s.row.length≤4294967296):CallsR Tryz.prog 50 [ptr p,v] w fun r w'=>WrAt lo w' p vI mp (s.later l)∧Mod (Wt lo mp) w0 w':=by
 obtain ⟨vR,pv,vB,fR,fB,h⟩:=h;obtain ⟨fp,g1,g2,g3⟩:=hl;have hp:=lt_of_heap h.cells;refine (f_later (h.later (g3.weak (fun _ hh=>hh.elim))) g1 (fun b hb=>⟨by have:=g2 b hb;omega,fun hh=>by have:=g2 b hb;have:=h.row.lt hh;omega⟩) h1 hr).mono ?_;rintro r w' ⟨q1,q2⟩;exact ⟨q1,(g3.weak (fun _ hh=>hh.elim)).trans q2⟩
theorem f_tuple {n:Int} (h:WrAt lo w p vI mp s) (hn:1≤n∧n≤8) (hsz:s.out.size≤70368744177664) (hr:s.row.length≤4294967296):CallsR Tryz.prog 88 [ptr p,I n] w fun r w'=>WrAt lo w' p vI mp (s.tuple n)∧Mod (Wt lo mp) w w':=by
 have hw:IntKind.i64.wrap (n - 1)=n - 1:=by rw [IntKind.wrap_i64];omega
 refine fit88.calls rfl ?_;unfold ir88;(try simp only [go_sem,simprocAttr,ptr]);refine e_call (by rfl) ?_;refine (f_ws h (show s.out.size+1≤_ by omega)).mono ?_;rintro r w1 ⟨h1,hm1⟩;(try simp only [go_sem,simprocAttr,ptr]);refine e_bs (by rfl) (by rfl) ?_;intro w2 hb2 hm2 hs2;have l2:TdL w1 w2 _ [.val]:=tdl_of (Mod.refl _ _) hb2 hm2 rfl;(try simp only [go_sem,simprocAttr,ptr,hw]);refine ir_loop (fun z ρ w'=>∃ (i:Nat) (v:Value),z=(n - 1).toNat - i∧i≤(n - 1).toNat∧TdL w1 w' v (.val::tupS i)∧ρ=[(0,ptr p),(4,v),(12,I (n - 1)),(13,I i)]) (n - 1).toNat ⟨0,_,rfl,Nat.zero_le _,l2,rfl⟩ ?_;rintro z ρ w3 ⟨i,v,rfl,hi,l3,rfl⟩;unfold ir88L1;by_cases hlt:i < (n - 1).toNat
 · have e1:decide ((i:Int) < n - 1)=true:=by simp;omega
   have e2:IntKind.i64.wrap ((i:Int)+1)=((i+1:Nat):Int):=by rw [IntKind.wrap_i64];omega
   (try simp only [go_sem,simprocAttr,e1,e2]);refine e_bs (by rfl) (by rfl) ?_;intro w4 hb4 hm4 hs4;refine tdl_ap (news:=[.text ⟨#[44,32]⟩,.val]) l3 hb4 hm4 rfl rfl rfl (by simp only [List.length_cons,List.length_nil,tup_len];omega) ?_;intro v5 w5 l5;refine ⟨_,?_,i+1,v5,rfl,by omega,?_,rfl⟩
   · omega
   · rw [List.cons_append,tup_snoc] at l5;exact l5
 · have e1:decide ((i:Int) < n - 1)=false:=by simp;omega
   obtain rfl:i=(n - 1).toNat:=by omega
   (try simp only [go_sem,simprocAttr,e1]);refine e_bs (by rfl) (by rfl) ?_;intro w4 hb4 hm4 hs4;refine tdl_ap (news:=[.text ⟨#[41]⟩]) l3 hb4 hm4 rfl rfl rfl (by simp only [List.length_cons,List.length_nil,tup_len];omega) ?_;intro v5 w5 l5;refine e_call (by rfl) ?_;refine (f_laterL h1 l5 (by simp only [List.length_append,List.length_cons,List.length_nil,tup_len];omega) hr).mono ?_;rintro r' w6 ⟨h6,hm6⟩;exact ⟨h6,hm1.trans hm6⟩
theorem f_con {con:ByteArray} {a:Bool} (h:WrAt lo w p vI mp s) (hi:InAt lo w vI mp items L) (hn:0≤(FL L).of con∧(FL L).of con≤8) (hsz:s.out.size+con.size≤70368744177664) (hr:s.row.length≤4294967296):CallsR Tryz.prog 89 [ptr p,.string con,.bool a] w fun r w'=>WrAt lo w' p vI mp (s.con (FL L) con a)∧Mod (Wt lo mp) w w':=by
 obtain ⟨n,hnn⟩:∃ n,n=(FL L).of con:=⟨_,rfl⟩;rw [← hnn] at hn;have hc:=h.choose_spec.choose_spec.choose_spec.choose_spec.choose_spec.cells;refine fit89.calls rfl ?_;unfold ir89;(try simp only [go_sem,simprocAttr,cell_of hc,wrCells,ptr]);refine e_l1S (b:=mp) (l:=L) (kt:=9) (et:=3) rfl rfl Tryz.underlying80 Tryz.underlying9 (Tryz.zeroValue3 _) hi.mp ?_;rw [show (sget L con).getD 0=n from hnn.symm];(try simp only [go_sem,simprocAttr]);refine ir_loop (fun z ρ w'=>∃ (i:Nat) (v:Value),z=n.toNat - i∧i≤n.toNat∧TdL w w' v (argS i)∧ρ=[(0,ptr p),(1,.string con),(2,.bool a),(6,I n),(7,v),(14,I n),(15,I i)]) n.toNat ⟨0,_,rfl,Nat.zero_le _,TdL.nil w,rfl⟩ ?_;rintro z ρ w3 ⟨i,v,rfl,hi',l3,rfl⟩;unfold ir89L1;by_cases hlt:i < n.toNat
 · have e1:decide ((i:Int) < n)=true:=by simp;omega
   have e2:IntKind.i64.wrap ((i:Int)+1)=((i+1:Nat):Int):=by rw [IntKind.wrap_i64];omega
   (try simp only [go_sem,simprocAttr,e1,e2]);refine e_bs (by rfl) (by rfl) ?_;intro w4 hb4 hm4 hs4;refine tdl_ap (news:=[.text ⟨#[32]⟩,.arg]) l3 hb4 hm4 rfl rfl rfl (by simp only [List.length_cons,List.length_nil,arg_len];omega) ?_;intro v5 w5 l5;refine ⟨_,?_,i+1,v5,rfl,by omega,?_,rfl⟩
   · omega
   · rw [arg_snoc] at l5;exact l5
 · have e1:decide ((i:Int) < n)=false:=by simp;omega
   obtain rfl:i=n.toNat:=by omega
   obtain ⟨vR,pv,vB,fR,fB,hF⟩:=h;have hpl:=lt_of_heap hc;have fin:∀ (t:ByteArray) (l:List Td) (v:Value) (w5:World),TdL w w5 v l→l.length≤1048576→t.size≤con.size+1→(s.con (FL L) con a)=(s.say t).later l →
       CallsR Tryz.prog 51 [sbP p,.string t] w5 (fun r w'=>CallsR Tryz.prog 50 [ptr p,v] w' (fun r w'=>WrAt lo w' p vI mp (s.con (FL L) con a)∧Mod (Wt lo mp) w w')):=by
     intro t l v w5 hl hll ht he;obtain ⟨fp,g1,g2,g3⟩:=hl;rw [he];refine (f_wsF (hF.later (g3.weak (fun _ hh=>hh.elim))) (by omega)).mono ?_;rintro r w6 ⟨⟨vB',fB',h6⟩,hm6⟩;refine (f_later h6 (g1.mod hm6 (fun b hb hh=>?_)) (fun b hb=>⟨by have:=g2 b hb;omega,fun hh=>by have:=g2 b hb;have:=hF.row.lt hh;omega⟩) hll hr).mono ?_
     · have:=g2 b hb;rcases hh with hh | hh
       · omega
       · have:=hF.buf.lt hh;omega
     · rintro r' w7 ⟨q1,q2⟩;refine ⟨q1,((g3.weak (fun _ hh=>hh.elim)).trans (hm6.weak (fun b hb=>?_))).trans q2⟩;rcases hb with rfl | hb
       · exact ⟨hF.loP,fun e=>hF.mpP e.symm⟩
       · exact ⟨(hF.fb b hb).1,(hF.fb b hb).2.2.1⟩
   by_cases hg:a=true∧n > 0
   · obtain ⟨rfl,hn0⟩:=hg;have e3:decide (n > 0)=true:=by simp;omega
     (try simp only [go_sem,simprocAttr,e1,e3]);have h40:(⟨#[40]⟩++con:ByteArray).size=con.size+1:=by rw [app_size];exact Nat.add_comm _ _
     refine ⟨.string (⟨#[40]⟩++con),?_,?_⟩
     · rw [if_neg];have:((#[40]:Array UInt8).size:Nat)=1:=rfl;rw [this];show ¬ (((1+con.size:Nat):Int) > 9223372036854775807);omega
     refine e_bs (by rfl) (by rfl) ?_;intro w4 hb4 hm4 hs4;refine tdl_ap (news:=[.text ⟨#[41]⟩]) l3 hb4 hm4 rfl rfl rfl (by simp only [List.length_cons,List.length_nil,arg_len];omega) ?_;intro v5 w5 l5;refine e_call (by rfl) ?_;have e5:s.con (FL L) con true=(s.say (⟨#[40]⟩++con)).later (argS n.toNat++[.text ⟨#[41]⟩]):=by
       unfold Ws.con;rw [← hnn,if_pos (by simp;omega)]
     refine (fin (⟨#[40]⟩++con) (argS n.toNat++[.text ⟨#[41]⟩]) v5 w5 l5 (by rw [List.length_append,arg_len];show 2*n.toNat+1≤_;omega) (Nat.le_of_eq h40) e5).mono ?_
     · intro r w6 h6;(try simp only [go_sem,simprocAttr]);exact e_call (by rfl) h6
   · have e4:s.con (FL L) con a=(s.say con).later (argS n.toNat):=by
       unfold Ws.con;rw [← hnn,if_neg];intro hh;simp only [Bool.and_eq_true,decide_eq_true_eq] at hh;exact hg hh
     have:=fin con _ v w3 l3 (by rw [arg_len];omega) (by omega) e4;cases a with
     | false=>
       (try simp only [go_sem,simprocAttr,e1]);refine e_call (by rfl) ?_;refine this.mono ?_;intro r w6 h6;(try simp only [go_sem,simprocAttr]);exact e_call (by rfl) h6
     | true=>
       have e3:decide (n > 0)=false:=by simp;have:¬ n > 0:=fun hh=>hg ⟨rfl,hh⟩;omega
       (try simp only [go_sem,simprocAttr,e1,e3]);refine e_call (by rfl) ?_;refine this.mono ?_;intro r w6 h6;(try simp only [go_sem,simprocAttr]);exact e_call (by rfl) h6
end
end
section
open Go Go.W Go.RowKit
section
variable {lo p mp:Nat} {w:World} {vI:Value} {s:Ws} {items:List It} {L:List (ByteArray×Int)}
theorem WrAt.quiet {w':World} (h:WrAt lo w p vI mp s) (hm:Mod (fun _=>False) w w'):WrAt lo w' p vI mp s:=by
 obtain ⟨vR,pv,vB,fR,fB,h⟩:=h;exact ⟨_,_,_,_,_,h.later (hm.weak (fun _ hh=>hh.elim))⟩
theorem WrAt.cells (h:WrAt lo w p vI mp s):∃ vR pv vB,w.heap[p]? = some (.cells (wrCells vI s.at' mp s.opn vR pv vB).toArray 86 (0,0)):=by
 obtain ⟨vR,pv,vB,fR,fB,h⟩:=h;exact ⟨_,_,_,h.cells⟩
theorem wr_set {ρ:Go.W.Env} {K:Value→World→Prop} {off:Nat} {v:Value} {s':Ws} {x y:O} (h:WrAt lo w p vI mp s) (hx:x.ev ρ=some (.pointer (some ⟨p,off,none⟩))) (hy:y.ev ρ=some v) (h1:v.oneCell'=true) (ho:off < 7)
   (hs:∀ vR pv vB,(wrCells vI s.at' mp s.opn vR pv vB).set off v=wrCells vI s'.at' mp s'.opn vR pv vB) (hr:s'.row=s.row) (hb:s'.out=s.out)
   (hk:∀ w',WrAt lo w' p vI mp s'→Mod (Wt lo mp) w w'→K undef w'):E.wp Tryz.prog w ρ K (.st 1 x y):=by
 obtain ⟨vR,pv,vB,fR,fB,h⟩:=h;refine e_st1 (off:=off) hx hy h.cells h1 (by simp only [wrCells,List.length_cons,List.length_nil];omega) ?_;intro w1 hc hm _;refine hk w1 ⟨vR,pv,vB,fR,fB,by rw [← hs];exact hc,h.pv,?_,?_,h.loP,h.mpP,by have:=h.mpL;have:=hm.size;omega,by have:=h.loL;have:=hm.size;omega,h.fr,h.fb⟩ (hm.weak (fun b hb=>by subst hb;exact ⟨h.loP,fun e=>h.mpP e.symm⟩))
 · rw [hr];exact h.row.mod hm (fun b hb hh=>(h.fr b hb).2.1 hh)
 · rw [hb];exact h.buf.mod hm (fun b hb hh=>(h.fb b hb).2.1 hh)
theorem f_rest (h:WrAt lo w p vI mp s) (hi:InAt lo w vI mp items L) (hsz:s.out.size≤70368744177664) (hr:s.row.length≤2147483648):CallsR Tryz.prog 52 [ptr p] w fun r w'=>WrAt lo w' p vI mp (s.goRest (FL L) items)∧Mod (Wt lo mp) w w':=by
 refine fit52.calls rfl ?_;unfold ir52;(try simp only [go_sem,simprocAttr,ptr]);refine e_call (by rfl) ?_;refine (f_is h hi).mono ?_;rintro _ w1 ⟨rfl,hm1⟩;have h1:=h.quiet hm1;have hi1:=hi.mod (hm1.weak (fun _ hh=>hh.elim));have ht1:Mod (Wt lo mp) w w1:=hm1.weak (fun _ hh=>hh.elim);cases hb:nextIs L items s.at' sCons 2 with
 | true=>
   have hx:∃ x,items[s.at']? = some x∧isS (FL L) x sCons 2=true:=by
     unfold nextIs at hb
     split at hb
     · cases hb
     · exact ⟨_,by assumption,hb⟩
   obtain ⟨x,hx,hxc⟩:=hx;have hlt:=(List.getElem?_eq_some_iff.1 hx).1;have hl:=hi.len;have e2:IntKind.i64.wrap ((s.at':Int)+1)=((s.at'+1:Nat):Int):=by rw [IntKind.wrap_i64];omega
   obtain ⟨vR,pv,vB,hc1⟩:=h1.cells;(try simp only [go_sem,simprocAttr,cell_of hc1,wrCells,ptr,e2]);refine wr_set (s':=s.on) h1 rfl rfl rfl (by omega) (fun _ _ _=>rfl) rfl rfl ?_;intro w2 h2 hm2;(try simp only [go_sem,simprocAttr,ptr]);refine e_call (by rfl) ?_;refine (f_ws h2 (show s.out.size+2≤_ by omega)).mono ?_;rintro r w3 ⟨h3,hm3⟩;(try simp only [go_sem,simprocAttr,ptr]);refine e_bs (by rfl) (by rfl) ?_;intro w4 hb4 hm4 hs4;have l4:TdL w3 w4 _ [.val,.rest]:=tdl_of (Mod.refl _ _) hb4 hm4 rfl;refine e_call (by rfl) ?_;refine (f_laterL h3 l4 (by decide) (by show s.row.length≤_;omega)).mono ?_;rintro r' w5 ⟨h5,hm5⟩;(try simp only [go_sem,simprocAttr]);refine ⟨?_,((ht1.trans hm2).trans hm3).trans hm5⟩;unfold Ws.goRest;rw [hx];simp only [hxc,if_true];exact h5
 | false=>
   (try simp only [go_sem,simprocAttr,ptr]);refine e_call (by rfl) ?_;refine (f_is h1 hi1).mono ?_;rintro _ w2 ⟨rfl,hm2⟩;have h2:=h1.quiet hm2;have ht2:Mod (Wt lo mp) w w2:=ht1.trans (hm2.weak (fun _ hh=>hh.elim));cases hb':nextIs L items s.at' sNil 0 with
   | true=>
     have hx:∃ x,items[s.at']? = some x∧isS (FL L) x sNil 0=true:=by
       unfold nextIs at hb'
       split at hb'
       · cases hb'
       · exact ⟨_,by assumption,hb'⟩
     obtain ⟨x,hx,hxc⟩:=hx;have hlt:=(List.getElem?_eq_some_iff.1 hx).1;have hl:=hi.len;have e2:IntKind.i64.wrap ((s.at':Int)+1)=((s.at'+1:Nat):Int):=by rw [IntKind.wrap_i64];omega
     obtain ⟨vR,pv,vB,hc2⟩:=h2.cells;(try simp only [go_sem,simprocAttr,cell_of hc2,wrCells,ptr,e2]);refine wr_set (s':=s.on) h2 rfl rfl rfl (by omega) (fun _ _ _=>rfl) rfl rfl ?_;intro w3 h3 hm3;(try simp only [go_sem,simprocAttr,ptr]);refine e_call (by rfl) ?_;refine (f_ws h3 (show s.out.size+1≤_ by omega)).mono ?_;rintro r w4 ⟨h4,hm4⟩;(try simp only [go_sem,simprocAttr]);refine ⟨?_,(ht2.trans hm3).trans hm4⟩;have hbx:isS (FL L) x sCons 2=false:=by unfold nextIs at hb;rw [hx] at hb;exact hb
     unfold Ws.goRest;rw [hx];simp only [hxc,hbx,if_true,if_false,Bool.false_eq_true];exact h4
   | false=>
     (try simp only [go_sem,simprocAttr,ptr]);refine e_call (by rfl) ?_;refine (f_ws h2 (show s.out.size+3≤_ by omega)).mono ?_;rintro r w3 ⟨h3,hm3⟩;(try simp only [go_sem,simprocAttr,ptr]);refine e_bs (by rfl) (by rfl) ?_;intro w4 hb4 hm4 hs4;have l4:TdL w3 w4 _ [.val,.text ⟨#[93]⟩]:=tdl_of (Mod.refl _ _) hb4 hm4 rfl;refine e_call (by rfl) ?_;refine (f_laterL h3 l4 (by decide) (by show s.row.length≤_;omega)).mono ?_;rintro r' w5 ⟨h5,hm5⟩;(try simp only [go_sem,simprocAttr]);refine ⟨?_,(ht2.trans hm3).trans hm5⟩;have e:s.goRest (FL L) items=(s.say ⟨#[32,124,32]⟩).later [.val,.text ⟨#[93]⟩]:=by
       unfold Ws.goRest;unfold nextIs at hb hb';cases hx:items[s.at']? with
       | none=>rfl
       | some x=>
         rw [hx] at hb hb';simp only at hb hb';simp only [hb,hb',if_false,Bool.false_eq_true]
     rw [e];exact h5
end
end
section
open Go Go.W Go.RowKit
def itoaB (n:Int):ByteArray:=⟨(Lib.itoa n).toArray⟩
def TbAt (lo:Nat) (w:World):Prop:=∃ g,Tryz.prog.globalNamed "internal/strconv.uint64pow10" = some g∧g < lo∧lo≤w.heap.size∧Lib.TabIs Tryz.prog w "internal/strconv.uint64pow10" .u64 Lib.pow10Tab
section
variable {lo p mp:Nat} {w:World} {vI:Value} {s:Ws} {items:List It} {L:List (ByteArray×Int)}
theorem TbAt.mod {w':World} (h:TbAt lo w) (hm:Mod (Wt lo mp) w w'):TbAt lo w':=by
 obtain ⟨g,h1,h2,h3,h4⟩:=h;refine ⟨g,h1,h2,by have:=hm.size;omega,?_⟩;unfold Lib.TabIs World.var? at h4 ⊢;rw [h1] at h4 ⊢;simp only [Option.bind_some] at h4 ⊢;rw [hm.old g (by omega) (fun hh=>by have:=hh.1;omega)];exact h4
theorem f_itoa {n:Int} (h:TbAt lo w) (hn : -9223372036854775808≤n∧n≤9223372036854775807):CallsR Tryz.prog 48 [I n] w fun r w'=>r = .string (itoaB n)∧Mod (fun _=>False) w w':=by
 obtain ⟨g,h1,h2,h3,h4⟩:=h;refine Calls.mono (Any.strconv_Itoa Tryz.lays171 n hn.1 hn.2 w h4) ?_;rintro e w' ⟨rfl,k,os,rfl⟩;refine ⟨_,rfl,rfl,⟨by simp [Go.Sort.grow],fun b hb _=>?_,rfl,rfl,rfl⟩⟩;show (w.heap++os)[b]? = _;rw [Array.getElem?_append_left hb]
theorem itoaB_size (n:Int) (hn : -9223372036854775808≤n∧n≤9223372036854775807):(itoaB n).size≤21:=Lib.itoa_length_le n hn.1 hn.2
theorem next_eq {x:It} (hx:items[s.at']? = some x) (con:ByteArray) (n:Int):nextIs L items s.at' con n=isS (FL L) x con n:=by
 unfold nextIs;rw [hx]
theorem f_value {a:Bool} (h:WrAt lo w p vI mp s) (hi:InAt lo w vI mp items L) (ht:TbAt lo w) (hle:s.at'≤items.length) (hop:0≤s.opn∧s.opn≤1099511627776)
   (hk:∀ x,items[s.at']? = some x→(x.con=⟨#[]⟩ → -4611686018427387904≤x.num∧x.num≤4611686018427387903)∧(x.con≠⟨#[]⟩→0≤(FL L).of x.con∧(FL L).of x.con≤8)∧x.con.size≤35184372088832)
   (hsz:s.out.size≤35184372088000) (hr:s.row.length≤2147483648):CallsR Tryz.prog 53 [ptr p,.bool a] w fun r w'=>WrAt lo w' p vI mp (s.value itoaB (FL L) items a)∧Mod (Wt lo mp) w w':=by
 refine fit53.calls rfl ?_;unfold ir53;obtain ⟨vR0,pv0,vB0,hc⟩:=h.cells;have hl:=hi.len;have ofd:∀ {w':World},Mod (Wt lo mp) w w'→Mod (Wt lo mp) w w'.drew:=fun hm=>hm.drew
 have wdrew:WrAt lo w.drew p vI mp s:=h.quiet (Mod.refl _ _).drew;cases hx:items[s.at']? with
 | none=>
   obtain ⟨ad,c,rfl⟩:=it_sl hi;have hge:=List.getElem?_eq_none_iff.1 hx;have hat:s.at'=items.length:=by omega
   have e1:((s.at':Int) == (items.length:Int))=true:=by rw [hat];simp
   have e2:IntKind.i64.wrap (s.opn+1)=s.opn+1:=by rw [IntKind.wrap_i64];omega
   have hcd:w.drew.heap[p]? = _:=hc;(try simp only [go_sem,simprocAttr,cell_of hc,cell_of hcd,wrCells,ptr,e1,e2]);refine wr_set (s':={ s with opn:=s.opn+1}) wdrew rfl rfl rfl (by omega) (fun _ _ _=>rfl) rfl rfl ?_;intro w1 h1 hm1;(try simp only [go_sem,simprocAttr,ptr]);refine e_call (by rfl) ?_;refine (f_ws h1 (show s.out.size+1≤_ by omega)).mono ?_;rintro r w2 ⟨h2,hm2⟩;(try simp only [go_sem,simprocAttr]);refine ⟨?_,(hm1.of_drew).trans hm2⟩;have hv:s.value itoaB (FL L) items a = { s with opn:=s.opn+1}.say ⟨#[95]⟩:=by
     unfold Ws.value;rw [hx];rfl
   rw [hv];exact h2
 | some x=>
   obtain ⟨ad,c,rfl,hlo,hx1,hx2⟩:=it_at hi hx;obtain ⟨hk1,hk2,hk3⟩:=hk x hx;have hlt:=(List.getElem?_eq_some_iff.1 hx).1;have e1:((s.at':Int) == (items.length:Int))=false:=by simp;omega
   have e2:IntKind.i64.wrap ((s.at':Int)+1)=((s.at'+1:Nat):Int):=by rw [IntKind.wrap_i64];omega
   have e3:(0:Int)≤s.at'∧(s.at':Int) < items.length:=by omega
   have hcd:w.drew.heap[p]? = _:=hc;have hcdd:w.drew.drew.heap[p]? = _:=hc;have hln:∀ W:World,W.heap=w.heap→vLN W 2 (.pointer (some (ad.add (s.at'*2))))=some (.agg #[.string x.con,I x.num]):=by
     intro W hW;have cw:∀ q,W.cell? q=w.cell? q:=fun q=>by simp [World.cell?,hW]
     refine ln_2 ?_ ?_
     · rw [Addr.add_zero',cw];exact hx1
     · rw [cw];exact hx2
   (try simp only [go_sem,simprocAttr,cell_of hc,cell_of hcd,cell_of hcdd,wrCells,ptr,e1,e3,decide_true,Int.toNat_natCast,hln w.drew.drew rfl]);have hlw:lo≤w.heap.size∧p < w.heap.size:=by
     obtain ⟨_,_,_,_,_,hF⟩:=h;exact ⟨hF.loL,lt_of_heap hF.cells⟩
   refine e_al ?_;intro w1 hD1 hm1 hs1;have hm1':Mod (fun _=>False) w w1:=hm1.of_drew.of_drew;have hD1':w1.heap[w.heap.size]? = some (.cells [.string ⟨#[]⟩,I 0].toArray 42 (0,0)):=hD1;refine ⟨⟨hm1'.old _ (by rw [add_block];omega) (fun h=>h),hm1'.old _ hlw.2 (fun h=>h)⟩,?_⟩;refine e_sta (vs:=[.string x.con,I x.num]) rfl rfl hD1' rfl rfl (by intro u hu;simp only [List.mem_cons,List.not_mem_nil,or_false] at hu;rcases hu with rfl | rfl<;>rfl) ?_;intro w2 hD0 hm2 hs2;have hD:w2.heap[w.heap.size]? = some (.cells [.string x.con,I x.num].toArray 42 (0,0)):=hD0;have hm02:Mod (fun _=>False) w w2:=hm1'.step hm2 (fun b hb hlt=>by have hb':b=w.heap.size:=hb;omega);have h2:=h.quiet hm02;have hi2:=hi.mod (hm02.weak (fun _ hh=>hh.elim));have ht2:=ht.mod (hm02.weak (S':=Wt lo mp) (fun _ hh=>hh.elim));have ht02:Mod (Wt lo mp) w w2:=hm02.weak (fun _ hh=>hh.elim);have hz0:∀ {w':World},Mod (fun _=>False) w2 w'→w'.heap[w.heap.size]? = some (.cells [.string x.con,I x.num].toArray 42 (0,0)):=fun hm=>hm.at hD (fun hh=>hh)
   by_cases h0:x.con=⟨#[]⟩
   · have b0:decide (x.con=⟨#[]⟩)=true:=by simp [h0]
     obtain ⟨n1,n2⟩:=hk1 h0;(try simp only [go_sem,simprocAttr,cell_of hD,ba_lq,b0]);refine e_call (by rfl) ?_;refine (f_itoa ht2 ⟨by omega,by omega⟩).mono ?_;rintro _ w3 ⟨rfl,hm3⟩;have hD3:=hz0 hm3;have h3:=h2.quiet hm3;have ht03:Mod (Wt lo mp) w w3:=ht02.trans (hm3.weak (fun _ hh=>hh.elim));have hiz:=itoaB_size x.num ⟨by omega,by omega⟩;by_cases hg:a=true∧x.num < 0
     · obtain ⟨rfl,hn0⟩:=hg;have b1:decide (x.num < 0)=true:=by simp;omega
       (try simp only [go_sem,simprocAttr,cell_of hD3,b1]);refine ⟨.string (⟨#[40]⟩++itoaB x.num),?_,.string (⟨#[40]⟩++itoaB x.num++⟨#[41]⟩),?_,?_⟩
       · rw [if_neg];have:((#[40]:Array UInt8).size:Nat)=1:=rfl;rw [this];show ¬ (((1+(itoaB x.num).size:Nat):Int) > 9223372036854775807);omega
       · show (if ((((⟨#[40]⟩:ByteArray)++itoaB x.num).size+1:Nat):Int) > 9223372036854775807 then none else _)=_;rw [app_size,if_neg];show ¬ (((1+(itoaB x.num).size+1:Nat):Int) > 9223372036854775807);omega
       refine e_call (by rfl) ?_;have hsn:(⟨#[40]⟩++itoaB x.num++⟨#[41]⟩:ByteArray).size≤23:=by
         rw [app_size,app_size];show 1+_+1≤_;omega
       refine (f_ws h3 (show s.out.size+_≤_ by omega)).mono ?_;rintro r w4 ⟨h4,hm4⟩;obtain ⟨vR,pv,vB,hcc⟩:=h4.cells;have hat1:((s.say (⟨#[40]⟩++itoaB x.num++⟨#[41]⟩))).at'=s.at':=by first | rfl | (unfold Ws.con;split<;>rfl)
       have e2':IntKind.i64.wrap (((((s.say (⟨#[40]⟩++itoaB x.num++⟨#[41]⟩))).at':Nat):Int)+1)=((((s.say (⟨#[40]⟩++itoaB x.num++⟨#[41]⟩))).at'+1:Nat):Int):=by rw [hat1];exact e2
       (try simp only [go_sem,simprocAttr,cell_of hcc,wrCells,ptr,e2']);refine wr_set (s':=Ws.on (s.say (⟨#[40]⟩++itoaB x.num++⟨#[41]⟩))) h4 rfl rfl rfl (by omega) (fun _ _ _=>rfl) rfl rfl ?_;intro wz hz hmz;(try simp only [go_sem,simprocAttr]);refine ⟨?_,(ht03.trans hm4).trans hmz⟩;have hv:s.value itoaB (FL L) items true=Ws.on (s.say (⟨#[40]⟩++itoaB x.num++⟨#[41]⟩)):=by
         unfold Ws.value;rw [hx];simp only [if_pos h0,numS,b1,Bool.and_self,Bool.true_and,if_true]
       rw [hv];exact hz
     · have fin:CallsR Tryz.prog 51 [sbP p,.string (itoaB x.num)] w3 (fun r w'=>WrAt lo w' p (.slice (some ad) items.length c) mp (s.say (itoaB x.num))∧Mod (Wt lo mp) w3 w'):=f_ws h3 (show s.out.size+_≤_ by omega);cases a with
       | false=>
         (try simp only [go_sem,simprocAttr,ptr]);refine e_call (by rfl) ?_;refine fin.mono ?_;rintro r w4 ⟨h4,hm4⟩;obtain ⟨vR,pv,vB,hcc⟩:=h4.cells;have hat1:((s.say (itoaB x.num))).at'=s.at':=by first | rfl | (unfold Ws.con;split<;>rfl)
         have e2':IntKind.i64.wrap (((((s.say (itoaB x.num))).at':Nat):Int)+1)=((((s.say (itoaB x.num))).at'+1:Nat):Int):=by rw [hat1];exact e2
         (try simp only [go_sem,simprocAttr,cell_of hcc,wrCells,ptr,e2']);refine wr_set (s':=Ws.on (s.say (itoaB x.num))) h4 rfl rfl rfl (by omega) (fun _ _ _=>rfl) rfl rfl ?_;intro wz hz hmz;(try simp only [go_sem,simprocAttr]);refine ⟨?_,(ht03.trans hm4).trans hmz⟩;have hv:s.value itoaB (FL L) items false=Ws.on (s.say (itoaB x.num)):=by
           unfold Ws.value;rw [hx];simp only [if_pos h0,numS,Bool.false_and,Bool.false_eq_true,if_false]
         rw [hv];exact hz
       | true=>
         have b1:decide (x.num < 0)=false:=by simp;have:¬ x.num < 0:=fun hh=>hg ⟨rfl,hh⟩;omega
         (try simp only [go_sem,simprocAttr,cell_of hD3,b1,ptr]);refine e_call (by rfl) ?_;refine fin.mono ?_;rintro r w4 ⟨h4,hm4⟩;obtain ⟨vR,pv,vB,hcc⟩:=h4.cells;have hat1:((s.say (itoaB x.num))).at'=s.at':=by first | rfl | (unfold Ws.con;split<;>rfl)
         have e2':IntKind.i64.wrap (((((s.say (itoaB x.num))).at':Nat):Int)+1)=((((s.say (itoaB x.num))).at'+1:Nat):Int):=by rw [hat1];exact e2
         (try simp only [go_sem,simprocAttr,cell_of hcc,wrCells,ptr,e2']);refine wr_set (s':=Ws.on (s.say (itoaB x.num))) h4 rfl rfl rfl (by omega) (fun _ _ _=>rfl) rfl rfl ?_;intro wz hz hmz;(try simp only [go_sem,simprocAttr]);refine ⟨?_,(ht03.trans hm4).trans hmz⟩;have hv:s.value itoaB (FL L) items true=Ws.on (s.say (itoaB x.num)):=by
           unfold Ws.value;rw [hx];simp only [if_pos h0,numS,b1,Bool.and_false,Bool.false_eq_true,if_false]
         rw [hv];exact hz
   · have b0:decide (x.con=⟨#[]⟩)=false:=by simp [h0]
     obtain ⟨k1,k2⟩:=hk2 h0;(try simp only [go_sem,simprocAttr,cell_of hD,ba_lq,b0,ptr]);refine e_call (by rfl) ?_;refine (f_is h2 hi2).mono ?_;rintro _ w3 ⟨rfl,hm3⟩;rw [next_eq hx];have hm23:Mod (fun _=>False) w2 w3:=hm3;have h3:=h2.quiet hm3;have hi3:=hi2.mod (hm3.weak (fun _ hh=>hh.elim));have ht03:Mod (Wt lo mp) w w3:=ht02.trans (hm3.weak (fun _ hh=>hh.elim));cases c1:isS (FL L) x sNil 0 with
     | true=>
       (try simp only [go_sem,simprocAttr,ptr]);refine e_call (by rfl) ?_;refine (f_ws h3 (show s.out.size+2≤_ by omega)).mono ?_;rintro r w4 ⟨h4,hm4⟩;obtain ⟨vR,pv,vB,hcc⟩:=h4.cells;have hat1:((s.say ⟨#[91,93]⟩)).at'=s.at':=by first | rfl | (unfold Ws.con;split<;>rfl)
       have e2':IntKind.i64.wrap (((((s.say ⟨#[91,93]⟩)).at':Nat):Int)+1)=((((s.say ⟨#[91,93]⟩)).at'+1:Nat):Int):=by rw [hat1];exact e2
       (try simp only [go_sem,simprocAttr,cell_of hcc,wrCells,ptr,e2']);refine wr_set (s':=Ws.on (s.say ⟨#[91,93]⟩)) h4 rfl rfl rfl (by omega) (fun _ _ _=>rfl) rfl rfl ?_;intro wz hz hmz;(try simp only [go_sem,simprocAttr]);refine ⟨?_,(ht03.trans hm4).trans hmz⟩;have hv:s.value itoaB (FL L) items a=Ws.on (s.say ⟨#[91,93]⟩):=by
         unfold Ws.value;rw [hx];simp only [if_neg h0,c1,if_true]
       rw [hv];exact hz
     | false=>
     (try simp only [go_sem,simprocAttr,ptr]);refine e_call (by rfl) ?_;refine (f_is h3 hi3).mono ?_;rintro _ w4 ⟨rfl,hm4⟩;rw [next_eq hx];have hm24:Mod (fun _=>False) w2 w4:=hm23.trans hm4;have h4:=h3.quiet hm4;have hi4:=hi3.mod (hm4.weak (fun _ hh=>hh.elim));have ht04:Mod (Wt lo mp) w w4:=ht03.trans (hm4.weak (fun _ hh=>hh.elim));cases c2:isS (FL L) x sCons 2 with
     | true=>
       (try simp only [go_sem,simprocAttr,ptr]);refine e_call (by rfl) ?_;refine (f_ws h4 (show s.out.size+1≤_ by omega)).mono ?_;rintro r w5 ⟨h5,hm5⟩;(try simp only [go_sem,simprocAttr,ptr]);refine e_bs (by rfl) (by rfl) ?_;intro w6 hb6 hm6 hs6;have l6:TdL w5 w6 _ [.val,.rest]:=tdl_of (Mod.refl _ _) hb6 hm6 rfl;refine e_call (by rfl) ?_;refine (f_laterL h5 l6 (by decide) (by show s.row.length≤_;omega)).mono ?_;rintro r' w7 ⟨h7,hm7⟩;obtain ⟨vR,pv,vB,hcc⟩:=h7.cells;have hat1:(((s.say ⟨#[91]⟩).later [.val,.rest])).at'=s.at':=by first | rfl | (unfold Ws.con;split<;>rfl)
       have e2':IntKind.i64.wrap ((((((s.say ⟨#[91]⟩).later [.val,.rest])).at':Nat):Int)+1)=(((((s.say ⟨#[91]⟩).later [.val,.rest])).at'+1:Nat):Int):=by rw [hat1];exact e2
       (try simp only [go_sem,simprocAttr,cell_of hcc,wrCells,ptr,e2']);refine wr_set (s':=Ws.on ((s.say ⟨#[91]⟩).later [.val,.rest])) h7 rfl rfl rfl (by omega) (fun _ _ _=>rfl) rfl rfl ?_;intro wz hz hmz;(try simp only [go_sem,simprocAttr]);refine ⟨?_,((ht04.trans hm5).trans hm7).trans hmz⟩;have hv:s.value itoaB (FL L) items a=Ws.on ((s.say ⟨#[91]⟩).later [.val,.rest]):=by
         unfold Ws.value;rw [hx];simp only [if_neg h0,c1,c2,if_true,if_false,Bool.false_eq_true]
       rw [hv];exact hz
     | false=>
     (try simp only [go_sem,simprocAttr,ptr]);refine e_call (by rfl) ?_;refine (f_is h4 hi4).mono ?_;rintro _ w5 ⟨rfl,hm5⟩;rw [next_eq hx];have hm25:Mod (fun _=>False) w2 w5:=hm24.trans hm5;have h5:=h4.quiet hm5;have hi5:=hi4.mod (hm5.weak (fun _ hh=>hh.elim));have ht05:Mod (Wt lo mp) w w5:=ht04.trans (hm5.weak (fun _ hh=>hh.elim));cases c3:isS (FL L) x sUnit 0 with
     | true=>
       (try simp only [go_sem,simprocAttr,ptr]);refine e_call (by rfl) ?_;refine (f_ws h5 (show s.out.size+2≤_ by omega)).mono ?_;rintro r w6 ⟨h6,hm6⟩;obtain ⟨vR,pv,vB,hcc⟩:=h6.cells;have hat1:((s.say ⟨#[40,41]⟩)).at'=s.at':=by first | rfl | (unfold Ws.con;split<;>rfl)
       have e2':IntKind.i64.wrap (((((s.say ⟨#[40,41]⟩)).at':Nat):Int)+1)=((((s.say ⟨#[40,41]⟩)).at'+1:Nat):Int):=by rw [hat1];exact e2
       (try simp only [go_sem,simprocAttr,cell_of hcc,wrCells,ptr,e2']);refine wr_set (s':=Ws.on (s.say ⟨#[40,41]⟩)) h6 rfl rfl rfl (by omega) (fun _ _ _=>rfl) rfl rfl ?_;intro wz hz hmz;(try simp only [go_sem,simprocAttr]);refine ⟨?_,(ht05.trans hm6).trans hmz⟩;have hv:s.value itoaB (FL L) items a=Ws.on (s.say ⟨#[40,41]⟩):=by
         unfold Ws.value;rw [hx];simp only [if_neg h0,c1,c2,c3,if_true,if_false,Bool.false_eq_true]
       rw [hv];exact hz
     | false=>
     (try simp only [go_sem,simprocAttr,ptr]);refine e_call (by rfl) ?_;refine (f_is h5 hi5).mono ?_;rintro _ w6 ⟨rfl,hm6⟩;rw [next_eq hx];have hm26:Mod (fun _=>False) w2 w6:=hm25.trans hm6;have h6:=h5.quiet hm6;have hi6:=hi5.mod (hm6.weak (fun _ hh=>hh.elim));have ht06:Mod (Wt lo mp) w w6:=ht05.trans (hm6.weak (fun _ hh=>hh.elim));have tup:∀ (w7:World),Mod (fun _=>False) w2 w7→(isS (FL L) x sPair 2||isS (FL L) x sTriple 3)=true→CallsR Tryz.prog 88 [ptr p,I ((FL L).of x.con)] w7 (fun r w'=>WrAt lo w' p (.slice (some ad) items.length c) mp (s.tuple ((FL L).of x.con))∧Mod (Wt lo mp) w7 w'):=by
       intro w7 hm7 hh;have hn:(FL L).of x.con=2∨(FL L).of x.con=3:=by
         rcases Bool.or_eq_true_iff.1 hh with h | h
         · obtain ⟨e1,e2⟩:=isS_eq h;rw [e1,e2];exact .inl rfl
         · obtain ⟨e1,e2⟩:=isS_eq h;rw [e1,e2];exact .inr rfl
       exact f_tuple (h2.quiet hm7) (by omega) (by omega) (by omega)
     cases c4:isS (FL L) x sPair 2 with
     | true=>
       have hD6:=hz0 hm26;obtain ⟨vR6,pv6,vB6,hc6⟩:=h6.cells;have hD6d:w6.drew.heap[w.heap.size]? = _:=hD6;have hc6d:w6.drew.heap[p]? = _:=hc6;(try simp only [go_sem,simprocAttr,cell_of hD6,cell_of hD6d,cell_of hc6,cell_of hc6d,wrCells,ptr]);refine e_l1S (b:=mp) (l:=L) (kt:=9) (et:=3) rfl rfl Tryz.underlying80 Tryz.underlying9 (Tryz.zeroValue3 _) (maps_mod hi6.mp ((Mod.refl (fun _=>False) w6).drew) (fun h=>h)) ?_;refine e_call (by rfl) ?_;refine (tup w6.drew hm26.drew (by rw [c4];rfl)).mono ?_;rintro r w7 ⟨h7,hm7⟩;obtain ⟨vR,pv,vB,hcc⟩:=h7.cells;have hat1:((s.tuple ((FL L).of x.con))).at'=s.at':=by first | rfl | (unfold Ws.con;split<;>rfl)
       have e2':IntKind.i64.wrap (((((s.tuple ((FL L).of x.con))).at':Nat):Int)+1)=((((s.tuple ((FL L).of x.con))).at'+1:Nat):Int):=by rw [hat1];exact e2
       (try simp only [go_sem,simprocAttr,cell_of hcc,wrCells,ptr,e2']);refine wr_set (s':=Ws.on (s.tuple ((FL L).of x.con))) h7 rfl rfl rfl (by omega) (fun _ _ _=>rfl) rfl rfl ?_;intro wz hz hmz;(try simp only [go_sem,simprocAttr]);refine ⟨?_,(ht06.drew.trans hm7).trans hmz⟩;have hv:s.value itoaB (FL L) items a=Ws.on (s.tuple ((FL L).of x.con)):=by
         unfold Ws.value;rw [hx];simp only [if_neg h0,c1,c2,c3,c4,Bool.true_or,if_true,if_false,Bool.false_eq_true]
       rw [hv];exact hz
     | false=>
     (try simp only [go_sem,simprocAttr,ptr]);refine e_call (by rfl) ?_;refine (f_is h6 hi6).mono ?_;rintro _ w7 ⟨rfl,hm7⟩;rw [next_eq hx];have hm27:Mod (fun _=>False) w2 w7:=hm26.trans hm7;have h7:=h6.quiet hm7;have hi7:=hi6.mod (hm7.weak (fun _ hh=>hh.elim));have ht07:Mod (Wt lo mp) w w7:=ht06.trans (hm7.weak (fun _ hh=>hh.elim));have hD7:=hz0 hm27;cases c5:isS (FL L) x sTriple 3 with
     | true=>
       obtain ⟨vR7,pv7,vB7,hc7⟩:=h7.cells;have hD7d:w7.drew.heap[w.heap.size]? = _:=hD7;have hc7d:w7.drew.heap[p]? = _:=hc7;(try simp only [go_sem,simprocAttr,cell_of hD7,cell_of hD7d,cell_of hc7,cell_of hc7d,wrCells,ptr]);refine e_l1S (b:=mp) (l:=L) (kt:=9) (et:=3) rfl rfl Tryz.underlying80 Tryz.underlying9 (Tryz.zeroValue3 _) (maps_mod hi7.mp ((Mod.refl (fun _=>False) w7).drew) (fun h=>h)) ?_;refine e_call (by rfl) ?_;refine (tup w7.drew hm27.drew (by rw [c5,Bool.or_true])).mono ?_;rintro r w8 ⟨h8,hm8⟩;obtain ⟨vR,pv,vB,hcc⟩:=h8.cells;have hat1:((s.tuple ((FL L).of x.con))).at'=s.at':=by first | rfl | (unfold Ws.con;split<;>rfl)
       have e2':IntKind.i64.wrap (((((s.tuple ((FL L).of x.con))).at':Nat):Int)+1)=((((s.tuple ((FL L).of x.con))).at'+1:Nat):Int):=by rw [hat1];exact e2
       (try simp only [go_sem,simprocAttr,cell_of hcc,wrCells,ptr,e2']);refine wr_set (s':=Ws.on (s.tuple ((FL L).of x.con))) h8 rfl rfl rfl (by omega) (fun _ _ _=>rfl) rfl rfl ?_;intro wz hz hmz;(try simp only [go_sem,simprocAttr]);refine ⟨?_,(ht07.drew.trans hm8).trans hmz⟩;have hv:s.value itoaB (FL L) items a=Ws.on (s.tuple ((FL L).of x.con)):=by
         unfold Ws.value;rw [hx];simp only [if_neg h0,c1,c2,c3,c4,c5,Bool.or_true,if_true,if_false,Bool.false_eq_true]
       rw [hv];exact hz
     | false=>
       (try simp only [go_sem,simprocAttr,cell_of hD7,ptr]);refine e_call (by rfl) ?_;refine (f_con h7 hi7 ⟨k1,k2⟩ (by omega) (by omega)).mono ?_;rintro r w8 ⟨h8,hm8⟩;obtain ⟨vR,pv,vB,hcc⟩:=h8.cells;have hat1:((s.con (FL L) x.con a)).at'=s.at':=by first | rfl | (unfold Ws.con;split<;>rfl)
       have e2':IntKind.i64.wrap (((((s.con (FL L) x.con a)).at':Nat):Int)+1)=((((s.con (FL L) x.con a)).at'+1:Nat):Int):=by rw [hat1];exact e2
       (try simp only [go_sem,simprocAttr,cell_of hcc,wrCells,ptr,e2']);refine wr_set (s':=Ws.on (s.con (FL L) x.con a)) h8 rfl rfl rfl (by omega) (fun _ _ _=>rfl) rfl rfl ?_;intro wz hz hmz;(try simp only [go_sem,simprocAttr]);refine ⟨?_,(ht07.trans hm8).trans hmz⟩;have hv:s.value itoaB (FL L) items a=Ws.on (s.con (FL L) x.con a):=by
         unfold Ws.value;rw [hx];simp only [if_neg h0,c1,c2,c3,c4,c5,Bool.or_self,if_true,if_false,Bool.false_eq_true]
       rw [hv];exact hz
end
end
section
open Go Go.W
def sumC (l:List It):Nat:=(l.map fun x=>x.con.size).sum
def smallT (l:List Td):Prop:=∀ t,Td.text t∈l→t.size≤2
theorem smallT_app {a b:List Td} (h:smallT a) (k:smallT b):smallT (a++b):=fun t ht=>by
 rcases List.mem_append.1 ht with h' | h'
 · exact h t h'
 · exact k t h'
theorem smallT_rev {a:List Td} (h:smallT a):smallT a.reverse:=fun t ht=>h t (List.mem_reverse.1 ht)
theorem smallT_drop {a:List Td} (h:smallT a):smallT a.dropLast:=fun t ht=>h t ((List.dropLast_sublist _).subset ht)
theorem smallT_tup:∀ n,smallT (tupS n)
 | 0=>fun t ht=>by cases ht
 | n+1=>fun t ht=>by
   simp only [tupS,List.mem_cons,Td.text.injEq,reduceCtorEq,false_or] at ht;rcases ht with rfl | ht
   · decide
   · exact smallT_tup n t ht
theorem smallT_arg:∀ n,smallT (argS n)
 | 0=>fun t ht=>by cases ht
 | n+1=>fun t ht=>by
   simp only [argS,List.mem_cons,Td.text.injEq,reduceCtorEq,false_or] at ht;rcases ht with rfl | ht
   · decide
   · exact smallT_arg n t ht
theorem smallT_one {t:ByteArray} (h:t.size≤2):smallT [.text t]:=fun u hu=>by
 simp only [List.mem_cons,Td.text.injEq,List.not_mem_nil,or_false] at hu;rw [hu];exact h
theorem smallT_val {l:List Td} (h:smallT l):smallT (.val::l):=fun t ht=>by
 simp only [List.mem_cons,reduceCtorEq,false_or] at ht;exact h t ht
section
variable {itoa:Int→ByteArray} {f:Fld} {items:List It}
structure Wrote (n:Nat) (s s':Ws):Prop where
 out:s'.out.size≤s.out.size+n
 tx:smallT s.row→smallT s'.row
 opn:s'.opn≤s.opn+1
theorem wrote_value {s:Ws} {a:Bool} {x:It} (hx:items[s.at']? = some x) (hi:x.con=⟨#[]⟩→(itoa x.num).size≤21):Wrote (24+x.con.size) s (s.value itoa f items a):=by
 unfold Ws.value;rw [hx];simp only;have hz:∀ (t:ByteArray),t.size≤24→Wrote (24+x.con.size) s (s.say t).on:=fun t ht=>⟨by show (s.out++t).size≤_;rw [app_size];omega,fun h=>h,by show s.opn≤_;omega⟩
 by_cases h1:x.con=⟨#[]⟩
 · rw [if_pos h1];refine hz _ ?_;have:=hi h1;unfold numS
   split
   · rw [app_size,app_size];show 1+_+1≤_;omega
   · omega
 rw [if_neg h1];by_cases h2:isS f x sNil 0=true
 · rw [if_pos h2];exact hz _ (by decide)
 rw [if_neg h2];by_cases h3:isS f x sCons 2=true
 · rw [if_pos h3];refine ⟨?_,fun h=>?_,by show s.opn≤_;omega⟩
   · show (s.out++_).size≤_;rw [app_size];show _+1≤_;omega
   · exact smallT_app h (smallT_rev (fun t ht=>by simp at ht))
 rw [if_neg h3];by_cases h4:isS f x sUnit 0=true
 · rw [if_pos h4];exact hz _ (by decide)
 rw [if_neg h4];by_cases h5:(isS f x sPair 2||isS f x sTriple 3)=true
 · rw [if_pos h5];refine ⟨?_,fun h=>?_,by show s.opn≤_;omega⟩
   · show (s.out++_).size≤_;rw [app_size];show _+1≤_;omega
   · exact smallT_app h (smallT_rev (smallT_app (smallT_val (smallT_tup _)) (smallT_one (by decide))))
 rw [if_neg h5];unfold Ws.con
 split
 · refine ⟨?_,fun h=>?_,by show s.opn≤_;omega⟩
   · show (s.out++_).size≤_;rw [app_size,app_size];show _+(1+_)≤_;omega
   · exact smallT_app h (smallT_rev (smallT_app (smallT_arg _) (smallT_one (by decide))))
 · refine ⟨?_,fun h=>?_,by show s.opn≤_;omega⟩
   · show (s.out++_).size≤_;rw [app_size];omega
   · exact smallT_app h (smallT_rev (smallT_arg _))
structure StI (itoa:Int→ByteArray) (f:Fld) (items:List It) (k:Nat) (s:Ws):Prop where
 inv:WsI f items s
 mu:s.mu items+k≤64*items.length+2
 out:s.out.size≤32*k+sumC (items.take s.at')
 tx:smallT s.row
 opn:s.opn≤k
theorem ws0_st:StI itoa f items 0 ws0:=⟨ws0_inv,by show 64*(items.length - 0)+2+0≤_;omega,Nat.zero_le _,fun t ht=>by simp [ws0] at ht,Int.le_refl _⟩
theorem sumC_succ {k:Nat} {x:It} (h:items[k]? = some x):sumC (items.take (k+1))=sumC (items.take k)+x.con.size:=by
 obtain ⟨hl,rfl⟩:=List.getElem?_eq_some_iff.1 h;unfold sumC;rw [List.take_succ_eq_append_getElem hl,List.map_append,List.sum_append];simp
theorem sumC_take (k:Nat):sumC (items.take k)≤sumC items:=by
 unfold sumC
 conv=>rhs;rw [← List.take_append_drop k items,List.map_append,List.sum_append]
 omega
theorem wrote_step (hi2:∀ x∈items,x.con=⟨#[]⟩→(itoa x.num).size≤21) {s:Ws} (ht:smallT s.row) (hr:s.row≠[]):Wrote (32+(sumC (items.take (s.step itoa f items).at') - sumC (items.take s.at'))) s (s.step itoa f items)∧sumC (items.take s.at')≤sumC (items.take (s.step itoa f items).at'):=by
 unfold Ws.step;cases hl:s.row.getLast? with
 | none=>exact absurd (List.getLast?_eq_none_iff.1 hl) hr
 | some t=>
 have hmem:t∈s.row:=List.mem_of_getLast? hl;have val:∀ a,Wrote (32+(sumC (items.take (Ws.value itoa f items { s with row:=s.row.dropLast} a).at') - sumC (items.take s.at'))) s (Ws.value itoa f items { s with row:=s.row.dropLast} a)∧sumC (items.take s.at')≤sumC (items.take (Ws.value itoa f items { s with row:=s.row.dropLast} a).at'):=by
   intro a;cases hx:items[s.at']? with
   | none=>
     have e:Ws.value itoa f items { s with row:=s.row.dropLast} a = { { s with row:=s.row.dropLast}.say ⟨#[95]⟩ with opn:=s.opn+1}:=by
       unfold Ws.value;simp only [hx]
     rw [e];refine ⟨⟨?_,fun h=>smallT_drop h,Int.le_refl _⟩,Nat.le_refl _⟩;show (s.out++_).size≤_;rw [app_size];show _+1≤_;omega
   | some x=>
     have hw:=wrote_value (itoa:=itoa) (f:=f) (items:=items) (s:={ s with row:=s.row.dropLast}) (a:=a) hx (hi2 x (List.mem_of_getElem? hx));have hat:(Ws.value itoa f items { s with row:=s.row.dropLast} a).at'=s.at'+1:=by
       unfold Ws.value;simp only [hx]
       split
       · rfl
       split
       · rfl
       split
       · rfl
       split
       · rfl
       split
       · rfl
       · unfold Ws.con;split<;>rfl
     rw [hat,sumC_succ hx];have h1:(Ws.value itoa f items { s with row:=s.row.dropLast} a).out.size≤s.out.size+(24+x.con.size):=hw.out;exact ⟨⟨by omega,fun h=>hw.tx (smallT_drop h),hw.opn⟩,by omega⟩
 cases t with
 | text t=>
   simp only;refine ⟨⟨?_,fun h=>smallT_drop h,by show s.opn≤_;omega⟩,Nat.le_refl _⟩;show (s.out++t).size≤_;rw [app_size];have:=ht t hmem;omega
 | val=>exact val false
 | arg=>exact val true
 | rest=>
   simp only;unfold Ws.goRest;have pushed:Wrote (32+(sumC (items.take s.at') - sumC (items.take s.at'))) s ((Ws.say { s with row:=s.row.dropLast} ⟨#[32,124,32]⟩).later [.val,.text ⟨#[93]⟩]):=by
     refine ⟨?_,fun h=>smallT_app (smallT_drop h) (smallT_rev (smallT_val (smallT_one (by decide)))),by show s.opn≤_;omega⟩;show (s.out++_).size≤_;rw [app_size];show _+3≤_;omega
   cases hx:items[s.at']? with
   | none=>simp only [hx];exact ⟨pushed,Nat.le_refl _⟩
   | some x=>
     simp only [hx];have hs:=sumC_succ hx
     split
     · refine ⟨⟨?_,fun h=>smallT_app (smallT_drop h) (smallT_rev (fun t ht=>by simp at ht)),by show s.opn≤_;omega⟩,by show _≤sumC (items.take (s.at'+1));omega⟩;show (s.out++_).size≤_;rw [app_size];show _+2≤_;omega
     split
     · refine ⟨⟨?_,fun h=>smallT_drop h,by show s.opn≤_;omega⟩,by show _≤sumC (items.take (s.at'+1));omega⟩;show (s.out++_).size≤_;rw [app_size];show _+1≤_;omega
     · exact ⟨pushed,Nat.le_refl _⟩
theorem st_step (hi:∀ n,0 < (itoa n).size) (hi2:∀ x∈items,x.con=⟨#[]⟩→(itoa x.num).size≤21) (hk:knownS f items=true) {k:Nat} {s:Ws} (h:StI itoa f items k s) (hr:s.row≠[]):StI itoa f items (k+1) (s.step itoa f items):=by
 obtain ⟨h1,h2⟩:=step_inv hi hk h.inv hr;obtain ⟨h3,h4⟩:=wrote_step (itoa:=itoa) (f:=f) hi2 h.tx hr;refine ⟨h1,by have:=h.mu;omega,?_,h3.tx h.tx,by have:=h3.opn;have:=h.opn;omega⟩;have:=h3.out;have:=h.out;omega
theorem wst_out:∀ (n:Nat) (s:Ws),s.steps itoa f items (n+1)=(s.steps itoa f items n).step itoa f items
 | 0,s=>rfl
 | n+1,s=>by
   rw [Ws.steps,wst_out n (s.step itoa f items)];rfl
theorem wst_add:∀ (a b:Nat) (s:Ws),s.steps itoa f items (a+b)=(s.steps itoa f items a).steps itoa f items b
 | 0,b,s=>by rw [Nat.zero_add];rfl
 | a+1,b,s=>by
   rw [show a+1+b=(a+b)+1 by omega,Ws.steps,wst_add a b];rfl
theorem fin_of {k:Nat} (hk:k≤64*items.length+2) (hr:(ws0.steps itoa f items k).row=[]):finS itoa f items=ws0.steps itoa f items k:=by
 unfold finS;rw [show 64*items.length+2=k+(64*items.length+2 - k) by omega,wst_add,wst_nil hr]
theorem row_le {s:Ws}:s.row.length≤s.mu items:=by
 unfold Ws.mu;have:s.row.length≤(s.row.map Td.weight).sum:=by
   induction s.row with
   | nil=>exact Nat.zero_le _
   | cons t l ih=>
     rw [List.map_cons,List.sum_cons,List.length_cons];have:1≤t.weight:=by cases t<;>simp [Td.weight]
     omega
 omega
end
end
section
open Go Go.W Go.RowKit
structure ItF (L:List (ByteArray×Int)) (items:List It):Prop where
 known:knownS (FL L) items=true
 len:items.length≤4194304
 sum:sumC items≤17592186044416
theorem itoaB_pos (n:Int):0 < (itoaB n).size:=by
 show 0 < (Lib.itoa n).length;unfold Lib.itoa
 split
 · simp
 · rw [Lib.decDigits_length];exact Lib.nDigits_pos _
theorem known_num {f:Fld} {items:List It} (h:knownS f items=true) {x:It} (hx:x∈items) (h0:x.con=⟨#[]⟩) : -4611686018427387904≤x.num∧x.num≤4611686018427387903:=by
 unfold knownS at h;have:=List.all_eq_true.1 h x hx;rw [if_pos h0] at this
 simpa using this
theorem sumC_mem {items:List It} {x:It} (hx:x∈items):x.con.size≤sumC items:=by
 induction items with
 | nil=>cases hx
 | cons y l ih=>
   unfold sumC at ih ⊢;rw [List.map_cons,List.sum_cons];rcases List.mem_cons.1 hx with rfl | h
   · omega
   · have:=ih h;omega
section
variable {lo p mp:Nat} {w:World} {vI:Value} {s:Ws} {items:List It} {L:List (ByteArray×Int)}
theorem f_write (h:WrAt lo w p vI mp ⟨0,0,[],⟨#[]⟩⟩) (hi:InAt lo w vI mp items L) (ht:TbAt lo w) (hf:ItF L items):CallsR Tryz.prog 31 [ptr p] w fun r w'=>WrAt lo w' p vI mp (finS itoaB (FL L) items)∧Mod (Wt lo mp) w w':=by
 have hi2:∀ x∈items,x.con=⟨#[]⟩→(itoaB x.num).size≤21:=fun x hx h0=>by
   have:=known_num hf.known hx h0;exact itoaB_size _ ⟨by omega,by omega⟩
 have hk:=hf.known;have hlen:=hf.len;refine fit31.calls rfl ?_;unfold ir31;(try simp only [go_sem,simprocAttr]);refine e_bs (by rfl) (by rfl) ?_;intro w1 hb1 hm1 hs1;have l1:TdL w w1 _ [.val]:=tdl_of (Mod.refl _ _) hb1 hm1 rfl;(try simp only [go_sem,simprocAttr,ptr]);refine e_call (by rfl) ?_;refine (f_laterL h l1 (by decide) (by decide)).mono ?_;rintro r w2 ⟨h2,hm2⟩;(try simp only [go_sem,simprocAttr,ptr]);refine ir_loop (fun z ρ w'=>∃ (k:Nat) (s:Ws),z=s.mu items∧s=ws0.steps itoaB (FL L) items k∧StI itoaB (FL L) items k s∧WrAt lo w' p vI mp s∧Mod (Wt lo mp) w w'∧ρ=[(0,ptr p)]) (ws0.mu items) ⟨0,ws0,rfl,rfl,ws0_st,h2,hm2,rfl⟩ ?_;rintro z ρ w3 ⟨k,s,rfl,hs,hst,h3,hm3,rfl⟩;have hi3:=hi.mod hm3;have ht3:=ht.mod hm3;have hmu:=hst.mu;have hrl:=row_le (items:=items) (s:=s);obtain ⟨vR,pv,vB,fR,fB,hF⟩:=h3;have hc3:=hF.cells;unfold ir31L1;cases hl:s.row.getLast? with
 | none=>
   have h0:s.row=[]:=List.getLast?_eq_none_iff.1 hl;obtain ⟨va,vc,rfl,_,_⟩:=hF.row.val;have e1:decide ((s.row.length:Int) > 0)=false:=by rw [h0];rfl
   (try simp only [go_sem,simprocAttr,cell_of hc3,wrCells,ptr,e1]);have hfin:finS itoaB (FL L) items=s:=by
     rw [hs] at h0 ⊢;exact fin_of (by omega) h0
   refine ⟨?_,hm3⟩;rw [hfin];exact ⟨_,_,_,_,_,hF⟩
 | some t=>
   have hrow:=row_snoc hl;have hne:s.row≠[]:=fun e=>by rw [e] at hl;cases hl
   obtain ⟨m,hm⟩:∃ m,s.row.length=m+1:=⟨s.row.length - 1,by have:=List.length_pos_iff.2 hne;omega⟩;obtain ⟨b,c,sp',rfl,rfl,r3,r4,r5⟩:∃ b c sp',vR = .slice (some ⟨b,0,none⟩) s.row.length c∧fR=some b∧w3.heap[b]? = some (.cells (s.row.flatMap tdRow++sp').toArray 122 (0,0))∧c*2≤(s.row.flatMap tdRow++sp').length∧s.row.length≤c:=by
     rcases hF.row.2 with ⟨_,h',_⟩ | h'
     · omega
     · exact h'
   have hcne:¬ c=0:=by omega
   have hdl:s.row.dropLast.length=m:=by rw [List.length_dropLast];omega
   have hfl:s.row.flatMap tdRow=s.row.dropLast.flatMap tdRow++tdRow t:=by
     conv=>lhs;rw [hrow,List.flatMap_append]
     simp
   have hdf:(s.row.dropLast.flatMap tdRow).length=m*2:=by rw [td_len,hdl]
   have hln:vLN w3 2 (.pointer (some ⟨b,m*2,none⟩))=some (.agg #[I (doOf t),.string (txOf t)]):=by
     have hh:=cell_of r3;rw [hfl,tdRow_eq] at hh;refine ln_2 ?_ ?_
     · rw [Addr.add_zero'];refine (hh _).trans ?_;rw [List.getElem?_toArray,List.append_assoc,List.getElem?_append_right (by omega),hdf,Nat.sub_self];rfl
     · rw [Addr.add_lit];refine (hh _).trans ?_;rw [List.getElem?_toArray,List.append_assoc,List.getElem?_append_right (by omega),hdf,show m*2+1 - m*2=1 by omega];rfl
   have e1:decide (((m+1:Nat):Int) > 0)=true:=by rw [decide_eq_true_eq];omega
   have e2:IntKind.i64.wrap (((m+1:Nat):Int) - 1)=(m:Int):=by rw [IntKind.wrap_i64];omega
   have hst':=st_step itoaB_pos hi2 hk hst hne;have hmu':=(step_inv itoaB_pos hk hst.inv hne).2;have e3:(0:Int)≤(m:Int)∧(m:Int) < ((m+1:Nat):Int):=by omega
   have e4:(m:Int)≤(c:Int):=by omega
   rw [hm] at hc3;(try simp only [go_sem,simprocAttr,cell_of hc3,wrCells,ptr,e1,e2,e3,e4,hcne,decide_true,Int.toNat_natCast,hln]);have hpb:p≠b:=fun e=>(hF.fr b rfl).2.1 e.symm
   have hpl:=lt_of_heap hc3;refine e_al ?_;intro w4 hD1 hm4 hs4;have hD1':w4.heap[w3.heap.size]? = some (.cells [I 0,.string ⟨#[]⟩].toArray 122 (0,0)):=hD1;refine e_sta (vs:=[I (doOf t),.string (txOf t)]) rfl rfl hD1' rfl rfl (by intro u hu;simp only [List.mem_cons,List.not_mem_nil,or_false] at hu;rcases hu with rfl | rfl<;>rfl) ?_;intro w5 hD hm5 hs5;have hm35:Mod (fun _=>False) w3 w5:=hm4.step hm5 (fun b hb hlt=>by omega);have hc5:=hm35.at hc3 (fun hh=>hh);(try simp only [go_sem,simprocAttr,cell_of hc5,wrCells,e4,hcne,Option.map_some,Nat.sub_zero]);refine e_st1 (off:=4) rfl rfl hc5 rfl (by simp [wrCells]) ?_;intro w6 hc6 hm6 hs6;have hD6:=hm6.at hD (fun hh=>by omega);have hF5:=hF.later (hm35.weak (fun _ hh=>hh.elim));have hF6:WrF lo w6 p vI mp { s with row:=s.row.dropLast} (.slice (some ⟨b,0,none⟩) m c) pv vB (some b) fB:=by
     refine ⟨hc6,hF.pv,?_,hF5.buf.mod hm6 (fun b hb hh=>(hF.fb b hb).2.1 hh),hF.loP,hF.mpP,by have:=hF5.mpL;omega,by have:=hF5.loL;omega,hF.fr,hF.fb⟩;show OwnS w6 _ 2 _ (s.row.dropLast.flatMap tdRow) s.row.dropLast.length _;rw [hdl];refine ⟨hdf,.inr ⟨b,c,tdRow t++sp',rfl,rfl,?_,?_,by omega⟩⟩
     · have:=hm6.at (hm35.at r3 (fun hh=>hh)) (fun hh=>hpb hh.symm);rw [this,hfl,List.append_assoc]
     · rw [hfl,List.append_assoc] at r4;exact r4
   have h6:WrAt lo w6 p vI mp { s with row:=s.row.dropLast}:=⟨_,_,_,_,_,hF6⟩;have ht36:Mod (Wt lo mp) w3 w6:=(hm35.weak (fun _ hh=>hh.elim)).trans (hm6.weak (fun b hb=>by subst hb;exact ⟨hF.loP,fun e=>hF.mpP e.symm⟩));have hi6:=hi3.mod ht36;have ht6:=ht3.mod ht36;have hm06:=hm3.trans ht36;have hso:=hst.out;have hsum:=sumC_take (items:=items) s.at';have hsm:=hf.sum;have hopn:=hst.opn;have hopn0:=hst.inv.opn;have hle:=hst.inv.le;have hvk:∀ x,items[s.at']? = some x→(x.con=⟨#[]⟩ → -4611686018427387904≤x.num∧x.num≤4611686018427387903)∧(x.con≠⟨#[]⟩→0≤(FL L).of x.con∧(FL L).of x.con≤8)∧x.con.size≤35184372088832:=fun x hx=>by
     have hmem:=List.mem_of_getElem? hx;refine ⟨fun h0=>known_num hk hmem h0,fun h0=>(known_at hk hx).resolve_left h0,?_⟩;have:=sumC_mem hmem;omega
   have hnext:∀ w':World,WrAt lo w' p vI mp (s.step itoaB (FL L) items)→Mod (Wt lo mp) w w'→∃ m,m < s.mu items∧∃ (k:Nat) (s':Ws),m=s'.mu items∧s'=ws0.steps itoaB (FL L) items k∧StI itoaB (FL L) items k s'∧WrAt lo w' p vI mp s'∧Mod (Wt lo mp) w w':=
     fun w' g1 g2=>⟨_,hmu',k+1,_,rfl,by rw [wst_out,← hs],hst',g1,g2⟩
   have hrl2:s.row.dropLast.length≤2147483648:=by omega
   have b00:((0:Int) == 0)=true:=rfl;have b10:((1:Int) == 0)=false:=rfl;have b13:((1:Int) == 3)=false:=rfl;have b12:((1:Int) == 2)=false:=rfl;have b20:((2:Int) == 0)=false:=rfl;have b23:((2:Int) == 3)=false:=rfl;have b22:((2:Int) == 2)=true:=rfl;have b30:((3:Int) == 0)=false:=rfl;have b33:((3:Int) == 3)=true:=rfl;cases t with
   | text tx=>
     have hD6d:w6.drew.heap[w3.heap.size]? = _:=hD6;have hsx:=hst.tx tx (List.mem_of_getLast? hl);(try simp only [go_sem,simprocAttr,cell_of hD6,cell_of hD6d,doOf,txOf,ptr,b00]);refine e_call (by rfl) ?_;refine (f_ws (h6.quiet (Mod.refl _ _).drew) (show s.out.size+tx.size≤_ by omega)).mono ?_;rintro r w7 ⟨h7,hm7⟩;(try simp only [go_sem,simprocAttr]);refine hnext w7 ?_ (hm06.drew.trans hm7);unfold Ws.step;rw [hl];exact h7
   | val=>
     (try simp only [go_sem,simprocAttr,cell_of hD6,doOf,txOf,ptr,b10,b13,b12]);refine e_call (by rfl) ?_;refine (f_value (a:=false) h6 hi6 ht6 hle ⟨hopn0,(show s.opn≤_ by omega)⟩ hvk (show s.out.size≤_ by omega) hrl2).mono ?_;rintro r w7 ⟨h7,hm7⟩;(try simp only [go_sem,simprocAttr]);refine hnext w7 ?_ (hm06.trans hm7);unfold Ws.step;rw [hl];exact h7
   | arg=>
     (try simp only [go_sem,simprocAttr,cell_of hD6,doOf,txOf,ptr,b20,b23,b22]);refine e_call (by rfl) ?_;refine (f_value (a:=true) h6 hi6 ht6 hle ⟨hopn0,(show s.opn≤_ by omega)⟩ hvk (show s.out.size≤_ by omega) hrl2).mono ?_;rintro r w7 ⟨h7,hm7⟩;(try simp only [go_sem,simprocAttr]);refine hnext w7 ?_ (hm06.trans hm7);unfold Ws.step;rw [hl];exact h7
   | rest=>
     (try simp only [go_sem,simprocAttr,cell_of hD6,doOf,txOf,ptr,b30,b33]);refine e_call (by rfl) ?_;refine (f_rest h6 hi6 (show s.out.size≤_ by omega) hrl2).mono ?_;rintro r w7 ⟨h7,hm7⟩;(try simp only [go_sem,simprocAttr]);refine hnext w7 ?_ (hm06.trans hm7);unfold Ws.step;rw [hl];exact h7
end
end
section
open Go Go.W Go.RowKit
def mayS (f:Fld) (x:It):Bool:=if x.con=⟨#[]⟩ then decide (-4611686018427387904≤x.num)&&decide (x.num≤4611686018427387903)
 else decide (x.num=0)&&(match f x.con with
   | none=>false
   | some n=>decide (0≤n)&&decide (n≤8))
theorem known_may (f:Fld) (items:List It):knownS f items=items.all (mayS f):=rfl
theorem all_step {f:Fld} {items:List It} {i:Nat} {x:It} (hx:items[i]? = some x) (h:(items.take i).all (mayS f)=true) (hm:mayS f x=true):(items.take (i+1)).all (mayS f)=true:=by
 obtain ⟨hl,rfl⟩:=List.getElem?_eq_some_iff.1 hx;rw [List.take_succ_eq_append_getElem hl,List.all_append,h];simp [hm]
theorem all_not {f:Fld} {items:List It} {i:Nat} {x:It} (hx:items[i]? = some x) (hm:mayS f x=false):knownS f items=false:=by
 rw [known_may];cases h:items.all (mayS f) with
 | false=>rfl
 | true=>
   have:=List.all_eq_true.1 h x (List.mem_of_getElem? hx);rw [hm] at this;cases this
section
variable {lo p mp:Nat} {w:World} {vI:Value} {s:Ws} {items:List It} {L:List (ByteArray×Int)}
theorem f_known (h:WrAt lo w p vI mp s) (hi:InAt lo w vI mp items L):CallsR Tryz.prog 30 [ptr p] w fun r w'=>r = .bool (knownS (FL L) items)∧Mod (fun _=>False) w w':=by
 have hl:=hi.len;obtain ⟨vR,pv,vB,hc⟩:=h.cells;obtain ⟨va,vc,hvI⟩:=it_sl hi;subst hvI;have hlw:lo≤w.heap.size∧p < w.heap.size∧mp < w.heap.size:=by
   obtain ⟨_,_,_,_,_,hF⟩:=h;exact ⟨hF.loL,lt_of_heap hF.cells,hF.mpL⟩
 refine fit30.calls rfl ?_;unfold ir30;(try simp only [go_sem,simprocAttr,cell_of hc,wrCells,ptr]);refine ir_loop (fun z ρ w'=>∃ (i:Nat),z=items.length - i∧i≤items.length∧Mod (fun _=>False) w w'∧(items.take i).all (mayS (FL L))=true∧ρ=[(0,ptr p),(10,.slice va items.length vc),(11,I items.length),(12,I i)]) items.length ⟨0,rfl,Nat.zero_le _,Mod.refl _ _,rfl,rfl⟩ ?_;rintro z ρ w1 ⟨i,rfl,hi',hm,hall,rfl⟩;have h1:=h.quiet hm;have hi1:=hi.mod (hm.weak (fun _ hh=>hh.elim));unfold ir30L1;rcases Nat.lt_or_ge i items.length with hlt | hge
 · obtain ⟨x,hx⟩:∃ x,items[i]? = some x:=⟨_,List.getElem?_eq_getElem hlt⟩;obtain ⟨ad,c,hvv,hlo,hx1,hx2⟩:=it_at hi1 hx;cases hvv;have e1:decide ((i:Int) < items.length)=true:=by rw [decide_eq_true_eq];omega
   have e2:IntKind.i64.wrap ((i:Int)+1)=((i+1:Nat):Int):=by rw [IntKind.wrap_i64];omega
   have e3:(0:Int)≤i∧(i:Int) < items.length:=by omega
   have hln:vLN w1 2 (.pointer (some (ad.add (i*2))))=some (.agg #[.string x.con,I x.num]):=
     ln_2 (by rw [Addr.add_zero'];exact hx1) hx2
   (try simp only [go_sem,simprocAttr,e1,e3,decide_true,Int.toNat_natCast,hln]);refine e_al ?_;intro w2 hD1 hm2 hs2;have hD1':w2.heap[w1.heap.size]? = some (.cells [.string ⟨#[]⟩,I 0].toArray 42 (0,0)):=hD1;refine e_sta (vs:=[.string x.con,I x.num]) rfl rfl hD1' rfl rfl (by intro u hu;simp only [List.mem_cons,List.not_mem_nil,or_false] at hu;rcases hu with rfl | rfl<;>rfl) ?_;intro w3 hD hm3 hs3;have hm13:Mod (fun _=>False) w1 w3:=hm2.step hm3 (fun b hb hlt=>by omega);have hm03:=hm.trans hm13;have hi3:=hi1.mod (hm13.weak (S':=Wt lo mp) (fun _ hh=>hh.elim));have hc3:=hm03.at hc (fun hh=>hh);have next:∀ w',Mod (fun _=>False) w w'→mayS (FL L) x=true→∃ m,m < items.length - i∧∃ i',m=items.length - i'∧i'≤items.length∧Mod (fun _=>False) w w'∧(items.take i').all (mayS (FL L))=true∧([(0,ptr p),(10,.slice (some ad) items.length vc),(11,I items.length),(12,I ((i+1:Nat):Int))]:Go.W.Env)=[(0,ptr p),(10,.slice (some ad) items.length vc),(11,I items.length),(12,I i')]:=
     fun w' g1 g2=>⟨_,by omega,i+1,rfl,by omega,g1,all_step hx hall g2,rfl⟩
   by_cases h0:x.con=⟨#[]⟩
   · have b0:decide (x.con=⟨#[]⟩)=true:=by simp [h0]
     by_cases n1:x.num < -4611686018427387904
     · have b1:decide (x.num < -4611686018427387904)=true:=by simp;omega
       (try simp only [go_sem,simprocAttr,cell_of hD,ba_lq,b0,b1]);refine ⟨?_,hm03⟩;rw [all_not hx (by unfold mayS;rw [if_pos h0];simp;omega)]
     · have b1:decide (x.num < -4611686018427387904)=false:=by simp;omega
       by_cases n2:x.num > 4611686018427387903
       · have b2:decide (x.num > 4611686018427387903)=true:=by simp;omega
         (try simp only [go_sem,simprocAttr,cell_of hD,ba_lq,b0,b1,b2]);refine ⟨?_,hm03⟩;rw [all_not hx (by unfold mayS;rw [if_pos h0];simp;omega)]
       · have b2:decide (x.num > 4611686018427387903)=false:=by simp;omega
         (try simp only [go_sem,simprocAttr,cell_of hD,ba_lq,b0,b1,b2,e2]);exact next w3 hm03 (by unfold mayS;rw [if_pos h0];simp;omega)
   · have b0:decide (x.con=⟨#[]⟩)=false:=by simp [h0]
     have hDd:w3.drew.heap[w1.heap.size]? = _:=hD;have hc3d:w3.drew.heap[p]? = _:=hc3;(try simp only [go_sem,simprocAttr,cell_of hD,cell_of hDd,cell_of hc3,cell_of hc3d,wrCells,ptr,ba_lq,b0]);refine e_lkS (b:=mp) (l:=L) (kt:=9) (et:=3) rfl rfl Tryz.underlying80 Tryz.underlying9 (Tryz.zeroValue3 _) (maps_mod hi3.mp ((Mod.refl (fun _=>False) w3).drew) (fun h=>h)) ?_;have no:mayS (FL L) x=false→Value.bool false=Value.bool (knownS (FL L) items)∧Mod (fun _=>False) w w3.drew:=fun hh=>⟨by rw [all_not hx hh],hm03.drew⟩
     by_cases n0:x.num=0
     · have b1:(x.num != 0)=false:=by simp [n0]
       cases hg:sget L x.con with
       | none=>
         (try simp only [go_sem,simprocAttr,cell_of hDd,Bool.not_false,Bool.not_true,Option.getD_none,Option.isSome_none,b1]);exact no (by unfold mayS;rw [if_neg h0];show (_&&match sget L x.con with | none=>false | some n=>_)=_;rw [hg];simp)
       | some n=>
         by_cases n1:n < 0
         · have b2:decide (n < 0)=true:=by simp;omega
           (try simp only [go_sem,simprocAttr,cell_of hDd,Bool.not_false,Bool.not_true,Option.getD_some,Option.isSome_some,b1,b2]);exact no (by unfold mayS;rw [if_neg h0];show (_&&match sget L x.con with | none=>false | some n=>_)=_;rw [hg];simp;omega)
         · have b2:decide (n < 0)=false:=by simp;omega
           by_cases n2:n > 8
           · have b3:decide (n > 8)=true:=by simp;omega
             (try simp only [go_sem,simprocAttr,cell_of hDd,Bool.not_false,Bool.not_true,Option.getD_some,Option.isSome_some,b1,b2,b3]);exact no (by unfold mayS;rw [if_neg h0];show (_&&match sget L x.con with | none=>false | some n=>_)=_;rw [hg];simp;omega)
           · have b3:decide (n > 8)=false:=by simp;omega
             (try simp only [go_sem,simprocAttr,cell_of hDd,Bool.not_false,Bool.not_true,Option.getD_some,Option.isSome_some,b1,b2,b3,e2]);exact next w3.drew hm03.drew (by unfold mayS;rw [if_neg h0];show (_&&match sget L x.con with | none=>false | some n=>_)=_;rw [hg];simp;omega)
     · have b1:(x.num != 0)=true:=by simp [n0]
       (try simp only [go_sem,simprocAttr,cell_of hDd,b1]);exact no (by unfold mayS;rw [if_neg h0];simp [n0])
 · obtain rfl:i=items.length:=by omega
   have e1:decide (((items.length:Nat):Int) < items.length)=false:=by simp
   (try simp only [go_sem,simprocAttr,e1]);refine ⟨?_,hm⟩;rw [known_may];rw [List.take_length] at hall;rw [hall]
end
end
section
open Go Go.W Go.RowKit
theorem fldS_succ {l:List Shp} {i:Nat} {x:Shp} (hx:l[i]? = some x) (k:ByteArray):fldS (l.take (i+1)) k=(match fldS (l.take i) k with
   | some n=>some n
   | none=>if x.name=k then some x.fields else none):=by
 obtain ⟨hl,rfl⟩:=List.getElem?_eq_some_iff.1 hx;unfold fldS;rw [List.take_succ_eq_append_getElem hl,List.find?_append];cases h:(l.take i).find? (fun x=>decide (x.name=k)) with
 | some y=>rfl
 | none=>
   simp only [Option.none_or,Option.map_none,List.find?_cons,List.find?_nil];by_cases h2:l[i].name=k
   · simp [h2]
   · simp [h2]
theorem sput_new {l:List (ByteArray×Int)} {k:ByteArray} {v:Int} (h:sget l k=none) (q:ByteArray):sget (sput l k v) q=(match sget l q with
   | some n=>some n
   | none=>if k=q then some v else none):=by
 have hn:l.find? (fun p=>decide (p.1=k))=none:=by
   unfold sget at h;cases hh:l.find? (fun p=>decide (p.1=k)) with
   | none=>rfl
   | some y=>rw [hh] at h;cases h
 have hi:l.findIdx? (fun p=>decide (p.1=k))=none:=by
   rw [List.findIdx?_eq_none_iff];intro x hx;exact Bool.eq_false_iff.2 (List.find?_eq_none.1 hn x hx)
 unfold sput;rw [hi];unfold sget;rw [List.find?_append];cases hq:l.find? (fun p=>decide (p.1=q)) with
 | some y=>rfl
 | none=>
   simp only [Option.none_or,Option.map_none,List.find?_cons,List.find?_nil];by_cases h2:k=q
   · simp [h2]
   · simp [h2]
theorem st_all {itoa:Int→ByteArray} {f:Fld} {items:List It} (hi:∀ n,0 < (itoa n).size) (hi2:∀ x∈items,x.con=⟨#[]⟩→(itoa x.num).size≤21) (hk:knownS f items=true):∀ n,∃ k,k≤n∧StI itoa f items k (ws0.steps itoa f items n)
 | 0=>⟨0,Nat.le_refl _,ws0_st⟩
 | n+1=>by
   obtain ⟨k,h1,h2⟩:=st_all hi hi2 hk n;rw [wst_out];by_cases hr:(ws0.steps itoa f items n).row=[]
   · have:(ws0.steps itoa f items n).step itoa f items=ws0.steps itoa f items n:=by unfold Ws.step;rw [hr];rfl
     rw [this];exact ⟨k,by omega,h2⟩
   · exact ⟨k+1,by omega,st_step hi hi2 hk h2 hr⟩
theorem fin_size {itoa:Int→ByteArray} {f:Fld} {items:List It} (hi:∀ n,0 < (itoa n).size) (hi2:∀ x∈items,x.con=⟨#[]⟩→(itoa x.num).size≤21) (hk:knownS f items=true) (hl:items.length≤4194304) (hs:sumC items≤17592186044416):(finS itoa f items).out.size≤140737488355328:=by
 obtain ⟨k,h1,h2⟩:=st_all hi hi2 hk (64*items.length+2);have:=h2.out;have:=sumC_take (items:=items) (finS itoa f items).at';show (ws0.steps itoa f items (64*items.length+2)).out.size≤_;have e:(finS itoa f items)=ws0.steps itoa f items (64*items.length+2):=rfl;rw [e] at this;omega
section
variable {lo p mp:Nat} {w:World} {vI vS:Value} {s:Ws} {items:List It} {shapes:List Shp} {L:List (ByteArray×Int)}
theorem sh_at {B:Nat→Prop} (h:RowsAt w vS 2 (shapes.map shRow) B) {k:Nat} {x:Shp} (hx:shapes[k]? = some x):∃ ad c,vS = .slice (some ad) shapes.length c∧w.cell? (ad.add (k*2))=some (.string x.name)∧w.cell? ((ad.add (k*2)).add 1)=some (I x.fields):=by
 obtain ⟨hl,rfl⟩:=List.getElem?_eq_some_iff.1 hx;obtain ⟨a,c,h1,h3,h2⟩:=h;obtain ⟨ad,rfl,_,h4⟩:=h2 k (by simpa using hl);refine ⟨ad,c,by simpa using h1,?_,?_⟩
 · have:=h4 0 (by simp [shRow]);rw [Addr.add_zero'] at this
   simpa [shRow] using this
 · simpa [shRow] using h4 1 (by simp [shRow])
theorem WrAt.map {w':World} (h:WrAt lo w p vI mp s) (hm:Mod (· = mp) w w'):WrAt lo w' p vI mp s:=by
 obtain ⟨vR,pv,vB,fR,fB,h⟩:=h;exact ⟨_,_,_,_,_,⟨hm.at h.cells (fun hh=>h.mpP hh.symm),h.pv,h.row.mod hm (fun b hb hh=>(h.fr b hb).2.2 hh),h.buf.mod hm (fun b hb hh=>(h.fb b hb).2.2.1 hh),h.loP,h.mpP,by have:=h.mpL;have:=hm.size;omega,by have:=h.loL;have:=hm.size;omega,h.fr,h.fb⟩⟩
theorem f_Show (hI:RowsAt w vI 2 (items.map itRow) (· < w.heap.size)) (hS:RowsAt w vS 2 (shapes.map shRow) (· < w.heap.size)) (ht:TbAt w.heap.size w) (hlen:items.length≤4194304) (hls:shapes.length≤4294967296) (hsum:sumC items≤17592186044416) :
   CallsR Tryz.prog 14 [vI,vS] w fun r w'=>r = .tuple #[.string (showS itoaB shapes items).1,I (showS itoaB shapes items).2]∧Mod (fun _=>False) w w':=by
 obtain ⟨lo,hlo⟩:∃ lo,lo=w.heap.size:=⟨_,rfl⟩;obtain ⟨a1,c1,hv1⟩:∃ a c,vI = .slice a items.length c:=by
   obtain ⟨a,c,h1,_⟩:=hI;exact ⟨a,c,by simpa using h1⟩
 obtain ⟨a2,c2,hv2⟩:∃ a c,vS = .slice a shapes.length c:=by
   obtain ⟨a,c,h1,_⟩:=hS;exact ⟨a,c,by simpa using h1⟩
 subst hv1 hv2;refine fit14.calls rfl ?_;unfold ir14;(try simp only [go_sem,simprocAttr]);refine e_mmS ?_;intro w1 hM1 hm1 hs1;(try simp only [go_sem,simprocAttr]);refine e_bx rfl ?_;intro w2 hp2 hm2 hs2;have hc2:w2.heap[w1.heap.size]? = some (.cells (wrCells (.slice a1 items.length c1) 0 w.heap.size 0 (.slice none 0 0) (.pointer none) (.slice none 0 0)).toArray 86 (0,0)):=hp2;have hm02:=hm1.trans hm2;have h2:WrAt lo w2 w1.heap.size (.slice a1 items.length c1) w.heap.size ⟨0,0,[],⟨#[]⟩⟩:=
   ⟨_,_,_,none,none,⟨hc2,.inl rfl,OwnS.nil _ _ _,OwnS.nil _ _ _,by omega,by omega,by omega,by omega,(fun b h=>by cases h),(fun b h=>by cases h)⟩⟩
 have hI2:∀ {w':World},Mod (fun b=>lo≤b) w w'→RowsAt w' (.slice a1 items.length c1) 2 (items.map itRow) (· < lo):=fun hm=>hI.mod hm (fun b hb hh=>by omega) (fun b hb=>by omega)
 have hS2:∀ {w':World},Mod (fun b=>lo≤b) w w'→RowsAt w' (.slice a2 shapes.length c2) 2 (shapes.map shRow) (· < lo):=fun hm=>hS.mod hm (fun b hb hh=>by omega) (fun b hb=>by omega)
 have fin:∀ {w':World},Mod (fun b=>lo≤b) w w'→Mod (fun _=>False) w w':=fun hm=>⟨hm.size,fun b hb _=>hm.old b hb (by omega),hm.os,hm.tape,hm.output⟩
 (try simp only [go_sem,simprocAttr,ptr])
 refine ir_loop (fun z ρ w'=>∃ (i:Nat) (L:List (ByteArray×Int)),z=shapes.length - i∧i≤shapes.length∧(∀ k,sget L k=fldS (shapes.take i) k)∧MapS w' w.heap.size L∧WrAt lo w' w1.heap.size (.slice a1 items.length c1) w.heap.size ⟨0,0,[],⟨#[]⟩⟩∧Mod (fun b=>lo≤b) w w' ∧
   ρ=[(0,.slice a1 items.length c1),(6,ptr w1.heap.size),(15,.slice a2 shapes.length c2),(16,I shapes.length),(17,I i)]) shapes.length ⟨0,[],rfl,Nat.zero_le _,fun _=>rfl,maps_mod hM1 hm2 (fun h=>h),h2,hm02.weak (fun _ hh=>hh.elim),rfl⟩ ?_
 rintro z ρ w3 ⟨i,L,rfl,hi,hL,hM3,h3,hm3,rfl⟩;unfold ir14L1;rcases Nat.lt_or_ge i shapes.length with hlt | hge
 · obtain ⟨x,hx⟩:∃ x,shapes[i]? = some x:=⟨_,List.getElem?_eq_getElem hlt⟩;obtain ⟨ad,c,hvv,hx1,hx2⟩:=sh_at (hS2 hm3) hx;cases hvv;have e1:decide ((i:Int) < shapes.length)=true:=by rw [decide_eq_true_eq];omega
   have e2:IntKind.i64.wrap ((i:Int)+1)=((i+1:Nat):Int):=by rw [IntKind.wrap_i64];omega
   have e3:(0:Int)≤i∧(i:Int) < shapes.length:=by omega
   have hln:vLN w3 2 (.pointer (some (ad.add (i*2))))=some (.agg #[.string x.name,I x.fields]):=
     ln_2 (by rw [Addr.add_zero'];exact hx1) hx2
   (try simp only [go_sem,simprocAttr,e1,e3,decide_true,Int.toNat_natCast,hln]);refine e_al ?_;intro w4 hD1 hm4 hs4;have hD1':w4.heap[w3.heap.size]? = some (.cells [.string ⟨#[]⟩,I 0].toArray 47 (0,0)):=hD1;refine e_sta (vs:=[.string x.name,I x.fields]) rfl rfl hD1' rfl rfl (by intro u hu;simp only [List.mem_cons,List.not_mem_nil,or_false] at hu;rcases hu with rfl | rfl<;>rfl) ?_;intro w5 hD hm5 hs5;have hm35:Mod (fun _=>False) w3 w5:=hm4.step hm5 (fun b hb hlt=>by omega);have h5:=h3.quiet hm35;have hM5:=maps_mod hM3 hm35 (fun h=>h);have hm05:Mod (fun b=>lo≤b) w w5:=hm3.trans (hm35.weak (fun _ hh=>hh.elim));obtain ⟨vR,pv,vB,hc5⟩:=h5.cells;have hDd:w5.drew.heap[w3.heap.size]? = _:=hD;have hc5d:w5.drew.heap[w1.heap.size]? = _:=hc5;have hM5d:=maps_mod hM5 ((Mod.refl (fun _=>False) w5).drew) (fun h=>h);(try simp only [go_sem,simprocAttr,cell_of hD,cell_of hDd,cell_of hc5,cell_of hc5d,wrCells,ptr]);refine e_lkS (b:=w.heap.size) (l:=L) (kt:=9) (et:=3) rfl rfl Tryz.underlying80 Tryz.underlying9 (Tryz.zeroValue3 _) hM5d ?_;cases hg:sget L x.name with
   | some n=>
     (try simp only [go_sem,simprocAttr,Option.getD_some,Option.isSome_some,Bool.not_true,e2]);refine ⟨_,?_,i+1,L,rfl,by omega,fun k=>?_,hM5d,h5.quiet (Mod.refl _ _).drew,hm05.drew,rfl⟩
     · omega
     · rw [fldS_succ hx,hL];cases hq:fldS (shapes.take i) k with
       | some m=>rfl
       | none=>
         have:x.name≠k:=fun e=>by subst e;rw [hL,hq] at hg;cases hg
         simp [this]
   | none=>
     have hDdd:w5.drew.drew.heap[w3.heap.size]? = _:=hD;have hc5dd:w5.drew.drew.heap[w1.heap.size]? = _:=hc5;(try simp only [go_sem,simprocAttr,Option.getD_none,Option.isSome_none,Bool.not_false,cell_of hD,cell_of hc5,cell_of hDd,cell_of hDdd,cell_of hc5d,cell_of hc5dd,wrCells,ptr]);refine e_muS (b:=w.heap.size) (l:=L) (kt:=9) (et:=3) (v:=x.fields) rfl rfl rfl Tryz.underlying80 Tryz.underlying9 (maps_mod hM5d ((Mod.refl (fun _=>False) w5.drew).drew) (fun h=>h)) ?_;intro w6 hM6 hm6 hs6;(try simp only [go_sem,simprocAttr,e2]);refine ⟨_,?_,i+1,_,rfl,by omega,fun k=>?_,hM6,((h5.quiet (Mod.refl _ _).drew).quiet (Mod.refl _ _).drew).map hm6,hm05.drew.drew.trans (hm6.weak (fun b hb=>by subst hb;omega)),rfl⟩
     · omega
     · rw [sput_new hg,fldS_succ hx,hL]
 · obtain rfl:i=shapes.length:=by omega
   have e1:decide (((shapes.length:Nat):Int) < shapes.length)=false:=by simp
   rw [List.take_length] at hL;(try simp only [go_sem,simprocAttr,e1]);have hfl:FL L=fldS shapes:=funext hL;have hi3:InAt lo w3 (.slice a1 items.length c1) w.heap.size items L:=⟨hI2 hm3,hM3,by omega⟩;have ht3:TbAt lo w3:=by
     subst hlo;exact ht.mod (mp:=w.heap.size+1000) (fin hm3 |>.weak (fun _ hh=>hh.elim))
   (try simp only [go_sem,simprocAttr,ptr]);refine e_call (by rfl) ?_;refine (f_known h3 hi3).mono ?_;rintro _ w4 ⟨rfl,hm4⟩;cases hk:knownS (FL L) items with
   | false=>
     (try simp only [go_sem,simprocAttr,Bool.not_false]);refine ⟨?_,fin (hm3.trans (hm4.weak (fun _ hh=>hh.elim)))⟩;unfold showS;rw [if_neg (by rw [← hfl,hk];simp)]
   | true=>
     (try simp only [go_sem,simprocAttr,ptr,Bool.not_true]);refine e_call (by rfl) ?_;have hm4t:Mod (Wt lo w.heap.size) w3 w4:=hm4.weak (fun _ hh=>hh.elim);refine (f_write (h3.quiet hm4) (hi3.mod hm4t) (ht3.mod hm4t) ⟨hk,hlen,hsum⟩).mono ?_;rintro r w5 ⟨h5,hm5⟩;have hm05:Mod (fun b=>lo≤b) w w5:=(hm3.trans (hm4.weak (fun _ hh=>hh.elim))).trans (hm5.weak (fun b hb=>hb.1));obtain ⟨vR,pv,vB,fR,fB,hF⟩:=h5;have hc5:=hF.cells;have hi2:∀ x∈items,x.con=⟨#[]⟩→(itoaB x.num).size≤21:=fun x hx h0=>by
       have:=known_num hk hx h0;exact itoaB_size _ ⟨by omega,by omega⟩
     obtain ⟨hinv,hrow0⟩:=fin_inv (itoa:=itoaB) (f:=FL L) (items:=items) itoaB_pos hk;by_cases hat:(finS itoaB (FL L) items).at' < items.length
     · have b1:decide (((finS itoaB (FL L) items).at':Int) < items.length)=true:=by rw [decide_eq_true_eq];omega
       (try simp only [go_sem,simprocAttr,cell_of hc5,wrCells,b1]);refine ⟨?_,fin hm05⟩;unfold showS;rw [if_pos (by rw [← hfl];exact hk),if_pos (by rw [← hfl];exact hat)]
     · have b1:decide (((finS itoaB (FL L) items).at':Int) < items.length)=false:=by rw [decide_eq_false_iff_not];omega
       have hc5d:w5.drew.heap[w1.heap.size]? = _:=hc5;(try simp only [go_sem,simprocAttr,cell_of hc5,cell_of hc5d,wrCells,b1,ptr]);have hn1:1≤(finS itoaB (FL L) items).out.size:=by
         rcases hinv.out with h' | ⟨l,h'⟩
         · exact h'
         · rw [hrow0] at h';simp at h'
       obtain ⟨out,hout⟩:∃ out,out=(finS itoaB (FL L) items).out:=⟨_,rfl⟩;have hbuf:=hF.buf;rw [← hout] at hbuf hn1;obtain ⟨g,c,sp',rfl,rfl,r3,r4,r5⟩:∃ g c sp',vB = .slice (some ⟨g,0,none⟩) out.size c∧fB=some g∧w5.heap[g]? = some (.cells (Lib.strCells out++sp').toArray 5 (0,0))∧c*1≤(Lib.strCells out++sp').length∧out.size≤c:=by
         rcases hbuf.2 with ⟨_,h',_⟩ | h'
         · omega
         · exact h'
       have hgp:g≠w1.heap.size:=(hF.fb g rfl).2.1;have hlen2:out.data.toList.length=out.size:=rfl;have hsl:=Lib.strCells_length out;have hwl:out.data.toList.length≤140737488355328:=by
         rw [hlen2,hout];exact fin_size itoaB_pos hi2 hk hlen hsum
       have hcall:=sb_str w1.heap.size g c (Lib.strCells out++sp').toArray out.data.toList w5.drew ((cell_of hc5d 6).trans rfl) r3 r5 hwl (by rw [List.size_toArray,List.length_append,hsl,hlen2];omega)
         (fun j x hj=>by
           rw [add_at];refine (cell_of (show w5.drew.heap[g]? = _ from r3) _).trans ?_;rw [Nat.zero_add,List.getElem?_toArray,List.getElem?_append_left (by rw [hsl,← hlen2];exact (List.getElem?_eq_some_iff.1 hj).1)]
           simp only [Lib.strCells,List.getElem?_map,hj,Option.map_some])
         (fun e=>by rw [← hlen2,e] at hn1;simp at hn1)
       refine e_call (by rfl) ?_;refine Calls.mono hcall ?_;rintro e w' ⟨rfl,rfl⟩;have hmf:Mod (· = g) w5 (w5.drew.drew.freeze ⟨g,0,none⟩ out.data.toList.length):=by
         unfold World.freeze
         split
         · exact (Mod.refl _ _).drew.drew
         · exact ⟨by simp,fun b hb hn=>(by simp [Array.getElem?_modify,Ne.symm hn];rfl),rfl,rfl,rfl⟩
       refine ⟨_,rfl,hmf.old _ (lt_of_heap hc5) (fun e=>hgp e.symm),?_,fin (hm05.trans (hmf.weak (fun b hb=>by subst hb;exact (hF.fb _ rfl).1)))⟩;unfold showS;rw [if_pos (by rw [← hfl];exact hk),if_neg (by rw [← hfl];exact hat),← hfl,← hout]
end
end
section
open Go Go.W
theorem addr_add (a:Addr) (i k:Nat):(a.add i).add k=a.add (i+k):=by
 unfold Addr.add;by_cases hi:i=0
 · subst hi;simp
 · by_cases hk:k=0
   · subst hk;simp
   · have:i+k≠0:=by omega
     simp [hi,hk,this,Nat.add_assoc]
theorem flat_lenR {sz:Nat}:∀ (rows:List (List Value)),(∀ r∈rows,r.length=sz)→(rows.flatMap id).length=rows.length*sz:=by
 intro rows
 induction rows with
 | nil=>intro _;simp
 | cons r rows ih=>
   intro hr;have h0:=hr r (by simp);simp only [List.flatMap_cons,id,List.length_append,List.length_cons,ih (fun r hr'=>hr r (by simp [hr'])),h0,Nat.add_mul];omega
theorem rows_rd {w:World} {a:Option Addr} {n c sz:Nat} {rows:List (List Value)} {B:Nat→Prop} (h:RowsAt w (.slice a n c) sz rows B) (hsz:0 < sz):n=rows.length∧RdCells w a (n*sz) (rows.flatMap id)∧(a=none→n=0):=by
 obtain ⟨a',c',e,_,hx⟩:=h;simp only [Value.slice.injEq] at e;obtain ⟨rfl,rfl,rfl⟩:=e;have hr:∀ r∈rows,r.length=sz:=fun r hr=>by
   obtain ⟨i,hi,rfl⟩:=List.getElem_of_mem hr;obtain ⟨_,_,h1,_⟩:=hx i hi;exact h1
 refine ⟨rfl,⟨flat_lenR rows hr,fun ad had j v hv=>?_⟩,fun ha=>?_⟩
 · have hj:j < rows.length*sz:=by rw [← flat_lenR rows hr];exact (List.getElem?_eq_some_iff.1 hv).1
   have hi:j / sz < rows.length:=(Nat.div_lt_iff_lt_mul hsz).2 hj;have hk:j % sz < sz:=Nat.mod_lt _ hsz;have hf:=flat_rows rows hr (j / sz) hi (j % sz) hk;have e:j / sz*sz+j % sz=j:=by rw [Nat.mul_comm];exact Nat.div_add_mod j sz
   rw [e,hv] at hf;obtain ⟨ad',e1,h1,h2⟩:=hx (j / sz) hi;rw [had] at e1;cases e1;have h3:=h2 (j % sz) (by rw [h1];exact hk);rw [List.getElem?_eq_getElem (by rw [h1];exact hk)] at hf;simp only [Option.some.injEq] at hf;rw [← hf] at h3;rw [addr_add,e] at h3;exact h3
 · apply Classical.byContradiction;intro hne;obtain ⟨ad,e1,_⟩:=hx 0 (by omega);rw [ha] at e1;cases e1
theorem own_cells2 {w:World} {T sz n:Nat} {v:Value} {xs:List Value} {fp:Option Nat} (h:OwnS w T sz v xs n fp) {b:Nat} (hb:fp=some b):∃ cs,w.heap[b]? = some (.cells cs T (0,0)):=by
 obtain ⟨_,⟨_,_,e⟩ | ⟨b',c,sp,_,e,h5,_⟩⟩:=h
 · rw [e] at hb;cases hb
 · rw [e] at hb;cases hb;exact ⟨_,h5⟩
def glRow (g:Gl) (v:Value):List Value:=[.string g.name,I g.arity,v]
theorem insRow_len (l:List Ins):∀ r∈l.map insRow,r.length=3:=by
 intro r hr;obtain ⟨x,_,rfl⟩:=List.mem_map.1 hr;rfl
theorem insRow_one (l:List Ins):∀ u∈(l.map insRow).flatMap id,u.oneCell'=true:=by
 intro u hu;obtain ⟨r,hr,hu⟩:=List.mem_flatMap.1 hu;obtain ⟨x,_,rfl⟩:=List.mem_map.1 hr;simp only [id,insRow,List.mem_cons,List.not_mem_nil,or_false] at hu;rcases hu with rfl | rfl | rfl<;>rfl
theorem shRow_len (l:List Shp):∀ r∈l.map shRow,r.length=2:=by
 intro r hr;obtain ⟨x,_,rfl⟩:=List.mem_map.1 hr;rfl
theorem shRow_one (l:List Shp):∀ u∈(l.map shRow).flatMap id,u.oneCell'=true:=by
 intro u hu;obtain ⟨r,hr,hu⟩:=List.mem_flatMap.1 hu;obtain ⟨x,_,rfl⟩:=List.mem_map.1 hr;simp only [id,shRow,List.mem_cons,List.not_mem_nil,or_false] at hu;rcases hu with rfl | rfl<;>rfl
def CodesAt (w w':World) (l:List Gl) (codes:List Value):Prop:=∀ (j:Nat) (g:Gl) (v:Value),l[j]? = some g→codes[j]? = some v→∃ fc,OwnS w' 61 3 v ((g.code.map insRow).flatMap id) g.code.length fc∧∀ b,fc=some b→w.heap.size≤b
theorem CodesAt.mod {w w' w'':World} {l:List Gl} {codes:List Value} {X:Nat→Prop} (h:CodesAt w w' l codes) (hm:Mod X w' w'') (hX:∀ b,X b→∃ cs T0,w'.heap[b]? = some (.cells cs T0 (0,0))∧T0≠61):CodesAt w w'' l codes:=by
 intro j g v hg hv;obtain ⟨fc,h1,h2⟩:=h j g v hg hv;refine ⟨fc,h1.mod hm (fun b hb hx=>?_),h2⟩;obtain ⟨cs,T0,h3,h4⟩:=hX b hx;exact own_kind h1 hb h3 (fun e=>h4 e.symm)
section
variable {w:World} {vsh vgl:Value} {T:Tab} {B:Nat→Prop}
theorem f_copied (h:TabAt w vsh vgl T B) (hT:TabOk T):CallsR Tryz.prog 77 [tabV vsh vgl] w fun r w'=>∃ vsh' vgl',r=tabV vsh' vgl'∧TabAt w' vsh' vgl' T (fun b=>w.heap.size≤b∧b < w'.heap.size)∧Mod (fun _=>False) w w':=by
 have h0:=h;obtain ⟨⟨aS,cS,rfl⟩,aG,cG,rfl⟩:=tab_sl h;have hgn:=hT.gn;have hsn:=hT.sn;refine fit77.calls rfl ?_;unfold ir77 tabV;(try simp only [go_sem,simprocAttr]);refine e_bx rfl ?_;intro w1 hb1 hm1 hs1;(try simp only [go_sem,simprocAttr]);refine e_al ?_;intro w2 hb2 hm2 hs2;have hm02:=hm1.trans hm2;have hb12:=hm2.at hb1 (fun h=>h);have h2:=h0.mod hm02 (fun _ _ h=>h) (fun _ h=>h);obtain ⟨_,hrd,hna⟩:=rows_rd h2.1 (by decide);(try simp only [go_sem,simprocAttr,cell_of hb12,Value.cells]);refine e_call (by rfl) ?_;refine (cloneShape hrd (shRow_one _) hna (by omega)).mono ?_;rintro vs' w3 ⟨fS,hoS,hfS,hm3⟩;obtain ⟨aS',cS',rfl,_⟩:=hoS.val;(try simp only [go_sem,simprocAttr]);refine e_al ?_;intro w4 hb4 hm4 _;refine e_sta (cs:=[.slice none 0 0,.slice none 0 0]) rfl rfl hb4 rfl rfl (by simp [Value.oneCell']) ?_;intro w5 hb5 hm5 _;have hm35:Mod (fun _=>False) w3 w5:=hm4.step hm5 (fun x hx hl=>by subst hx;omega);have hm05:=(hm02.trans hm3).trans hm35;have hb15:=(hm3.trans hm35).at hb12 (fun h=>h);have hb25:=(hm3.trans hm35).at hb2 (fun h=>h);have hoS5:=hoS.mod hm35 (fun _ _ h=>h);have l1:=lt_of_heap hb1;have l2:=lt_of_heap hb2;have s02:=hm02.size;have s23:=hm3.size;have s1:=hm1.size;(try simp only [go_sem,simprocAttr,cell_of hb15,Value.cells])
 refine ir_loop (fun z ρ w'=>∃ (i:Nat) (codes:List Value) (vg:Value) (f:Option Nat),z=T.globals.length - i∧i≤T.globals.length∧codes.length=i∧Mod (fun _=>False) w w'∧w'.heap[w1.heap.size]? = w5.heap[w1.heap.size]? ∧
   w'.heap[w3.heap.size]? = some (.cells #[.slice aS' T.shapes.length cS',vg] 25 (0,0))∧OwnS w' 47 2 (.slice aS' T.shapes.length cS') ((T.shapes.map shRow).flatMap id) T.shapes.length fS ∧
   OwnS w' 59 3 vg ((List.zipWith glRow (T.globals.take i) codes).flatMap id) i f∧(∀ b,f=some b→w3.heap.size < b)∧CodesAt w w' (T.globals.take i) codes ∧
   ρ=[(2,ptr w1.heap.size),(3,ptr w3.heap.size),(11,.slice aG T.globals.length cG),(12,I T.globals.length),(13,I i)]) T.globals.length
   ⟨0,[],.slice none 0 0,none,rfl,by omega,rfl,hm05,rfl,hb5,by simpa using hoS5,OwnS.nil _ _ _,(fun b hb=>by cases hb),(fun j g v hg=>by simp at hg),rfl⟩ ?_
 rintro z ρ w6 ⟨i,codes,vg,f,rfl,hi,hcl,hm6,hk1,hb6,hoS6,hoG,hfG,hcd,rfl⟩;obtain ⟨aV,cV,rfl,_⟩:=hoG.val;unfold ir77L1;(try simp only [go_sem,simprocAttr]);refine ir_cond rfl (fun hlt=>?_) (fun hlt=>?_)
 · have hlt:i < T.globals.length:=by simpa using hlt
   have h6:=h0.mod hm6 (fun _ _ h=>h) (fun _ h=>h);obtain ⟨ad,c,cv,e',hln,hcv⟩:=glob_ln h6 hlt;cases e';have hgk:=hT.gls _ (List.getElem_mem hlt);have htk:=List.take_succ_eq_append_getElem hlt;generalize T.globals[i]=g at *;obtain ⟨acv,ccv,rfl⟩:=rows_sl hcv;rw [List.length_map] at *;have b1':(0:Int)≤i∧(i:Int) < T.globals.length:=by omega
   unfold glV at hln;(try simp only [go_sem,simprocAttr,zb4,zb6,b1',hln]);refine e_al ?_;intro w7 hb70 hm7 _;refine e_sta (cs:=[.string ⟨#[]⟩,I 0,.slice none 0 0]) rfl rfl hb70 rfl rfl (by simp [Value.oneCell']) ?_;intro w8 hb8 hm8 _;have hm68:Mod (fun _=>False) w6 w8:=hm7.step hm8 (fun x hx hl=>by subst hx;omega);have hb68:w8.heap[w3.heap.size]? = _:=hm68.at hb6 (fun h=>h);have hcv8:=hcv.mod (hm68.drew) (fun _ _ h=>h) (fun _ h=>h);obtain ⟨_,hrd8,hna8⟩:=rows_rd hcv8 (by decide);have hb8':w8.heap[w6.heap.size]? = some (.cells #[.string g.name,I g.arity,.slice acv g.code.length ccv] 59 (0,0)):=hb8;have l6:=lt_of_heap hb6;have lb8:=lt_of_heap hb8';have lb68:=lt_of_heap hb68;(try simp only [go_sem,simprocAttr,cell_of hb68,cell_of hb8']);refine e_call (by rfl) ?_;refine (cloneInstr hrd8 (insRow_one _) hna8 (by omega)).mono ?_;rintro vc w9 ⟨fc,hoc,hfc,hm9⟩;have k1:=hm9.old w3.heap.size lb68 (fun h=>h);have k2:=hm9.old w6.heap.size lb8 (fun h=>h);obtain ⟨ac',cc',rfl,_⟩:=hoc.val;(try simp only [go_sem,simprocAttr]);refine ⟨by simp only [drew_heap,k1,k2,and_self,implies_true],?_⟩;refine e_bs (by rfl) (by rfl) ?_;intro w10 hb10 hm10 _;have k3:=hm10.old w3.heap.size (by have:=hm9.size;exact Nat.lt_of_lt_of_le lb68 this) (fun h=>h);(try simp only [go_sem,simprocAttr]);refine ⟨by simp only [drew_heap,k3,and_self,implies_true],?_⟩;have hm8d:Mod (fun _=>False) w8 w9:=Mod.of_drew hm9;have hm6_10:=(hm68.trans hm8d).trans hm10;refine e_ap (m:=1) (news:=glRow g (.slice ac' g.code.length cc')) rfl (hoG.mod hm6_10 (fun _ _ h=>h)) rfl (fun h=>by cases h) (rd_block (xs:=glRow g (.slice ac' g.code.length cc')) hb10) (by simp [glRow,Value.oneCell']) rfl (by omega) (by omega) ?_;intro v11 w11 f11 ho11 hm11 hf11;obtain ⟨a11,c11,rfl,_⟩:=ho11.val;have fb3:f≠some w3.heap.size:=fun e=>by have:=hfG _ e;omega
   have hb11:=hm11.at (hm6_10.at hb6 (fun h=>h)) fb3;(try simp only [go_sem,simprocAttr]);refine e_st1 (off:=1) rfl rfl hb11 rfl (by simp) ?_;intro w12 hb12' hm12 _;have e1:IntKind.i64.wrap ((i:Int)+1)=((i+1:Nat):Int):=by rw [wrap_in (by omega) (by omega)];omega
   (try simp only [go_sem,simprocAttr,e1]);have s610:=hm6_10.size;have hX:Mod (fun b=>f=some b∨b=w3.heap.size) w10 w12:=(hm11.weak (fun b hb=>.inl hb)).step hm12 (fun b hb _=>.inr hb);have hX':∀ b,(f=some b∨b=w3.heap.size)→∃ cs T0,w10.heap[b]? = some (.cells cs T0 (0,0))∧T0≠61:=by
     rintro b (hb | rfl)
     · obtain ⟨cs,hcs⟩:=own_cells2 (hoG.mod hm6_10 (fun _ _ h=>h)) hb;exact ⟨cs,_,hcs,by decide⟩
     · exact ⟨_,_,hm6_10.at hb6 (fun h=>h),by decide⟩
   have fw:∀ b,f=some b→¬ b < w.heap.size:=fun b hb=>by have:=hfG b hb;omega
   refine ⟨_,by omega,i+1,codes++[.slice ac' g.code.length cc'],.slice a11 (i+1) c11,f11,rfl,by omega,by simp [hcl],?_,?_,hb12',?_,?_,fun b hb=>?_,?_,rfl⟩
   · exact (hm6.trans hm6_10).step hX (fun b hb hl=>by
       rcases hb with hb | rfl
       · exact absurd hl (fw b hb)
       · omega)
   · rw [← hk1];have l16:w1.heap.size < w6.heap.size:=by omega
     rw [hX.old w1.heap.size (by omega) (fun hb=>by
       rcases hb with hb | hb
       · have:=hfG _ hb;omega
       · omega),hm6_10.old _ l16 (fun h=>h)]
   · refine (hoS6.mod hm6_10 (fun _ _ h=>h)).mod hX (fun b hb hx=>?_);rcases hx with hx | rfl
     · obtain ⟨cs,hcs⟩:=own_cells2 (hoG.mod hm6_10 (fun _ _ h=>h)) hx;exact own_kind (hoS6.mod hm6_10 (fun _ _ h=>h)) hb hcs (by decide)
     · exact own_kind hoS6 hb hb6 (by decide)
   · have hz:(List.zipWith glRow (T.globals.take (i+1)) (codes++[.slice ac' g.code.length cc'])).flatMap id=(List.zipWith glRow (T.globals.take i) codes).flatMap id++glRow g (.slice ac' g.code.length cc'):=by
       rw [htk,List.zipWith_append (by rw [List.length_take,hcl];omega),List.flatMap_append];simp
     rw [hz]
     exact ho11.mod hm12 (fun b hb e=>by
       subst e;rcases hf11 _ hb with h1 | h1
       · exact fb3 h1
       · omega)
   · rcases hf11 b hb with h1 | h1
     · exact hfG b h1
     · omega
   · intro j g' v' hg' hv';rw [htk] at hg';by_cases hj:j < i
     · rw [List.getElem?_append_left (by rw [List.length_take];omega)] at hg';rw [List.getElem?_append_left (by omega)] at hv';exact (hcd.mod hm6_10 (fun _ h=>h.elim)).mod hX hX' j g' v' hg' hv'
     · have hj2:j < (T.globals.take i++[g]).length:=(List.getElem?_eq_some_iff.1 hg').1;rw [List.length_append,List.length_take] at hj2;simp at hj2;obtain rfl:j=i:=by omega
       rw [List.getElem?_append_right (by rw [List.length_take];omega)] at hg';rw [List.getElem?_append_right (by omega)] at hv';rw [List.length_take,show j - min j T.globals.length=0 by omega] at hg';rw [hcl,Nat.sub_self] at hv';simp at hg' hv';subst hg';subst hv';have hoc10:=hoc.mod hm10 (fun _ _ h=>h);refine ⟨fc,hoc10.mod hX (fun b hb hx=>?_),fun b hb=>by have:=hfc b hb;have:=hm6.size;have:=hm68.size;have e8:w8.drew.heap.size=w8.heap.size:=rfl;omega⟩;obtain ⟨cs,T0,h3,h4⟩:=hX' b hx;exact own_kind hoc10 hb h3 (fun e=>h4 e.symm)
 · have hlt:¬ i < T.globals.length:=by simpa using hlt
   obtain rfl:i=T.globals.length:=by omega
   rw [List.take_length] at *;have hb26:w6.heap[w1.heap.size]? = _:=hk1.trans hb25;(try simp only [go_sem,simprocAttr,ln_of (cs:=[_,_]) (off:=0) (n:=2) hb6 (by simp)]);refine e_sta (cs:=[.slice none 0 0,.slice none 0 0]) rfl rfl hb26 rfl rfl (by simp [Value.oneCell']) ?_;intro w7 hb7 hm7 _;(try simp only [go_sem,simprocAttr,ln_of (cs:=[_,_]) (off:=0) (n:=2) hb7 (by simp)]);have hm07:Mod (fun _=>False) w w7:=hm6.step hm7 (fun x hx hl=>by subst hx;omega);have l7:∀ {T0 sz n:Nat} {v:Value} {xs:List Value} {fp:Option Nat},OwnS w7 T0 sz v xs n fp→∀ b,fp=some b→b < w7.heap.size:=fun h b hb=>h.lt hb
   have hoS7:=hoS6.mod hm7 (fun b hb e=>by subst e;exact own_kind hoS6 hb hb26 (by decide));have hoG7:=hoG.mod hm7 (fun b hb e=>by subst e;exact own_kind hoG hb hb26 (by decide));have hcd7:=hcd.mod hm7 (fun b hb=>by subst hb;exact ⟨_,_,hb26,by decide⟩);refine ⟨_,_,rfl,⟨?_,codes,hcl,?_,?_⟩,hm07⟩
   · obtain ⟨a,c,e,hB,hx⟩:=own_rows (by rw [List.length_map];exact hoS7) (shRow_len T.shapes);exact ⟨a,c,e,fun hz ad had=>⟨by have:=hfS _ (hB hz ad had);omega,l7 hoS7 _ (hB hz ad had)⟩,hx⟩
   · have hzl:(List.zipWith glRow T.globals codes).length=T.globals.length:=by simp [hcl]
     obtain ⟨a,c,e,hB,hx⟩:=own_rows (rows:=List.zipWith glRow T.globals codes) (by rw [hzl];exact hoG7) (fun r hr=>by
       obtain ⟨j,hj,rfl⟩:=List.getElem_of_mem hr
       simp [glRow])
     exact ⟨a,c,e,fun hz ad had=>⟨by have:=hfG _ (hB hz ad had);omega,l7 hoG7 _ (hB hz ad had)⟩,hx⟩
   · intro j g v hg hv;obtain ⟨fc,h1,h2⟩:=hcd7 j g v hg hv;obtain ⟨a,c,e,hB,hx⟩:=own_rows (by rw [List.length_map];exact h1) (insRow_len g.code);exact ⟨a,c,e,fun hz ad had=>⟨h2 _ (hB hz ad had),l7 h1 _ (hB hz ad had)⟩,hx⟩
end
end
section
open Go Go.W
def newErr (T:Tab) (entry:ByteArray) (input:List Int) (heap every:Int):Int:=
 if input.length > 10000 then 2
 else if input.any (fun n=>!numB n)=true∨heap < 1∨heap > 1048576∨every < 0 then 1
 else if checkS T≠0 then checkS T
 else if entryS entry T.globals 0=none then 220 else 0
def firstNs (n:Nat):List Nd:=(List.range n).map fun i:Nat=>⟨4,(i:Int),[]⟩
def newI (T:Tab) (input:List Int) (heap:Int) (gens:Bool) (every:Int) (i:Nat):Mc:=
 ⟨T,input,gens,every,newY gens heap,0,(List.range i).map (fun i:Nat=>(i:Int)),[],[],false,[],0,0,0,0,⟨newKd gens heap,heap,firstNs i⟩⟩
def newM (T:Tab) (entry:ByteArray) (input:List Int) (heap:Int) (gens:Bool) (every:Int):Mc:=
 if (T.globals.length:Int)≤heap then { newI T input heap gens every T.globals.length with wait:=[entryI entry T]}
 else { newI T input heap gens every heap.toNat with globals:=[],ended:=5}
theorem firstNs_len (n:Nat):(firstNs n).length=n:=by simp [firstNs]
theorem firstNs_succ (n:Nat):firstNs (n+1)=firstNs n++[⟨4,(n:Int),[]⟩]:=by simp [firstNs,List.range_succ]
theorem firstNs_ok (n:Nat):WF (firstNs n):=by
 intro nd hnd;obtain ⟨i,hi,rfl⟩:=List.mem_map.1 hnd;exact ⟨by simp [Nd.may,mayB],rfl⟩
theorem newSt_ok {gens:Bool} {heap:Int} (hh:1≤heap∧heap≤1048576) {i:Nat} (hi:(i:Int)≤heap):St.Ok ⟨newKd gens heap,heap,firstNs i⟩:=by
 refine ⟨firstNs_ok i,by rw [firstNs_len];exact hi,hh.1,hh.2,?_⟩;show (newKd gens heap).ok _;unfold newKd;cases gens with
 | false=>exact trivial
 | true=>
   have:newY true heap=if heap.tdiv 8 > 1 then heap.tdiv 8 else 1:=rfl
   have h8:heap.tdiv 8≤heap:=by rw [Int.tdiv_eq_ediv_of_nonneg (by omega)];omega
   refine ⟨Nat.zero_le _,?_,?_⟩<;>rw [this]<;>split<;>omega
open Classical in
theorem new_pack {w w6 w9 w':World} {m:Nat} {S:SV} {M:Mc} {vG vW:Value} {fg fw:Option Nat} {F:Nat→Prop} (hm:m=w9.heap.size) (h06:w.heap.size≤w6.heap.size) (h69:w6.heap.size≤w9.heap.size)
   (hc:w'.heap[m]? = some (.cells (mcCells S M vG (.slice none 0 0) vW (.slice none 0 0)).toArray 113 (0,0))) (hG:OwnS w' 3 1 vG (M.globals.map I) M.globals.length fg) (hW:OwnS w' 3 1 vW (M.wait.map I) M.wait.length fw)
   (hfr:M.frames=[]) (htl:M.told=[]) (hst:StAt w' S.sv M.st F) (hF:∀ b,F b→w.heap.size≤b∧(b < w6.heap.size∨m < b)) (hfg:∀ b,fg=some b→m < b∧¬ F b) (hfw:∀ b,fw=some b→m < b∧¬ F b∧fg≠some b)
   (htab:TabAt w' S.vsh S.vgl M.tab (fun b=>w6.heap.size≤b∧b < w9.heap.size)) (hin:Ints w' S.vin M.input) (hvin:∀ b,vblk S.vin=some b→w6.heap.size≤b∧b < w9.heap.size) (hrow:RowsAt w' S.vR 2 rowsV (fun b=>w6.heap.size≤b∧b < w9.heap.size)) :
   ∃ τ:Tag,MAt w' τ m S M []∧∀ b,b < w.heap.size→τ b = .no:=by
 have lm:=lt_of_heap hc;refine ⟨fun b=>if b < w.heap.size then .no else if b=m then .m else if fg=some b then .gl else if fw=some b then .wt else if F b then .st else if w6.heap.size≤b∧b < w9.heap.size then .tb else .no,?_,fun b hb=>by simp only [if_pos hb]⟩;have tb:∀ b,w6.heap.size≤b∧b < w9.heap.size→b < w'.heap.size∧(if b < w.heap.size then Tg.no else if b=m then .m else if fg=some b then .gl else if fw=some b then .wt else if F b then .st else if w6.heap.size≤b∧b < w9.heap.size then .tb else .no) = .tb:=by
   intro b hb;have n1:¬ b < w.heap.size:=by omega
   have n2:b≠m:=by omega
   have n3:fg≠some b:=fun e=>by have:=(hfg b e).1;omega
   have n4:fw≠some b:=fun e=>by have:=(hfw b e).1;omega
   have n5:¬ F b:=fun e=>by have:=(hF b e).2;omega
   exact ⟨by omega,by rw [if_neg n1,if_neg n2,if_neg n3,if_neg n4,if_neg n5,if_pos hb]⟩
 refine ⟨vG,.slice none 0 0,vW,.slice none 0 0,fg,none,fw,none,F,hc,?_,hG,?_,?_,(fun b hb=>by cases hb),hW,?_,?_,(fun b hb=>by cases hb),hst,?_,by rw [hfr];rfl,?_,htab.mod (Mod.refl (fun _=>False) w') (fun _ _ h=>h) (fun b hb=>tb b hb),hin,fun b hb=>tb b (hvin b hb),hrow.mod (Mod.refl (fun _=>False) w') (fun _ _ h=>h) (fun b hb=>tb b hb)⟩
 · simp only [if_neg (show ¬ m < w.heap.size by omega),if_pos]
 · intro b hb;have:=(hfg b hb).1;simp only [if_neg (show ¬ b < w.heap.size by omega),if_neg (show b≠m by omega),if_pos hb]
 · exact OwnS.nil _ _ _
 · intro b hb;have h1:=hfw b hb;simp only [if_neg (show ¬ b < w.heap.size by omega),if_neg (show b≠m by omega),if_neg h1.2.2,if_pos hb]
 · rw [htl];exact OwnS.nil _ _ _
 · intro b hb;have h1:=hF b hb;have n2:b≠m:=by omega
   have n3:fg≠some b:=fun e=>(hfg b e).2 hb
   have n4:fw≠some b:=fun e=>(hfw b e).2.1 hb
   simp only [if_neg (show ¬ b < w.heap.size by omega),if_neg n2,if_neg n3,if_neg n4,if_pos hb]
 · intro i k f hk _;simp at hk
section
variable {w:World} {vsh vgl vin:Value} {T:Tab} {B:Nat→Prop} {entry:ByteArray} {input:List Int} {heap every:Int} {gens:Bool}
def NewAt (w w':World) (M:Mc) (r:Value):Prop:=∃ τ m S,r = .tuple #[ptr m,I 0]∧MAt w' τ m S M []∧(∀ b,b < w.heap.size→τ b = .no)
theorem m_new (h:TabAt w vsh vgl T B) (hT:TabFit T) (hBl:∀ b,B b→b < w.heap.size) (hin:Ints w vin input) :
   CallsR Tryz.prog 44 [tabV vsh vgl,.string entry,vin,setV heap gens every] w fun r w'=>Mod (fun _=>False) w w' ∧
     (newErr T entry input heap every≠0→r = .tuple #[.pointer none,I (newErr T entry input heap every)])∧(newErr T entry input heap every=0→NewAt w w' (newM T entry input heap gens every) r):=by
 have h0:=h;have hin0:=hin;obtain ⟨⟨aS,cS,rfl⟩,aG,cG,rfl⟩:=tab_sl h;obtain ⟨aI,cI,rfl,hIl,_⟩:=hin;refine fit44.calls rfl ?_;unfold ir44 tabV setV;(try simp only [go_sem,simprocAttr]);refine e_bx rfl ?_;intro w1 hb1 hm1 hs1;(try simp only [go_sem,simprocAttr]);refine e_bx rfl ?_;intro w2 hb2 hm2 hs2;(try simp only [go_sem,simprocAttr]);refine e_bx rfl ?_;intro w3 hb3 hm3 hs3;have hm03:=(hm1.trans hm2).trans hm3;have hb13:=(hm2.trans hm3).at hb1 (fun h=>h);have hb23:=hm3.at hb2 (fun h=>h);have hb1:w3.heap[w.heap.size]? = some (.cells #[.slice aS T.shapes.length cS,.slice aG T.globals.length cG] 25 (0,0)):=hb13;have hb2:w3.heap[w1.heap.size]? = some (.cells #[.string entry] 9 (0,0)):=hb23;have hb3:w3.heap[w2.heap.size]? = some (.cells #[I heap,.bool gens,I every] 28 (0,0)):=hb3;have bad:∀ e w',e≠0→newErr T entry input heap every=e→Mod (fun _=>False) w w'→(Mod (fun _=>False) w w'∧(newErr T entry input heap every≠0→Value.tuple #[.pointer none,I e] = .tuple #[.pointer none,I (newErr T entry input heap every)])∧(newErr T entry input heap every=0→NewAt w w' (newM T entry input heap gens every) (.tuple #[.pointer none,I e]))):=by
   intro e w' he h1 hm;rw [h1];exact ⟨hm,fun _=>rfl,fun h=>absurd h he⟩
 have hE:newErr T entry input heap every=if input.length > 10000 then 2 else if input.any (fun n=>!numB n)=true∨heap < 1∨heap > 1048576∨every < 0 then 1 else if checkS T≠0 then checkS T else if entryS entry T.globals 0=none then 220 else 0:=rfl
 (try simp only [go_sem,simprocAttr]);refine ir_blk (fun ρ w'=>w3=w'∧ρ.get 2=some (.slice aI input.length cI)∧ρ.get 4=some (ptr w.heap.size)∧ρ.get 5=some (ptr w1.heap.size)∧ρ.get 7=some (ptr w2.heap.size)∧¬ input.length > 10000∧¬ (input.any (fun n=>!numB n)=true∨heap < 1∨heap > 1048576∨every < 0)) ?_ ?_
 · refine ir_cond rfl (fun hl=>?_) (fun hl=>?_)
   · simp only [zb1,zb2,zb3,zb4,zb5] at hl;rw [if_pos (by omega)] at hE;(try simp only [go_sem,simprocAttr]);exact bad 2 w3 (by decide) hE hm03
   simp only [zb1,zb2,zb3,zb4,zb5] at hl;have hl:¬ input.length > 10000:=by omega
   rw [if_neg hl] at hE;(try simp only [go_sem,simprocAttr]);refine e_call (by rfl) ?_;refine (contains_ok _ input w3 (hin0.mod hm03 (fun _ _ h=>h)) 71 _ #[] (fun n=>!numB n) rfl rfl rfl (fun x _=>by simpa using f_new1 w3 x)).mono ?_;rintro _ _ ⟨rfl,rfl⟩;(try simp only [go_sem,simprocAttr]);cases hA:input.any (fun n=>!numB n) with
   | true=>
     rw [hA,if_pos (.inl rfl)] at hE;(try simp only [go_sem,simprocAttr]);exact bad 1 w3 (by decide) hE hm03
   | false=>
     cases h1:decide (heap < 1) with
     | true=>
       rw [if_pos (.inr (.inl (of_decide_eq_true h1)))] at hE;(try simp only [go_sem,simprocAttr,cell_of hb3,h1]);exact bad 1 w3 (by decide) hE hm03
     | false=>
       cases h2:decide (heap > 1048576) with
       | true=>
         rw [if_pos (.inr (.inr (.inl (of_decide_eq_true h2))))] at hE;(try simp only [go_sem,simprocAttr,cell_of hb3,h1,h2]);exact bad 1 w3 (by decide) hE hm03
       | false=>
         cases h3:decide (every < 0) with
         | true=>
           rw [if_pos (.inr (.inr (.inr (of_decide_eq_true h3))))] at hE;(try simp only [go_sem,simprocAttr,cell_of hb3,h1,h2,h3]);exact bad 1 w3 (by decide) hE hm03
         | false=>
           have q1:=of_decide_eq_false h1;have q2:=of_decide_eq_false h2;have q3:=of_decide_eq_false h3;(try simp only [go_sem,simprocAttr,cell_of hb3,h1,h2,h3]);exact ⟨by omega,by simp;omega⟩
 rintro ρ _ ⟨rfl,r2,r4,r5,r7,hl,hbad⟩;rw [if_neg hl,if_neg hbad] at hE;have hheap:1≤heap∧heap≤1048576:=by
   constructor
   · apply Classical.byContradiction;intro hh;exact hbad (.inr (.inl (by omega)))
   · apply Classical.byContradiction;intro hh;exact hbad (.inr (.inr (.inl (by omega))))
 have h3:=h0.mod hm03 (fun _ _ h=>h) (fun _ h=>h);(try simp only [go_sem,simprocAttr,r2,r4,r5,r7,ln_of (cs:=[_,_]) (off:=0) (n:=2) hb1 (by simp)]);refine e_call (by rfl) ?_;refine (f_Check h3 hT (fun b hb=>by have:=hBl b hb;have:=hm03.size;omega)).mono ?_;rintro _ w4 ⟨rfl,hm4⟩;have hm04:=hm03.trans hm4;have hb14:=hm4.at hb1 (fun h=>h);have hb24:=hm4.at hb2 (fun h=>h);have hb34:=hm4.at hb3 (fun h=>h);(try simp only [go_sem,simprocAttr]);refine ir_cond rfl (fun hc=>?_) (fun hc=>?_)
 · simp only [zb1,zb2,zb3,zb4,zb5] at hc;rw [if_pos hc] at hE;(try simp only [go_sem,simprocAttr]);exact bad _ w4 hc hE hm04
 simp only [zb1,zb2,zb3,zb4,zb5] at hc;rw [if_neg (by simpa using hc)] at hE;obtain ⟨hTok,_⟩:=check_ok hc;have h4:=h0.mod hm04 (fun _ _ h=>h) (fun _ h=>h);(try simp only [go_sem,simprocAttr,cell_of hb14]);refine e_call (by rfl) ?_;refine (f_entry h4 hT hb24).mono ?_;rintro _ w5 ⟨rfl,hm5⟩;have hm05:=hm04.trans hm5;have hb15:=hm5.at hb14 (fun h=>h);have hb35:=hm5.at hb34 (fun h=>h);(try simp only [go_sem,simprocAttr]);refine ir_cond rfl (fun he=>?_) (fun he=>?_)
 · simp only [zb1,zb2,zb3,zb4,zb5] at he;have hn:entryS entry T.globals 0=none:=by
     unfold entryI at he
     split at he
     · omega
     · assumption
   rw [if_pos hn] at hE;(try simp only [go_sem,simprocAttr]);exact bad 220 w5 (by decide) hE hm05
 simp only [zb1,zb2,zb3,zb4,zb5] at he;have hn:entryS entry T.globals 0≠none:=fun hn=>by
   have:entryI entry T = -1:=by unfold entryI;rw [hn]
   omega
 rw [if_neg hn] at hE;obtain ⟨at',hat,hatl⟩:∃ j:Nat,entryI entry T=j∧j < T.globals.length:=by
   unfold entryI;cases hx:entryS entry T.globals 0 with
   | none=>exact absurd hx hn
   | some j=>exact ⟨j,rfl,by have:=entryS_lt _ _ hx;omega⟩
 rw [hat];(try simp only [go_sem,simprocAttr,ln_of (cs:=[_,_,_]) (off:=0) (n:=3) hb35 (by simp)]);refine e_call (by rfl) ?_;refine (f_newStore w5 gens every hheap).mono ?_;rintro _ w6 ⟨sv,F,rfl,hst,hm6,hF⟩;obtain ⟨ti,ui,rfl⟩:=hst.iface;have hm06:=hm05.trans hm6;have hb16:=hm6.at hb15 (fun h=>h);have hb36:=hm6.at hb35 (fun h=>h);(try simp only [go_sem,simprocAttr,show ((0:Int) != 0)=false from rfl]);have hb16d:w6.drew.heap[w.heap.size]? = _:=hb16;have hb36d:w6.drew.heap[w2.heap.size]? = _:=hb36;have l3:=lt_of_heap hb36;have h6d:=h0.mod hm06.drew (fun _ _ h=>h) (fun _ h=>h);(try simp only [go_sem,simprocAttr,ln_of (cs:=[_,_]) (off:=0) (n:=2) hb16d (by simp),ln_of (cs:=[_,_,_]) (off:=0) (n:=3) hb36d (by simp)]);refine e_call (by rfl) ?_;refine (f_copied h6d hTok).mono ?_;rintro _ w7 ⟨vsh',vgl',rfl,htab,hm7⟩;have hm67:Mod (fun _=>False) w6 w7:=Mod.of_drew hm7;have htab':TabAt w7 vsh' vgl' T (fun b=>w6.heap.size≤b∧b < w7.heap.size):=htab;obtain ⟨⟨aS',cS',rfl⟩,aG',cG',rfl⟩:=tab_sl htab;have k7:=hm7.old w2.heap.size l3 (fun h=>h);have s67:=hm67.size;(try simp only [go_sem,simprocAttr,tabV]);refine ⟨by simp only [drew_heap,k7,and_self,implies_true],?_⟩;refine e_call (by rfl) ?_;refine (clone_ok _ input w7 (hin0.mod (hm06.trans hm67) (fun _ _ h=>h))).mono ?_;rintro vI w8 ⟨hm8,fI,hoI,hfI⟩;obtain ⟨aI',cI',rfl,_⟩:=hoI.val;have k8:=hm8.old w2.heap.size (by omega) (fun h=>h);have s78:=hm8.size;(try simp only [go_sem,simprocAttr]);refine ⟨by simp only [drew_heap,k8,and_self,implies_true],?_⟩;refine e_call (by rfl) ?_;refine (f_rows w8).mono ?_;rintro vR w9 ⟨bR,⟨lR,lR9⟩,hrows,hm9⟩;obtain ⟨aR,cR,rfl⟩:=rows_sl hrows;have k9:=hm9.old w2.heap.size (by omega) (fun h=>h);have s89:=hm9.size;(try simp only [go_sem,simprocAttr]);refine ⟨by simp only [drew_heap,k9,and_self,implies_true],?_⟩;refine e_bx rfl ?_;intro w10 hb10 hm10 hs10;have hm69:Mod (fun _=>False) w6 w9:=(hm67.trans hm8).trans hm9;have hm6_10:=hm69.trans hm10;have hb1_10:=hm6_10.at hb16 (fun h=>h);obtain ⟨S,hS⟩:∃ S:SV,S=⟨.slice aS' T.shapes.length cS',.slice aG' T.globals.length cG',.slice aI' input.length cI',.slice aR rowsV.length cR,.iface ti (.pointer (some ui))⟩:=⟨_,rfl⟩;have hc10:w10.heap[w9.heap.size]? = some (.cells (mcCells S (newI T input heap gens every 0) (.slice none 0 0) (.slice none 0 0) (.slice none 0 0) (.slice none 0 0)).toArray 113 (0,0)):=by rw [hS];exact hb10
 (try simp only [go_sem,simprocAttr,cell_of hb1_10]);have s9:w9.heap.size < w10.heap.size:=lt_of_heap hc10;have h06:=hm06.size;have h69:=hm69.size;have s05:=hm05.size;have s56:=hm6.size;have hm9_10:Mod (fun _=>False) w9 w10:=hm10;have htab10:TabAt w10 S.vsh S.vgl T (fun b=>w6.heap.size≤b∧b < w9.heap.size):=by
   rw [hS];exact htab'.mod ((hm8.trans hm9).trans hm10) (fun _ _ h=>h) (fun b hb=>⟨hb.1,by omega⟩)
 have hin10:Ints w10 S.vin input:=by
   rw [hS];exact ((hoI.ints (by omega)).1).mod (hm9.trans hm10) (fun _ _ h=>h)
 have hvin10:∀ b,vblk S.vin=some b→w6.heap.size≤b∧b < w9.heap.size:=by
   rw [hS];intro b hb;obtain ⟨_,h2⟩:=hoI;rcases h2 with ⟨e,_,_⟩ | ⟨b',c',sp,e,hf,hbb,_⟩
   · simp only [Value.slice.injEq] at e;obtain ⟨rfl,_,_⟩:=e;cases hb
   · simp only [Value.slice.injEq] at e;obtain ⟨rfl,_,_⟩:=e;have hbb':b'=b:=Option.some.inj hb;subst hbb';have:=hfI b' hf;have:=lt_of_heap hbb;omega
 have hrow10:RowsAt w10 S.vR 2 rowsV (fun b=>w6.heap.size≤b∧b < w9.heap.size):=by
   rw [hS];exact hrows.mod hm10 (fun _ _ h=>h) (fun b hb=>by subst hb;exact ⟨by omega,lR9⟩)
 have hst10:StAt w10 S.sv ⟨newKd gens heap,heap,firstNs 0⟩ F:=by
   rw [hS];exact (hst.mod hm69 (fun _ _ h=>h)).mod hm10 (fun _ _ h=>h)
 have hF':∀ b,F b→w.heap.size≤b∧(b < w6.heap.size∨w9.heap.size < b):=fun b hb=>by
   have h1:=hF b hb;have h2:=hst.lt b hb;omega
 have hsvS:(Value.iface ti (.pointer (some ui)))=S.sv:=by rw [hS]
 rw [hsvS];have nwR:newErr T entry input heap every=0:=hE
 refine ir_loop (fun z ρ w'=>∃ (i:Nat) (vG:Value) (fg:Option Nat) (F:Nat→Prop),z=T.globals.length - i∧i≤T.globals.length∧(i:Int)≤heap ∧
   w'.heap[w9.heap.size]? = some (.cells (mcCells S (newI T input heap gens every i) vG (.slice none 0 0) (.slice none 0 0) (.slice none 0 0)).toArray 113 (0,0))∧StAt w' S.sv ⟨newKd gens heap,heap,firstNs i⟩ F ∧
   OwnS w' 3 1 vG (((List.range i).map (fun i:Nat=>(i:Int))).map I) i fg∧(∀ b,F b→w.heap.size≤b∧(b < w6.heap.size∨w9.heap.size < b))∧(∀ b,fg=some b→w9.heap.size < b∧¬ F b)∧Mod (fun b=>(w.heap.size≤b∧b < w6.heap.size)∨w9.heap.size≤b) w10 w' ∧
   ρ=[(11,I at'),(12,S.sv),(15,ptr w9.heap.size),(67,I T.globals.length),(68,I i)]) T.globals.length
   ⟨0,.slice none 0 0,none,F,rfl,by omega,by omega,hc10,hst10,OwnS.nil _ _ _,hF',(fun b hb=>by cases hb),Mod.refl _ _,rfl⟩ ?_
 rintro z ρ w11 ⟨i,vG,fg,F1,rfl,hi,hih,hc11,hst11,hoG,hF1,hfg1,hm11,rfl⟩;have s11:=hm11.size;have rest:∀ w':World,Mod (fun b=>(w.heap.size≤b∧b < w6.heap.size)∨w9.heap.size≤b) w10 w'→TabAt w' S.vsh S.vgl T (fun b=>w6.heap.size≤b∧b < w9.heap.size)∧Ints w' S.vin input∧RowsAt w' S.vR 2 rowsV (fun b=>w6.heap.size≤b∧b < w9.heap.size)∧Mod (fun _=>False) w w':=by
   intro w' hm;refine ⟨htab10.mod hm (fun b hb hx=>by omega) (fun _ h=>h),hin10.mod hm (fun b hb hx=>by have:=hvin10 b hb;omega),hrow10.mod hm (fun b hb hx=>by omega) (fun _ h=>h),?_⟩;have h9:Mod (fun _=>False) w w10:=hm06.trans hm6_10;exact h9.step hm (fun b hb hl=>by omega)
 unfold ir44L1;(try simp only [go_sem,simprocAttr]);refine ir_cond rfl (fun hlt=>?_) (fun hlt=>?_)
 · have hlt:i < T.globals.length:=by simpa using hlt
   have hok:=newSt_ok (gens:=gens) hheap hih;(try simp only [go_sem,simprocAttr]);have e1:IntKind.i64.wrap ((i:Int)+1)=((i+1:Nat):Int):=by rw [wrap_in (by omega) (by omega)];omega
   refine s_add (nd:=⟨4,(i:Int),[]⟩) rfl (by rfl) hst11 hok (by simp [Nd.may,mayB]) rfl (ints_nil _) ?_ ?_
   · intro hroom w12 F2 hst12 hg12;have hroom:((firstNs i).length:Int) < heap:=hroom;rw [firstNs_len] at hroom;have hst12:StAt w12 S.sv ⟨newKd gens heap,heap,firstNs (i+1)⟩ F2:=by rw [firstNs_succ];exact hst12
     have nF9:¬ F1 w9.heap.size:=fun e=>by have:=hF1 _ e;omega
     have hc12:=hg12.1.at hc11 nF9;obtain ⟨aV,cV,rfl,_⟩:=hoG.val;have s12:=hg12.1.size;rw [show ((⟨newKd gens heap,heap,firstNs i⟩:St).ns.length:Int)=(i:Int) by show ((firstNs i).length:Int)=_;rw [firstNs_len]];(try simp only [go_sem,simprocAttr,show ((0:Int) != 0)=false from rfl,cell_of hc12,mcCells]);refine e_bs (by rfl) (by rfl) ?_;intro w13 hb13 hm13 _;have hfg1':∀ b,fg=some b→¬ F1 b:=fun b hb=>(hfg1 b hb).2
     (try simp only [go_sem,simprocAttr]);refine e_ap (m:=1) (news:=[I (i:Int)]) rfl ((hoG.mod hg12.1 hfg1').mod hm13 (fun _ _ h=>h)) rfl (fun h=>by cases h) (rd_block (xs:=[I (i:Int)]) hb13) (oneI [(i:Int)]) rfl (by omega) (by omega) ?_;intro v14 w14 fg14 ho14 hm14 hf14;obtain ⟨a14,c14,rfl,_⟩:=ho14.val;have fg9:fg≠some w9.heap.size:=fun e=>by have:=(hfg1 _ e).1;omega
     have hc14:=hm14.at (hm13.at hc12 (fun h=>h)) fg9;(try simp only [go_sem,simprocAttr]);refine e_st1 (off:=9) rfl rfl hc14 rfl (by simp [mcCells]) ?_;intro w15 hb15 hm15 _;(try simp only [go_sem,simprocAttr,e1]);have s13:=hm13.size;have s14:=hm14.size;have hst15:StAt w15 S.sv ⟨newKd gens heap,heap,firstNs (i+1)⟩ F2:=by
       refine ((hst12.mod hm13 (fun _ _ h=>h)).mod hm14 (fun b hb e=>?_)).mod hm15 (fun b hb e=>?_)
       · rcases hg12.2 b hb with h1 | h1
         · exact hfg1' b e h1
         · have:=hoG.lt e;omega
       · subst e;rcases hg12.2 _ hb with h1 | h1
         · exact nF9 h1
         · have:=lt_of_heap hc11;omega
     have hX:Mod (fun b=>(w.heap.size≤b∧b < w6.heap.size)∨w9.heap.size≤b) w10 w15:=by
       refine (((hm11.step hg12.1 (fun b hb _=>by have:=hF1 b hb;omega)).step hm13 (fun _ h _=>h.elim)).step hm14 (fun b hb _=>by have:=hfg1 b hb;omega)).step hm15 (fun b hb _=>by subst hb;exact .inr (Nat.le_refl _))
     refine ⟨_,by omega,i+1,.slice a14 (i+1) c14,fg14,F2,rfl,by omega,by omega,by simpa [mcCells,newI] using hb15,hst15,?_,fun b hb=>?_,fun b hb=>?_,hX,rfl⟩
     · have e:(List.range (i+1)).map (fun i:Nat=>(i:Int))=(List.range i).map (fun i:Nat=>(i:Int))++[(i:Int)]:=by simp [List.range_succ]
       rw [e,List.map_append]
       exact ho14.mod hm15 (fun b hb e=>by
         subst e;rcases hf14 _ hb with h3 | h3
         · exact fg9 h3
         · have:=lt_of_heap hc11;omega)
     · rcases hg12.2 b hb with h1 | h1
       · exact hF1 b h1
       · omega
     · rcases hf14 b hb with h1 | h1
       · refine ⟨(hfg1 b h1).1,fun h2=>?_⟩;rcases hg12.2 b h2 with h3 | h3
         · exact hfg1' b h1 h3
         · have:=hoG.lt h1;omega
       · refine ⟨by omega,fun h2=>?_⟩;have:=hst12.lt b h2;omega
   · intro hfull w12 F2 e he hst12 hg12;have hfull:((firstNs i).length:Int)=heap:=hfull;rw [firstNs_len] at hfull;have nF9:¬ F1 w9.heap.size:=fun e=>by have:=hF1 _ e;omega
     have hc12:=hg12.1.at hc11 nF9;have he':(e != 0)=true:=by simpa using he
     (try simp only [go_sem,simprocAttr,he']);refine e_st1 (off:=15) rfl rfl hc12 rfl (by simp [mcCells]) ?_;intro w13 hb13 hm13 _;(try simp only [go_sem,simprocAttr]);refine e_st1 (off:=9) rfl rfl hb13 rfl (by simp [mcCells]) ?_;intro w14 hb14 hm14 _;(try simp only [go_sem,simprocAttr]);have hM:newM T entry input heap gens every = { newI T input heap gens every heap.toNat with globals:=[],ended:=5}:=by unfold newM;rw [if_neg (by omega)]
     have hi':heap.toNat=i:=by omega
     have hX:Mod (fun b=>(w.heap.size≤b∧b < w6.heap.size)∨w9.heap.size≤b) w10 w14:=by
       refine ((hm11.step hg12.1 (fun b hb _=>by have:=hF1 b hb;omega)).step hm13 (fun b hb _=>by subst hb;exact .inr (Nat.le_refl _))).step hm14 (fun b hb _=>by subst hb;exact .inr (Nat.le_refl _))
     obtain ⟨r1,r2,r3,r4⟩:=rest w14 hX;have nF9':¬ F2 w9.heap.size:=fun e=>by
       rcases hg12.2 _ e with h1 | h1
       · exact nF9 h1
       · have:=lt_of_heap hc11;omega
     refine ⟨r4,fun h=>absurd nwR h,fun _=>?_⟩;rw [hM,hi'];obtain ⟨τ,hA,hτ⟩:=new_pack (w:=w) (w6:=w6) (w9:=w9) (w':=w14) (m:=w9.heap.size) (S:=S) (M:={ newI T input heap gens every i with globals:=[],ended:=5}) (vG:=.slice none 0 0) (vW:=.slice none 0 0) (fg:=none) (fw:=none) (F:=F2) rfl h06 h69 (by simpa [mcCells,newI] using hb14) (OwnS.nil _ _ _) (OwnS.nil _ _ _) rfl rfl
       ((hst12.mod hm13 (fun b hb e=>by subst e;exact nF9' hb)).mod hm14 (fun b hb e=>by subst e;exact nF9' hb)) (fun b hb=>by
         rcases hg12.2 b hb with h1 | h1
         · exact hF1 b h1
         · omega) (fun b hb=>by cases hb) (fun b hb=>by cases hb) r1 r2 hvin10 r3
     exact ⟨τ,_,S,rfl,hA,hτ⟩
 · have hlt:¬ i < T.globals.length:=by simpa using hlt
   obtain rfl:i=T.globals.length:=by omega
   obtain ⟨bG,cG2,sp,rfl,rfl,_⟩:=hoG.pos (by omega);obtain ⟨bG',eG,_,hcell⟩:=own_cell hoG (i:=at') hatl;cases eG;have hcell:w11.cell? ⟨bG,at',none⟩=some (I at'):=by
     rw [hcell];simp [hatl]
   have b1:(0:Int)≤at'∧(at':Int) < T.globals.length:=by omega
   (try simp only [go_sem,simprocAttr,zb4,zb6,cell_of hc11,mcCells,newI,b1,add_at,hcell]);refine e_bs (by rfl) (by rfl) ?_;intro w12 hb12 hm12 _;(try simp only [go_sem,simprocAttr]);refine e_st1 (off:=11) rfl rfl (hm12.at hc11 (fun h=>h)) rfl (by simp [mcCells]) ?_;intro w13 hb13 hm13 _;(try simp only [go_sem,simprocAttr]);have s12:=hm12.size;have hM:newM T entry input heap gens every = { newI T input heap gens every T.globals.length with wait:=[(at':Int)]}:=by unfold newM;rw [if_pos hih,hat]
   have hX:Mod (fun b=>(w.heap.size≤b∧b < w6.heap.size)∨w9.heap.size≤b) w10 w13:=(hm11.step hm12 (fun _ h _=>h.elim)).step hm13 (fun b hb _=>by subst hb;exact .inr (Nat.le_refl _));obtain ⟨r1,r2,r3,r4⟩:=rest w13 hX;have nF9:¬ F1 w9.heap.size:=fun e=>by have:=hF1 _ e;omega
   have l11:=lt_of_heap hc11;refine ⟨r4,fun h=>absurd nwR h,fun _=>?_⟩;rw [hM];have hoW:OwnS w13 3 1 (.slice (some ⟨w11.heap.size,0,none⟩) 1 1) [I (at':Int)] 1 (some w11.heap.size):=(OwnS.of_block (xs:=[I (at':Int)]) hb12 rfl).mod hm13 (fun b hb e=>by have:=Option.some.inj hb;omega);obtain ⟨τ,hA,hτ⟩:=new_pack (w:=w) (w6:=w6) (w9:=w9) (w':=w13) (m:=w9.heap.size) (S:=S) (M:={ newI T input heap gens every T.globals.length with wait:=[(at':Int)]}) (fg:=some bG) (fw:=some w11.heap.size) (F:=F1) rfl h06 h69 (by simpa [mcCells,newI] using hb13)
     (by
       have:=(hoG.mod hm12 (fun _ _ h=>h)).mod hm13 (fun b hb e=>by subst e;have:=(hfg1 _ hb).1;omega)
       simpa [newI] using this) hoW rfl rfl ((hst11.mod hm12 (fun _ _ h=>h)).mod hm13 (fun b hb e=>by subst e;exact nF9 hb)) hF1 hfg1 (fun b hb=>by
         cases hb
         refine ⟨by omega,fun h2=>by have:=hst11.lt _ h2;omega,fun e=>by have:=hoG.lt rfl;cases e;omega⟩) r1 r2 hvin10 r3
   exact ⟨τ,_,S,rfl,hA,hτ⟩
end
end
section
open Go Go.W
theorem fr_both {w w3:World} {τ τ':Tag} {i k:Nat} {f f':Fr} {vs vp vs' vp':Value} {fs fp fs':Option Nat} (h:FrIn w τ i k f vs vp fs fp) (hs:OwnS w3 3 1 vs' (f'.stack.map I) f'.stack.length fs') (hsp:OwnS w3 3 1 vp' (f'.spine.map I) f'.spine.length fp)
   (hb:w3.heap[k]? = some (.cells (frCells f' vs' vp').toArray 151 (0,0))) (hw:τ.wx τ' w) (ht:τ'.is fs' (.fs i)):FrAt w3 τ' i k f':=by
 obtain ⟨l1,l2,l3⟩:=h.lt;exact ⟨vs',vp',fs',fp,hb,(hw k l1 (by rw [h.tk];simp)).trans h.tk,hs,ht,hsp,is_ext h.tp hw l3 (by simp)⟩
section
variable {w:World} {τ:Tag} {m:Nat} {S:SV} {M:Mc} {ks:List Nat} {k:Nat} {x:Ins} {n:Int}
theorem x_call (hT:TopAt w τ m S M ks k) (hM:MOk n M) (he:M.ended=0) (h4:(M.st.nd M.top.stands).kind=4) (href:M.st.kd≠.ref) (hsp:M.top.spine.length≤4294967295)
   (har:(M.top.spine.length:Int)≥(M.tab.gl (M.st.nd M.top.stands).num).arity) :
   CallsR Tryz.prog 137 [ptr m,ptr k,I (M.st.ov M.top.stands),I (M.st.nd M.top.stands).num] w fun _ w'=>MOp w τ m S (M.call M.top (M.st.nd M.top.stands).num) ks w':=by
 have hG:=hM.topG hT.pos;have hmk:=hM.g.nd hG.sd;have hgl:=hmk.2.2.1 h4;have hg0:=((may_kind hmk.1).2.2.2.1 h4).2;generalize hnum:(M.st.nd M.top.stands).num=num at *;obtain ⟨g,rfl⟩:∃ g:Nat,num=g:=⟨num.toNat,by omega⟩;have hgok:=hM.tab.gls _ (gl_mem (c:=(g:Int)) (by omega));obtain ⟨ar,har'⟩:∃ ar:Nat,(M.tab.gl g).arity=ar:=⟨(M.tab.gl g).arity.toNat,by omega⟩;rw [har'] at har hgok;obtain ⟨vG,vF,vW,vT,fg,ff,fw,ft,F,hh⟩:=hT.at';obtain ⟨vs,vp,fs,fp,hF⟩:=hT.fr;have hc:=hh.cells;have hcf:=hF.cells;obtain ⟨ad,c,cv,hvgl,B1,_,hari,hcv,hrows⟩:=glob_at hh.tab (i:=g) (by omega);rw [har'] at hari;have hari:w.cell? ⟨(ad.add (g*3)).block,(ad.add (g*3)).off+1,none⟩=some (I ar):=hari;have b1:(0:Int)≤g∧(g:Int) < M.tab.globals.length:=by omega
 obtain ⟨d,hd⟩:∃ d:Nat,d+ar=M.top.spine.length:=⟨M.top.spine.length - ar,by omega⟩;obtain ⟨aP,cP,rfl,hcP,_⟩:=hF.spine.val;have e1:IntKind.i64.wrap ((M.top.spine.length:Int) - ar)=d:=by rw [wrap_in (by omega) (by omega)];omega
 have b2:(0:Int)≤d∧(d:Int)≤M.top.spine.length:=by omega
 refine fit137.calls rfl ?_;unfold ir137;(try simp only [go_sem,simprocAttr,zb4,zb6,cell_of hc,ptr,mcCells,hvgl,b1,hari,cell_of hcf,frCells,e1,b2]);have hlen:M.top.spine.length - d=ar:=by omega
 generalize haO:(if cP=d then aP else Option.map (fun x=>x.add d) aP)=aO;obtain ⟨O,hO⟩:∃ O:List Int,O=M.top.own ar:=⟨_,rfl⟩;have hO':O=M.top.spine.drop d:=by rw [hO];unfold Fr.own;rw [Int.toNat_natCast,show M.top.spine.length - ar=d by omega]
 have hOl:O.length=ar:=by rw [hO',List.length_drop];omega
 have hOin:∀ s∈O,M.st.In s:=fun s hs=>hG.sp s (by rw [hO'] at hs;exact List.mem_of_mem_drop hs)
 have hOg:∀ i,i < ar→∃ bP,aO=some ⟨bP,d,none⟩∧fp=some bP∧w.cell? ⟨bP,d+i,none⟩=some (I (O.getD i 0))∧O.getD i 0∈O:=by
   intro i hi;obtain ⟨bP,rfl,hfp,hcell⟩:=own_cell hF.spine (i:=d+i) (by omega);refine ⟨bP,?_,hfp,?_,getD_mem (by omega)⟩
   · rw [← haO,if_neg (by omega)];simp [Addr.add];intro h;exact h.symm
   · have e:O.getD i 0=M.top.spine.getD (d+i) 0:=by rw [hO'];simp [List.getD_eq_getElem?_getD,List.getElem?_drop]
     rw [e,hcell,List.getElem?_map,List.getElem?_eq_getElem (by omega),List.getD_eq_getElem?_getD,List.getElem?_eq_getElem (by omega)];rfl
 rw [hlen];have hfl:M.top.stands=M.top.stands:=rfl;have hcallF:∀ s∈O,(M.st.nd s).kind≠3→M.call M.top g=M.fail 5:=by
   intro s hs hk;unfold Mc.call;rw [har',← hO,if_neg];intro hh;rw [List.all_eq_true] at hh;exact hk (by simpa using hh s hs)
 refine e_bs (by rfl) (by rfl) ?_;intro w1 hb1 hm1 _;have hm1':Mod (fun _=>False) w w1:=hm1.of_drew;have hbw:w.drew.heap.size=w.heap.size:=rfl;(try simp only [go_sem,simprocAttr])
 refine ir_loop (fun z ρ w'=>∃ (i:Nat) (v:Value) (f:Option Nat),z=ar - i∧i≤ar∧Mod (fun _=>False) w w'∧(∀ s∈O.take i,(M.st.nd s).kind=3) ∧
   OwnS w' 3 1 v (((if i=0 then (M.st.ov M.top.stands:Int) else (M.st.ov (O.getD 0 0):Int))::(O.take i).map (fun s=>(M.st.nd s).args.getD 1 0)).map I) (i+1) f∧(∀ b,f=some b→w.heap.size≤b) ∧
   ρ=[(0,ptr m),(1,ptr k),(3,I g),(8,I ar),(10,v),(38,.slice aO ar (cP - d)),(39,I ar),(40,I i)]) ar ⟨0,_,some w.heap.size,rfl,by omega,hm1',(by simp),OwnS.of_block (xs:=[I (M.st.ov M.top.stands:Int)]) hb1 rfl,(fun b hb=>by cases hb;omega),rfl⟩ ?_
 rintro z ρ w2 ⟨i,v,f,rfl,hi,hm2,hall,hv,hf,rfl⟩;have h2:=hT.later hm2;unfold ir137L1;(try simp only [go_sem,simprocAttr]);refine ir_cond rfl (fun hlt0=>?_) (fun hlt0=>?_)
 · have hlt:i < ar:=by simpa using hlt0
   obtain ⟨bP,haO',hfp,hcell,hmem⟩:=hOg i hlt;have hiO:i < O.length:=by omega
   have hin:=hOin _ hmem;generalize hs:O.getD i 0=s at *;have hcell2:=hm2.cell hcell (fun h=>h);have b3:(0:Int)≤i∧(i:Int) < ar:=by omega
   subst haO';(try simp only [go_sem,simprocAttr,zb4,zb6,b3,add_at,hcell2]);refine e_call (by rfl) ?_;refine (m_over h2.at' hM.g.st hM.g.ends hin).mono ?_;rintro _ w3 ⟨v3,rfl,hv3,hm3⟩;(try simp only [go_sem,simprocAttr]);refine e_al ?_;intro w4 hb4 hm4 _;refine e_sta (cs:=[I 0,I 0,.slice none 0 0]) rfl rfl hb4 rfl rfl (node_one hv3 _ _) ?_;intro w5 hb5 hm5 hs5;have hsz:=hm2.size;have hsz3:=hm3.size;have hm35:Mod (fun _=>False) w3 w5:=hm4.step hm5 (fun x hx hl=>by subst hx;omega);have hm05:Mod (fun _=>False) w w5:=(hm2.trans hm3).trans hm35;have h5:=hT.later hm05;have hmk3:=hM.g.nd hin;obtain ⟨fp3,hv3,hf3⟩:=hv3;obtain ⟨va3,vc3,rfl,_⟩:=hv3.val;have hk3:((M.st.nd s).kind != 3)=decide ((M.st.nd s).kind≠3):=by by_cases hh:(M.st.nd s).kind=3<;>simp [hh]
   (try simp only [go_sem,simprocAttr,cell_of hb5,hk3]);refine ir_cond rfl (fun hk=>?_) (fun hk=>?_)
   · simp only [zb1,zb2,zb3,zb4,zb5] at hk;(try simp only [go_sem,simprocAttr]);refine e_call (by rfl) ?_;refine (m_fail h5.at' 5).mono ?_;rintro _ w6 hop;(try simp only [go_sem,simprocAttr]);rw [hcallF s hmem hk];exact MOp.boxed hm05 hop
   · simp only [zb1,zb2,zb3,zb4,zb5] at hk;have hvv:=(hv.mod hm3 (fun _ _ h=>h)).mod hm35 (fun _ _ h=>h);have hv3':=hv3.mod hm35 (fun _ _ h=>h);have ha2:=(may_kind hmk3.1).2.2.1 hk;rw [ha2] at hv3';obtain ⟨b6,rfl,_,hc6⟩:=own_cell hv3' (i:=1) (by omega);have hc6:w5.cell? ⟨b6,1,none⟩=some (I ((M.st.nd s).args.getD 1 0)):=by
       rw [hc6,List.getElem?_map,List.getElem?_eq_getElem (by omega),List.getD_eq_getElem?_getD,List.getElem?_eq_getElem (by omega)];rfl
     have hs5:w3.heap.size < w5.heap.size:=lt_of_heap hb5;(try simp only [go_sem,simprocAttr])
     refine ir_then (fun ρ w'=>ρ.get 0=some (ptr m)∧ρ.get 1=some (ptr k)∧ρ.get 3=some (I g)∧ρ.get 8=some (I ar)∧ρ.get 10=some v∧ρ.get 14=some (ptr w3.heap.size)∧ρ.get 38=some (.slice (some ⟨bP,d,none⟩) ar (cP - d))∧ρ.get 39=some (I ar)∧ρ.get 40=some (I i) ∧
       Mod (fun b=>f=some b) w5 w'∧OwnS w' 3 1 v (((M.st.ov (O.getD 0 0):Int)::(O.take i).map (fun s=>(M.st.nd s).args.getD 1 0)).map I) (i+1) f) ?_ ?_
     · refine ir_cond rfl (fun hz=>?_) (fun hz=>?_)
       · have hz:i=0:=by simpa using hz
         obtain ⟨bV,cV,cs,rfl,rfl,hbV,hcs,_,hset⟩:=own_set hvv (i:=0) (by omega);have b4:(0:Int)≤0∧(0:Int) < ((i+1:Nat):Int):=by omega
         (try simp only [go_sem,simprocAttr,zb4,zb6,b4,add_at]);refine e_st1 (off:=0) rfl rfl hbV rfl hcs ?_;intro w6 hb6 hm6 _;(try simp only [go_sem,simprocAttr]);refine ⟨hm6.weak (fun b hb=>by rw [hb]),?_⟩;have:=hset w6 _ hb6;rw [if_pos hz] at this;simp only [List.set_cons_zero] at this;have e:O.getD 0 0=s:=by rw [← hs,hz]
         rw [e];exact this
       · have hz:i≠0:=by simpa using hz
         (try simp only [go_sem,simprocAttr]);rw [if_neg hz] at hvv;exact ⟨Mod.refl _ _,hvv⟩
     rintro ρ w6 ⟨r0,r1,r3,r8,r10,r14,r38,r39,r40,hm6,hv6⟩;have nf3:f≠some w3.heap.size:=fun e=>by have:=hv.lt e;omega
     have nf6:f≠some b6:=fun e=>by
       have h1:=hv.lt e;have h2:=hf3 b6 (by assumption);omega
     have hb56:=hm6.at hb5 (fun e=>nf3 e);have hc66:=hm6.cell hc6 (fun e=>nf6 e);have b5:(0:Int)≤1∧(1:Int) < ((M.st.nd s).args.length:Int):=by omega
     obtain ⟨av6,cv6,rfl,_⟩:=hv6.val;have e40:IntKind.i64.wrap ((i:Int)+1)=((i+1:Nat):Int):=by rw [wrap_in (by omega) (by omega)];omega
     (try simp only [go_sem,simprocAttr,zb4,zb6,r0,r1,r3,r8,r10,r14,r38,r39,r40,cell_of hb56,b5,add_at,hc66,show Int.toNat 1=1 from rfl]);refine e_bs (by rfl) (by rfl) ?_;intro w7 hb7 hm7 _;(try simp only [go_sem,simprocAttr,r0,r1,r3,r8,r10,r14,r38,r39,r40]);refine e_ap (m:=1) (news:=[I ((M.st.nd s).args.getD 1 0)]) (by (try simp only [go_sem,simprocAttr,r10])) (hv6.mod hm7 (fun _ _ h=>h)) rfl (fun h=>by cases h) (rd_block (xs:=[I ((M.st.nd s).args.getD 1 0)]) hb7) (oneI [(M.st.nd s).args.getD 1 0]) rfl (by omega) (by omega) ?_;intro v8 w8 f8 ho8 hm8 hf8;(try simp only [go_sem,simprocAttr,r0,r1,r3,r8,r38,r39,r40,e40]);have fnew:∀ b,f=some b→¬ b < w.heap.size:=fun b hb=>by have:=hf b hb;omega
     have s67:=hm7.size;have s56:=hm6.size;have s05:=hm05.size;refine ⟨_,by omega,i+1,v8,f8,rfl,by omega,((hm05.step hm6 (fun b hb hl=>absurd hl (fnew b hb))).trans hm7).step hm8 (fun b hb hl=>absurd hl (fnew b hb)),fun s' hs'=>?_,?_,fun b hb=>?_,rfl⟩
     · rw [List.take_succ_eq_append_getElem hiO] at hs';rcases List.mem_append.1 hs' with h1 | h1
       · exact hall s' h1
       · obtain rfl:=List.mem_singleton.1 h1;have e:O[i]=s:=by rw [← hs,List.getD_eq_getElem?_getD,List.getElem?_eq_getElem hiO];rfl
         rw [e];exact hk
     · rw [if_neg (by omega)];have e:O[i]=s:=by rw [← hs,List.getD_eq_getElem?_getD,List.getElem?_eq_getElem hiO];rfl
       rw [List.take_succ_eq_append_getElem hiO,List.map_append,e]
       simpa using ho8
     · rcases hf8 b hb with h1 | h1
       · exact hf b h1
       · omega
 · have hlt:¬ i < ar:=by simpa using hlt0
   obtain rfl:i=ar:=by omega
   obtain ⟨H,hH⟩:∃ H:Int,H=if i=0 then (M.st.ov M.top.stands:Int) else (M.st.ov (O.getD 0 0):Int):=⟨_,rfl⟩
   rw [← hH] at hv;have htk:O.take i=O:=List.take_of_length_le (by omega);rw [htk] at hall hv;have hHe:M.head M.top i=H:=by
     unfold Mc.head;rw [← hO,hH];have hr:M.ref=false:=by unfold Mc.ref;split<;>simp_all
     cases O with
     | nil=>simp at hOl;rw [if_pos hOl.symm]
     | cons a l=>simp at hOl;rw [if_neg (by omega),hr];rfl
   have hHin:M.st.In H∧M.st.ov H=H.toNat:=by
     rw [hH]
     split
     · exact ⟨hM.g.ovIn hG.sd,by rw [Int.toNat_natCast];exact (St.nd_ov hM.g hG.sd).1⟩
     · have:=hOin _ (getD_mem (l:=O) (i:=0) (by omega));exact ⟨hM.g.ovIn this,by rw [Int.toNat_natCast];exact (St.nd_ov hM.g this).1⟩
   have hcall:M.call M.top g = { M.setTop { M.top with runs:=true,glob:=g,at':=0,stack:=H::O.map (fun s=>(M.st.nd s).args.getD 1 0),spine:=M.top.spine.take d} with st:=M.st.set H.toNat ⟨7,0,[]⟩}:=by
     unfold Mc.call;rw [har',← hO,if_pos (List.all_eq_true.2 (fun s hs=>by simpa using hall s hs)),hHe,hHin.2,Int.toNat_natCast,show M.top.spine.length - i=d by omega]
   have h2d:TopAt w2.drew (newTag τ w .no) m S M ks k:=h2.mod (Mod.refl (fun _=>False) w2).drew (ext_refl _ _).wx (fun _ _ h=>h.elim);obtain ⟨vG2,vF2,vW2,vT2,fg2,ff2,fw2,ft2,F2,hh2⟩:=h2d.at';have hc2:w2.heap[m]? = _:=hh2.cells;obtain ⟨ti,ui,hsv⟩:=hh2.st.iface;obtain ⟨aV,cV,rfl,_⟩:=hv.val;obtain ⟨bV,rfl,hfV,hcV⟩:=own_cell hv (i:=0) (by omega);have hcV:w2.cell? ⟨bV,0,none⟩=some (I H):=hcV;have b6:(0:Int)≤0∧(0:Int) < ((i+1:Nat):Int):=by omega
   (try simp only [go_sem,simprocAttr,zb4,zb6,cell_of hc2,mcCells,hsv,b6,add_at,hcV]);refine s_set (p:=H) (nd:=⟨7,0,[]⟩) (by rw [hsv];rfl) (by rfl) hh2.st hM.g.st hHin.1 rfl rfl (ints_nil _) ?_;intro w3 F3 hst3 hg3;have h3:=hh2.store (s:=M.st.set H.toNat ⟨7,0,[]⟩) hg3 hst3 rfl;obtain ⟨vs3,vp3,fs3,fp3,hF3⟩:FrAt w3 (stTag (newTag τ w .no) w2.drew F3) (M.frames.length - 1) k M.top:=h3.frs _ _ _ hT.hk (top_get hT.pos);have hc3:w3.heap[k]? = _:=hF3.cells;obtain ⟨aP3,cP3,rfl,hcP3,_⟩:=hF3.spine.val;have b7:(0:Int)≤d∧(d:Int)≤cP3:=by omega
   (try simp only [go_sem,simprocAttr,zb4,zb6,cell_of hc3,frCells,e1,b7,sl_same]);refine e_st1 (off:=4) rfl rfl hc3 rfl (by simp [frCells]) ?_;intro w4 hb4 hm4 _;(try simp only [go_sem,simprocAttr]);refine e_st1 (off:=0) rfl rfl hb4 rfl (by simp [frCells]) ?_;intro w5 hb5 hm5 _;(try simp only [go_sem,simprocAttr]);refine e_st1 (off:=1) rfl rfl hb5 rfl (by simp [frCells]) ?_;intro w6 hb6 hm6 _;(try simp only [go_sem,simprocAttr]);refine e_st1 (off:=2) rfl rfl hb6 rfl (by simp [frCells]) ?_;intro w7 hb7 hm7 _;(try simp only [go_sem,simprocAttr]);refine e_st1 (off:=3) rfl rfl hb7 rfl (by simp [frCells]) ?_;intro w8 hb8 hm8 _;(try simp only [go_sem,simprocAttr]);have hm38:Mod (· = k) w3 w8:=((((Mod.of_drew hm4).trans hm5).trans hm6).trans hm7).trans hm8;have lV:=hv.lt hfV;have nV:newTag τ w .no bV = .no:=newTag_new (hf _ hfV);have tV:stTag (newTag τ w .no) w2.drew F3 bV = .no:=by rw [stTag_ext (newTag τ w .no) w2.drew F3 bV lV];exact nV
   have nVF:¬ F2 bV:=fun e=>by have:=hh2.tF _ e;rw [nV] at this;cases this
   have nVk:bV≠k:=fun e=>by have:=hF3.tk;rw [← e,tV] at this;cases this
   have hv8:OwnS w8 3 1 (.slice (some ⟨bV,0,none⟩) (i+1) cV) ((H::O.map (fun s=>(M.st.nd s).args.getD 1 0)).map I) (i+1) f:=by
     refine ((hv.mod (Mod.refl (fun _=>False) w2).drew (fun _ _ h=>h)).mod hg3.1 (fun b hb=>?_)).mod hm38 (fun b hb e=>?_)
     · rw [hfV] at hb;cases hb;exact nVF
     · rw [hfV] at hb;cases hb;exact nVk e
   have fp3k:fp3≠some k:=fun e=>by have:=hF3.tp k e;rw [hF3.tk] at this;cases this
   have hsp8:=(own_pre hF3.spine (k:=d) (by omega)).mod hm38 (fun b hb e=>by subst e;exact fp3k hb);rw [hcall];have hwx:(stTag (newTag τ w .no) w2.drew F3).wx (fun b=>if b=bV then .fs (M.frames.length - 1) else stTag (newTag τ w .no) w2.drew F3 b) w3:=by
     intro b hb hne;by_cases hbV:b=bV
     · subst hbV;exact absurd tV hne
     · simp only [if_neg hbV]
   have hfr:=fr_both (f':={ M.top with runs:=true,glob:=(g:Int),at':=0,stack:=H::O.map (fun s=>(M.st.nd s).args.getD 1 0),spine:=M.top.spine.take d}) hF3 (vs':=.slice (some ⟨bV,0,none⟩) (i+1) cV) (fs':=f) (vp':=.slice aP3 d cP3) (w3:=w8)
     (by rw [show (H::O.map (fun s=>(M.st.nd s).args.getD 1 0)).length=i+1 by simp [hOl]];exact hv8)
     (by
       have el:(M.top.spine.take d).length=d:=by rw [List.length_take];omega
       rw [el,List.map_take]
       simpa using hsp8)
     (by simpa [frCells] using hb8) hwx (fun b hb=>by rw [hfV] at hb;cases hb;simp)
   have hfin:=h3.frame hT.hk (hm38.weak (fun b hb=>by subst hb;exact .inl hF3.tk)) hwx hfr;refine ⟨_,fun b hb=>?_,⟨_,_,_,_,_,_,_,_,_,hfin⟩,?_⟩
   · have hbV:b≠bV:=fun e=>by subst e;have:=hf _ hfV;omega
     simp only [if_neg hbV];rw [stTag_ext (newTag τ w .no) w2.drew F3 b (Nat.lt_of_lt_of_le hb hm2.size),newTag_ext τ w .no b hb]
   · refine ((hm2.weak (fun _ h=>h.elim)).step (Mod.of_drew hg3.1) (fun b hb hl=>?_)).step hm38 (fun b hb hl=>?_)
     · have:=hh2.tF b hb;rw [newTag_ext τ w .no b hl] at this;rw [this];simp [Tg.own]
     · subst hb;rw [hF.tk];simp [Tg.own]
end
end
section
open Go Go.W
theorem MAt.later {w w':World} {τ:Tag} {m:Nat} {S:SV} {M:Mc} {ks:List Nat} (h:MAt w τ m S M ks) (hm:Mod (fun _=>False) w w'):MAt w' (newTag τ w .no) m S M ks:=h.mod hm (newTag_ext τ w .no).wx (fun _ _ h=>h.elim)
structure Waits (w:World) (m:Nat) (S:SV) (M:Mc) (vG vF vT:Value) (fw:Option Nat) (l:List Int) (W:World):Prop where
 ex:∃ v fw',W.heap[m]? = some (.cells (mcCells S M vG vF v vT).toArray 113 (0,0))∧OwnS W 3 1 v ((M.wait++l).map I) (M.wait++l).length fw'∧∀ b,fw'=some b→fw=some b∨w.heap.size≤b
 mod:Mod (fun b=>fw=some b∨b=m) w W
theorem Waits.quiet {w:World} {m:Nat} {S:SV} {M:Mc} {vG vF vT:Value} {fw:Option Nat} {l:List Int}:Quiet w.heap.size (Waits w m S M vG vF vT fw l):=by
 rintro W W' X ⟨⟨v,fs',h1,h2,h3⟩,h4⟩ hm hs;have hs':∀ b,X b→∃ o:Obj,W.heap[b]? = some o∧o.isCells=false:=fun b hb=>(hs b hb).2
 refine ⟨⟨v,fs',quiet_at hm hs' h1,quiet_ownS hm hs' h2,h3⟩,h4.step hm (fun b hb hl=>?_)⟩;have:=(hs b hb).1;omega
theorem ir_blkD {P:Program} {N:Nat} {a:IR} {id:Nat} {next:List Nat→Env→World→Prop} {Q:PostD} {ρ:Env} {w:World} (Mid:Env→World→Prop) (h:irwp P N a (blkQ id (thenQ Mid (fun e ρ w=>Q e [] ρ w))) ρ w) (hk:∀ ρ w,Mid ρ w→next [] ρ w) :
   irwp P N a (blkQ id (fun e ρ w=>thenQD next Q e [] ρ w)) ρ w:=
 irwp_mono a _ _ (blkQ_le (fun e ρ w h=>by
   cases e with
   | normal=>exact hk _ _ h
   | _=>exact h)) ρ w h
theorem told_done {w:World} {τ:Tag} {m:Nat} {S:SV} {M:Mc} {vG vF vW vT:Value} {fg ff fw ft:Option Nat} {F:Nat→Prop} {ks:List Nat} (h:MIn w τ m S M vG vF vW vT fg ff fw ft F ks) (it:It) {w4:World} {v:Value} {ft':Option Nat} (hm:Mod (fun b=>ft=some b∨b=m) w w4)
   (hb:w4.heap[m]? = some (.cells (mcCells S M vG vF vW v).toArray 113 (0,0))) (ho:OwnS w4 42 2 v ((M.told++[it]).flatMap itRow) (M.told++[it]).length ft') (hf:∀ b,ft'=some b→ft=some b∨w.heap.size≤b) :
   MOp w τ m S { M with told:=M.told++[it]} ks w4:=by
 refine ⟨newTag τ w .tl,newTag_ext τ w .tl,⟨vG,vF,vW,v,fg,ff,fw,ft',F,h.tolds (newTag_ext τ w .tl).wx hm hb ho (is_new h.tt (fun b hb=>h.tl.lt hb) hf) rfl rfl rfl rfl rfl rfl rfl⟩,hm.weak ?_⟩;rintro b (hb | rfl)
 · rw [h.tt b hb];simp [Tg.own]
 · rw [h.tm];simp [Tg.own]
section
variable {w:World} {τ:Tag} {m:Nat} {S:SV} {M:Mc} {ks:List Nat} {k:Nat} {x:Ins} {n:Int}
theorem x_tell (h:MAt w τ m S M ks) (hM:MOk n M) (he:M.ended=0) (href:M.st.kd≠.ref) (hw:M.wait.length≤4294967295) (ht:M.told.length≤4294967295) (hf:M.frames.length≤4294967295) :
   CallsR Tryz.prog 79 [ptr m] w fun _ w'=>∃ ks',MOp w τ m S M.tell ks' w':=by
 have hwp:=hM.wpos he;have hin:=hM.wts _ (last_mem hwp);have hmk:=hM.g.nd hin;have hA8:(M.st.nd M.last).args.length≤8:=by
   have:=hmk.1;simp only [Nd.may,mayB,decide_eq_true_eq] at this;omega
 obtain ⟨j,hj⟩:∃ j:Nat,j+1=M.wait.length:=⟨M.wait.length - 1,by omega⟩;have hlast:M.last=M.wait.getD j 0:=by unfold Mc.last;rw [← hj];rfl
 refine fit79.calls rfl ?_;unfold ir79;(try simp only [go_sem,simprocAttr]);refine e_bx rfl ?_;intro w1 hb1 hm1 _;have h1:=h.later hm1;obtain ⟨vG,vF,vW,vT,fg,ff,fw,ft,F,hh⟩:=h1;have hc:=hh.cells;obtain ⟨aW,cW,rfl,_⟩:=hh.wt.val;obtain ⟨bW,rfl,hfw,hcw⟩:=own_cell hh.wt (i:=j) (by omega);have hcw:w1.cell? ⟨bW,j,none⟩=some (I M.last):=by
   rw [hcw,hlast,List.getElem?_map,List.getElem?_eq_getElem (by omega),List.getD_eq_getElem?_getD,List.getElem?_eq_getElem (by omega)];rfl
 have e1:IntKind.i64.wrap ((M.wait.length:Int) - 1)=j:=by rw [wrap_in (by omega) (by omega)];omega
 have b1:(0:Int)≤j∧(j:Int) < M.wait.length:=by omega
 have lb1:=lt_of_heap hb1;have lm:=hh.lt;have lW:=hh.wt.lt hfw;(try simp only [go_sem,simprocAttr,zb4,zb6,cell_of hb1,ptr,Value.cells,cell_of hc,mcCells,e1,b1,add_at,hcw]);refine wpD_cut (fun ρ w'=>∃ b4 v,ρ.get 1=some (ptr w.heap.size)∧ρ.get 2=some (I j)∧ρ.get 4=some (ptr b4)∧w1.heap.size≤b4∧w'.heap[b4]? = some (.cells #[I (M.st.nd M.last).kind,I (M.st.nd M.last).num,v] 104 (0,0))∧NewOwn w1 w' v (M.st.nd M.last).args∧Mod (fun _=>False) w1 w') ?_ ?_
 · rw [wpD_e2];refine ⟨?_,?_⟩
   · refine e_call (by rfl) ?_;refine (m_over ((h.later hm1).mod (Mod.refl (fun _=>False) w1).drew (ext_refl _ _).wx (fun _ _ h=>h.elim)) hM.g.st hM.g.ends hin).mono ?_;rintro _ w2 ⟨v,rfl,hv,hm2⟩;(try simp only [go_sem,simprocAttr]);refine e_al ?_;intro w3 hb3 hm3 _;have k1:=hm3.old m (by have:=hm2.size;exact Nat.lt_of_lt_of_le lm this) (fun h=>h);have k2:=hm3.old w.heap.size (by have:=hm2.size;exact Nat.lt_of_lt_of_le lb1 this) (fun h=>h);have k3:=hm3.old bW (by have:=hm2.size;exact Nat.lt_of_lt_of_le lW this) (fun h=>h);(try simp only [go_sem,simprocAttr]);refine ⟨by simp only [drew_heap,k1,k2,k3,and_self,implies_true],?_⟩;refine e_sta (cs:=[I 0,I 0,.slice none 0 0]) rfl rfl hb3 rfl rfl (node_one hv _ _) ?_;intro w4 hb4 hm4 hs4;(try simp only [go_sem,simprocAttr]);have hm2':Mod (fun _=>False) w1 w2:=Mod.of_drew hm2;have hm24:Mod (fun _=>False) w2 w4:=hm3.step hm4 (fun x hx hl=>by subst hx;omega);obtain ⟨fp,hv,hf⟩:=hv;exact ⟨w2.heap.size,v,rfl,hm2'.size,hb4,⟨fp,hv.mod hm24 (fun _ _ h=>h),hf⟩,hm2'.trans hm24⟩
   · refine e_al ?_;intro w3 hb3 hm3 _;have k1:=hm3.old m lm (fun h=>h);have k2:=hm3.old w.heap.size lb1 (fun h=>h);have k3:=hm3.old bW lW (fun h=>h);(try simp only [go_sem,simprocAttr]);refine ⟨by simp only [drew_heap,k1,k2,k3,and_self,implies_true],?_⟩;have hm3':Mod (fun _=>False) w1 w3:=Mod.of_drew hm3;refine e_call (by rfl) ?_;refine (m_over ((h.later hm1).later hm3') hM.g.st hM.g.ends hin).mono ?_;rintro _ w2 ⟨v,rfl,hv,hm2⟩;(try simp only [go_sem,simprocAttr]);have hb2:=hm2.at hb3 (fun h=>h);refine e_sta (cs:=[I 0,I 0,.slice none 0 0]) rfl rfl hb2 rfl rfl (node_one hv _ _) ?_;intro w4 hb4 hm4 hs4;(try simp only [go_sem,simprocAttr]);obtain ⟨fp,hv,hf⟩:=hv;refine ⟨w1.heap.size,v,rfl,Nat.le_refl _,hb4,⟨fp,hv.mod hm4 (fun b hb hh=>by subst hh;have:=hf _ hb;have:=lt_of_heap hb3;have e:w1.drew.heap.size=w1.heap.size:=rfl;omega),fun b hb=>Nat.le_trans hm3'.size (hf b hb)⟩,(hm3'.trans hm2).step hm4 (fun x hx hl=>by subst hx;have e:w1.drew.heap.size=w1.heap.size:=rfl;omega)⟩
 rintro ρ w2 ⟨b4,v,r1,r2,r4,lb4,hb4,hv4,hm2⟩;have hb12:=hm2.at hb1 (fun h=>h);(try simp only [go_sem,simprocAttr,r1,r2,r4,cell_of hb4]);have hm2d:=hm2.drew;have h2:MAt w2.drew (newTag (newTag τ w .no) w1 .no) m S M ks:=(h.later hm1).later hm2d;obtain ⟨vG2,vF2,vW2,vT2,fg2,ff2,fw2,ft2,F2,hh2⟩:=h2;have hc2:w2.heap[m]? = _:=hh2.cells;have lm2:=hh2.lt;have lb2:=lt_of_heap hb12;have lb42:=lt_of_heap hb4;have no1:∀ b,w1.heap.size≤b→newTag (newTag τ w .no) w1 .no b = .no:=fun b hb=>newTag_new hb
 have noB:newTag (newTag τ w .no) w1 .no w.heap.size = .no:=by
   rw [newTag_ext _ w1 .no _ lb1];exact newTag_new (Nat.le_refl _)
 have bT:ft2≠some w.heap.size:=fun e=>by have:=hh2.tt _ e;rw [noB] at this;cases this
 have mT:ft2≠some m:=fun e=>by have:=hh2.tt _ e;rw [hh2.tm] at this;cases this
 have bF:ff2≠some w.heap.size:=fun e=>by have:=hh2.tf _ e;rw [noB] at this;cases this
 have mF:ff2≠some m:=fun e=>by have:=hh2.tf _ e;rw [hh2.tm] at this;cases this
 generalize hA:M.st.nd M.last=A at *;refine ir_blkD (fun ρ w'=>ρ.get 1=some (ptr w.heap.size)∧ρ.get 2=some (I j)∧ρ.get 4=some (ptr b4)∧(A.kind=1∨A.kind=2)∧MOp w2.drew (newTag (newTag τ w .no) w1 .no) m S { M with told:=M.told++[M.item A]} ks w') ?_ ?_
 · refine ir_cond rfl (fun hk=>?_) (fun hk=>?_)
   · simp only [zb1,zb2,zb3,zb4,zb5] at hk;obtain ⟨aT,cT,rfl,_⟩:=hh2.tl.val;(try simp only [go_sem,simprocAttr,zb4,zb6,cell_of hb12,ptr,Value.cells,cell_of hc2,mcCells,cell_of hb4]);refine e_bs (by rfl) (by rfl) ?_;intro w3 hb3 hm3 _;have k1:=hm3.old m lm2 (fun h=>h);have k2:=hm3.old w.heap.size lb2 (fun h=>h);have k3:=hm3.old b4 lb42 (fun h=>h);(try simp only [go_sem,simprocAttr]);refine ⟨by simp only [drew_heap,k1,k2,k3,and_self,implies_true],?_⟩;refine e_ap (m:=1) (news:=[.string ⟨#[]⟩,I A.num]) rfl (hh2.tl.mod hm3 (fun _ _ h=>h)) rfl (fun h=>by cases h) (rd_block (xs:=[.string ⟨#[]⟩,I A.num]) hb3) (by simp [Value.oneCell']) rfl (by omega) (by omega) ?_;intro v4 w4 ft4 ho4 hm4 hf4;have k4:=hm4.old w.heap.size (by have:=hm3.size;exact Nat.lt_of_lt_of_le lb2 this) bT;have hc4:=hm4.at (hm3.at hc2 (fun h=>h)) mT;obtain ⟨va,vc,rfl,_⟩:=ho4.val;(try simp only [go_sem,simprocAttr]);refine ⟨by simp only [drew_heap,k4,and_self,implies_true],?_⟩;refine e_st1 (off:=13) rfl rfl hc4 rfl (by simp [mcCells]) ?_;intro w5 hb5 hm5 hs5;(try simp only [go_sem,simprocAttr]);have hI:M.item A=⟨⟨#[]⟩,A.num⟩:=by unfold Mc.item;rw [if_pos hk]
     refine ⟨.inl hk,?_⟩;refine told_done hh2 (M.item A) (((hm3.weak (fun _ h=>h.elim)).step hm4 (fun b hb _=>.inl hb)).step hm5 (fun b hb _=>.inr hb)) (by simpa [mcCells] using hb5) ?_ (fun b hb=>(hf4 b hb).imp id (fun hh=>by have:=hm3.size;omega));rw [hI]
     have:=ho4.mod hm5 (fun b hb e=>by
       subst e;rcases hf4 b hb with h3 | h3
       · exact mT h3
       · have:=hm3.size;have e2:b < w2.drew.heap.size:=lm2;omega)
     simpa [itRow] using this
   simp only [zb1,zb2,zb3,zb4,zb5] at hk;(try simp only [go_sem,simprocAttr]);refine ir_cond rfl (fun hk2=>?_) (fun hk2=>?_)
   · simp only [zb1,zb2,zb3,zb4,zb5] at hk2;have hsh:=hmk.2.2.2 hk2;have h0n:0≤A.num:=((may_kind hmk.1).2.1 hk2).2;obtain ⟨q,hq⟩:∃ q:Nat,A.num=q:=⟨A.num.toNat,by omega⟩;obtain ⟨ad,c,hvsh,hnm,_⟩:=shape_at hh2.tab (i:=q) (by omega);have b2:(0:Int)≤q∧(q:Int) < M.tab.shapes.length:=by omega
     have hnm:w2.cell? (ad.add (q*2))=some (.string (M.tab.sh q).name):=hnm;obtain ⟨aT,cT,rfl,_⟩:=hh2.tl.val;rw [hq] at hb4;(try simp only [go_sem,simprocAttr,zb4,zb6,cell_of hb12,ptr,Value.cells,cell_of hc2,mcCells,cell_of hb4,hvsh,b2,hnm]);refine e_bs (by rfl) (by rfl) ?_;intro w3 hb3 hm3 _;have k1:=hm3.old m lm2 (fun h=>h);have k2:=hm3.old w.heap.size lb2 (fun h=>h);(try simp only [go_sem,simprocAttr]);refine ⟨by simp only [drew_heap,k1,k2,and_self,implies_true],?_⟩;refine e_ap (m:=1) (news:=[.string (M.tab.sh q).name,I 0]) rfl (hh2.tl.mod hm3 (fun _ _ h=>h)) rfl (fun h=>by cases h) (rd_block (xs:=[.string (M.tab.sh q).name,I 0]) hb3) (by simp [Value.oneCell']) rfl (by omega) (by omega) ?_;intro v4 w4 ft4 ho4 hm4 hf4;have k4:=hm4.old w.heap.size (by have:=hm3.size;exact Nat.lt_of_lt_of_le lb2 this) bT;have hc4:=hm4.at (hm3.at hc2 (fun h=>h)) mT;obtain ⟨va,vc,rfl,_⟩:=ho4.val;(try simp only [go_sem,simprocAttr]);refine ⟨by simp only [drew_heap,k4,and_self,implies_true],?_⟩;refine e_st1 (off:=13) rfl rfl hc4 rfl (by simp [mcCells]) ?_;intro w5 hb5 hm5 hs5;(try simp only [go_sem,simprocAttr]);have hI:M.item A=⟨(M.tab.sh q).name,0⟩:=by unfold Mc.item;rw [if_neg hk,hq]
     refine ⟨.inr hk2,?_⟩;refine told_done hh2 (M.item A) (((hm3.weak (fun _ h=>h.elim)).step hm4 (fun b hb _=>.inl hb)).step hm5 (fun b hb _=>.inr hb)) (by simpa [mcCells] using hb5) ?_ (fun b hb=>(hf4 b hb).imp id (fun hh=>by have:=hm3.size;omega));rw [hI]
     have:=ho4.mod hm5 (fun b hb e=>by
       subst e;rcases hf4 b hb with h3 | h3
       · exact mT h3
       · have:=hm3.size;have e2:b < w2.drew.heap.size:=lm2;omega)
     simpa [itRow] using this
   · simp only [zb1,zb2,zb3,zb4,zb5] at hk2;obtain ⟨aF,cF,rfl,_⟩:=hh2.fr.val;obtain ⟨aW2,cW2,rfl,_⟩:=hh2.wt.val;obtain ⟨bW2,rfl,hfw2,hcw2⟩:=own_cell hh2.wt (i:=j) (by omega);have hcw2:w2.cell? ⟨bW2,j,none⟩=some (I M.last):=by
       have e:w2.cell? ⟨bW2,j,none⟩=(M.wait.map I)[j]?:=hcw2;rw [e,hlast,List.getElem?_map,List.getElem?_eq_getElem (by omega),List.getD_eq_getElem?_getD,List.getElem?_eq_getElem (by omega)];rfl
     have hl:=hh2.len;(try simp only [go_sem,simprocAttr,zb4,zb6,cell_of hb12,ptr,Value.cells,cell_of hc2,mcCells,b1,add_at,hcw2]);refine e_bx rfl ?_;intro w3 hb3 hm3 _;have k1:=hm3.old m lm2 (fun h=>h);have k2:=hm3.old w.heap.size lb2 (fun h=>h);(try simp only [go_sem,simprocAttr]);refine ⟨by simp only [drew_heap,k1,k2,and_self,implies_true],?_⟩;refine e_bs (by rfl) (by rfl) ?_;intro w4 hb4' hm4 _;have k3:=hm4.old m (by have:=hm3.size;exact Nat.lt_of_lt_of_le lm2 this) (fun h=>h);have k4:=hm4.old w.heap.size (by have:=hm3.size;exact Nat.lt_of_lt_of_le lb2 this) (fun h=>h);(try simp only [go_sem,simprocAttr]);refine ⟨by simp only [drew_heap,k3,k4,and_self,implies_true],?_⟩;have hm24:Mod (fun _=>False) w2.drew w4:=hm3.trans hm4;refine e_ap (m:=1) (news:=[ptr w2.drew.heap.size]) rfl (hh2.fr.mod hm24 (fun _ _ h=>h)) rfl (fun h=>by cases h) (rd_block (xs:=[ptr w2.drew.heap.size]) hb4') (by simp [Value.oneCell',ptr]) rfl (by omega) (by omega) ?_;intro v6 w6 ff6 ho6 hm6 hf6;obtain ⟨a6,c6,rfl,_⟩:=ho6.val;have hc4:=hm24.at hc2 (fun h=>h);have hc6:=hm6.at hc4 mF;have k6:=hm6.old w.heap.size (by have:=hm24.size;exact Nat.lt_of_lt_of_le lb2 this) bF;(try simp only [go_sem,simprocAttr]);refine ⟨by simp only [drew_heap,k6,and_self,implies_true],?_⟩;refine e_st1 (off:=10) rfl rfl hc6 rfl (by simp [mcCells]) ?_;intro w7 hb7 hm7 hs7;(try simp only [go_sem,simprocAttr]);have hmx:Mod (fun b=>ff2=some b∨b=m) w2.drew w7:=((hm24.weak (fun _ h=>h.elim)).step hm6 (fun b hb _=>.inl hb)).step hm7 (fun b hb _=>.inr hb);have hk4:w7.heap[w2.drew.heap.size]? = some (.cells (frCells (newFr M.last) (.slice none 0 0) (.slice none 0 0)).toArray 151 (0,0)):=by
       have q1:=hm4.at hb3 (fun h=>h);have q2:=hm6.at q1 (fun e=>own_kind (hh2.fr.mod hm24 (fun _ _ h=>h)) e q1 (by decide));exact hm7.at q2 (fun e=>by have e2:m < w2.drew.heap.size:=lm2;omega)
     have hop:=enter_done hh2 M.last (k':=w2.drew.heap.size) (Nat.le_refl _) hk4 hmx (by simpa [mcCells,Mc.enter] using hb7) (by
       have:=ho6.mod hm7 (fun b hb e=>by
         subst e;rcases hf6 b hb with h3 | h3
         · exact mF h3
         · have:=hm24.size;have e2:b < w2.drew.heap.size:=lm2;omega)
       simpa using this) (fun b hb=>(hf6 b hb).imp id (fun h3=>by have:=hm24.size;omega))
     refine fin_none (.inr rfl) (fun w' hm=>⟨_,rfl,?_⟩);have e:M.tell=M.enter M.last:=by
       unfold Mc.tell;rw [hA,if_neg (by omega)];unfold Mc.nv;rw [if_neg (by unfold Mc.ref;split<;>simp_all)]
     rw [e];exact ⟨_,MOp.boxed hm1 (MOp.boxed hm2d (hop.after hm))⟩
 · rintro ρ w5 ⟨r1,r2,r4,hk12,hop⟩;obtain ⟨Mt,hMt⟩:∃ Mt:Mc,Mt = { M with told:=M.told++[M.item A]}:=⟨_,rfl⟩;rw [← hMt] at hop;have hwt:Mt.wait=M.wait:=by rw [hMt]
   have htell:M.tell = { Mt with wait:=M.wait.take j++A.args.reverse,ended:=if (M.wait.take j++A.args.reverse).length=0 then 2 else Mt.ended}:=by
     unfold Mc.tell;rw [hA,if_pos hk12,hMt,show M.wait.length - 1=j by omega]
   obtain ⟨τ5,j1,hM5,j2⟩:=hop;have hb15:w5.heap[w.heap.size]? = _:=j2.at (b:=w.heap.size) hb12 (fun hh=>hh.1 noB);have hb45:w5.heap[b4]? = _:=j2.at (b:=b4) hb4 (fun hh=>hh.1 (no1 _ lb4));have t5:∀ b,b < w2.heap.size→τ5 b=newTag (newTag τ w .no) w1 .no b:=fun b hb=>j1 b hb
   have no5B:τ5 w.heap.size = .no:=by rw [t5 _ lb2];exact noB
   have no54:τ5 b4 = .no:=by rw [t5 _ lb42];exact no1 _ lb4
   have hM5d:=hM5.mod (Mod.refl (fun _=>False) w5).drew (ext_refl _ _).wx (fun _ _ h=>h.elim);obtain ⟨vG5,vF5,vW5,vT5,fg5,ff5,fw5,ft5,F5,hh5⟩:=hM5d;have hc5:w5.heap[m]? = _:=hh5.cells;have hwt5:=hh5.wt;rw [hwt] at hwt5;obtain ⟨aW5,cW5,rfl,hcW5,_⟩:=hwt5.val;have e2:(0:Int)≤j∧(j:Int)≤cW5:=by omega
   (try simp only [go_sem,simprocAttr,zb4,zb6,r1,r2,r4,cell_of hb15,ptr,Value.cells,cell_of hc5,mcCells,e2,sl_same]);refine e_st1 (off:=11) rfl rfl hc5 rfl (by simp [mcCells]) ?_;intro w6 hb6 hm6 hs6;have lm5:=lt_of_heap hc5;have mW5:fw5≠some m:=fun e=>by have:=hh5.tw _ e;rw [hh5.tm] at this;cases this
   have h6:=hh5.waits (M':={ Mt with wait:=M.wait.take j}) (l:=M.wait.take j) (v:=.slice aW5 j cW5) (ext_refl τ5 w5.drew).wx (hm6.weak (fun b hb=>.inr hb)) (by simpa [mcCells] using hb6) (by
     have:=(own_pre hwt5 (k:=j) (by omega)).mod hm6 (fun b hb hh=>by subst hh;exact mW5 hb);have el:(M.wait.take j).length=j:=by rw [List.length_take];omega
     rw [el,List.map_take]
     simpa using this) hh5.tw rfl rfl rfl rfl rfl rfl rfl
   have hb16:=hm6.at (b:=w.heap.size) hb15 (fun e=>by have:=hh5.tm;rw [← e,no5B] at this;cases this);have hb46:=hm6.at (b:=b4) hb45 (fun e=>by have:=hh5.tm;rw [← e,no54] at this;cases this);obtain ⟨fpA,hvA,hfA⟩:=hv4;have hvA2:=hvA.mod (Mod.refl (fun _=>False) w2).drew (fun _ _ h=>h);have hvA5:=hvA2.mod j2 (fun b hb hh=>hh.1 (no1 _ (hfA b hb)));have noA:∀ b,fpA=some b→τ5 b = .no:=fun b hb=>by rw [t5 _ (hvA.lt hb)];exact no1 _ (hfA b hb)
   have hvA6:=hvA5.mod hm6.of_drew (fun b hb e=>by have:=hh5.tm;rw [← e,noA b hb] at this;cases this);obtain ⟨va,vc,rfl,_⟩:=hvA6.val;(try simp only [go_sem,simprocAttr,cell_of hb46]);refine e_call (by rfl) ?_;refine (f_back w6 _).mono ?_;rintro _ w7 ⟨rfl,⟨T7,fz7,hb7⟩,hm7⟩;have h7:=h6.mod hm7 (newTag_ext τ5 w6 .no).wx (fun _ _ h=>h.elim);have hc7:=h7.cells;have hvA7:=hvA6.mod hm7 (fun _ _ h=>h);obtain ⟨bA,hbA1,hbA2,hbA3⟩:=back_own hvA7 (lt_of_heap hb7);have s67:=hm7.size;have t7:∀ b,b < w6.heap.size→newTag τ5 w6 .no b=τ5 b:=fun b hb=>newTag_ext τ5 w6 .no b hb
   have fsB:∀ b,(newTag τ5 w6 .no) b = .no→b≠m∧fw5≠some b:=fun b hb=>⟨(fun e=>by subst e;rw [h7.tm] at hb;cases hb),(fun e=>by rw [h7.tw b e] at hb;cases hb)⟩
   have nB:=fsB w6.heap.size (newTag_new (Nat.le_refl _));have nA:bA≠m∧fw5≠some bA:=by
     rcases hbA2 with e | e
     · rw [e];exact nB
     · exact fsB bA (by rw [t7 _ (hvA6.lt e)];exact noA _ e)
   have n1:w.heap.size≠m∧fw5≠some w.heap.size:=fsB _ (by rw [t7 _ (lt_of_heap hb16)];exact no5B);have hb17:=hm7.at hb16 (fun h=>h);have lm7:=lt_of_heap hc7;have lB7:=lt_of_heap hb7;have l17:=lt_of_heap hb17;refine ⟨2,A.args.length,153,#[ptr w6.heap.size],(fun j=>I (A.args.getD j 0)),KeepB w6.heap.size bA,(fun pre W=>Waits w7 m S { Mt with wait:=M.wait.take j} vG5 vF5 vT5 fw5 (pre.map (fun j=>A.args.getD j 0)) W),⟨rfl,(fun _ _=>rfl),?_,⟨rfl,rfl⟩,by omega,?_,?_,⟨⟨⟨.slice aW5 j cW5,fw5,?_,?_,fun b hb=>.inl hb⟩,Mod.refl _ _⟩,fun s=>Waits.quiet,?_⟩⟩,?_⟩
   · refine backints_stops Fence.wide 1 trivial rfl (by omega) w6.heap.size bA A.args.length (.slice va A.args.length vc) (fun j=>I (A.args.getD j 0)) w7 (by simpa [Value.cells] using cell_of hb7 (o:=0)) (lt_of_heap hb7) hbA3 (by omega)
   · intro A B C a b;exact ⟨b.1.trans a.1,b.2.trans a.2⟩
   · intro W l o o' hl ho hoc _;have hl1:l≠w6.heap.size:=fun e=>by omega
     have hl2:l≠bA:=fun e=>by omega
     exact ⟨World.putObj_heap_other (fun e=>hl1 e.symm),World.putObj_heap_other (fun e=>hl2 e.symm)⟩
   · exact hc7
   · simpa using h7.wt
   · rintro pre jj W ⟨⟨v,fs',p1,p2,p3⟩,p4⟩ hpl hjl;have p1':W.heap[m]? = _:=p1;have p4d:=p4.drew;have nfs':∀ b,b < w7.heap.size→fw5≠some b→fs'≠some b:=fun b hb hn e=>by
       rcases p3 b e with h1 | h1
       · exact hn h1
       · omega
     have hb1W:W.heap[w.heap.size]? = _:=p4.at hb17 (fun h=>by rcases h with h | h;exact n1.2 h;exact n1.1 h);obtain ⟨av,cv',rfl,_⟩:=p2.val;have sW:=p4.size;unfold ir79B1;(try simp only [go_sem,simprocAttr,cell_of hb1W,ptr,Value.cells,cell_of p1',mcCells]);refine e_bs (by rfl) (by rfl) ?_;intro W1 hB1 hM1 _;have q1:=hM1.old m (Nat.lt_of_lt_of_le lm7 sW) (fun h=>h);have q2:=hM1.old w.heap.size (Nat.lt_of_lt_of_le l17 sW) (fun h=>h);(try simp only [go_sem,simprocAttr]);refine ⟨by simp only [drew_heap,q1,q2,and_self,implies_true],?_⟩;refine e_ap (m:=1) (news:=[I (A.args.getD jj 0)]) rfl ((p2.mod (Mod.refl (fun _=>False) W).drew (fun _ _ h=>h)).mod hM1 (fun _ _ h=>h)) rfl (fun h=>by cases h) (rd_block (xs:=[I (A.args.getD jj 0)]) hB1) (oneI [A.args.getD jj 0]) rfl (by simp only [List.length_append,List.length_map,List.length_take];omega) (by simp only [List.length_append,List.length_map,List.length_take];omega) ?_;intro v2 W2 fs2 hO2 hM2 hF2;obtain ⟨a2,c2,rfl,_⟩:=hO2.val;have fsm:fs'≠some m:=fun e=>own_kind p2 e p1 (by decide)
     have q4:=hM2.old w.heap.size (by have:=hM1.size;exact Nat.lt_of_lt_of_le (Nat.lt_of_lt_of_le l17 sW) this) (nfs' _ l17 n1.2);have hC2:=hM2.at (hM1.at p1' (fun h=>h)) fsm;(try simp only [go_sem,simprocAttr]);refine ⟨by simp only [drew_heap,q4,and_self,implies_true],?_⟩;refine e_st1 (off:=11) rfl rfl hC2 rfl (by simp [mcCells]) ?_;intro W3 hB3 hM3 _;(try simp only [go_sem,simprocAttr]);have hX:Mod (fun b=>fs'=some b∨b=m) W W3:=(((hM1.of_drew).weak (fun _ h=>h.elim)).step hM2 (fun b hb _=>.inl hb)).step hM3 (fun b hb _=>.inr hb);refine ⟨keeps_of_mod hX (fun b hb o ho=>?_),keepB_of_mod hX (by omega) (by omega) (fun hh=>?_) (fun hh=>?_),⟨.slice a2 _ c2,fs2,by simpa [mcCells] using hB3,?_,fun b hb=>?_⟩,p4.step hX (fun b hb hl=>?_)⟩
     · rcases hb with hb | rfl
       · exact quiet_own_cells p2 hb ho
       · rw [p1] at ho;cases ho;rfl
     · rcases hh with hh | hh
       · exact nfs' _ (lt_of_heap hb7) nB.2 hh
       · exact nB.1 hh
     · rcases hh with hh | hh
       · exact nfs' _ hbA1 nA.2 hh
       · exact nA.1 hh
     · have:=hO2.mod hM3 (fun b hb e=>by
         subst e;rcases hF2 b hb with h3 | h3
         · exact fsm h3
         · have:=hM1.size;have e2:W.drew.heap.size=W.heap.size:=rfl;omega)
       simpa [Nat.add_assoc] using this
     · rcases hF2 b hb with h1 | h1
       · exact p3 b h1
       · have:=hM1.size;have e2:W.drew.heap.size=W.heap.size:=rfl
         right;omega
     · rcases hb with hb | hb
       · rcases p3 b hb with h1 | h1
         · exact .inl h1
         · omega
       · exact .inr hb
   · intro D W hD hI hDd;obtain ⟨⟨v,fs',p1,p2,p3⟩,p4⟩:=hI;rw [downto_rev] at p2;have p2:OwnS W 3 1 v ((M.wait.take j++A.args.reverse).map I) (M.wait.take j++A.args.reverse).length fs':=p2;generalize hll:M.wait.take j++A.args.reverse=ll at p2 htell;have hb1W:=p4.at hb17 (fun h=>by rcases h with h | h;exact n1.2 h;exact n1.1 h);obtain ⟨av,cv',rfl,_⟩:=p2.val;have lDm:D≠m:=fun e=>by subst e;rw [p1] at hDd;cases hDd
     have sW:=p4.size;have fsm:fs'≠some m:=fun e=>own_kind p2 e p1 (by decide)
     have fsD:fs'≠some D:=fun e=>by have:=quiet_own_cells p2 e hDd;cases this
     have fin:∀ (W1 w':World),W1.heap[m]? = some (.cells (mcCells S M.tell vG5 vF5 (.slice av ll.length cv') vT5).toArray 113 (0,0))→Mod (· = m) W W1→Mod (· = D) W1 w'→MOp w τ m S M.tell ks w':=by
       intro W1 w' hc1 hmm hmD;have hm7':Mod (fun b=>fw5=some b∨b=m) w7 w':=(p4.step hmm (fun b hb _=>.inr hb)).step hmD (fun b hb hl=>by omega);have ho:OwnS w' 3 1 (.slice av ll.length cv') (ll.map I) ll.length fs':=(p2.mod hmm (fun b hb e=>by subst e;exact fsm hb)).mod hmD (fun b hb e=>by subst e;exact fsD hb);have hX:=h7.waits (M':=M.tell) (l:=ll) (newTag_ext _ w7 .wt).wx hm7' (hmD.at hc1 (fun e=>lDm e.symm)) ho (is_new h7.tw (fun b hb=>h7.wt.lt hb) p3) (by rw [htell]) (by rw [htell]) (by rw [htell]) (by rw [htell]) (by rw [htell]) (by rw [htell]) (by rw [htell])
       have hop7:MOp w7 (newTag τ5 w6 .no) m S M.tell ks w':=⟨_,newTag_ext _ w7 .wt,⟨_,_,_,_,_,_,_,_,_,hX⟩,hm7'.weak (fun b hb=>by
         rcases hb with hb | rfl
         · rw [h7.tw b hb];simp [Tg.own]
         · rw [h7.tm];simp [Tg.own])⟩
       refine MOp.boxed hm1 (MOp.boxed hm2d (MOp.cat j1 (j2.step hm6.of_drew (fun b hb hl=>?_)) (MOp.boxed hm7 hop7)));subst hb;rw [hh2.tm];simp [Tg.own]
     have hzl:((ll.length:Int) == 0)=decide (ll.length=0):=by
       by_cases h0:ll.length=0
       · simp [h0]
       · simp [h0]
     (try simp only [go_sem,simprocAttr]);(try simp only [go_sem,simprocAttr,cell_of hb1W,ptr,Value.cells,cell_of p1,mcCells,hzl]);refine ir_cond rfl (fun hz=>?_) (fun hz=>?_)
     · simp only [zb1,zb2,zb3,zb4,zb5] at hz;rw [if_pos hz] at htell;(try simp only [go_sem,simprocAttr,cell_of hb1W,ptr,Value.cells]);refine e_st1 (off:=15) rfl rfl p1 rfl (by simp [mcCells]) ?_;intro W1 hB1 hM1 _;(try simp only [go_sem,simprocAttr]);exact fin_one (.inl rfl) (hM1.at hDd (fun e=>lDm e)) (fun w' hm=>⟨_,rfl,_,fin W1 w' (by rw [htell];simpa [mcCells] using hB1) hM1 hm⟩)
     · simp only [zb1,zb2,zb3,zb4,zb5] at hz;rw [if_neg hz] at htell;(try simp only [go_sem,simprocAttr]);exact fin_one (.inl rfl) hDd (fun w' hm=>⟨_,rfl,_,fin W w' (by rw [htell];exact p1) (Mod.refl _ _) hm⟩)
end
end
section
open Go Go.W
theorem m_add' {w:World} {τ:Tag} {m:Nat} {S:SV} {M:Mc} {ks:List Nat} {vG vF vW vT:Value} {fg ff fw ft:Option Nat} {F:Nat→Prop} (h:MIn w τ m S M vG vF vW vT fg ff fw ft F ks) (ho:M.st.Ok) {nd:Nd} {v:Value} (hm:nd.may=true) (hp:okPl M.st.ns.length nd.args=true) (hv:Ints w v nd.args) (hr:(M.st.ns.length:Int) < M.st.size) :
   CallsR Tryz.prog 116 [ptr m,I nd.kind,I nd.num,v] w fun r w'=>r=I M.st.ns.length∧∃ F',MIn w' (stTag τ w F') m S { M with st:=M.st.add nd} vG vF vW vT fg ff fw ft F' ks∧Mod F w w':=by
 have hc:=h.cells;obtain ⟨a,c,rfl,hvl,hvx⟩:=hv;refine fit116.calls rfl ?_;unfold ir116 ptr;(try simp only [go_sem,simprocAttr,cell_of hc,mcCells]);refine s_add (nd:=nd) (v:=.slice a nd.args.length c) rfl rfl h.st ho hm hp ⟨a,c,rfl,hvl,hvx⟩ ?_ (fun e=>by omega);intro _ w1 F1 hs1 hg1;(try simp only [go_sem,simprocAttr]);exact ⟨F1,h.store (s:=M.st.add nd) hg1 hs1 rfl,hg1.1⟩
theorem MIn.ownF {w:World} {τ:Tag} {m:Nat} {S:SV} {M:Mc} {ks:List Nat} {vG vF vW vT:Value} {fg ff fw ft:Option Nat} {F:Nat→Prop} (h:MIn w τ m S M vG vF vW vT fg ff fw ft F ks):∀ b,F b→(τ b).own:=fun b hb=>by rw [h.tF b hb];simp [Tg.own]
theorem MOp.of_drew {w w':World} {τ:Tag} {m:Nat} {S:SV} {M':Mc} {ks:List Nat} (h:MOp w.drew τ m S M' ks w'):MOp w τ m S M' ks w':=by
 obtain ⟨τ',h1,h2,h3⟩:=h;exact ⟨τ',h1,h2,Mod.of_drew h3⟩
theorem frm_own {t:Tg} {i:Nat} (h:t.frm i):t.own:=by rcases h with h | h | h<;>rw [h]<;>simp [Tg.own]
section
variable {w:World} {τ:Tag} {m:Nat} {S:SV} {M:Mc} {ks:List Nat} {k:Nat} {x:Ins} {n:Int}
theorem x_lacks (hT:TopAt w τ m S M ks k) (hM:MOk n M) (he:M.ended=0) (href:M.st.kd≠.ref) (hfl:M.frames.length≤4294967295) (hwl:M.wait.length≤4294967295) (hR:M.roots.length≤17592186044416) :
   CallsR Tryz.prog 138 [ptr m,ptr k] w fun _ w'=>∃ ks',MOp w τ m S M.lacks ks' w':=by
 obtain ⟨vG,vF,vW,vT,fg,ff,fw,ft,F,hh⟩:=id hT.at';have hc:=hh.cells;have hl:=hh.len;have hp:=hT.pos;obtain ⟨aF,cF,rfl,_⟩:=hh.fr.val;obtain ⟨aT,cT,rfl,_⟩:=hh.tl.val;have hRn:M.roots≠[]:=fun e=>by
   have:=stands_root (M:=M) hp;rw [e] at this;cases this
 refine fit138.calls rfl ?_;unfold ir138;(try simp only [go_sem,simprocAttr,cell_of hc,mcCells,ptr]);refine ir_cond rfl (fun hf=>?_) (fun hf=>?_)
 · have hf:M.frames.length > 1:=by
     simp only [zb1,zb2,zb3,zb4,zb5] at hf;omega
   (try simp only [go_sem,simprocAttr]);refine e_call (by rfl) ?_;refine (m_leave hT.at' hp (by omega)).mono ?_;intro _ w1 hop;(try simp only [go_sem,simprocAttr]);unfold Mc.lacks;rw [if_pos hf];exact ⟨_,hop⟩
 have hf:¬ M.frames.length > 1:=by
   simp only [zb1,zb2,zb3,zb4,zb5] at hf;omega
 unfold Mc.lacks;rw [if_neg hf];(try simp only [go_sem,simprocAttr,cell_of hc,mcCells]);refine wpS_cut (fun ρ w'=>w=w'∧ρ.get 0=some (ptr m)∧ρ.get 1=some (ptr k)∧ρ.get 15=some (.bool (decide (M.given=true∨M.told.length > 0)))) ?_ ?_
 · cases hg:M.given<;>cases ht:decide (((M.told.length:Nat):Int) > 0)<;>(try simp only [go_sem,simprocAttr,cell_of hc,mcCells,hg,ht])<;>(simp only [zb1,zb2,zb3,zb4,zb5] at ht;simp [hg,ht];try first | omega | exact List.eq_nil_of_length_eq_zero (by omega))
 rintro ρ _ ⟨rfl,r0,r1,r15⟩;(try simp only [go_sem,simprocAttr,r0,r1,r15]);refine ir_cond rfl (fun hg=>?_) (fun hg=>?_)
 · simp only [zb1,zb2,zb3,zb4,zb5] at hg;rw [if_pos hg];(try simp only [go_sem,simprocAttr]);refine e_call (by rfl) ?_;refine (m_fail hT.at' 5).mono ?_;intro _ w1 hop;(try simp only [go_sem,simprocAttr]);exact ⟨_,hop⟩
 simp only [zb1,zb2,zb3,zb4,zb5] at hg;rw [if_neg hg];(try simp only [go_sem,simprocAttr]);refine e_call (by rfl) ?_;refine (m_room hT.at' hM.g.st href (n:=2) ⟨by omega,by omega⟩ hM.base hM.young hR hRn).mono ?_;rintro _ w1 ⟨rfl,hop⟩;(try simp only [go_sem,simprocAttr]);refine ir_cond rfl (fun hr=>?_) (fun hr=>?_)
 · rw [if_pos hr];obtain ⟨k1,k2⟩:=hM.room (by omega) hr;obtain ⟨e1,e2,e3,e5,e6,_,g,e4⟩:=room_keeps M 2 hr;have hwp:0 < (M.room 2).2.wait.length:=by rw [e2];exact hM.wpos he
   generalize (M.room 2).2=M1 at *;obtain ⟨τ1,j1,j2,hT1⟩:=hop.top e1 hp hT.hk;obtain ⟨vG1,vF1,vW1,vT1,fg1,ff1,fw1,ft1,F1,h1⟩:=id hT1.at';have hc1:=h1.cells;(try simp only [go_sem,simprocAttr]);refine e_st1 (off:=12) rfl rfl hc1 rfl (by simp [mcCells]) ?_;intro w2 hb2 hm2 _;obtain ⟨M2,hM2⟩:∃ M2:Mc,M2 = { M1 with given:=true}:=⟨_,rfl⟩;have u1:M2.wait=M1.wait:=by rw [hM2]
   have u2:M2.st=M1.st:=by rw [hM2]
   have u3:M2.frames=M1.frames:=by rw [hM2]
   have u4:M2.last=M1.last:=by rw [hM2];rfl
   have h2:=h1.scal (M':=M2) hm2 (by rw [hM2];simpa [mcCells] using hb2) (by rw [hM2]) u3 u1 (by rw [hM2]) u2 (by rw [hM2]) (by rw [hM2]);have hc2:=h2.cells;obtain ⟨j,hj⟩:∃ j:Nat,j+1=M2.wait.length:=⟨M2.wait.length - 1,by rw [u1];omega⟩;have hwl2:M2.wait.length≤4294967295:=by rw [u1];omega
   obtain ⟨aW,cW,hvW,_⟩:=h2.wt.val;have q1:IntKind.i64.wrap ((M2.wait.length:Int) - 1)=j:=by rw [wrap_in (by omega) (by omega)];omega
   have hroom:(M2.st.ns.length:Int)+2≤M2.st.size:=by rw [u2];exact k2
   have hok2:M2.st.Ok:=by rw [u2];exact k1.g.st
   (try simp only [go_sem,simprocAttr,cell_of hc2,mcCells,hvW,q1]);refine e_call (by rfl) ?_;refine (m_add' (nd:=⟨8,0,[]⟩) h2 hok2 rfl rfl (ints_nil _) (by omega)).mono ?_;rintro _ w3 ⟨rfl,F3,h3,hm3⟩;have hc3:=h3.cells;obtain ⟨bW,hbW,hfw,hcellW⟩:=own_cell (hvW ▸ h3.wt) (i:=j) (by show j < M2.wait.length;omega);have hcellW:w3.cell? ⟨bW,j,none⟩=some (I M2.last):=by
     rw [hcellW];show (M2.wait.map I)[j]? = _;unfold Mc.last;rw [List.getElem?_map,List.getElem?_eq_getElem (by omega),List.getD_eq_getElem?_getD,show M2.wait.length - 1=j by omega,List.getElem?_eq_getElem (by omega)];rfl
   subst hbW;have b1:(0:Int)≤j∧(j:Int) < M2.wait.length:=by omega
   have hc3':w3.heap[m]? = some (.cells (mcCells S { M2 with st:=M2.st.add ⟨8,0,[]⟩} vG1 vF1 vW1 vT1).toArray 113 (0,0)):=hc3;(try simp only [go_sem,simprocAttr,zb4,zb6,cell_of hc3',mcCells,hvW,b1,add_at,hcellW]);obtain ⟨M3,hM3⟩:∃ M3:Mc,M3 = { M2 with st:=M2.st.add ⟨8,0,[]⟩}:=⟨_,rfl⟩;rw [← hM3] at h3;have s3:M3.st=M2.st.add ⟨8,0,[]⟩:=by rw [hM3]
   have s3l:M3.st.ns.length=M2.st.ns.length+1:=by rw [s3,len_add]
   have s3z:M3.st.size=M2.st.size:=by rw [s3];rfl
   have s3w:M3.wait=M2.wait:=by rw [hM3]
   have g3:GOk M1.tab M3.st:=by rw [s3,u2];exact k1.g.add' (nd:=⟨8,0,[]⟩) rfl (by decide) (fun a ha=>by cases ha) (by omega)
   have lin:M2.st.In M2.last:=by rw [u2,u4];exact k1.wts _ (last_mem hwp)
   have h3d:=h3.mod (Mod.refl (fun _=>False) w3).drew (ext_refl _ _).wx (fun _ _ h=>h.elim);refine e_bs (by rfl) (by rfl) ?_;intro w4 hb4 hm4 _;have l3:m < w3.drew.heap.size:=lt_of_heap hc3';have km4:=hm4.old m l3 (fun h=>h);(try simp only [go_sem,simprocAttr]);refine ⟨km4,?_⟩;have h4:=h3d.mod hm4 (newTag_ext _ w3.drew .no).wx (fun _ _ h=>h.elim);refine e_call (by rfl) ?_;refine (m_add' (nd:=⟨3,0,[M2.last,M2.st.ns.length]⟩) h4 g3.st rfl (okPl_of (fun a ha=>?_)) (ints_blk (xs:=[M2.last,(M2.st.ns.length:Int)]) hb4 (by simp)) (by omega)).mono ?_
   · simp only [List.mem_cons,List.not_mem_nil,or_false] at ha;rcases ha with rfl | rfl
     · have:=lin.2;exact ⟨lin.1,by omega⟩
     · omega
   rintro _ w5 ⟨rfl,F5,h5,hm5⟩;have km5:=hm5.old m (by have:=hm4.size;omega) (fun e=>by have:=h4.tF m e;rw [h4.tm] at this;cases this);(try simp only [go_sem,simprocAttr]);refine ⟨km5,?_⟩;obtain ⟨M4,hM4⟩:∃ M4:Mc,M4 = { M3 with st:=M3.st.add ⟨3,0,[M2.last,M2.st.ns.length]⟩}:=⟨_,rfl⟩;rw [← hM4] at h5;have s4w:M4.wait=M2.wait:=by rw [hM4];exact s3w
   have hwt5:=h5.wt;rw [s4w,hvW] at hwt5;obtain ⟨b',c',cs,e',hfw',hb',hcs,_,hset⟩:=own_set hwt5 (i:=j) (by omega);cases e';refine e_st1 (off:=j) rfl rfl hb' rfl hcs ?_;intro w6 hb6 hm6 _;have hW6:=hset w6 _ hb6;have hwm:bW≠m:=fun e=>by have:=h5.tw _ hfw';rw [e,h5.tm] at this;cases this
   have h6:=h5.waits (M':={ M4 with wait:=M2.wait.set j (M3.st.ns.length:Int)}) (l:=M2.wait.set j (M3.st.ns.length:Int)) (v:=vW1) (ext_refl _ w5).wx (hm6.weak (fun b hb=>by subst hb;exact .inl hfw')) (by rw [hvW] at h5 ⊢;exact hm6.at h5.cells (fun e=>hwm e.symm))
     (by rw [hvW,List.length_set];exact hW6) h5.tw rfl rfl rfl rfl rfl rfl rfl
   obtain ⟨M6,hM6⟩:∃ M6:Mc,M6 = { M4 with wait:=M2.wait.set j (M3.st.ns.length:Int)}:=⟨_,rfl⟩;rw [← hM6] at h6;have hc6:=h6.cells;have hw6:M6.wait=M2.wait.set j (M3.st.ns.length:Int):=by rw [hM6]
   have hf6:M6.frames=M1.frames:=by rw [hM6,hM4,hM3,hM2]
   have ht6:M6.top=M1.top:=by unfold Mc.top;rw [hf6]
   have hwt6:=h6.wt;rw [hvW,hw6,List.length_set] at hwt6;obtain ⟨bW6,e6,_,hcell6⟩:=own_cell hwt6 (i:=j) (by omega);cases e6;have hcell6:w6.cell? ⟨bW,j,none⟩=some (I M3.st.ns.length):=by
     rw [hcell6,List.getElem?_map,List.getElem?_set_self (by omega)];rfl
   obtain ⟨vs6,vp6,fs6,fp6,hF6⟩:FrAt w6 _ (M1.frames.length - 1) k M1.top:=h6.frs _ _ _ hT1.hk (by rw [hf6];exact top_get hT1.pos);have hcf6:=hF6.cells;(try simp only [go_sem,simprocAttr,zb4,zb6,cell_of hc6,mcCells,hvW,b1,add_at,hcell6,cell_of hcf6,frCells]);refine e_st1 (off:=5) rfl rfl hcf6 rfl (by simp [frCells]) ?_;intro w7 hb7 hm7 _;(try simp only [go_sem,simprocAttr]);refine e_st1 (off:=4) rfl rfl hb7 rfl (by simp [frCells]) ?_;intro w8 hb8 hm8 _;(try simp only [go_sem,simprocAttr]);obtain ⟨τ8,r1,r2,r3⟩:=fr_spine (f':={ M1.top with stands:=(M3.st.ns.length:Int),spine:=[]}) hF6 (OwnS.nil w6 3 1) rfl (by simpa [frCells] using hb8) (Mod.refl _ w6) (hm7.trans hm8) (fun b hb=>by cases hb);have hfin:=h6.frame hT1.hk r3 r1.wx r2;have hl2:M1.lacks2 = { M6 with frames:=M6.frames.set (M1.frames.length - 1) { M1.top with stands:=(M3.st.ns.length:Int),spine:=[]}}:=by
     unfold Mc.lacks2;rw [hM6,hM4,s3,u4,u2,show M1.wait.length - 1=j by rw [← u1];omega,hM3,hM2];simp [Mc.setTop,len_add]
   rw [hl2];have k6:MOp w6 _ m S _ ks w8:=⟨τ8,r1,⟨_,_,_,_,_,_,_,_,_,hfin⟩,r3.weak (fun b hb=>frm_own hb)⟩;have k5:=MOp.cat (ext_refl _ w5) (hm6.weak (fun b hb=>by subst hb;rw [h5.tw _ hfw'];simp [Tg.own])) k6;have k4:=MOp.cat (stTag_ext _ w4 F5) (hm5.weak h4.ownF) k5;have k3:=(MOp.boxed hm4 k4).of_drew;have k2':=MOp.cat (stTag_ext _ w2 F3) (hm3.weak h2.ownF) k3;have k1':=MOp.cat (ext_refl _ w1) (hm2.weak (fun b hb=>by subst hb;rw [h1.tm];simp [Tg.own])) k2';exact ⟨_,MOp.cat j1 j2 k1'⟩
 · rw [if_neg (by simpa using hr)];(try simp only [go_sem,simprocAttr]);exact ⟨_,hop⟩
end
end
section
open Go Go.W
section
variable {w:World} {τ:Tag} {m:Nat} {S:SV} {M:Mc} {ks:List Nat} {k:Nat} {x:Ins} {n:Int}
theorem x_read (hT:TopAt w τ m S M ks k) (hM:MOk n M) (href:M.st.kd≠.ref) (h8:(M.st.nd M.top.stands).kind=8) (hR:M.roots.length≤17592186044416) :
   CallsR Tryz.prog 140 [ptr m,ptr k,I (M.st.nd M.top.stands).num] w fun _ w'=>MOp w τ m S (M.read M.top (M.st.nd M.top.stands).num) ks w':=by
 have hp:=hT.pos;have hG:=hM.topG hp;have hnd:=hM.g.nd hG.sd;have hnum:=((may_kind hnd.1).2.2.2.2.1 h8).2;obtain ⟨vG,vF,vW,vT,fg,ff,fw,ft,F,hh⟩:=id hT.at';obtain ⟨vs,vp,fs,fp,hF⟩:=hT.fr;have hc:=hh.cells;have hcf:=hF.cells;have hinp:=hh.inp;obtain ⟨aI,cI,hvI,hIl,_⟩:=id hinp;have hRn:M.roots≠[]:=fun e=>by
   have:=stands_root (M:=M) hp;rw [e] at this;cases this
 obtain ⟨q,hq⟩:∃ q:Nat,(M.st.nd M.top.stands).num=q:=⟨(M.st.nd M.top.stands).num.toNat,by omega⟩;rw [hq];refine fit140.calls rfl ?_;unfold ir140;(try simp only [go_sem,simprocAttr,cell_of hc,mcCells,hvI,ptr]);refine ir_cond rfl (fun hk=>?_) (fun hk=>?_)
 · simp only [zb1,zb2,zb3,zb4,zb5] at hk;have hk:(q:Int)≥M.input.length:=hk;unfold Mc.read;rw [if_pos hk];(try simp only [go_sem,simprocAttr,cell_of hcf,frCells]);refine e_call (by rfl) ?_;refine (m_over hT.at' hM.g.st hM.g.ends hG.sd).mono ?_;rintro _ w1 ⟨v1,rfl,hv1,hm1⟩;(try simp only [go_sem,simprocAttr]);refine e_al ?_;intro w2 hb2 hm2 _;refine e_sta (cs:=[I 0,I 0,.slice none 0 0]) rfl rfl hb2 rfl rfl (node_one hv1 _ _) ?_;intro w3 hb3 hm3 _;have s1:=hm1.size;have hm03:Mod (fun _=>False) w w3:=(hm1.trans hm2).step hm3 (fun x hx hl=>by subst hx;omega);have h3:=hh.mod hm03 (newTag_ext τ w .no).wx (fun _ _ h=>h.elim);have hc3:=h3.cells;obtain ⟨ti,ui,hsv⟩:=h3.st.iface;(try simp only [go_sem,simprocAttr,cell_of hc3,mcCells]);refine s_set (p:=(M.st.ov M.top.stands:Int)) (nd:=⟨2,3,[]⟩) (by rfl) (by rfl) h3.st hM.g.st ⟨by omega,by have:=hM.g.ov hG.sd;omega⟩ rfl rfl (ints_nil _) ?_;intro w4 F4 hst4 hg4;(try simp only [go_sem,simprocAttr]);rw [Int.toNat_natCast] at hst4;have h4:=h3.store (s:=M.st.set (M.st.ov M.top.stands) ⟨2,3,[]⟩) hg4 hst4 rfl;exact MOp.boxed hm03 ⟨_,stTag_ext _ w3 F4,⟨_,_,_,_,_,_,_,_,_,h4⟩,hg4.1.weak h3.ownF⟩
 simp only [zb1,zb2,zb3,zb4,zb5] at hk;have hk:¬ (q:Int)≥M.input.length:=hk;unfold Mc.read;rw [if_neg hk];(try simp only [go_sem,simprocAttr]);refine e_call (by rfl) ?_;refine (m_room hT.at' hM.g.st href (n:=2) ⟨by omega,by omega⟩ hM.base hM.young hR hRn).mono ?_;rintro _ w1 ⟨rfl,hop⟩;(try simp only [go_sem,simprocAttr]);refine ir_cond rfl (fun hr=>?_) (fun hr=>?_)
 · rw [if_pos hr];obtain ⟨k1,k2⟩:=hM.room (by omega) hr;obtain ⟨e1,e2,e3,e5,e6,_,g,e4⟩:=room_keeps M 2 hr;have h8':((M.room 2).2.st.nd (M.room 2).2.top.stands).kind=8:=by rw [hM.room_kind hp (by omega) hr];exact h8
   generalize (M.room 2).2=M1 at *;obtain ⟨τ1,j1,j2,hT1⟩:=hop.top e1 hp hT.hk;obtain ⟨vs1,vp1,fs1,fp1,hF1⟩:=hT1.fr;have hcf1:=hF1.cells;have hG1:=k1.topG hT1.pos;have hqi:q < M1.input.length:=by rw [e6];omega
   have hnumq:isNum (M1.input.getD q 0):=k1.inp _ (getD_mem hqi);have o1:(⟨1,M1.input.getD q 0,[]⟩:Nd).may=true:=may_int hnumq;have o2:(⟨8,(q:Int)+1,[]⟩:Nd).may=true:=by simp [Nd.may,mayB];omega
   have g1:=k1.g.add' (nd:=⟨1,M1.input.getD q 0,[]⟩) o1 (by simp) (fun a ha=>by cases ha) (by omega);have g2:=g1.add' (nd:=⟨8,(q:Int)+1,[]⟩) o2 (by simp) (fun a ha=>by cases ha) (by rw [len_add];show ((M1.st.ns.length+1:Nat):Int) < M1.st.size;omega);(try simp only [go_sem,simprocAttr,cell_of hcf1,frCells]);refine e_call (by rfl) ?_;refine (m_over hT1.at' k1.g.st k1.g.ends hG1.sd).mono ?_;rintro _ w2 ⟨v1,rfl,hv1,hm2⟩;(try simp only [go_sem,simprocAttr]);refine e_al ?_;intro w3 hb3 hm3 _;refine e_sta (cs:=[I 0,I 0,.slice none 0 0]) rfl rfl hb3 rfl rfl (node_one hv1 _ _) ?_;intro w4 hb4 hm4 _;have s1:=hm2.size;have hm14:Mod (fun _=>False) w1 w4:=(hm2.trans hm3).step hm4 (fun x hx hl=>by subst hx;omega);have hT4:=hT1.later hm14;obtain ⟨vG4,vF4,vW4,vT4,fg4,ff4,fw4,ft4,F4,h4⟩:=id hT4.at';have hc4:=h4.cells;obtain ⟨aI',cI',e',hIl',hcI⟩:=id h4.inp;obtain ⟨ad,rfl,hcI⟩:=hcI q hqi;have hcI:w4.cell? (ad.add q)=some (I (M1.input.getD q 0)):=by rw [show M1.input.getD q 0=M1.input[q] by rw [List.getD_eq_getElem?_getD,List.getElem?_eq_getElem hqi];rfl];assumption
   have b1:(0:Int)≤q∧(q:Int) < M1.input.length:=by omega
   (try simp only [go_sem,simprocAttr,zb4,zb6,cell_of hc4,mcCells,e',b1,hcI]);refine e_call (by rfl) ?_;refine (m_add' (nd:=⟨1,M1.input.getD q 0,[]⟩) h4 k1.g.st o1 rfl (ints_nil _) (by omega)).mono ?_;rintro _ w5 ⟨rfl,F5,h5,hm5⟩;have eq1:IntKind.i64.wrap ((q:Int)+1)=(q:Int)+1:=wrap_in (by omega) (by omega);(try simp only [go_sem,simprocAttr,eq1]);refine e_call (by rfl) ?_;refine (m_add' (nd:=⟨8,(q:Int)+1,[]⟩) h5 g1.st o2 rfl (ints_nil _) (by show ((M1.st.add _).ns.length:Int) < M1.st.size;rw [len_add];omega)).mono ?_;rintro _ w6 ⟨rfl,F6,h6,hm6⟩;have hc6:=h6.cells;(try simp only [go_sem,simprocAttr,cell_of hc6,mcCells]);refine e_bs (by rfl) (by rfl) ?_;intro w7 hb7 hm7 _;have h7:=h6.mod hm7 (newTag_ext _ w6 .no).wx (fun _ _ h=>h.elim);have el:(((M1.st.add ⟨1,M1.input.getD q 0,[]⟩).ns.length:Nat):Int)=(M1.st.ns.length:Int)+1:=by rw [len_add];rfl
   rw [el] at hb7 ⊢;refine ⟨_,rfl,?_⟩;have hov:=k1.g.ov hG1.sd;refine s_set (p:=(M1.st.ov M1.top.stands:Int)) (nd:=⟨2,4,[(M1.st.ns.length:Int),(M1.st.ns.length:Int)+1]⟩) (v:=.slice (some ⟨w6.heap.size,0,none⟩) 2 2) (by rfl) (by rfl) h7.st g2.st ⟨by omega,?_⟩ rfl (okPl_of (fun a ha=>?_)) (ints_blk (xs:=[(M1.st.ns.length:Int),(M1.st.ns.length:Int)+1]) hb7 (by simp)) ?_
   · show (M1.st.ov M1.top.stands:Int) < (((M1.st.add ⟨1,M1.input.getD q 0,[]⟩).add ⟨8,(q:Int)+1,[]⟩).ns.length:Int);rw [len_add,len_add];omega
   · show 0≤a∧a < (((M1.st.add ⟨1,M1.input.getD q 0,[]⟩).add ⟨8,(q:Int)+1,[]⟩).ns.length:Int);rw [len_add,len_add];simp only [List.mem_cons,List.not_mem_nil,or_false] at ha;rcases ha with rfl | rfl<;>omega
   intro w8 F8 hst8 hg8;(try simp only [go_sem,simprocAttr]);rw [Int.toNat_natCast] at hst8;have h8f:=h7.store (s:=M1.st.add ⟨1,M1.input.getD q 0,[]⟩ |>.add ⟨8,(q:Int)+1,[]⟩ |>.set (M1.st.ov M1.top.stands) ⟨2,4,[(M1.st.ns.length:Int),(M1.st.ns.length:Int)+1]⟩) hg8 hst8 rfl;have e2:M1.read2 (q:Int) = { M1 with st:=M1.st.add ⟨1,M1.input.getD q 0,[]⟩ |>.add ⟨8,(q:Int)+1,[]⟩ |>.set (M1.st.ov M1.top.stands) ⟨2,4,[(M1.st.ns.length:Int),(M1.st.ns.length:Int)+1]⟩}:=rfl;rw [e2];have t7:MOp w7 _ m S _ ks w8:=⟨_,stTag_ext _ w7 F8,⟨_,_,_,_,_,_,_,_,_,h8f⟩,hg8.1.weak h7.ownF⟩;have t6:=MOp.boxed hm7 t7;have t5:=MOp.cat (stTag_ext _ w5 F6) (hm6.weak h5.ownF) t6;have t4:=MOp.cat (stTag_ext _ w4 F5) (hm5.weak h4.ownF) t5;exact MOp.cat j1 j2 (MOp.boxed hm14 t4)
 · rw [if_neg (by simpa using hr)];(try simp only [go_sem,simprocAttr]);exact hop
end
end
section
open Go Go.W
section
variable {w:World} {τ:Tag} {m:Nat} {S:SV} {M:Mc} {ks:List Nat} {k:Nat} {x:Ins} {n:Int}
theorem x_unwind (hT:TopAt w τ m S M ks k) (hM:MOk n M) (he:M.ended=0) (href:M.st.kd≠.ref) (hfl:M.frames.length≤4294967295) (hwl:M.wait.length≤4294967295) (hsl:M.top.spine.length≤4294967294) (hR:M.roots.length≤17592186044416) :
   CallsR Tryz.prog 81 [ptr m,ptr k] w fun _ w'=>∃ ks',MOp w τ m S (M.unwind M.top) ks' w':=by
 have hp:=hT.pos;have hG:=hM.topG hp;have hnd:=hM.g.nd hG.sd;have hmk:=may_kind hnd.1;obtain ⟨vs,vp,fs,fp,hF⟩:=hT.fr;have hcf:=hF.cells;refine fit81.calls rfl ?_;unfold ir81;(try simp only [go_sem,simprocAttr,cell_of hcf,frCells,ptr]);refine e_call (by rfl) ?_;refine (m_over hT.at' hM.g.st hM.g.ends hG.sd).mono ?_;rintro _ w1 ⟨v1,rfl,hv1,hm1⟩;(try simp only [go_sem,simprocAttr]);refine e_al ?_;intro w2 hb2 hm2 _;refine e_sta (cs:=[I 0,I 0,.slice none 0 0]) rfl rfl hb2 rfl rfl (node_one hv1 _ _) ?_;intro w3 hb3 hm3 _;have s1:=hm1.size;have hm13:Mod (fun _=>False) w1 w3:=hm2.step hm3 (fun x hx hl=>by subst hx;omega);have hm03:Mod (fun _=>False) w w3:=hm1.trans hm13;have hT3:=hT.later hm03;obtain ⟨vs3,vp3,fs3,fp3,hF3⟩:=hT3.fr;have hcf3:=hF3.cells;obtain ⟨vG,vF,vW,vT,fg,ff,fw,ft,F,hh⟩:=id hT3.at';have hc:=hh.cells;have lift:∀ {M':Mc} {f:Nat} {vs:List Value},CallsR Tryz.prog f vs w3 (fun _ w'=>MOp w3 (newTag τ w .no) m S M' ks w')→CallsR Tryz.prog f vs w3 (fun _ w'=>∃ ks',MOp w τ m S M' ks' w'):=fun hh=>hh.mono (fun _ _ h=>⟨_,MOp.boxed hm03 h⟩)
 have lift2:∀ {M':Mc} {f:Nat} {vs:List Value},CallsR Tryz.prog f vs w3 (fun _ w'=>∃ ks',MOp w3 (newTag τ w .no) m S M' ks' w')→CallsR Tryz.prog f vs w3 (fun _ w'=>∃ ks',MOp w τ m S M' ks' w'):=fun hh=>hh.mono (fun _ _ ⟨a,h⟩=>⟨a,MOp.boxed hm03 h⟩)
 obtain ⟨fpA,hvA,hfA⟩:=hv1;obtain ⟨va,vc,rfl,_⟩:=hvA.val;have hb3':=hb3;unfold Mc.unwind;(try simp only [go_sem,simprocAttr,cell_of hb3]);refine ir_cond rfl (fun hk=>?_) (fun hk=>?_)
 · simp only [zb1,zb2,zb3,zb4,zb5] at hk;rw [if_pos hk];obtain ⟨aP,cP,rfl,hcP,_⟩:=hF3.spine.val;(try simp only [go_sem,simprocAttr,cell_of hcf3,frCells]);refine e_bs (by rfl) (by rfl) ?_;intro w4 hb4 hm4 _;(try simp only [go_sem,simprocAttr]);refine e_ap (m:=1) (news:=[I (M.st.ov M.top.stands)]) rfl (hF3.spine.mod hm4 (fun _ _ h=>h)) rfl (fun h=>by cases h) (rd_block (xs:=[I (M.st.ov M.top.stands)]) hb4) (oneI [(M.st.ov M.top.stands:Int)]) rfl (by omega) (by omega) ?_;intro v5 w5 fp5 ho5 hm5 hf5;obtain ⟨a1,a2,a3⟩:=fr_apart hF3;have hc5:=hm5.at (hm4.at hcf3 (fun h=>h)) (fun e=>a2 e);obtain ⟨av5,cv5,rfl,_⟩:=ho5.val;(try simp only [go_sem,simprocAttr]);refine e_st1 (off:=4) rfl rfl hc5 rfl (by simp [frCells]) ?_;intro w6 hb6 hm6 _;have l3:k < w3.heap.size:=hF3.lt.1;have hN3:newTag τ w .no w1.heap.size = .no:=newTag_new (by omega);have nk:w1.heap.size≠k:=fun e=>by have:=hF3.tk;rw [← e,hN3] at this;cases this
   have nfp:fp3≠some w1.heap.size:=fun e=>by have:=hF3.tp _ e;rw [hN3] at this;cases this
   have hb36:=hm6.at (hm5.at (hm4.at hb3 (fun h=>h)) (fun e=>nfp e)) (fun e=>nk e);have ha2:=hmk.2.2.1 hk;have hvA3:=hvA.mod hm13 (fun _ _ h=>h)
   have hvA6:OwnS w6 3 1 _ _ _ _:=((hvA3.mod hm4 (fun _ _ h=>h)).mod hm5 (fun b hb e=>by
     have:=hF3.tp _ e;rw [newTag_new (hfA b hb)] at this;cases this)).mod hm6 (fun b hb e=>by
     have:=hF3.tk;rw [← e,newTag_new (hfA b hb)] at this;cases this)
   rw [ha2] at hvA6;obtain ⟨bA,rfl,_,hcA⟩:=own_cell hvA6 (i:=0) (by omega);have hcA:w6.cell? ⟨bA,0,none⟩=some (I ((M.st.nd M.top.stands).args.getD 0 0)):=by
     rw [hcA,List.getElem?_map,List.getElem?_eq_getElem (by omega),List.getD_eq_getElem?_getD,List.getElem?_eq_getElem (by omega)];rfl
   have b1:(0:Int)≤0∧(0:Int) < ((M.st.nd M.top.stands).args.length:Int):=by omega
   (try simp only [go_sem,simprocAttr,zb4,zb6,cell_of hb36,b1,add_at,hcA]);refine e_st1 (off:=5) rfl rfl hb6 rfl (by simp [frCells]) ?_;intro w7 hb7 hm7 _;(try simp only [go_sem,simprocAttr]);refine ⟨_,MOp.boxed hm03 (hT3.frm (fr_spine (f':={ M.top with spine:=M.top.spine++[(M.st.ov M.top.stands:Int)],stands:=(M.st.nd M.top.stands).args.getD 0 0}) hF3 (w2:=w5) (by simpa using ho5) rfl (by simpa [frCells] using hb7) ((hm4.weak (fun _ h=>h.elim)).step hm5 (fun b hb _=>hb)) (hm6.trans hm7) (fun b hb=>(hf5 b hb).imp id (fun hh=>by have:=hm4.size;omega))))⟩
 simp only [zb1,zb2,zb3,zb4,zb5] at hk;rw [if_neg hk];(try simp only [go_sem,simprocAttr]);refine ir_cond rfl (fun hk2=>?_) (fun hk2=>?_)
 · simp only [zb1,zb2,zb3,zb4,zb5] at hk2;rw [if_pos hk2];have hgl:=hnd.2.2.1 hk2;have hg0:=(hmk.2.2.2.1 hk2).2;obtain ⟨g,hg⟩:∃ g:Nat,(M.st.nd M.top.stands).num=g:=⟨(M.st.nd M.top.stands).num.toNat,by omega⟩;obtain ⟨ad,c,cv,hvgl,B1,_,hari,_,_⟩:=glob_at hh.tab (i:=g) (by omega);have hari:w3.cell? ⟨(ad.add (g*3)).block,(ad.add (g*3)).off+1,none⟩=some (I (M.tab.gl g).arity):=hari;have b1:(0:Int)≤g∧(g:Int) < M.tab.globals.length:=by omega
   obtain ⟨aP,cP,rfl,hcP,_⟩:=hF3.spine.val;have hb3g:=hb3;rw [hg] at hb3g;(try simp only [go_sem,simprocAttr,zb4,zb6,cell_of hcf3,frCells,cell_of hc,mcCells,cell_of hb3g,hvgl,b1,hari]);have hb3d:w3.drew.heap[w1.heap.size]? = _:=hb3g;have hT3d:TopAt w3.drew (newTag τ w .no) m S M ks k:=hT3.mod (Mod.refl (fun _=>False) w3).drew (ext_refl _ _).wx (fun _ _ h=>h.elim);refine ir_cond rfl (fun har=>?_) (fun har=>?_)
   · simp only [zb1,zb2,zb3,zb4,zb5] at har;rw [hg,if_pos har];(try simp only [go_sem,simprocAttr,cell_of hb3g]);refine e_call (by rfl) ?_;have:=x_call hT3d hM he hk2 href (by omega) (by rw [hg];exact har);rw [hg] at this;refine this.mono ?_;intro _ w4 hop;(try simp only [go_sem,simprocAttr]);exact ⟨_,MOp.boxed hm03 hop.of_drew⟩
   · simp only [zb1,zb2,zb3,zb4,zb5] at har;rw [hg,if_neg har];(try simp only [go_sem,simprocAttr]);refine e_call (by rfl) ?_;refine (x_lacks hT3d hM he href hfl hwl hR).mono ?_;rintro _ w4 ⟨ks',hop⟩;(try simp only [go_sem,simprocAttr]);exact ⟨_,MOp.boxed hm03 hop.of_drew⟩
 simp only [zb1,zb2,zb3,zb4,zb5] at hk2;rw [if_neg hk2];(try simp only [go_sem,simprocAttr]);refine ir_then (fun ρ w'=>w3=w'∧ρ.get 0=some (ptr m)∧ρ.get 1=some (ptr k)∧ρ.get 5=some (ptr w1.heap.size)∧ρ.get 16=some (I (M.st.nd M.top.stands).kind)∧ρ.get 65=some (.bool (decide ((M.st.nd M.top.stands).kind=1∨(M.st.nd M.top.stands).kind=2)))) ?_ ?_
 · refine ir_cond rfl (fun h1=>?_) (fun h1=>?_)
   · simp only [zb1,zb2,zb3,zb4,zb5] at h1;(try simp only [go_sem,simprocAttr]);simp [h1]
   · simp only [zb1,zb2,zb3,zb4,zb5] at h1;(try simp only [go_sem,simprocAttr]);by_cases h2':(M.st.nd M.top.stands).kind=2<;>simp [h1,h2']
 rintro ρ _ ⟨rfl,r0,r1,r5,r16,r65⟩;refine ir_cond (show O.ev ρ (.t 65)=_ from r65) (fun h12=>?_) (fun h12=>?_)
 · simp only [zb1,zb2,zb3,zb4,zb5] at h12;rw [if_pos h12];obtain ⟨aP,cP,rfl,hcP,_⟩:=hF3.spine.val;(try simp only [go_sem,simprocAttr,r0,r1,r5,r16,cell_of hcf3,frCells]);refine ir_cond rfl (fun hz=>?_) (fun hz=>?_)
   · simp only [zb1,zb2,zb3,zb4,zb5] at hz;rw [if_pos (by omega)];(try simp only [go_sem,simprocAttr]);refine e_call (by rfl) ?_;refine (lift (m_fail hT3.at' 5)).mono ?_;intro _ w4 hop;(try simp only [go_sem,simprocAttr]);exact hop
   · simp only [zb1,zb2,zb3,zb4,zb5] at hz;rw [if_neg (by omega)];(try simp only [go_sem,simprocAttr]);refine e_call (by rfl) ?_;refine (lift2 ((m_leave hT3.at' hp (by omega)).mono (fun _ _ h=>⟨_,h⟩))).mono ?_;intro _ w4 hop;(try simp only [go_sem,simprocAttr]);exact hop
 simp only [zb1,zb2,zb3,zb4,zb5] at h12;rw [if_neg h12];(try simp only [go_sem,simprocAttr,r0,r1,r5,r16]);refine ir_cond rfl (fun h8=>?_) (fun h8=>?_)
 · simp only [zb1,zb2,zb3,zb4,zb5] at h8;rw [if_pos h8];(try simp only [go_sem,simprocAttr,r0,r1,r5,r16,cell_of hb3]);refine e_call (by rfl) ?_;refine (lift (x_read hT3 hM href h8 hR)).mono ?_;intro _ w4 hop;(try simp only [go_sem,simprocAttr]);exact hop
 simp only [zb1,zb2,zb3,zb4,zb5] at h8;rw [if_neg h8];(try simp only [go_sem,simprocAttr]);refine ir_cond rfl (fun h6=>?_) (fun h6=>?_)
 · simp only [zb1,zb2,zb3,zb4,zb5] at h6;rw [if_pos h6];(try simp only [go_sem,simprocAttr]);refine e_call (by rfl) ?_;refine (lift (m_fail hT3.at' 5)).mono ?_;intro _ w4 hop;(try simp only [go_sem,simprocAttr]);exact hop
 · simp only [zb1,zb2,zb3,zb4,zb5] at h6;rw [if_neg h6];(try simp only [go_sem,simprocAttr]);refine e_call (by rfl) ?_;refine (lift (m_fail hT3.at' 4)).mono ?_;intro _ w4 hop;(try simp only [go_sem,simprocAttr]);exact hop
end
end
section
open Go Go.W
def stepR (M:Mc):Int×Int:=if M.ended≠0 then (0,221) else (M.step.ended,0)
theorem stCol_ren (s:St) (hr:s.kd≠.ref) (roots:List Int):(stCol s roots).1=roots.map (colRen s roots):=by
 obtain ⟨kd,sz,ns⟩:=s;cases kd with
 | ref=>exact absurd rfl hr
 | hp t=>rfl
 | gn y o t=>rfl
section
variable {w:World} {τ:Tag} {m:Nat} {S:SV} {M:Mc} {ks:List Nat} {k:Nat} {x:Ins} {n:Int}
theorem m_step (h:MAt w τ m S M ks) (hM:MOk n M) (hn:n < 1000000) (href:M.st.kd≠.ref) (hs:0≤M.steps∧M.steps≤1000000) (hg:0 < M.globals.length) :
   CallsR Tryz.prog 45 [ptr m] w fun r w'=>r = .tuple #[I (stepR M).1,I (stepR M).2]∧∃ ks',MOp w τ m S M.step ks' w':=by
 have hR:=hM.roots_le (by omega);have hln:=hM.ln;have hlf:=hM.lf;have hlw:=hM.lw;have hlt:=hM.lt;obtain ⟨vG,vF,vW,vT,fg,ff,fw,ft,F,hh⟩:=id h;have hc:=hh.cells;have hkl:=hh.len;obtain ⟨aF,cF,rfl,_⟩:=hh.fr.val;refine fit45.calls rfl ?_;unfold ir45;(try simp only [go_sem,simprocAttr,cell_of hc,mcCells,ptr]);refine ir_cond rfl (fun he=>?_) (fun he=>?_)
 · simp only [zb1,zb2,zb3,zb4,zb5] at he;have e1:stepR M=(0,221):=by unfold stepR;rw [if_pos he]
   have e2:M.step=M:=by unfold Mc.step;rw [if_pos he]
   rw [e1,e2];(try simp only [go_sem,simprocAttr]);exact ⟨ks,τ,ext_refl _ _,h,Mod.refl _ _⟩
 simp only [zb1,zb2,zb3,zb4,zb5] at he;have he:M.ended=0:=he;have e1:stepR M=(M.step.ended,0):=by unfold stepR;rw [if_neg (by simp [he])]
 rw [e1];(try simp only [go_sem,simprocAttr,cell_of hc,mcCells]);refine ir_blk (fun ρ w'=>ρ.get 0=some (ptr m)∧∃ ks',MOp w τ m S M.work ks' w') ?_ ?_
 · refine ir_cond rfl (fun hf=>?_) (fun hf=>?_)
   · simp only [zb1,zb2,zb3,zb4,zb5] at hf;have hf:M.frames.length=0:=by omega
     (try simp only [go_sem,simprocAttr]);refine e_call (by rfl) ?_;refine (x_tell h hM he href (by omega) (by omega) (by omega)).mono ?_;rintro _ w1 ⟨ks',hop⟩;(try simp only [go_sem,simprocAttr]);have e:M.work=M.tell:=by unfold Mc.work;rw [if_pos hf]
     rw [e];exact ⟨ks',hop⟩
   simp only [zb1,zb2,zb3,zb4,zb5] at hf;have hf:0 < M.frames.length:=by omega
   obtain ⟨k,hk⟩:∃ k,ks[M.frames.length - 1]? = some k:=⟨_,List.getElem?_eq_getElem (by omega)⟩;have hT:TopAt w τ m S M ks k:=⟨h,hf,hk⟩;obtain ⟨vs,vp,fs,fp,hF⟩:=hT.fr;have hcf:=hF.cells;obtain ⟨bF,rfl,hff,hcellF⟩:=own_cell hh.fr (i:=M.frames.length - 1) (by omega);have hcellF:w.cell? ⟨bF,M.frames.length - 1,none⟩=some (ptr k):=by rw [hcellF,List.getElem?_map,hk];rfl
   obtain ⟨j,hj⟩:∃ j:Nat,j+1=ks.length:=⟨ks.length - 1,by omega⟩;rw [show M.frames.length - 1=j by omega] at hcellF;have q1:IntKind.i64.wrap ((ks.length:Int) - 1)=j:=by rw [wrap_in (by omega) (by omega)];omega
   have b1:(0:Int)≤j∧(j:Int) < ks.length:=by omega
   have hcd:w.drew.heap[m]? = _:=hc;have hTd:TopAt w.drew τ m S M ks k:=hT.mod (Mod.refl (fun _=>False) w).drew (ext_refl _ _).wx (fun _ _ h=>h.elim);have hTdd:TopAt w.drew.drew τ m S M ks k:=hTd.mod (Mod.refl (fun _=>False) w.drew).drew (ext_refl _ _).wx (fun _ _ h=>h.elim);(try simp only [go_sem,simprocAttr,zb4,zb6,cell_of hc,mcCells,q1,b1,add_at,hcellF,ptr,cell_of hcf,frCells]);refine ir_cond rfl (fun hr=>?_) (fun hr=>?_)
   · (try simp only [go_sem,simprocAttr,zb4,zb6,cell_of hc,mcCells,q1,b1,add_at,hcellF,ptr]);refine e_call (by rfl) ?_;refine (x_run hTdd ⟨hM,hf,he,hr,rfl⟩ href (by omega) hR).mono ?_;rintro _ w1 ⟨ks',hop⟩;(try simp only [go_sem,simprocAttr]);have e:M.work=M.run:=by unfold Mc.work;rw [if_neg (by omega),if_pos hr]
     rw [e];exact ⟨ks',hop.of_drew.of_drew⟩
   · (try simp only [go_sem,simprocAttr,zb4,zb6,cell_of hc,mcCells,q1,b1,add_at,hcellF,ptr]);refine e_call (by rfl) ?_;have hsp:=(hM.topG hf).lsp;refine (x_unwind hTdd hM he href (by omega) (by omega) (by omega) hR).mono ?_;rintro _ w1 ⟨ks',hop⟩;(try simp only [go_sem,simprocAttr]);have e:M.work=M.unwind M.top:=by unfold Mc.work;rw [if_neg (by omega),if_neg (by rw [hr];simp)]
     rw [e];exact ⟨ks',hop.of_drew.of_drew⟩
 rintro ρ w1 ⟨r0,ks',hop⟩;obtain ⟨τ1,j1,h1,j2⟩:=hop;obtain ⟨vG1,vF1,vW1,vT1,fg1,ff1,fw1,ft1,F1,hh1⟩:=id h1;have hc1:=hh1.cells;have hcal:=cal_work M;(try simp only [go_sem,simprocAttr,r0,cell_of hc1,mcCells,ptr]);refine ir_cond rfl (fun h5=>?_) (fun h5=>?_)
 · simp only [zb1,zb2,zb3,zb4,zb5] at h5;have e:M.step=M.work:=by unfold Mc.step;rw [if_neg (by simp [he]),if_pos h5]
   rw [e];(try simp only [go_sem,simprocAttr,cell_of hc1,mcCells]);exact ⟨ks',τ1,j1,h1,j2⟩
 simp only [zb1,zb2,zb3,zb4,zb5] at h5;obtain ⟨hM1,hM2,hst⟩:MOk (n+1) M.work∧MOk (n+1) M.step∧M.step=({ M.work with steps:=M.work.steps+1}:Mc).tidy:=by
   rcases hM.step he with ⟨hw,_⟩ | hw
   · exact absurd hw.ended h5
   · exact hw
 have q2:IntKind.i64.wrap (M.work.steps+1)=M.work.steps+1:=wrap_in (by rw [hcal.steps];omega) (by rw [hcal.steps];omega);(try simp only [go_sem,simprocAttr,cell_of hc1,mcCells,q2]);refine e_st1 (off:=14) rfl rfl hc1 rfl (by simp [mcCells]) ?_;intro w2 hb2 hm2 _;obtain ⟨M2,hM2e⟩:∃ M2:Mc,M2 = { M.work with steps:=M.work.steps+1}:=⟨_,rfl⟩;have hh2:=hh1.scal (M':=M2) hm2 (by rw [hM2e];simpa [mcCells] using hb2) (by rw [hM2e]) (by rw [hM2e]) (by rw [hM2e]) (by rw [hM2e]) (by rw [hM2e]) (by rw [hM2e]) (by rw [hM2e]);rw [← hM2e] at hst;have hok2:MOk (n+1) M2:=by rw [hM2e];exact hM1.stepped _
 have hc2:=hh2.cells;have hs2:0≤M2.steps∧M2.steps≤1000001:=by
   have e:M2.steps=M.work.steps+1:=by rw [hM2e]
   rw [e,hcal.steps];omega
 have hkd2:M2.st.kd≠.ref:=by rw [hM2e];exact hcal.kd href
 have hg2:0 < M2.globals.length:=by
   have e:M2.globals=M.work.globals:=by rw [hM2e]
   rw [e,(stat_work M).gl];exact hg
 have step2:∀ {Mf:Mc} {w':World},MOp w2 τ1 m S Mf ks' w'→MOp w τ m S Mf ks' w':=fun hop=>MOp.cat j1 j2 (MOp.cat (ext_refl _ w1) (hm2.weak (fun b hb=>by subst hb;rw [hh1.tm];simp [Tg.own])) hop)
 have hrem:∀ b:Int,b > 0→IntKind.i64.wrap (M2.steps.tmod b)=M2.steps.tmod b:=by
   intro b hb;have h1:=Int.tmod_nonneg b hs2.1;have h2:=Int.tmod_lt_of_pos M2.steps hb;have h3:M2.steps.tmod b≤M2.steps:=by
     rcases Int.lt_or_le M2.steps b with h4 | h4
     · rw [Int.tmod_eq_of_lt hs2.1 h4];omega
     · omega
   exact wrap_in (by omega) (by omega)
 (try simp only [go_sem,simprocAttr,cell_of hc2,mcCells]);refine wpS_cut (fun ρ w'=>w'=w2.drew∧ρ.get 0=some (ptr m)∧ρ.get 98=some (.bool (decide (M2.every > 0∧M2.steps.tmod M2.every=0)))) ?_ ?_
 · cases hp:decide (M2.every > 0) with
   | false=>
     (try simp only [go_sem,simprocAttr,cell_of hc2,mcCells,hp]);simp only [zb1,zb2,zb3,zb4,zb5] at hp;simp [hp]
   | true=>
     have hp':=of_decide_eq_true hp;have hne:M2.every≠0:=by omega
     have hq:=hrem _ hp';(try simp only [go_sem,simprocAttr,cell_of hc2,mcCells,hp,hne,hq]);by_cases hz:M2.steps.tmod M2.every=0<;>simp [hp',hz]
 rintro ρ _ ⟨rfl,r0,r98⟩;(try simp only [go_sem,simprocAttr,r0,r98]);refine ir_then (fun ρ w'=>ρ.get 0=some (ptr m)∧MOp w2 τ1 m S M.step ks' w') ?_ ?_
 · rw [hst];refine ir_cond rfl (fun hcol=>?_) (fun hcol=>?_)
   · simp only [zb1,zb2,zb3,zb4,zb5] at hcol;unfold Mc.tidy;rw [if_pos hcol];have hR2:=hok2.roots_le (by omega);have hne:M2.roots≠[]:=fun e=>by
       have:M2.globals=[]:=by unfold Mc.roots at e;simp at e;exact e.1
       rw [this] at hg2;simp at hg2
     have hmd:Mod (fun _=>False) w2 w2.drew.drew:=(Mod.refl (fun _=>False) w2).drew.drew;have hh2d:=hh2.mod hmd (ext_refl τ1 w2).wx (fun _ _ h=>h.elim);obtain ⟨ti,ui,hsv⟩:=hh2d.st.iface;(try simp only [go_sem,simprocAttr,cell_of hc2,mcCells,hsv,ptr]);refine e_call (by rfl) ?_;refine (m_roots ⟨_,_,_,_,_,_,_,_,_,hh2d⟩ hR2).mono ?_;rintro r3 w3 ⟨⟨f3,ho3,hf3⟩,hm3⟩;have lm:=hh2.lt;have km:=hm3.old m lm (fun h=>h);(try simp only [go_sem,simprocAttr]);refine ⟨km,?_⟩;have hh3:=hh2d.mod hm3 (newTag_ext τ1 w2.drew.drew .no).wx (fun _ _ h=>h.elim);obtain ⟨hi3,_⟩:=ho3.ints hR2;obtain ⟨va,vc,rfl,_⟩:=ho3.val;refine s_col (roots:=M2.roots) (by rw [hsv];rfl) (by rfl) hh3.st hok2.g.st hi3 (okPl_of hok2.roots) ?_ hR2 ?_
     · intro _ x hx hF;have hx1:=hh3.tF x hF;obtain ⟨b,c',sp,e,rfl,_⟩:=ho3.pos (List.length_pos_iff.2 hne);cases e;cases hx;rw [newTag_new (hf3 _ rfl)] at hx1;cases hx1
     intro w4 F4 v4 hs4 hg4 hout;have hh4:=hh3.store (s:=(stCol M2.st M2.roots).2) hg4 hs4 (stCol_size _ _);rw [stCol_ren _ hkd2] at hout;obtain ⟨fp,ho4,hf4⟩:=hout;obtain ⟨b,c',sp,rfl,rfl,hb4,_⟩:=ho4.pos (by simp;exact List.length_pos_iff.2 hne);obtain ⟨hb1,hb2'⟩:=hf4 b rfl;(try simp only [go_sem,simprocAttr,show ((0:Int) == 0)=true from rfl]);refine e_call (by rfl) ?_;refine (m_moved (M:={ M2 with st:=(stCol M2.st M2.roots).2}) ⟨_,_,_,_,_,_,_,_,_,hh4⟩ (colRen M2.st M2.roots) ho4 (stTag_no hb1 hb2') hR2).mono ?_;rintro r5 w5 ⟨hm5,⟨vG5,vF5,vW5,vT5,fg5,ff5,fw5,ft5,F5,hh5⟩⟩;have hc5:=hh5.cells;(try simp only [go_sem,simprocAttr,cell_of hc5,mcCells]);refine s_used rfl hh5.st ?_;(try simp only [go_sem,simprocAttr]);refine e_st1 (off:=8) rfl rfl hc5 rfl (by simp [mcCells]) ?_;intro w6 hb6 hm6 hs6;(try simp only [go_sem,simprocAttr]);have hfin:=hh5.scal (M':=M2.after (colRen M2.st M2.roots) (stCol M2.st M2.roots).2) hm6 (by simpa [mcCells,Mc.after,Mc.mapP,stCol_size] using hb6) rfl rfl rfl rfl rfl rfl rfl;have k5:MOp w5 _ m S _ ks' w6:=⟨_,ext_refl _ _,⟨_,_,_,_,_,_,_,_,_,hfin⟩,hm6.weak (fun b hb=>by subst hb;rw [hh5.tm];simp [Tg.own])⟩;have k4:=MOp.cat (ext_refl _ w4) hm5 k5;have k3:=MOp.cat (stTag_ext _ w3 F4) (hg4.1.weak hh3.ownF) k4;exact (MOp.boxed hm3 k3).of_drew.of_drew
   · simp only [zb1,zb2,zb3,zb4,zb5] at hcol;unfold Mc.tidy;rw [if_neg hcol];(try simp only [go_sem,simprocAttr]);exact ⟨τ1,ext_refl _ _,⟨_,_,_,_,_,_,_,_,_,hh2.mod (Mod.refl (fun _=>False) w2).drew (ext_refl τ1 w2).wx (fun _ _ h=>h.elim)⟩,(Mod.refl _ w2).drew⟩
 rintro ρ w3 ⟨r0,hop⟩;obtain ⟨τ3,q1,h3,q2⟩:=hop;obtain ⟨vG3,vF3,vW3,vT3,fg3,ff3,fw3,ft3,F3,hh3⟩:=id h3;have hc3:=hh3.cells;(try simp only [go_sem,simprocAttr,r0,cell_of hc3,mcCells,ptr]);exact ⟨ks',step2 ⟨τ3,q1,h3,q2⟩⟩
end
end
section
open Go Go.W
def Alive (n:Int) (M:Mc):Prop:=MOk n M∨M.ended=5
theorem Alive.ok {n:Int} {M:Mc} (h:Alive n M) (he:M.ended=0):MOk n M:=by
 rcases h with h | h
 · exact h
 · omega
theorem step_end {M:Mc} (h:M.ended≠0):M.step=M:=by unfold Mc.step;rw [if_pos h]
theorem Alive.step {n:Int} {M:Mc} (h:Alive n M):Alive (n+1) M.step:=by
 by_cases he:M.ended=0
 · rcases (h.ok he).step he with ⟨hw,e⟩ | ⟨_,hw,_⟩
   · rw [e];exact .inr hw.ended
   · exact .inl hw
 · rw [step_end he];rcases h with h | h
   · exact .inl (h.more (by omega))
   · exact .inr h
theorem Alive.steps {n:Int} {M:Mc} (h:Alive n M) (k:Nat):Alive (n+k) (M.steps' k):=by
 induction k with
 | zero=>
   have e:n+((0:Nat):Int)=n:=by simp
   rw [e];exact h
 | succ k ih=>
   have e:n+((k+1:Nat):Int)=n+(k:Int)+1:=by omega
   rw [e];exact ih.step
theorem steps_end {M:Mc} {i:Nat} (h:(M.steps' i).ended≠0):∀ d:Nat,M.steps' (i+d)=M.steps' i:=by
 intro d
 induction d with
 | zero=>rfl
 | succ d ih=>
   show (M.steps' (i+d)).step=_;rw [ih];exact step_end h
theorem steps_end' {M:Mc} {i j:Nat} (h:(M.steps' i).ended≠0) (hij:i≤j):M.steps' j=M.steps' i:=by
 obtain ⟨d,rfl⟩:∃ d,j=i+d:=⟨j - i,by omega⟩;exact steps_end h d
theorem steps_going {M:Mc} {i:Nat} (h:(M.steps' (i+1)).ended=0):(M.steps' i).ended=0:=by
 apply Classical.byContradiction;intro hh;rw [steps_end' hh (Nat.le_succ i)] at h;exact hh h
theorem work_five {M:Mc} (he:M.ended=0) (h:M.work.ended=5):M.step.ended=5:=by
 unfold Mc.step;rw [if_neg (by simp [he]),if_pos h];exact h
theorem steps_count (M:Mc) (k:Nat):M.steps≤(M.steps' k).steps∧(M.steps' k).steps≤M.steps+k∧((M.steps' k).ended=0→(M.steps' k).steps=M.steps+k):=by
 induction k with
 | zero=>exact ⟨Int.le_refl _,by show M.steps≤_;omega,fun _=>by show M.steps=_;omega⟩
 | succ k ih=>
   obtain ⟨h1,h2,h3⟩:=ih;have e:=step_steps (M.steps' k);show M.steps≤(M.steps' k).step.steps∧(M.steps' k).step.steps≤M.steps+((k+1:Nat):Int)∧((M.steps' k).step.ended=0→(M.steps' k).step.steps=M.steps+((k+1:Nat):Int));rw [e]
   split
   · rename_i hh;refine ⟨by omega,by omega,fun _=>by have:=h3 hh.1;omega⟩
   · rename_i hh;refine ⟨h1,by omega,fun he=>?_⟩;exfalso;have h0:(M.steps' k).ended=0:=steps_going he;apply hh;refine ⟨h0,fun h5=>?_⟩;have:=work_five h0 h5;omega
theorem steps_kd {M:Mc} (h:M.st.kd≠.ref) (k:Nat):(M.steps' k).st.kd≠.ref:=by
 induction k with
 | zero=>exact h
 | succ k ih=>exact step_kd ih
end
section
open Go Go.W
section
variable {w:World} {τ:Tag} {m:Nat} {S:SV} {M:Mc} {ks:List Nat} {n:Int}
theorem m_run (h:MAt w τ m S M ks) (hM:Alive n M) (hn:n≤500000) (hn0:0≤n) (href:M.st.kd≠.ref) (hs:0≤M.steps∧M.steps≤500000) (hg:M.ended=0→0 < M.globals.length) {c:Int} (hc:c≤400000) :
   CallsR Tryz.prog 24 [ptr m,I c] w fun r w'=>r=I ((M.steps' c.toNat).steps - M.steps)∧∃ ks',MOp w τ m S (M.steps' c.toNat) ks' w':=by
 obtain ⟨vG,vF,vW,vT,fg,ff,fw,ft,F,hh⟩:=id h;have hcm:=hh.cells;refine fit24.calls rfl ?_;unfold ir24;(try simp only [go_sem,simprocAttr,cell_of hcm,mcCells,ptr]);refine ir_loop (fun z ρ w'=>∃ (i:Nat) (ks':List Nat),z=c.toNat - i∧i≤c.toNat∧MOp w τ m S (M.steps' i) ks' w'∧ρ=[(0,ptr m),(1,I c),(5,I M.steps)]) c.toNat ⟨0,ks,rfl,by omega,⟨τ,ext_refl _ _,h,Mod.refl _ _⟩,rfl⟩ ?_;rintro z ρ w1 ⟨i,ks',rfl,hi,hop,rfl⟩;obtain ⟨τ1,j1,h1,j2⟩:=hop;obtain ⟨vG1,vF1,vW1,vT1,fg1,ff1,fw1,ft1,F1,hh1⟩:=id h1;have hc1:=hh1.cells;obtain ⟨s1,s2,s3⟩:=steps_count M i;have q1:IntKind.i64.wrap ((M.steps' i).steps - M.steps)=(M.steps' i).steps - M.steps:=wrap_in (by omega) (by omega);unfold ir24L1;(try simp only [go_sem,simprocAttr,cell_of hc1,mcCells,ptr]);refine wpS_cut (fun ρ w'=>w1=w'∧ρ.get 0=some (ptr m)∧ρ.get 1=some (I c)∧ρ.get 5=some (I M.steps)∧ρ.get 24=some (.bool (decide ((M.steps' i).ended=0∧(M.steps' i).steps - M.steps < c)))) ?_ ?_
 · cases he:((M.steps' i).ended == 0)
   · (try simp only [go_sem,simprocAttr,cell_of hc1,mcCells,he]);simp only [zb1,zb2,zb3,zb4,zb5] at he;simp [he]
   · (try simp only [go_sem,simprocAttr,cell_of hc1,mcCells,he,q1]);simp only [zb1,zb2,zb3,zb4,zb5] at he;simp [he]
 rintro ρ _ ⟨rfl,r0,r1,r5,r24⟩;(try simp only [go_sem,simprocAttr,r0,r1,r5,r24]);refine ir_cond rfl (fun hh=>?_) (fun hh=>?_)
 · simp only [zb1,zb2,zb3,zb4,zb5] at hh;have hlt:i < c.toNat:=by have:=s3 hh.1;omega
   (try simp only [go_sem,simprocAttr]);refine e_call (by rfl) ?_;have hA:=hM.steps i;refine (m_step h1 (hA.ok hh.1) (by omega) (steps_kd href i) ⟨by omega,by omega⟩ (by rw [(stat_steps M i).gl];exact hg (Classical.byContradiction fun h0=>by have e0:M.steps' i=M:=steps_end' (i:=0) (M:=M) h0 (Nat.zero_le i);rw [e0] at hh;exact h0 hh.1))).mono ?_;rintro _ w2 ⟨rfl,ks2,hop2⟩;(try simp only [go_sem,simprocAttr]);exact ⟨_,by omega,i+1,ks2,rfl,by omega,MOp.cat j1 j2 hop2⟩
 · simp only [zb1,zb2,zb3,zb4,zb5] at hh;have hfin:M.steps' c.toNat=M.steps' i:=by
     by_cases he:(M.steps' i).ended=0
     · have:=s3 he;have:i=c.toNat:=by
         apply Classical.byContradiction;intro hne;exact hh ⟨he,by omega⟩
       rw [this]
     · exact steps_end' he hi
   (try simp only [go_sem,simprocAttr,cell_of hc1,mcCells,q1]);rw [hfin];exact ⟨rfl,ks',τ1,j1,h1,j2⟩
end
end
section
open Go Go.W
section
variable {T:Tab} {entry:ByteArray} {input:List Int} {heap every:Int} {gens:Bool}
structure NewFacts (T:Tab) (entry:ByteArray) (input:List Int) (heap every:Int):Prop where
 chk:checkS T=0
 inl:input.length≤10000
 inp:∀ a∈input,isNum a
 hp:1≤heap∧heap≤1048576
 ev:0≤every
 ent:0≤entryI entry T∧entryI entry T < T.globals.length
theorem new_facts (h:newErr T entry input heap every=0):NewFacts T entry input heap every:=by
 unfold newErr at h
 split at h
 · cases h
 rename_i h1
 split at h
 · cases h
 rename_i h2
 split at h
 · rename_i h3;exact absurd h h3
 rename_i h3
 split at h
 · cases h
 rename_i h4;have h2:¬ input.any (fun n=>!numB n)=true∧¬ heap < 1∧¬ heap > 1048576∧¬ every < 0:=by
   refine ⟨fun e=>h2 (.inl e),fun e=>h2 (.inr (.inl e)),fun e=>h2 (.inr (.inr (.inl e))),fun e=>h2 (.inr (.inr (.inr e)))⟩
 refine ⟨Classical.not_not.1 h3,by omega,fun a ha=>?_,by omega,by omega,?_⟩
 · have:=h2.1;rw [List.any_eq_true] at this;have h5:numB a=true:=by
     cases hb:numB a
     · exact absurd ⟨a,ha,by rw [hb];rfl⟩ this
     · rfl
   unfold numB at h5;rw [decide_eq_true_eq] at h5;unfold isNum;omega
 · unfold entryI;cases he:entryS entry T.globals 0 with
   | none=>exact absurd he h4
   | some j=>
     have:=entryS_lt _ _ he;simp only;omega
theorem firstNs_at {n i:Nat} (h:i < n):(firstNs n)[i]? = some ⟨4,(i:Int),[]⟩:=by
 unfold firstNs;rw [List.getElem?_map,List.getElem?_range h];rfl
theorem firstNs_ndAt {n i:Nat} (h:i < n):ndAt (firstNs n) i=⟨4,(i:Int),[]⟩:=by
 unfold ndAt;rw [List.getD_eq_getElem?_getD,firstNs_at h];rfl
theorem firstNs_ends (n:Nat):Ends (firstNs n):=by
 intro p hp;rw [firstNs_len] at hp;have h1:nxt (firstNs n) p=p:=by
   apply nxt_fix;unfold ind;rw [firstNs_ndAt hp];rfl
 have h2:over (firstNs n) p=p:=by
   unfold over;obtain ⟨k,_,e⟩:=ov_mem (nxt (firstNs n)) (firstNs n).length p;rw [e,fit_fix h1]
 rw [h2,h1]
theorem newM_ok (h:newErr T entry input heap every=0) (hroom:(T.globals.length:Int)≤heap):MOk 0 (newM T entry input heap gens every):=by
 have hf:=new_facts h;have hh:=hf.hp;have he:=hf.ent;unfold newM;rw [if_pos hroom];have hy:0≤newY gens heap∧newY gens heap≤1048576:=by
   unfold newY
   split
   · rw [Int.tdiv_eq_ediv_of_nonneg (by omega)];split<;>omega
   · omega
 have hIn:∀ a:Int,0≤a→a < T.globals.length→St.In ⟨newKd gens heap,heap,firstNs T.globals.length⟩ a:=fun a h1 h2=>⟨h1,by show a < ((firstNs _).length:Int);rw [firstNs_len];exact h2⟩
 exact
   { tab:=(check_ok hf.chk).1
     g:=⟨newSt_ok hh hroom,firstNs_ends _,fun nd hnd=>by
       obtain ⟨i,hi,rfl⟩:=List.mem_map.1 hnd;have:=List.mem_range.1 hi
       exact ⟨fun _=>by show (i:Int) < T.globals.length;omega,fun e=>by cases e⟩⟩
     gls:=fun a ha=>by
       obtain ⟨i,hi,rfl⟩:=List.mem_map.1 ha;have:=List.mem_range.1 hi;exact hIn _ (by omega) (by omega)
     gln:=by simp [newI]
     wts:=fun a ha=>by
       obtain rfl:=List.mem_singleton.1 ha;exact hIn _ he.1 he.2
     wpos:=fun _=>by simp
     frs:=fun f hf=>by cases hf
     run:=fun _ f hf=>by cases hf
     base:=by show (0:Int)≤0∧(0:Int)≤1048576;omega
     young:=hy
     inp:=hf.inp
     ln:=Int.le_refl _
     lf:=by simp [newI]
     lw:=by simp [newI]
     lt:=by simp [newI]
     ne5:=by simp [newI]}
theorem new_alive (h:newErr T entry input heap every=0):Alive 0 (newM T entry input heap gens every):=by
 by_cases hroom:(T.globals.length:Int)≤heap
 · exact .inl (newM_ok h hroom)
 · refine .inr ?_;unfold newM;rw [if_neg hroom]
theorem new_kd:(newM T entry input heap gens every).st.kd≠.ref:=by
 unfold newM newI newKd
 split<;>(cases gens<;>exact fun h=>by cases h)
theorem new_steps:(newM T entry input heap gens every).steps=0:=by unfold newM newI;split<;>rfl
theorem new_told:(newM T entry input heap gens every).told=[]:=by unfold newM newI;split<;>rfl
theorem new_frames:(newM T entry input heap gens every).frames=[]:=by unfold newM newI;split<;>rfl
structure Good (n:Int) (M:Mc):Prop where
 al:Alive n M
 kd:M.st.kd≠.ref
 gl:M.ended=0→0 < M.globals.length
 lf:(M.frames.length:Int)≤n
 lt:(M.told.length:Int)≤n
 st:0≤M.steps∧M.steps≤n
theorem newM_good (h:newErr T entry input heap every=0):Good 0 (newM T entry input heap gens every):=by
 refine ⟨new_alive h,new_kd,fun he=>?_,by rw [new_frames];exact Int.le_refl _,by rw [new_told];exact Int.le_refl _,by rw [new_steps];omega⟩;rcases new_alive (gens:=gens) h with hk | hk
 · rw [hk.gln];have:=(new_facts h).ent;have e:(newM T entry input heap gens every).tab=T:=by unfold newM newI;split<;>rfl
   rw [e];omega
 · omega
theorem Good.step {n:Int} {M:Mc} (h:Good n M):Good (n+1) M.step:=by
 have hst:=step_steps M;have hs:0≤M.step.steps∧M.step.steps≤n+1:=by have:=h.st;rw [hst];split<;>omega
 have hk:=step_kd h.kd;by_cases he:M.ended=0
 · have hok:=h.al.ok he;have hgl:0 < M.step.globals.length:=by rw [(stat_step M).gl];exact h.gl he
   refine ⟨h.al.step,hk,fun _=>hgl,?_,?_,hs⟩
   all_goals rcases hok.step he with ⟨hw,e⟩ | ⟨_,hw,_⟩
   · rw [e,(out_of hok hw).frames];have:=h.lf;omega
   · exact hw.lf
   · rw [e,(out_of hok hw).told];have:=h.lt;omega
   · exact hw.lt
 · have e:=step_end he;rw [e];have h1:=h.lf;have h2:=h.lt;have h3:=h.st;have h4:=h.al.step;rw [e] at h4;exact ⟨h4,h.kd,h.gl,by omega,by omega,by omega⟩
theorem Good.steps {n:Int} {M:Mc} (h:Good n M) (k:Nat):Good (n+k) (M.steps' k):=by
 induction k with
 | zero=>
   have e:n+((0:Nat):Int)=n:=by simp
   rw [e];exact h
 | succ k ih=>
   have:=ih.step;have e:n+(k:Int)+1=n+((k+1:Nat):Int):=by omega
   rw [e] at this;exact this
end
end
section
open Go Go.W
def begErr (T:Tab) (entry:ByteArray) (input:List Int) (heap every fuel:Int):Int:=
 if 10000 < input.length then 2 else if fuel < 0∨fuel > 16777216 then 1 else if newErr T entry input heap every=220 then 230 else newErr T entry input heap every
theorem ln_three {w:World} {b T:Nat} {v0 v1 v2:Value} {fz:Nat×Nat} (h:w.heap[b]? = some (.cells [v0,v1,v2].toArray T fz)):vLN w 3 (.pointer (some ⟨b,0,none⟩))=some (.agg #[v0,v1,v2]):=by
 have h0:w.cell? ⟨b,0,none⟩=some v0:=(cell_of h 0).trans rfl;have h1:w.cell? ⟨b,1,none⟩=some v1:=(cell_of h 1).trans rfl;have h2:w.cell? ⟨b,2,none⟩=some v2:=(cell_of h 2).trans rfl;simp [vLN,cellsFrom,Addr.add_lit,h0,h1,h2]
theorem ln_eight {w:World} {b T:Nat} {v0 v1 v2 v3 v4 v5 v6 v7:Value} {fz:Nat×Nat} (h:w.heap[b]? = some (.cells [v0,v1,v2,v3,v4,v5,v6,v7].toArray T fz)):vLN w 8 (.pointer (some ⟨b,0,none⟩))=some (.agg #[v0,v1,v2,v3,v4,v5,v6,v7]):=by
 have hh:∀ o v,[v0,v1,v2,v3,v4,v5,v6,v7][o]? = some v→w.cell? ⟨b,o,none⟩=some v:=fun o v hv=>(cell_of h o).trans (by rw [List.getElem?_toArray];exact hv)
 simp [vLN,cellsFrom,Addr.add_lit,hh 0 v0 rfl,hh 1 v1 rfl,hh 2 v2 rfl,hh 3 v3 rfl,hh 4 v4 rfl,hh 5 v5 rfl,hh 6 v6 rfl,hh 7 v7 rfl]
theorem out_one {w w':World} {v:Value} {l:List It} (hv:ToldAt w w' v l) (k st n:Int):∀ u∈[I k,v,I st,I n,I 0,I 0,I 0,.string ⟨#[]⟩],u.oneCell'=true:=by
 obtain ⟨fp,h,_⟩:=hv;obtain ⟨a,c,rfl,_⟩:=h.val;intro u hu;simp only [List.mem_cons,List.not_mem_nil,or_false] at hu;rcases hu with rfl | rfl | rfl | rfl | rfl | rfl | rfl | rfl<;>rfl
section
variable {w:World} {vsh vgl vin:Value} {T:Tab} {B:Nat→Prop} {entry:ByteArray} {input:List Int} {heap every fuel:Int} {gens:Bool}
theorem f_begin (h:TabAt w vsh vgl T B) (hT:TabFit T) (hBl:∀ b,B b→b < w.heap.size) (hin:Ints w vin input) :
   CallsR Tryz.prog 23 [tabV vsh vgl,.string entry,vin,setV heap gens every,I fuel] w fun r w'=>Mod (fun _=>False) w w' ∧
     (begErr T entry input heap every fuel≠0→r = .tuple #[.pointer none,I (begErr T entry input heap every fuel)])∧(begErr T entry input heap every fuel=0→NewAt w w' (newM T entry input heap gens every) r):=by
 have h0:=h;have hin0:=hin;obtain ⟨aI,cI,rfl,hIl,_⟩:=hin;refine fit23.calls rfl ?_;unfold ir23 tabV setV;(try simp only [go_sem,simprocAttr]);refine e_bx rfl ?_;intro w1 hb1 hm1 hs1;(try simp only [go_sem,simprocAttr]);refine e_bx rfl ?_;intro w2 hb2 hm2 hs2;have hm02:=hm1.trans hm2;have hb12:=hm2.at hb1 (fun hh=>hh);by_cases c1:10000 < input.length
 · have e1:decide ((input.length:Int) > 10000)=true:=by rw [decide_eq_true_eq];omega
   have eb:begErr T entry input heap every fuel=2:=by unfold begErr;rw [if_pos c1]
   (try simp only [go_sem,simprocAttr,e1]);rw [eb];exact ⟨hm02,fun _=>rfl,fun hh=>absurd hh (by decide)⟩
 have e1:decide ((input.length:Int) > 10000)=false:=by rw [decide_eq_false_iff_not];omega
 (try simp only [go_sem,simprocAttr,e1]);by_cases c2:fuel < 0∨fuel > 16777216
 · have eb:begErr T entry input heap every fuel=1:=by unfold begErr;rw [if_neg c1,if_pos c2]
   by_cases c3:fuel < 0
   · have e2:decide (fuel < 0)=true:=by rw [decide_eq_true_eq];exact c3
     (try simp only [go_sem,simprocAttr,e2]);rw [eb];exact ⟨hm02,fun _=>rfl,fun hh=>absurd hh (by decide)⟩
   · have e2:decide (fuel < 0)=false:=by rw [decide_eq_false_iff_not];exact c3
     have e3:decide (fuel > 16777216)=true:=by rw [decide_eq_true_eq];omega
     (try simp only [go_sem,simprocAttr,e2,e3]);rw [eb];exact ⟨hm02,fun _=>rfl,fun hh=>absurd hh (by decide)⟩
 have e2:decide (fuel < 0)=false:=by rw [decide_eq_false_iff_not];omega
 have e3:decide (fuel > 16777216)=false:=by rw [decide_eq_false_iff_not];omega
 have hl1:vLN w2 2 (.pointer (some ⟨w.heap.size,0,none⟩))=some (.agg #[vsh,vgl]):=by
   have hh:w2.heap[w.heap.size]? = some (.cells #[vsh,vgl] 25 (0,0)):=hb12;exact ln_two hh
 have hl2:vLN w2 3 (.pointer (some ⟨w1.heap.size,0,none⟩))=some (.agg #[I heap,.bool gens,I every]):=by
   have hh:w2.heap[w1.heap.size]? = some (.cells [I heap,.bool gens,I every].toArray 28 (0,0)):=hb2;exact ln_three hh
 (try simp only [go_sem,simprocAttr,e2,e3,hl1,hl2]);refine e_call (by rfl) ?_;have hT2:TabAt w2 vsh vgl T B:=h0.mod hm02 (fun _ _ h=>h) (fun _ h=>h);refine (m_new hT2 hT (fun b hb=>by have:=hBl b hb;have:=hm02.size;omega) (hin0.mod hm02 (fun _ _ h=>h))).mono ?_;rintro r w3 ⟨hm3,hne,hz⟩;by_cases c4:newErr T entry input heap every=0
 · obtain ⟨τ,m,S,rfl,hA,hh0⟩:=hz c4;have eb:begErr T entry input heap every fuel=0:=by unfold begErr;rw [if_neg c1,if_neg c2,c4];rfl
   have e4:((0:Int) == 220)=false:=rfl;(try simp only [go_sem,simprocAttr,e4]);rw [eb];exact ⟨hm02.trans hm3,fun hh=>absurd rfl hh,fun _=>⟨τ,m,S,rfl,hA,fun b hb=>hh0 b (by have:=hm02.size;omega)⟩⟩
 · obtain rfl:=hne c4;by_cases c5:newErr T entry input heap every=220
   · have eb:begErr T entry input heap every fuel=230:=by unfold begErr;rw [if_neg c1,if_neg c2,if_pos c5]
     have e4:((220:Int) == 220)=true:=rfl;rw [c5];(try simp only [go_sem,simprocAttr,e4]);rw [eb];exact ⟨hm02.trans hm3,fun _=>rfl,fun hh=>absurd hh (by decide)⟩
   · have eb:begErr T entry input heap every fuel=newErr T entry input heap every:=by unfold begErr;rw [if_neg c1,if_neg c2,if_neg c5]
     have e4:(newErr T entry input heap every == 220)=false:=by simp [c5]
     (try simp only [go_sem,simprocAttr,e4]);rw [eb];exact ⟨hm02.trans hm3,fun _=>rfl,fun hh=>absurd hh c4⟩
theorem f_SRun (h:TabAt w vsh vgl T B) (hT:TabFit T) (hBl:∀ b,B b→b < w.heap.size) (hin:Ints w vin input) (hfu:fuel≤400000∨fuel > 16777216) :
   CallsR Tryz.prog 11 [tabV vsh vgl,.string entry,vin,setV heap gens every,I fuel] w fun r w'=>Mod (fun _=>False) w w' ∧
     (begErr T entry input heap every fuel≠0→r = .tuple #[outV 0 (.slice none 0 0) 0 0,I (begErr T entry input heap every fuel)]) ∧
     (begErr T entry input heap every fuel=0→∃ v,r = .tuple #[outV (outKind ((newM T entry input heap gens every).steps' fuel.toNat)) v ((newM T entry input heap gens every).steps' fuel.toNat).stuck ((newM T entry input heap gens every).steps' fuel.toNat).steps,I 0]∧ToldAt w w' v ((newM T entry input heap gens every).steps' fuel.toNat).told):=by
 have h0:=h;have hin0:=hin;obtain ⟨aI,cI,rfl,hIl,_⟩:=hin;refine fit11.calls rfl ?_;unfold ir11 tabV setV;(try simp only [go_sem,Nat.reduceAdd,Nat.reduceEqDiff,Nat.reduceLT,Nat.reduceLeDiff,Nat.reduceMul,reduceCtorEq,↓reduceIte]);refine e_bx rfl ?_;intro w1 hb1 hm1 hs1;(try simp only [go_sem,Nat.reduceAdd,Nat.reduceEqDiff,Nat.reduceLT,Nat.reduceLeDiff,Nat.reduceMul,reduceCtorEq,↓reduceIte]);refine e_bx rfl ?_;intro w2 hb2 hm2 hs2;(try simp only [go_sem,Nat.reduceAdd,Nat.reduceEqDiff,Nat.reduceLT,Nat.reduceLeDiff,Nat.reduceMul,reduceCtorEq,↓reduceIte]);refine e_al ?_;intro w3 hb3 hm3 hs3;have hm03:=(hm1.trans hm2).trans hm3;have hb13:=(hm2.trans hm3).at hb1 (fun hh=>hh);have hb23:=hm3.at hb2 (fun hh=>hh);have hl1:vLN w3 2 (.pointer (some ⟨w.heap.size,0,none⟩))=some (.agg #[vsh,vgl]):=by
   have hh:w3.heap[w.heap.size]? = some (.cells #[vsh,vgl] 25 (0,0)):=hb13;exact ln_two hh
 have hl2:vLN w3 3 (.pointer (some ⟨w1.heap.size,0,none⟩))=some (.agg #[I heap,.bool gens,I every]):=by
   have hh:w3.heap[w1.heap.size]? = some (.cells [I heap,.bool gens,I every].toArray 28 (0,0)):=hb23;exact ln_three hh
 (try simp only [go_sem,Nat.reduceAdd,Nat.reduceEqDiff,Nat.reduceLT,Nat.reduceLeDiff,Nat.reduceMul,reduceCtorEq,↓reduceIte,hl1,hl2]);refine e_call (by rfl) ?_;refine (f_begin (gens:=gens) (h0.mod hm03 (fun _ _ h=>h) (fun _ h=>h)) hT (fun b hb=>by have:=hBl b hb;have:=hm03.size;omega) (hin0.mod hm03 (fun _ _ h=>h))).mono ?_;rintro r w4 ⟨hm4,hne,hz⟩;have hm04:=hm03.trans hm4;have hb34:=hm4.at hb3 (fun hh=>hh);by_cases c4:begErr T entry input heap every fuel=0
 · obtain ⟨τ,m,S,rfl,hA,hh0⟩:=hz c4;have e4:((0:Int) != 0)=false:=rfl;have hfu':¬ fuel < 0∧¬ fuel > 16777216:=by
     unfold begErr at c4
     split at c4
     · cases c4
     split at c4
     · cases c4
     · rename_i hh;omega
   have hne0:newErr T entry input heap every=0:=by
     unfold begErr at c4
     split at c4
     · cases c4
     split at c4
     · cases c4
     split at c4
     · cases c4
     · exact c4
   have hg:=newM_good (gens:=gens) hne0;have hg':=hg.steps fuel.toNat;(try simp only [go_sem,Nat.reduceAdd,Nat.reduceEqDiff,Nat.reduceLT,Nat.reduceLeDiff,Nat.reduceMul,reduceCtorEq,↓reduceIte,e4]);refine e_call (by rfl) ?_;have hst:=hg.st;refine (m_run hA hg.al (by omega) (by omega) hg.kd ⟨by omega,by omega⟩ hg.gl (c:=fuel) (by omega)).mono ?_;rintro _ w5 ⟨rfl,ks',τ',j1,j2,j3⟩;(try simp only [go_sem,Nat.reduceAdd,Nat.reduceEqDiff,Nat.reduceLT,Nat.reduceLeDiff,Nat.reduceMul,reduceCtorEq,↓reduceIte]);refine e_call (by rfl) ?_;refine (m_outcome j2 (by have:=hg'.lt;omega)).mono ?_;rintro _ w6 ⟨v,rfl,hv,hm6⟩;have hno:∀ b,b < w3.heap.size→¬ (τ b).own:=fun b hb hh=>hh.1 (hh0 b hb)
   have hb35:=j3.at hb34 (fun hh=>hno _ (lt_of_heap hb3) hh);have hb36:=hm6.at hb35 (fun hh=>hh);refine e_sta (cs:=[I 0,.slice none 0 0,I 0,I 0,I 0,I 0,I 0,.string ⟨#[]⟩]) rfl rfl hb36 rfl rfl (out_one hv _ _ _) ?_;intro w7 hb7 hm7 hs7
   have hm45:Mod (fun b=>w3.heap.size≤b) w4 w5:=j3.weak (fun b hb=>by
     rcases Nat.lt_or_ge b w3.heap.size with h' | h'
     · exact absurd hb (hno b h')
     · exact h')
   have h3s:=lt_of_heap hb3;have hs4:=hm4.size;have hs3w:=hm03.size;have hs5:=j3.size;have hs6:=hm6.size;have hs2:w.heap.size≤w2.heap.size:=(hm1.trans hm2).size;have hml:Mod (fun b=>w.heap.size≤b) w w7:=((((hm04.weak (fun _ hh=>hh.elim)).trans (hm45.weak (fun b hb=>by omega))).trans (hm6.weak (fun _ hh=>hh.elim))).trans (hm7.weak (fun b hb=>by omega)));refine ⟨_,by rw [ln_eight hb7];rfl,⟨hml.size,fun b hb _=>hml.old b hb (by omega),hml.os,hml.tape,hml.output⟩,fun hh=>absurd c4 hh,fun _=>⟨v,rfl,?_⟩⟩;obtain ⟨fp,g1,g2⟩:=hv;refine ⟨fp,g1.mod hm7 (fun b hb hh=>by have:=g2 b hb;omega),fun b hb=>by have:=g2 b hb;omega⟩
 · obtain rfl:=hne c4;have e4:(begErr T entry input heap every fuel != 0)=true:=by simp [c4]
   (try simp only [go_sem,Nat.reduceAdd,Nat.reduceEqDiff,Nat.reduceLT,Nat.reduceLeDiff,Nat.reduceMul,reduceCtorEq,↓reduceIte,e4]);refine e_sta (vs:=[I 0,.slice none 0 0,I 0,I 0,I 0,I 0,I 0,.string ⟨#[]⟩]) (cs:=[I 0,.slice none 0 0,I 0,I 0,I 0,I 0,I 0,.string ⟨#[]⟩]) rfl rfl hb34 rfl rfl (by intro u hu;simp only [List.mem_cons,List.not_mem_nil,or_false] at hu;rcases hu with rfl | rfl | rfl | rfl | rfl | rfl | rfl | rfl<;>rfl) ?_;intro w7 hb7 hm7 hs7;have hs2:w.heap.size≤w2.heap.size:=(hm1.trans hm2).size;have hml:Mod (fun b=>w.heap.size≤b) w w7:=(hm04.weak (fun _ hh=>hh.elim)).trans (hm7.weak (fun b hb=>by omega));exact ⟨_,by rw [ln_eight hb7];rfl,⟨hml.size,fun b hb _=>hml.old b hb (by omega),hml.os,hml.tape,hml.output⟩,fun _=>rfl,fun hh=>absurd hh c4⟩
end
end
section
open Go Go.W
def swC:List Ins:=[⟨3,7,0⟩,⟨7,1,0⟩,⟨17,0,0⟩]
def swT:Tab:=⟨givenS,[⟨⟨#[109]⟩,0,swC⟩]⟩
def swM:Mc:=newM swT ⟨#[109]⟩ [] 100 false 0
theorem sw_err:begErr swT ⟨#[109]⟩ [] 100 0 1000=0:=by kernel_rfl
theorem sw_kind:outKind (swM.steps' 1000)=2:=by kernel_rfl
theorem sw_told:(swM.steps' 1000).told=[⟨⟨#[]⟩,7⟩]:=by kernel_rfl
theorem sw_fit:TabFit swT:=by
 refine ⟨by decide,by decide,?_,?_,?_,?_⟩
 all_goals decide
theorem itoa5:itoaB 5=⟨#[53]⟩:=by
 unfold itoaB Lib.itoa;rw [if_neg (by decide)];show (⟨(Lib.decDigits 5).toArray⟩:ByteArray)=_;rw [Lib.decDigits,dif_pos (by decide)];rfl
theorem show5:showS itoaB [] [⟨⟨#[]⟩,5⟩]=(⟨#[53]⟩,0):=by
 have hk:knownS (fldS []) [⟨⟨#[]⟩,5⟩]=true:=by decide
 have e1:ws0.steps itoaB (fldS []) [⟨⟨#[]⟩,5⟩] 1=⟨1,0,[],⟨#[]⟩++itoaB 5⟩:=rfl;have hf:finS itoaB (fldS []) [⟨⟨#[]⟩,5⟩]=⟨1,0,[],⟨#[]⟩++itoaB 5⟩:=by
   rw [fin_of (k:=1) (by decide) (by rw [e1]),e1]
 unfold showS;rw [if_pos hk,hf,if_neg (by decide),itoa5];rfl
theorem f_seven (w:World):CallsR Tryz.prog 19 [] w fun r w'=>∃ b1 b2,r=tabV (.slice (some ⟨b1,0,none⟩) 7 7) (.slice (some ⟨b2,0,none⟩) 1 1)∧TabAt w' (.slice (some ⟨b1,0,none⟩) 7 7) (.slice (some ⟨b2,0,none⟩) 1 1) swT (· < w'.heap.size)∧Mod (fun _=>False) w w':=by
 refine fit19.calls rfl ?_;unfold ir19;(try simp only [go_sem,simprocAttr]);refine e_al ?_;intro w1 hb1 hm1 hs1;(try simp only [go_sem,simprocAttr]);refine e_bs (by rfl) (by rfl) ?_;intro w2 hb2 hm2 hs2;(try simp only [go_sem,simprocAttr]);refine e_al ?_;intro w3 hb3 hm3 hs3;(try simp only [go_sem,simprocAttr]);have hb3':w3.heap[w2.heap.size]? = some (.cells [.slice none 0 0,.slice none 0 0].toArray 25 (0,0)):=hb3;refine e_sta (vs:=[.slice (some ⟨w1.heap.size,0,none⟩) 7 7,.slice none 0 0]) rfl rfl hb3' rfl rfl (by intro u hu;simp only [List.mem_cons,List.not_mem_nil,or_false] at hu;rcases hu with rfl | rfl<;>rfl) ?_;intro w4 hb4 hm4 hs4;(try simp only [go_sem,simprocAttr]);refine e_bs (by rfl) (by rfl) ?_;intro w5 hb5 hm5 hs5;(try simp only [go_sem,simprocAttr]);refine e_bs (by rfl) (by rfl) ?_;intro w6 hb6 hm6 hs6;(try simp only [go_sem,simprocAttr]);have hb46:=(hm5.trans hm6).at hb4 (fun hh=>hh);refine e_st1 (off:=1) rfl rfl hb46 rfl (by simp) ?_;intro w7 hb7 hm7 hs7;(try simp only [go_sem,simprocAttr]);have hl7:=ln_two hb7;(try simp only [go_sem,simprocAttr,hl7]);have z:∀ {a b:World} {k:Nat},w.heap.size≤k→Mod (· = k) a b→Mod (fun b=>w.heap.size≤b) a b:=fun hk hm=>hm.weak (fun b hb=>by omega)
 have z0:∀ {a b:World},Mod (fun _=>False) a b→Mod (fun b=>w.heap.size≤b) a b:=fun hm=>hm.weak (fun _ hh=>hh.elim)
 have hm27:Mod (· = w2.heap.size) w2 w7:=(((hm3.weak (fun _ hh=>hh.elim)).trans hm4).trans ((hm5.trans hm6).weak (fun _ hh=>hh.elim))).trans hm7;have hm57:Mod (· = w2.heap.size) w6 w7:=hm7;have hb17:=(((hm2.trans hm3).weak (S':=(· = w2.heap.size)) (fun _ hh=>hh.elim)).trans hm4 |>.trans ((hm5.trans hm6).weak (fun _ hh=>hh.elim)) |>.trans hm7).at hb1 (fun hh=>by omega);have hs57:=(hm5.trans hm6).size;have hb17':w7.heap[w.heap.size]? = some (.cells [.slice none 0 0,.slice none 0 0].toArray 25 (0,0)):=hb17;refine e_sta (vs:=[.slice (some ⟨w1.heap.size,0,none⟩) 7 7,.slice (some ⟨w5.heap.size,0,none⟩) 1 1]) rfl rfl hb17' rfl rfl (by intro u hu;simp only [List.mem_cons,List.not_mem_nil,or_false] at hu;rcases hu with rfl | rfl<;>rfl) ?_;intro w8 hb8 hm8 hs8;(try simp only [go_sem,simprocAttr,ln_two hb8]);have hb28:=hm8.at (hm27.at hb2 (fun hh=>by omega)) (fun hh=>by omega);have hb58:=hm8.at (hm57.at (hm6.at hb5 (fun hh=>hh)) (fun hh=>by omega)) (fun hh=>by omega);have hb68:=hm8.at (hm57.at hb6 (fun hh=>by omega)) (fun hh=>by omega);have hs26:w2.heap.size≤w4.heap.size:=by omega
 have hl8:∀ {b:Nat} {o:Obj},w8.heap[b]? = some o→b < w8.heap.size:=fun h=>(Array.getElem?_eq_some_iff.1 h).1
 refine ⟨w1.heap.size,w5.heap.size,rfl,⟨(own_rows (rows:=givenS.map shRow) (T:=47) (fp:=some w1.heap.size) (OwnS.of_block hb28 (by rfl)) (by decide)).mod (Mod.refl (fun _=>False) _) (fun _ _ h=>h) (fun b e=>by cases e;exact hl8 hb28),[.slice (some ⟨w4.heap.size,0,none⟩) 3 3],rfl,?_,?_⟩,?_⟩
 · exact (own_rows (rows:=[[.string ⟨#[109]⟩,I 0,.slice (some ⟨w4.heap.size,0,none⟩) 3 3]]) (T:=59) (fp:=some w5.heap.size) (OwnS.of_block hb68 (by rfl)) (by intro r hr;cases hr with | head=>rfl | tail _ h=>cases h)).mod (Mod.refl (fun _=>False) _) (fun _ _ h=>h) (fun b e=>by cases e;exact hl8 hb68)
 · intro i g v hg hv;cases i with
   | zero=>
     cases hg;cases hv;exact (own_rows (rows:=swC.map insRow) (T:=61) (fp:=some w4.heap.size) (OwnS.of_block hb58 (by rfl)) (by intro r hr;obtain ⟨x,_,rfl⟩:=List.mem_map.1 hr;rfl)).mod (Mod.refl (fun _=>False) _) (fun _ _ h=>h) (fun b e=>by cases e;exact hl8 hb58)
   | succ i=>cases hg
 · have hml:Mod (fun b=>w.heap.size≤b) w w8:=(((z0 hm1).trans (z0 hm2)).trans (z (by omega) hm27)).trans (z (Nat.le_refl _) hm8);exact ⟨hml.size,fun b hb _=>hml.old b hb (by omega),hml.os,hml.tape,hml.output⟩
end
section
open Go Go.W Go.RowKit
theorem tb_up {lo:Nat} {w w':World} (h:TbAt lo w) (hm:Mod (fun _=>False) w w'):TbAt w'.heap.size w':=by
 obtain ⟨g,h1,h2,h3,_⟩:=TbAt.mod (mp:=0) h (hm.weak (fun _ hh=>hh.elim));exact ⟨g,h1,by omega,Nat.le_refl _,by assumption⟩
theorem nil_ints (w:World):Ints w (.slice none 0 0) []:=⟨none,0,rfl,by simp,fun i hi=>absurd hi (by simp)⟩
theorem nil_rows (w:World) (B:Nat→Prop):RowsAt w (.slice none 0 0) 2 [] B:=⟨none,0,rfl,(fun h=>absurd h (by decide)),fun i hi=>absurd hi (by simp)⟩
theorem f_awakeS {w:World} (ht:TbAt w.heap.size w):CallsR Tryz.prog 8 [] w fun r w'=>r = .bool true∧Mod (fun _=>False) w w':=by
 refine fit8.calls rfl ?_;unfold ir8;(try simp only [go_sem,Nat.reduceAdd,Nat.reduceEqDiff,Nat.reduceLT,Nat.reduceLeDiff,Nat.reduceMul,reduceCtorEq,↓reduceIte]);refine e_call (by rfl) ?_;refine (f_seven w).mono ?_;rintro _ w1 ⟨b1,b2,rfl,hT,hm1⟩;(try simp only [go_sem,Nat.reduceAdd,Nat.reduceEqDiff,Nat.reduceLT,Nat.reduceLeDiff,Nat.reduceMul,reduceCtorEq,↓reduceIte]);refine e_call (by rfl) ?_;refine (f_SRun (entry:=⟨#[109]⟩) (input:=[]) (heap:=100) (gens:=false) (every:=0) (fuel:=1000) hT sw_fit (fun b h=>h) (nil_ints _) (.inl (by decide))).mono ?_;rintro r w2 ⟨hm2,_,hz⟩;obtain ⟨v,rfl,hv⟩:=hz sw_err;have e1:((newM swT ⟨#[109]⟩ [] 100 false 0).steps' (1000:Int).toNat).told=[⟨⟨#[]⟩,7⟩]:=sw_told;have e2:outKind ((newM swT ⟨#[109]⟩ [] 100 false 0).steps' (1000:Int).toNat)=2:=sw_kind;rw [e1] at hv;rw [e2];(try simp only [go_sem,Nat.reduceAdd,Nat.reduceEqDiff,Nat.reduceLT,Nat.reduceLeDiff,Nat.reduceMul,reduceCtorEq,↓reduceIte]);refine e_al ?_;intro w3 hb3 hm3 hs3;(try simp only [go_sem,Nat.reduceAdd,Nat.reduceEqDiff,Nat.reduceLT,Nat.reduceLeDiff,Nat.reduceMul,reduceCtorEq,↓reduceIte]);refine e_sta (cs:=[I 0,.slice none 0 0,I 0,I 0,I 0,I 0,I 0,.string ⟨#[]⟩]) rfl rfl hb3 rfl rfl (out_one hv _ _ _) ?_;intro w4 hb4 hm4 hs4;have hm24:Mod (fun _=>False) w2 w4:=hm3.step hm4 (fun b hb hl=>by subst hb;omega);(try simp only [go_sem,Nat.reduceAdd,Nat.reduceEqDiff,Nat.reduceLT,Nat.reduceLeDiff,Nat.reduceMul,reduceCtorEq,↓reduceIte]);refine e_bs (by rfl) (by rfl) ?_;intro w5 hb5 hm5 hs5;have hm05:=((hm1.trans hm2).trans hm24).trans hm5;have hr5:RowsAt w5 (.slice (some ⟨w4.heap.size,0,none⟩) 1 1) 2 ([⟨⟨#[]⟩,5⟩].map itRow) (· < w5.heap.size):=
   (own_rows (rows:=[⟨⟨#[]⟩,5⟩].map itRow) (T:=42) (fp:=some w4.heap.size) (OwnS.of_block hb5 (by rfl)) (by intro r hr;cases hr with | head=>rfl | tail _ h=>cases h)).mod (Mod.refl (fun _=>False) _) (fun _ _ h=>h) (fun b e=>by cases e;exact lt_of_heap hb5)
 refine e_call (by rfl) ?_;refine (f_Show (items:=[⟨⟨#[]⟩,5⟩]) (shapes:=[]) hr5 (nil_rows _ _) (tb_up ht hm05) (by decide) (by decide) (by decide)).mono ?_;rintro _ w6 ⟨rfl,hm6⟩;rw [show5];have hb46:=(hm5.trans hm6).at hb4 (fun hh=>hh);have hv6:OwnS w6 42 2 v ([⟨⟨#[]⟩,7⟩].flatMap itRow) 1 hv.choose:=((hv.choose_spec.1.mod hm24 (fun _ _ h=>h)).mod hm5 (fun _ _ h=>h)).mod hm6 (fun _ _ h=>h);obtain ⟨b,c,sp',rfl,hc1,hc2,hc3,hc4⟩:∃ b c sp',v = .slice (some ⟨b,0,none⟩) 1 c∧hv.choose=some b∧w6.heap[b]? = some (.cells ([⟨⟨#[]⟩,7⟩].flatMap itRow++sp').toArray 42 (0,0))∧c*2≤([⟨⟨#[]⟩,7⟩].flatMap itRow++sp').length∧1≤c:=by
   rcases hv6.2 with ⟨_,h',_⟩ | h'
   · cases h'
   · exact h'
 have hl:vLN w6 2 (.pointer (some ⟨b,0,none⟩))=some (.agg #[.string ⟨#[]⟩,I 7]):=by
   refine ln_2 ?_ ?_
   · rw [Addr.add_zero'];exact (cell_of hc2 0).trans rfl
   · rw [Addr.add_lit];exact (cell_of hc2 1).trans rfl
 have b1:(0:Int)≤0∧(0:Int) < 1:=by decide
 (try simp only [go_sem,Nat.reduceAdd,Nat.reduceEqDiff,Nat.reduceLT,Nat.reduceLeDiff,Nat.reduceMul,reduceCtorEq,↓reduceIte,zb4,zb6,cell_of hb46,hl,b1,Nat.zero_mul,Int.natCast_one,ba_lq,ieq,decide_true,List.getElem_cons_zero,beq_self_eq_true,Int.reduceBEq,Int.reduceSub,Int.reduceLE,Int.reduceLT]);exact hm05.trans hm6
theorem and_mask (a:Int):0≤IntKind.i64.wrap ((BitVec.ofInt 64 a &&& BitVec.ofInt 64 1048575).toNat:Int)∧IntKind.i64.wrap ((BitVec.ofInt 64 a &&& BitVec.ofInt 64 1048575).toNat:Int)≤1048575:=by
 have h:(BitVec.ofInt 64 a &&& BitVec.ofInt 64 1048575).toNat≤1048575:=by
   rw [BitVec.toNat_and];exact Nat.le_trans Nat.and_le_right (by decide)
 rw [IntKind.wrap_i64];omega
theorem ba_ne_size {s:ByteArray} (h:0 < s.size):decide (s=⟨#[]⟩)=false:=by
 rw [decide_eq_false_iff_not];intro e;rw [e] at h;exact absurd h (by decide)
theorem show_small {itoa:Int→ByteArray} {shapes:List Shp} {items:List It} (hi:∀ n,0 < (itoa n).size) (hl:items.length≤4194304):(showS itoa shapes items).2≤4611686018427387904:=by
 unfold showS
 split
 · rename_i hk
   split
   · show (-1:Int)≤_;decide
   · show (finS itoa (fldS shapes) items).opn≤_;have h:=fin_at (itoa:=itoa) hi hk;rw [h];have hb:∀ l:List It,(∀ x∈l,arS (fldS shapes) x≤8)→(l.map fun x=>(arS (fldS shapes) x:Int) - 1).sum≤7*l.length:=by
       intro l hl
       induction l with
       | nil=>simp
       | cons x l ih=>
         have h1:=hl x (by simp);have h2:=ih (fun y hy=>hl y (by simp [hy]));rw [List.map_cons,List.sum_cons,List.length_cons];omega
     have har:∀ x∈items,arS (fldS shapes) x≤8:=fun x hx=>by
       obtain ⟨i,hi',rfl⟩:=List.getElem_of_mem hx;unfold arS
       split
       · exact Nat.zero_le _
       · rcases known_at hk (List.getElem?_eq_getElem hi') with h | h
         · exact absurd h (by assumption)
         · omega
     have:=hb (items.take (finS itoa (fldS shapes) items).at') (fun x hx=>har x (List.mem_of_mem_take hx));have hlt:(items.take (finS itoa (fldS shapes) items).at').length≤items.length:=by rw [List.length_take];omega
     unfold waitS;omega
 · show (-1:Int)≤_;decide
theorem f_Open {w:World} {vI vS:Value} {items:List It} {shapes:List Shp} {cutAt:Int} (hI:RowsAt w vI 2 (items.map itRow) (· < w.heap.size)) (hS:RowsAt w vS 2 (shapes.map shRow) (· < w.heap.size)) (ht:TbAt w.heap.size w) (hlen:items.length≤4194304) (hls:shapes.length≤4294967296) (hsum:sumC items≤17592186044416) (hcap:∀ a n c,vI = .slice a n c→n≤c) :
   CallsR Tryz.prog 5 [vI,vS,I cutAt] w fun r w'=>r = .bool true∧Mod (fun _=>False) w w':=by
 have hI0:=hI;obtain ⟨aI,cI,hvI,hIb,hIr⟩:=hI;have hvI:vI = .slice aI items.length cI:=by simpa using hvI
 subst hvI;obtain ⟨law1,law2⟩:=open_law (itoa:=itoaB) (shapes:=shapes) (items:=items) itoaB_pos;refine fit5.calls rfl ?_;unfold ir5;(try simp only [go_sem,simprocAttr]);refine e_call (by rfl) ?_;refine (f_awakeS ht).mono ?_;rintro _ w1 ⟨rfl,hm1⟩;(try simp only [go_sem,simprocAttr]);refine e_call (by rfl) ?_;have up:∀ {w':World} {v:Value} {rows:List (List Value)},Mod (fun _=>False) w w'→RowsAt w v 2 rows (· < w.heap.size)→RowsAt w' v 2 rows (· < w'.heap.size):=fun hm h=>h.mod hm (fun _ _ h=>h) (fun b hb=>by have:=hm.size;omega)
 refine (f_Show (up hm1 hI0) (up hm1 hS) (tb_up ht hm1) hlen hls hsum).mono ?_;rintro _ w2 ⟨rfl,hm2⟩;have hm02:=hm1.trans hm2;obtain ⟨n,hn⟩:∃ n,n=(showS itoaB shapes items).2:=⟨_,rfl⟩;rw [← hn] at law1 law2 ⊢;by_cases h0:n < 0∨items.length=0
 · have e3:decide (n ≥ -1)=true:=by rw [decide_eq_true_eq];exact law1
   by_cases h1:n < 0
   · have e1:decide (n < 0)=true:=by rw [decide_eq_true_eq];exact h1
     (try simp only [go_sem,simprocAttr,e1,e3,Bool.not_true]);exact hm02
   · have e1:decide (n < 0)=false:=by rw [decide_eq_false_iff_not];exact h1
     have e2:((items.length:Int) == 0)=true:=by
       have:items.length=0:=by omega
       rw [this];rfl
     (try simp only [go_sem,simprocAttr,e1,e2,e3,Bool.not_true]);exact hm02
 · have e1:decide (n < 0)=false:=by rw [decide_eq_false_iff_not];omega
   have hl0:0 < items.length:=by omega
   have e2:((items.length:Int) == 0)=false:=by
     have:(items.length:Int)≠0:=by omega
     simp [this];intro e;rw [e] at hl0;exact absurd hl0 (by decide)
   have hl1:¬ (items.length:Int)=0:=by omega
   (try simp only [go_sem,simprocAttr,e1,e2,Bool.not_true,hl1]);generalize hg:IntKind.i64.wrap _=m;have hmm:0≤m∧m≤1048575:=by rw [← hg];exact and_mask cutAt
   obtain ⟨k,hk⟩:∃ k:Nat,m.tmod items.length=(k:Int):=⟨(m.tmod items.length).toNat,by rw [Int.toNat_of_nonneg (Int.tmod_nonneg _ hmm.1)]⟩;have hkl:k < items.length:=by
     have:=Int.tmod_lt_of_pos m (show (0:Int) < items.length by omega);omega
   have hcI:=hcap _ _ _ rfl;have hc0:¬ cI=0:=by omega
   have hkc:(0:Int)≤(k:Int)∧(k:Int)≤(cI:Int):=by omega
   have e7:Option.map (fun (x:Addr)=>x) aI=aI:=by cases aI<;>rfl
   (try simp only [go_sem,simprocAttr,hk,hkc,Int.toNat_natCast,hc0,e7,Nat.sub_zero]);refine e_call (by rfl) ?_;have hIk:RowsAt w (.slice aI k cI) 2 ((items.take k).map itRow) (· < w.heap.size):=by
     have hlk:((items.take k).map itRow).length=k:=by rw [List.length_map,List.length_take];omega
     refine ⟨aI,cI,by rw [hlk],fun _ ad e=>hIb (by rw [List.length_map];omega) ad e,fun i hi=>?_⟩;rw [hlk] at hi;obtain ⟨ad,g1,g2,g3⟩:=hIr i (by rw [List.length_map];omega);have e8:((items.take k).map itRow)[i]'(by rw [hlk];exact hi)=(items.map itRow)[i]'(by rw [List.length_map];omega):=by simp
     refine ⟨ad,g1,by rw [e8];exact g2,fun j hj=>?_⟩;simp only [e8] at hj ⊢;exact g3 j hj
   refine (f_Show (items:=items.take k) (up hm02 hIk) (up hm02 hS) (tb_up ht hm02) (by rw [List.length_take];omega) hls (Nat.le_trans (sumC_take k) hsum)).mono ?_;rintro _ w3 ⟨rfl,hm3⟩;obtain ⟨q1,q2,q3⟩:=law2 (by omega) k hkl;obtain ⟨o,ho⟩:∃ o,o=(showS itoaB shapes (items.take k)).2:=⟨_,rfl⟩;rw [← ho] at q1 q2 ⊢;have hwn:n≤4611686018427387904:=by
     rw [hn];exact show_small itoaB_pos hlen
   have w1':IntKind.i64.wrap (n+items.length)=n+items.length:=by rw [IntKind.wrap_i64];omega
   have w2':IntKind.i64.wrap (n+items.length - k)=n+items.length - k:=by rw [IntKind.wrap_i64];omega
   have d1:decide (o≥1)=true:=by rw [decide_eq_true_eq];exact q1
   have d2:decide (o≤n+items.length - k)=true:=by rw [decide_eq_true_eq];omega
   have d3:=ba_ne_size q3;(try simp only [go_sem,simprocAttr,d1,w1',w2',d2,ba_lq,d3,Bool.not_false]);exact hm02.trans hm3
end
section
open Go Go.W Go.ChangeShapes Go.WideShapes Go.ChangeAt Go.RowKit Go.Deep
instance:Inhabited It:=⟨⟨⟨#[]⟩,0⟩⟩
section
variable {H:Type} {enc:TypeId×Value→H} {w:World} {base:Nat} {held:Bool}
theorem it_in (n:Nat) (cs:List Value) (y:DataW H×List MemPlace) (h:DataW.trod enc Tryz.prog w base (fun _=>true) held n 42 cs=some y) (hw:(y.1.weights Tryz.prog 42).all (·≤reachBytes)=true) :
   ∃ x:It,cs=itRow x∧True∧x.con.size+1≤Rows.uptoBulk y.1:=by
 obtain ⟨xs,m,rfl,rfl,hl,hxs,hf⟩:=DataW.trod_struct Tryz.underlying42 h;rw [Tryz.cells42] at hl
 match cs,hl,xs,hxs with
 | [c0,c1],_,[x0,x1],_=>
 have f0:=hf 0 _ rfl;have f1:=hf 1 _ rfl;simp only [Tryz.cells3,Tryz.cells9,List.drop_zero,List.drop_succ_cons,List.take_succ_cons,List.take_zero,List.getElem?_cons_zero,List.getElem?_cons_succ] at f0 f1;simp only [DataW.weights,Tryz.underlying42,List.map_cons,List.map_nil,DataW.weightsEach] at hw;obtain ⟨hw0,_⟩:=all_app hw;obtain ⟨s,rfl,hs,hb⟩:=str_in f0 hw0;obtain ⟨i1,e1,rfl,_⟩:=DataW.trod_int Tryz.underlying3 f1;cases e1;refine ⟨⟨s,i1⟩,rfl,trivial,?_⟩;simp only [Rows.uptoBulk,Rows.uptoBulkAll,List.map_cons,List.map_nil,← hb];omega
variable {ts:List TypeId} {args:List Value} {ds:List (DataW H)}
theorem lawIn_cons {P:Program} {t:TypeId} (h:LawIn enc P (t::ts) w args ds):∃ v args' d ds' base p,args=v::args'∧ds=d::ds'∧LawIn enc P ts w args' ds'∧Value.okWide P w .any base t v∧DataW.Trod enc P w 0 (fun _=>true) true t v d p∧(d.weights P t).all (·≤reachBytes)=true:=by
 obtain ⟨⟨base,hval⟩,⟨ps,hA⟩,hsz⟩:=h;obtain ⟨v,vs,d,ds',p,q,rfl,rfl,rfl,hd,hrest⟩:=trodAll_cons hA;rw [DataW.weightsEach] at hsz;obtain ⟨h1,h2⟩:=all_app hsz;exact ⟨v,vs,d,ds',base,p,rfl,rfl,⟨⟨base,fun j t' v' ht hv=>hval (j+1) t' v' ht hv⟩,⟨q,hrest⟩,h2⟩,hval 0 t v rfl rfl,hd,h1⟩
theorem lawIn_nil {P:Program} (h:LawIn enc P [] w args ds):args=[]∧ds=[]:=by
 obtain ⟨_,⟨ps,hA⟩,_⟩:=h;obtain ⟨rfl,rfl,_⟩:=trodAll_nil hA;exact ⟨rfl,rfl⟩
theorem in_int (h:LawIn enc Tryz.prog (3::ts) w args ds):∃ n args' d ds',args=I n::args'∧ds=d::ds'∧LawIn enc Tryz.prog ts w args' ds':=by
 obtain ⟨v,args',d,ds',base,p,rfl,rfl,h',hval,hd,_⟩:=lawIn_cons h;obtain ⟨n,rfl,_⟩:=open_int Tryz.underlying3 hval hd;exact ⟨n,args',d,ds',rfl,rfl,h'⟩
theorem sum_len {α:Type} (μ:α→Nat) (l:List α):(l.map fun x=>μ x+1).sum=(l.map μ).sum+l.length:=by
 induction l with
 | nil=>rfl
 | cons a l ih=>simp only [List.map_cons,List.sum_cons,List.length_cons,ih];omega
theorem in_items (h:LawIn enc Tryz.prog (32::ts) w args ds) (hb:Rows.uptoBulkAll ds≤1048576):∃ (v:Value) (items:List It) (args':List Value) (d:DataW H) (ds':List (DataW H)),args=v::args'∧ds=d::ds'∧RowsAt w v 2 (items.map itRow) (· < w.heap.size)∧sumC items+items.length≤1048576∧(∀ a n c,v = .slice a n c→n≤c)∧LawIn enc Tryz.prog ts w args' ds'∧Rows.uptoBulkAll ds'≤1048576:=by
 obtain ⟨v,args',d,ds',base,p,rfl,rfl,h',hval,hd,hw⟩:=lawIn_cons h;obtain ⟨a0,len,cap,rfl⟩:=okWide_slice Tryz.underlying32 hval;obtain ⟨fuel,hf⟩:=hd;rw [Rows.uptoBulkAll] at hb;have hf':DataW.trod enc Tryz.prog w 0 (fun _=>true) true fuel 32 [.slice a0 len cap]=some (d,p):=by simpa [Value.cells] using hf
 obtain ⟨v,os,e,h1,_,_,h2⟩:=open_rows itRow (fun _=>True) (fun x=>x.con.size+1) Tryz.underlying32 Tryz.cells42 Tryz.bytes42 (fun _=>rfl) (by decide) (it_in (H:=H)) hf' hw;cases e;have h3:=sum_len (fun x:It=>x.con.size) os;have h4:(os.map fun x=>x.con.size+1).sum+1≤Rows.uptoBulk d:=h2;have h5:(os.map fun x:It=>x.con.size).sum=sumC os:=rfl;refine ⟨_,os,args',d,ds',rfl,rfl,h1,by omega,fun a n c e=>?_,h',by omega⟩;cases e;rcases open_slice Tryz.underlying32 hf' with ⟨e,_⟩ | ⟨a,len',cap',m,k',D,Pl,e,_,hl,_⟩
 · cases e;exact Nat.le_refl _
 · cases e;exact hl
theorem in_shapes (h:LawIn enc Tryz.prog (22::ts) w args ds) (hb:Rows.uptoBulkAll ds≤1048576):∃ (v:Value) (shapes:List Shp) (args':List Value) (d:DataW H) (ds':List (DataW H)),args=v::args'∧ds=d::ds'∧RowsAt w v 2 (shapes.map shRow) (· < w.heap.size)∧shapes.length≤1048576∧LawIn enc Tryz.prog ts w args' ds'∧Rows.uptoBulkAll ds'≤1048576:=by
 obtain ⟨v,args',d,ds',base,p,rfl,rfl,h',hval,hd,hw⟩:=lawIn_cons h;obtain ⟨a0,len,cap,rfl⟩:=okWide_slice Tryz.underlying22 hval;obtain ⟨fuel,hf⟩:=hd;rw [Rows.uptoBulkAll] at hb;have hf':DataW.trod enc Tryz.prog w 0 (fun _=>true) true fuel 22 [.slice a0 len cap]=some (d,p):=by simpa [Value.cells] using hf
 obtain ⟨v,os,e,h1,_,_,h2⟩:=open_rows shRow (fun x=>x.name.size≤140737488351232) (fun x=>x.name.size+1) Tryz.underlying22 Tryz.cells47 Tryz.bytes47 (fun _=>rfl) (by decide) (shp_in (H:=H)) hf' hw;cases e;have h3:=sum_len (fun x:Shp=>x.name.size) os;have h4:(os.map fun x=>x.name.size+1).sum+1≤Rows.uptoBulk d:=h2;exact ⟨_,os,args',d,ds',rfl,rfl,h1,by omega,h',by omega⟩
end
abbrev theL:List (String×DataW Unit):=[("math/bits.deBruijn32tab",Rows.laid_math_bits_deBruijn32tab),("math/bits.deBruijn64tab",Rows.laid_math_bits_deBruijn64tab),("internal/strconv.uint64pow10",Rows.laid_internal_strconv_uint64pow10)]
theorem laid_at (os:Os) (args:Array Value):laidMetH Tryz.prog theL ((World.laidAll Tryz.prog os theL).forCall (fun _ _=>0) ⟨#[],args,[]⟩).memory:=by
 rw [MakeChecks.laidMetH_plain _ _ _ (by kernel_rfl)];exact laidMet_laidAll _ (by kernel_rfl) (by kernel_rfl)
theorem tab_laid {W:World} (h:laidMetH Tryz.prog theL W):TbAt W.heap.size W:=by
 have h1:=laidMetH.filter (fun x=>x.1 == "internal/strconv.uint64pow10") h;have e:theL.filter (fun x=>x.1 == "internal/strconv.uint64pow10")=[("internal/strconv.uint64pow10",Lib.tabData .u64 Lib.pow10Tab)]:=by kernel_rfl
 rw [e,MakeChecks.laidMetH_plain _ _ _ (by kernel_rfl)] at h1;have hg:Tryz.prog.globalNamed "internal/strconv.uint64pow10" = some 0:=by kernel_rfl
 have h2:=Lib.tabIs_of_head hg (t:=223) (n:=20) (e:=212) (by kernel_rfl) Tryz.underlying223 Tryz.underlying212 (by kernel_rfl) (by kernel_rfl) h1;refine ⟨0,hg,?_,Nat.le_refl _,h2⟩;unfold Lib.TabIs World.var? at h2;rw [hg] at h2;simp only [Option.bind_some] at h2;cases hh:W.heap[0]? with
 | none=>rw [hh] at h2;cases h2
 | some o=>exact lt_of_heap hh
theorem law_rowT {H:Type} {enc:TypeId×Value→H} {C:Go.Checked} {os:Os} {f:FuncId} {fn:Func} {s:ChangeSpec} {tb:TypeId} {F:Stop.Interp} {L:List (String×DataW Unit)} (own:ownKnob C.prog.godebug=none) (started:os.Started) (noInit:C.prog.inits.idxOf? f=none) (hfn:C.prog.funcs[f]? = some fn)
   (witness:∃ (w:World) (tape:Tape) (i:Input),w.os=os∧(w.forCall tape i).Shaped C.prog∧i.vars=[]∧Input.okWide C.prog (w.forCall tape i) .any w.heap.size f i ∧
     (Rows.OpenSpec.upto s).preRow enc C.prog fn [] false L (w.forCall tape i).memory i.args∧({}:Assume).holds C.prog (lone (Frame.enter C.prog f i.args .normal) [] (w.forCall tape i)))
   (laid:laidOutB C.prog=true) (hpar:fn.params.toList.all (fun t=>C.prog.readableRec t&&decide (t < C.prog.types.size))=true)
   (hres:fn.resultTypes = #[tb]) (hb:C.prog.underlying tb=some .bool) (hvars:s.vars=[])
   (hs:∀ ds:List (DataW H),ds.length=fn.params.toList.length→s.fn H ds = { results:=[.lit (.bool true)],args:=ds})
   (walk:∀ (W:World) (args:List Value) (ds:List (DataW H)),LawIn enc C.prog fn.params.toList W args ds→Rows.uptoBulkAll ds≤1048576→laidMetH C.prog L W→CallsR C.prog f args W fun q w'=>q = .bool true∧Mod (fun _=>False) W w') :
   ReturnsInHanded {} C os f .any ((Rows.OpenSpec.upto s).preRow enc C.prog fn [] false L) (((Rows.OpenSpec.upto s).at F).post enc C.prog fn false true false false):=by
 refine returnsInHanded_of_row (s:=Rows.OpenSpec.upto s) own started noInit hfn witness ?_;intro W base args ds gs before hval hW _ hcond hsz hlaid _ _;have hk:Rows.uptoSmall H (ds++gs)=true:=hcond _ rfl;have hW:DataW.Whole enc C.prog fn.params.toList s.vars false W args.toList ds gs before:=hW;have hW':=hW;obtain ⟨p,q,hA,hV,rfl,_,_⟩:=hW;rw [hvars] at hV;obtain ⟨rfl,rfl⟩:=trodVars_none hV;simp only [List.append_nil] at hW' hsz hk;have hsz2:(DataW.weightsEach C.prog fn.params.toList ds).all (·≤reachBytes)=true:=by
   have e:(Rows.OpenSpec.upto s).bare.plain.varTypes C.prog=[]:=by
     show (s.plain).varTypes C.prog=[];simp [DataSpec.varTypes,ChangeSpec.plain,hvars]
   rw [e,List.append_nil] at hsz;exact hsz
 have hk2:Rows.uptoBulkAll ds≤1048576:=of_decide_eq_true hk;have key:=walk W args.toList ds ⟨⟨base,fun j t v ht hv=>hval j t v (by simpa using ht) (by simpa using hv)⟩,⟨p,hA⟩,hsz2⟩ hk2 hlaid;have e:args.toList.toArray=args:=by simp
 unfold CallsR at key;rw [e] at key;refine key.mono ?_;rintro _ W' ⟨_,rfl,rfl,hm⟩;have hbel:=mod_below hm;have hlt:∀ x∈p,x.block < W.heap.size:=fun x hx=>by simpa using hW'.lt x hx
 have hf:=hs ds (trodAll_len hA);have hf':((Rows.OpenSpec.upto s).at F).fn H ds = { results:=[.lit (.bool true)],args:=ds}:=hf;refine ⟨_,rfl,ds,[],_,[],p,[],hW',?_,?_,?_,hbel.frame _,fun h=>by cases h⟩
 · rw [List.append_nil,hf',hres];exact trodAll_mk1 (shut_bool hb true)
 · rw [List.append_nil,hf'];exact trodAll_below laid hbel hpar hlt hA
 · have hv':((Rows.OpenSpec.upto s).at F).vars=[]:=hvars;rw [List.append_nil,hf',hv'];rfl
end
section
open Go Go.W Go.ChangeShapes Go.WideShapes Go.ChangeAt Go.RowKit Go.Deep
abbrev openArgs:Array Value:=#[.slice none 0 0,.slice none 0 0,.int .i64 0]
theorem open_reads (os:Os) {H:Type} (enc:TypeId×Value→H):∃ places,DataW.whole enc Tryz.prog ((World.laidAll Tryz.prog os theL).forCall (fun _ _=>0) ⟨#[],openArgs,[]⟩).memory Tryz.f5.params.toList Rows.streamOpenSpec.vars false openArgs.toList 8=some ([.nil,.nil,.lit (.int .i64 0)],[],places):=
 ⟨[],by kernel_rfl⟩
theorem open_lifted (os:Os) (started:os.Started) (H:Type) (enc:TypeId×Value→H) (F:Stop.Interp) :
   ReturnsInHanded {} Tryz.checked os 5 .any ((Rows.OpenSpec.upto Rows.streamOpenSpec).preRow enc Tryz.prog Tryz.f5 [] false theL) (((Rows.OpenSpec.upto Rows.streamOpenSpec).at F).post enc Tryz.prog Tryz.f5 false true false false):=by
 obtain ⟨places,hx⟩:=open_reads os enc;refine law_rowT (C:=Tryz.checked) Tryz.own started (by kernel_rfl) Tryz.func5
   (witness_row_at (enc:=enc) (C:=Tryz.checked) false (World.laidAll Tryz.prog os theL) openArgs (World.laidAll_os _ _ _) (by kernel_rfl) (by kernel_rfl) (by kernel_rfl)
     (OpenSpec.preRow_of_cond 8 hx (by kernel_rfl) (fun k hk=>by cases hk;kernel_rfl) (by kernel_rfl) (laid_at os _)))
   Tryz.laidOut (by kernel_rfl) (tb:=4) (by kernel_rfl) Tryz.underlying4 rfl ?_ ?_
 · intro ds hd;rw [Tryz.params5] at hd
   match ds,hd with
   | [_,_,_],_=>rfl
 · intro W args ds h hk hl;rw [Tryz.params5] at h;obtain ⟨v1,items,args1,_,_,rfl,rfl,hI,hsz,hcap,h1,hk1⟩:=in_items h hk;obtain ⟨v2,shapes,args2,_,_,rfl,rfl,hS,hls,h2,_⟩:=in_shapes h1 hk1;obtain ⟨n,args3,_,_,rfl,rfl,h3⟩:=in_int h2;obtain ⟨rfl,rfl⟩:=lawIn_nil h3;exact f_Open hI hS (tab_laid hl) (by omega) (by omega) (by omega) hcap
theorem open_row:Rows.StreamOpenUptoSaid:=
 OpenClaim.holds_of_cond 5 Tryz.f5 rfl rfl rfl rfl rfl rfl rfl ⟨rfl,rfl,rfl,rfl,rfl⟩ rfl rfl rfl rfl rfl (by kernel_rfl) Tryz.func5 (by kernel_rfl)
   (of_decide_eq_true (by kernel_rfl)) (by unfold Func.isWrapper;first | (rw [if_pos (by decide +kernel)];kernel_rfl) | (rw [if_neg (by decide +kernel)];exact ⟨rfl,rfl⟩))
   (fun os started H enc _ F=>by rw [OpenClaim.pre_eq_preRow];exact open_lifted os started H enc F)
theorem open_plain (f:FuncId) (fn:Func) (hf:Tryz.pinned.checked.prog.funcNamed "sloth/slothlaw23.StreamOpen" = some f) (hfn:Tryz.pinned.checked.prog.funcs[f]? = some fn) :
   false=Tryz.pinned.checked.prog.looks []∧∀ (j:Nat) t,fn.params[j]? = some t→Tryz.pinned.checked.prog.wantsStandIn t=false:=by
 obtain rfl:f=5:=Option.some.inj ((show Tryz.prog.funcNamed "sloth/slothlaw23.StreamOpen" = some 5 by kernel_rfl).symm.trans hf) |>.symm;obtain rfl:fn=Tryz.f5:=(Option.some.inj (Tryz.func5.symm.trans hfn)).symm;refine ⟨by kernel_rfl,fun j t ht=>?_⟩;rw [Tryz.params5] at ht;have hm:t∈[32,22,3]:=by simpa using Array.mem_of_getElem? ht
 have hall:([32,22,3].all fun u=>!Tryz.prog.wantsStandIn u)=true:=by kernel_rfl
 exact (show Tryz.prog.wantsStandIn t=false by simpa using List.all_eq_true.1 hall t hm)
theorem streamOpen_holds:Rows.StreamOpenUptoCardSaid:=
 Claim7.holds_tied_plain_at .later [] _ _ _ _ open_row (fun _ h=>by cases h) (by kernel_rfl) (fun _ h=>by cases h) streamOpenUpto_row_tie rfl ⟨rfl,rfl⟩ (by kernel_rfl) rfl open_plain (by kernel_rfl)
#print axioms streamOpen_holds
end
end Go.Proofs.YtnjobkbblhaliaaGreatDoor