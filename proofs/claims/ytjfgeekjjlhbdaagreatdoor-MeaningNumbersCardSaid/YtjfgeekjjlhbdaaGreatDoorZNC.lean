/- Texts that the last file stands on: T11, D6, T12, T13, T14, T15, T16, P2, D7, T17, T18, T19, P3, P4, P5, T20, T21, T22, T23, T24, T25, T26, D8. -/
import Derived.Test.YtjfgeekjjlhbdaaGreatDoorZNB
set_option linter.unusedSimpArgs false
set_option linter.unusedVariables false
set_option maxRecDepth 100000
section
namespace Go.W
open Go
section
variable {P:Program} {N:Nat} {Q:PostD} {Ds:List Nat} {ρ:Env} {w:World} {next:List Nat→Env→World→Prop} {i j:Nat} {rs:List RV} {R:Value→World→Prop}
@[go_sem] theorem kwp_ir {x:IR}:kwp P N (.ir x) Q Ds ρ w=irwp P N x (fun e ρ w=>Q e Ds ρ w) ρ w:=rfl
@[go_sem] theorem kwp_seq {a b:K}:kwp P N (.seq a b) Q Ds ρ w=kwp P N a (thenQD (fun Ds ρ w=>kwp P N b Q Ds ρ w) Q) Ds ρ w:=rfl
@[go_sem] theorem kwp_blk {a:K}:kwp P N (.blk i a) Q Ds ρ w=kwp P N a (blkQD i Q) Ds ρ w:=rfl
@[go_sem] theorem thenQD_n:thenQD next Q .normal Ds ρ w=next Ds ρ w:=rfl
@[go_sem] theorem thenQD_r:thenQD next Q .ret Ds ρ w=Q .ret Ds ρ w:=rfl
@[go_sem] theorem thenQD_x:thenQD next Q (.exit i) Ds ρ w=Q (.exit i) Ds ρ w:=rfl
@[go_sem] theorem blkQD_n:blkQD j Q .normal Ds ρ w=Q .normal Ds ρ w:=rfl
@[go_sem] theorem blkQD_r:blkQD j Q .ret Ds ρ w=Q .ret Ds ρ w:=rfl
@[go_sem] theorem blkQD_x:blkQD j Q (.exit i) Ds ρ w=if i=j then Q .normal Ds ρ w else Q (.exit i) Ds ρ w:=rfl
theorem fin_none {e:Exit} (he:e = .normal∨e = .ret) (h:∀ w',Mod (fun _=>False) w w'→∃ vs,rvs w' ρ rs=some vs∧R (one? vs) w'):finQD rs R e [] ρ w:=
 ⟨he,(fun D h=>by cases h),List.nodup_nil,fun w' hm _=>h w' (hm.weak (fun b hb=>by cases hb))⟩
theorem fin_one {e:Exit} {D:Nat} (he:e = .normal∨e = .ret) (hD:w.heap[D]? = some (.deferred (some []))) (h:∀ w',Mod (· = D) w w'→∃ vs,rvs w' ρ rs=some vs∧R (one? vs) w'):finQD rs R e [D] ρ w:=
 ⟨he,(fun D' h=>by obtain rfl:=List.mem_singleton.1 h;exact hD),List.nodup_cons.2 ⟨(by simp),List.nodup_nil⟩,fun w' hm _=>h w' (hm.weak (fun b hb=>List.mem_singleton.1 hb))⟩
end
end Go.W
namespace Go.Proofs.YtjfgeekjjlhbdaaGreatDoor
open Go Go.W
theorem lnm_v {w:World} {m:Nat} {l:List (ByteArray×Value)} (h:MapV w m l):∃ es clk,w.heap[m]? = some (.map es clk)∧es.size=l.length:=by
 obtain ⟨es,c,h1,h2,_⟩:=h;have:=congrArg List.length h2;simp only [List.length_map,Array.length_toList] at this;exact ⟨es,c,h1,this⟩
theorem from_mod {B m:Nat} {W W':World} (h:Mod (· = m) W W') (hm:m < B):KeepsFrom B W W':=
 ⟨h.size,fun k o hB hk _=>h.at hk (by omega)⟩
theorem kpc_mod {m:Nat} {W W':World} {l:List (ByteArray×Value)} (h:Mod (· = m) W W') (hm:MapV W m l):KpC W W':=
 ⟨h.size,fun b o hb hc=>h.at hb (fun e=>by
   subst e;obtain ⟨es,c,h1,_⟩:=hm;rw [h1] at hb;cases hb;cases hc)⟩
theorem f_vars {w:World} {cs:List Value}:CallsR Tryz.prog 96 [.agg cs.toArray] w fun r w'=>r = .func (.func 104) #[] #[ptr w.heap.size]∧w'.heap[w.heap.size]? = some (.cells cs.toArray tyT (0,0))∧Mod (fun _=>False) w w':=by
 refine fit96.calls rfl ?_;unfold ir96;(try simp only [go_sem,simprocAttr]);refine e_bx rfl ?_;intro w1 hb1 hm1 _;(try simp only [go_sem,simprocAttr]);exact ⟨hb1,hm1⟩
theorem f_Canon (t:Ty) {w:World} {B:Nat→Prop} {cs:List Value} (h:TyAt w B cs t) (hB:∀ b,B b→b < w.heap.size) :
   CallsR Tryz.prog 83 [.agg cs.toArray] w fun r w'=>(∃ a,Ag3 a∧r = .tuple #[a,I (wrongS t)])∧Mod (fun _=>False) w w':=by
 refine fit83.calls rfl ?_;unfold ir83;(try simp only [go_sem,simprocAttr]);refine e_bx rfl ?_;intro w1 hb1 hm1 hs1;(try simp only [go_sem,simprocAttr]);refine e_al ?_;intro w2 hb2 hm2 hs2;have hb1:=hm2.at hb1 _root_.id;have hm02:=hm1.trans hm2;(try simp only [go_sem,simprocAttr,ln_blk (n:=3) (cs:=cs) hb1 h.len]);refine e_call (by rfl) ?_;refine (f_wrong t (h.mod hm02 nof)).mono ?_;rintro _ w3 ⟨rfl,hm3⟩;have hb1:=hm3.at hb1 _root_.id;have hb2:=hm3.at hb2 _root_.id;have hm03:=hm02.trans hm3;(try simp only [go_sem,simprocAttr]);cases hw:wrongS t != 0 with
 | true=>
   (try simp only [go_sem,simprocAttr]);refine e_sta (cs:=[I 0,.string noStr,.slice none 0 0]) (vs:=[I 0,.string noStr,.slice none 0 0]) rfl rfl hb2 rfl rfl (one_cons rfl (one_cons rfl (one_cons rfl one_nil))) ?_;intro w4 hb4 hm4 hs4;(try simp only [go_sem,simprocAttr]);refine fin_none (.inr rfl) ?_;intro w5 hm5;(try simp only [go_sem,simprocAttr,rvs,RV.ev,ln_blk (n:=3) (hm5.at hb4 _root_.id) rfl,one?]);exact ⟨⟨_,⟨_,rfl,rfl,one_cons rfl (one_cons rfl (one_cons rfl one_nil))⟩,rfl⟩,(hm03.step hm4 (fun x hx hl=>by omega)).trans hm5⟩
 | false=>
   have hw0:wrongS t=0:=by simpa using hw
   (try simp only [go_sem,simprocAttr]);refine e_mmV ?_;intro w4 hmap hm4 hs4;(try simp only [go_sem,simprocAttr]);refine e_al ?_;intro w5 hb5 hm5 hs5;(try simp only [go_sem,simprocAttr]);refine e_st1 rfl rfl hb5 rfl (by simp) ?_;intro w6 hb6 hm6 hs6;have h36:Mod (fun _=>False) w3 w6:=(hm4.trans hm5).step hm6 (fun x hx hl=>by omega);have hmap:=mapv_mod (mapv_mod hmap hm5 _root_.id) hm6 (by omega);have hb1:=h36.at hb1 _root_.id;have hb2:=h36.at hb2 _root_.id;(try simp only [go_sem,simprocAttr,ln_blk (n:=3) (cs:=cs) hb1 h.len]);refine e_call (by rfl) ?_;refine (f_vars (cs:=cs)).mono ?_;rintro _ w7 ⟨rfl,hb7,hm7⟩;have h37:=h36.trans hm7;have h07:=hm03.trans h37;have hmap:=mapv_mod hmap hm7 _root_.id;have hb1:=hm7.at hb1 _root_.id;have hb2:=hm7.at hb2 _root_.id;have hb6:=hm7.at hb6 _root_.id;have ht:=h.mod h07 nof;have hv:t.nvars≤500:=by
     unfold wrongS at hw0
     split at hw0
     · omega
     · split at hw0
       · omega
       · have:=(nvars_le t).2 (by omega);omega
   have z2:=hm2.size;have z3:=hm3.size;have z7:=hm7.size;have hlm:w3.heap.size < w7.heap.size:=by omega
   have hlb:w4.heap.size < w7.heap.size:=by omega
   (try simp only [go_sem,simprocAttr]);refine ⟨1,500,104,#[ptr w6.heap.size],KpC,fun xs W=>CanI w7 127 w4.heap.size w3.heap.size xs.length W,⟨rfl,fun _ _=>rfl,vars_stops ht (fun b hb=>by have:=hB b hb;have:=h07.size;omega) hb7 hv,rfl,by decide,fun h k=>h.trans k,?_,⟨⟨.refl _ _,hb6,_,hmap,by simp,by simp⟩,fun s=>canI_quiet hlm hlb,?_⟩⟩,?_⟩
   · intro W l o o' hl hW ho _;exact ⟨by simp,fun b o2 hb hc=>by rw [World.putObj_heap_other (fun e=>by subst e;rw [hW] at hb;cases hb;rw [ho] at hc;cases hc)];exact hb⟩
   · intro pre x W hi hpre;obtain ⟨l,hl,ha,hn⟩:=hi.map;have hmb:=hi.box;unfold ir83B1;(try simp only [go_sem,simprocAttr,cell_of hmb]);refine e_lkV (k:=x) (kt:=9) (et:=tyT) rfl rfl rfl rfl (Tryz.zeroValue42 _) hl ?_;have fin:∀ W',Mod (fun _=>False) W W'→KeepsFrom w7.heap.size W W'∧KpC W W'∧CanI w7 127 w4.heap.size w3.heap.size (pre++[x]).length W':=fun W' hm=>
       ⟨from_mod (m:=w3.heap.size) (hm.weak (fun _ h=>h.elim)) hlm,.of_mod hm,hi.mod.step hm (fun _ h=>h.elim),hm.at hmb _root_.id,l,mapv_mod hl hm _root_.id,ha,by simp;omega⟩
     have st:∃ cu:List Value,(vget l x).getD (.agg #[.int .i64 0,.string ⟨#[]⟩,.slice none 0 0]) = .agg cu.toArray∧cu.length=3∧∀ u∈cu,u.oneCell'=true:=by
       cases hg:vget l x with
       | none=>exact ⟨[I 0,.string noStr,.slice none 0 0],rfl,rfl,one_cons rfl (one_cons rfl (one_cons rfl one_nil))⟩
       | some u=>
         obtain ⟨p,hp,rfl⟩:=vget_mem hg;obtain ⟨cu,tu,e,htu⟩:=(ha p hp).ty W B;exact ⟨cu,e,htu.len,htu.one⟩
     obtain ⟨cu,hcu,hc3,hc1⟩:=st;(try simp only [go_sem,simprocAttr,hcu]);refine s_new (n:=3) (vs:=cu) rfl hc3 hc1 ?_;intro W1 _ hM1 _;cases hg:(vget l x).isSome with
     | true=>(try simp only [go_sem,simprocAttr]);exact fin _ hM1
     | false=>
       have hmb1:=hM1.at hmb _root_.id;have hl1:=mapv_mod hl hM1 _root_.id;have hl1d:MapV W1.drew w3.heap.size l:=hl1;obtain ⟨es,clk,hes,hsz⟩:=lnm_v hl1;(try simp only [go_sem,simprocAttr,cell_of hmb1,hes,hsz]);refine e_call (by rfl) ?_;refine (f_called l.length (by omega)).mono ?_;rintro _ _ ⟨⟨s,rfl⟩,rfl⟩;(try simp only [go_sem,simprocAttr]);refine e_muV (k:=x) (kt:=9) (et:=tyT) rfl rfl rfl rfl rfl hl1d ?_;intro W2 hl2 hM2 hS2;have hW2:Mod (· = w3.heap.size) W1 W2:=hM2.of_drew;have hW02:Mod (· = w3.heap.size) W W2:=(hM1.weak (fun _ h=>h.elim)).trans hW2;(try simp only [go_sem,simprocAttr]);refine ⟨from_mod hW02 hlm,kpc_mod hW02 hl,hi.mod.trans hW02,hW2.at hmb1 (by omega),_,hl2,vput_all ha ⟨s,rfl⟩,?_⟩;have:=vput_len l x (.agg #[.int .i64 2,.string s,.slice none 0 0]);simp only [List.length_append,List.length_cons,List.length_nil];omega
   · intro D xs W hD hi hdef;obtain ⟨l,hl,ha,hn⟩:=hi.map;have hmod:=hi.mod;have hb1:=hmod.at hb1 (by omega);have hb2:=hmod.at hb2 (by omega);have hB7:∀ b,B b→¬ (b=w3.heap.size):=fun b hb=>by have:=hB b hb;have:=hm03.size;omega
     (try simp only [go_sem,simprocAttr,ln_blk (n:=3) (cs:=cs) hb1 h.len,cell_of hi.box]);refine e_call (by rfl) ?_;refine (f_replacedT t (ht.mod hmod hB7) hl ha).mono ?_;rintro _ W1 ⟨⟨ca,rfl,hc3,hc1⟩,hM1⟩;have hb2:=hM1.at hb2 _root_.id;(try simp only [go_sem,simprocAttr]);refine e_sta (cs:=[I 0,.string noStr,.slice none 0 0]) rfl rfl hb2 hc3 rfl hc1 ?_;intro W2 hB2 hM2 hS2;(try simp only [go_sem,simprocAttr]);have hsW:=hmod.size;have hsz:=hM1.size;have zD:=lt_of_heap hdef;refine fin_one (.inr rfl) (hM2.at (hM1.at hdef _root_.id) (by omega)) ?_;intro W3 hM3;(try simp only [go_sem,simprocAttr,rvs,RV.ev,ln_blk (n:=3) (hM3.at hB2 (by omega)) hc3,one?,hw0]);refine ⟨⟨_,⟨ca,rfl,hc3,hc1⟩,rfl⟩,?_⟩;have h0W:Mod (fun _=>False) w W:=h07.step hmod (fun i hi hl=>by have:=hm03.size;omega);exact ((h0W.trans hM1).step hM2 (fun x hx hl=>by omega)).step hM3 (fun x hx hl=>by have:=h07.size;omega)
theorem f_may (t:Ty) {w:World} {B:Nat→Prop} {cs:List Value} (h:TyAt w B cs t) (hB:∀ b,B b→b < w.heap.size) :
   CallsR Tryz.prog 60 [.agg cs.toArray] w fun r w'=>r = .bool (wrongS t == 0)∧Mod (fun _=>False) w w':=by
 refine fit60.calls rfl ?_;unfold ir60;(try simp only [go_sem,simprocAttr]);refine e_bx rfl ?_;intro w1 hb1 hm1 hs1;(try simp only [go_sem,simprocAttr,ln_blk (n:=3) (cs:=cs) hb1 h.len]);refine e_call (by rfl) ?_;refine (f_Canon t (h.mod hm1 nof) (fun b hb=>by have:=hB b hb;omega)).mono ?_;rintro _ w2 ⟨⟨_,⟨ca,rfl,hc3,hc1⟩,rfl⟩,hm2⟩;(try simp only [go_sem,simprocAttr]);refine s_new (n:=3) (vs:=ca) rfl hc3 hc1 ?_;intro w3 hb3 hm3 hs3;(try simp only [go_sem,simprocAttr]);exact hm1.trans (hm2.trans hm3)
def varT (s:ByteArray):Ty:=.mk 2 s []
def dataT (s:ByteArray):Ty:=.mk 4 s []
theorem leaf_at (w:World) (B:Nat→Prop) (k:Int) (s:ByteArray):TyAt w B [I k,.string s,.slice none 0 0] (.mk k s []):=by
 obtain ⟨rows,h1,h2,h3⟩:=each_nil w 3 B (TyAt w B);exact .mk (args:=[]) h1 h2 h3
def isVarC (s:ByteArray):Bool:=wrongS (varT s) == 0
def isDataC (s:ByteArray):Bool:=wrongS (dataT s) == 0
theorem f_isVarC (s:ByteArray) {w:World}:CallsR Tryz.prog 45 [.string s] w fun r w'=>r = .bool (isVarC s)∧Mod (fun _=>False) w w':=by
 refine fit45.calls rfl ?_;unfold ir45;(try simp only [go_sem,simprocAttr]);refine e_call (by rfl) ?_;refine (f_may _ (leaf_at w (fun _=>False) 2 s) (fun _ h=>h.elim)).mono ?_;rintro _ w1 ⟨rfl,hm1⟩;(try simp only [go_sem,simprocAttr]);exact ⟨rfl,hm1⟩
theorem f_isDataC (s:ByteArray) {w:World}:CallsR Tryz.prog 78 [.string s] w fun r w'=>r = .bool (isDataC s)∧Mod (fun _=>False) w w':=by
 refine fit78.calls rfl ?_;unfold ir78;(try simp only [go_sem,simprocAttr]);refine e_call (by rfl) ?_;refine (f_may _ (leaf_at w (fun _=>False) 4 s) (fun _ h=>h.elim)).mono ?_;rintro _ w1 ⟨rfl,hm1⟩;(try simp only [go_sem,simprocAttr]);exact ⟨rfl,hm1⟩
end Go.Proofs.YtjfgeekjjlhbdaaGreatDoor
end
namespace Go.Proofs.YtjfgeekjjlhbdaaGreatDoor
section
open Go Go.W
abbrev Out (S:Nat→Prop) (w:World):Nat→Prop:=fun b=>b < w.heap.size∧¬ S b
section
variable {w w':World} {B B' S S':Nat→Prop} {cs:List Value} {α:Type} {v:Value} {sz:Nat} {P P':List Value→α→Prop} {l:List α}
theorem RowsB.up {rows:List (List Value)} (h:RowsB w v sz rows B) (hm:Mod S w w') (hd:∀ b,B b→¬ S b) (hB:∀ b,B b→B' b):RowsB w' v sz rows B':=⟨h.1.mod hm hd hB,h.2⟩
theorem EachAt.up (h:EachAt w v sz B P l) (hm:Mod S w w') (hd:∀ b,B b→¬ S b) (hB:∀ b,B b→B' b) (hp:∀ r a,P r a→P' r a):EachAt w' v sz B' P' l:=by
 obtain ⟨rows,h1,h2,h3⟩:=h;exact ⟨rows,h1.up hm hd hB,h2,fun i r a hr ha=>hp _ _ (h3 i r a hr ha)⟩
theorem TyAt.up {t:Ty} (h:TyAt w B cs t) (hm:Mod S w w') (hd:∀ b,B b→¬ S b) (hB:∀ b,B b→B' b):TyAt w' B' cs t:=by
 induction h with
 | mk hr hl he ih=>exact .mk (hr.up hm hd hB) hl (fun i r t a b=>ih i r t a b)
theorem ExAt.up {e:Ex} (h:ExAt w B cs e) (hm:Mod S w w') (hd:∀ b,B b→¬ S b) (hB:∀ b,B b→B' b):ExAt w' B' cs e:=by
 induction h with
 | mk ht htl hte ha hal hae hb hbl hbn hbe hl hll hln hle hcap iha ihb ihl=>
   refine .mk (ht.up hm hd hB) htl (fun i r t a b=>(hte i r t a b).up hm hd hB) (ha.up hm hd hB) hal iha (hb.up hm hd hB) hbl (fun i r b x y=>?_) ihb (hl.up hm hd hB) hll (fun i r a x y=>?_) ihl hcap
   · obtain ⟨h1,h2,h3⟩:=hbn i r b x y;exact ⟨h1,h2,h3.up hm hd hB⟩
   · obtain ⟨vv,h1,h2,h3⟩:=hln i r a x y;exact ⟨vv,h1,h2,h3.up hm hd hB (fun _ _ h=>h)⟩
theorem CnAt.up {k:Cn} (h:CnAt w B cs k) (hm:Mod S w w') (hd:∀ b,B b→¬ S b) (hB:∀ b,B b→B' b):CnAt w' B' cs k:=by
 obtain ⟨vf,e,h,hn⟩:=h;exact ⟨vf,e,h.up hm hd hB (fun _ _ h=>h.up hm hd hB),hn⟩
theorem DtAt.up {d:Dt} (h:DtAt w B cs d) (hm:Mod S w w') (hd:∀ b,B b→¬ S b) (hB:∀ b,B b→B' b):DtAt w' B' cs d:=by
 obtain ⟨vp,vc,e,h1,h2⟩:=h;exact ⟨vp,vc,e,h1.up hm hd hB (fun _ _ h=>h),h2.up hm hd hB (fun _ _ h=>h.up hm hd hB)⟩
theorem DfAt.up {d:Df} (h:DfAt w B cs d) (hm:Mod S w w') (hd:∀ b,B b→¬ S b) (hB:∀ b,B b→B' b):DfAt w' B' cs d:=by
 obtain ⟨vp,tc,bc,e,l1,l2,h1,h2,h3,hn⟩:=h;exact ⟨vp,tc,bc,e,l1,l2,h1.up hm hd hB (fun _ _ h=>h),h2.up hm hd hB,h3.up hm hd hB,hn⟩
theorem PgAt.up {p:Pg} (h:PgAt w B cs p) (hm:Mod S w w') (hd:∀ b,B b→¬ S b) (hB:∀ b,B b→B' b):PgAt w' B' cs p:=by
 obtain ⟨vd,vf,e,h1,h2⟩:=h;exact ⟨vd,vf,e,h1.up hm hd hB (fun _ _ h=>h.up hm hd hB),h2.up hm hd hB (fun _ _ h=>h.up hm hd hB)⟩
theorem out_not:∀ b,Out S w b→¬ S b:=fun _ h=>h.2
theorem out_up (hm:Mod S w w'):∀ b,Out S w b→Out S w' b:=fun b h=>⟨Nat.lt_of_lt_of_le h.1 hm.size,h.2⟩
theorem TyAt.keep {t:Ty} (h:TyAt w (Out S w) cs t) (hm:Mod S w w'):TyAt w' (Out S w') cs t:=h.up hm out_not (out_up hm)
theorem ExAt.keep {e:Ex} (h:ExAt w (Out S w) cs e) (hm:Mod S w w'):ExAt w' (Out S w') cs e:=h.up hm out_not (out_up hm)
theorem out_ext (hm:Mod S w w') (hs:∀ b,b < w.heap.size→S' b→S b):∀ b,Out S w b→Out S' w' b:=fun b h=>⟨Nat.lt_of_lt_of_le h.1 hm.size,fun hh=>h.2 (hs b h.1 hh)⟩
theorem TyAt.ext {t:Ty} (h:TyAt w (Out S w) cs t) (hm:Mod S w w') (hs:∀ b,b < w.heap.size→S' b→S b):TyAt w' (Out S' w') cs t:=h.up hm out_not (out_ext hm hs)
theorem ExAt.ext {e:Ex} (h:ExAt w (Out S w) cs e) (hm:Mod S w w') (hs:∀ b,b < w.heap.size→S' b→S b):ExAt w' (Out S' w') cs e:=h.up hm out_not (out_ext hm hs)
theorem TyAt.sub {t:Ty} (h:TyAt w (Out S' w) cs t) (hs:∀ b,S b→S' b):TyAt w (Out S w) cs t:=h.up (.refl (fun _=>False) w) nof (fun b h=>⟨h.1,fun hh=>h.2 (hs b hh)⟩)
theorem mod0 (h:Mod (fun _=>False) w w'):Mod S w w':=h.weak (fun _ h=>h.elim)
theorem each_keep {t:List Ty} (h:EachAt w v 3 (Out S w) (TyAt w (Out S w)) t) (hm:Mod S w w'):EachAt w' v 3 (Out S w') (TyAt w' (Out S w')) t:=h.up hm out_not (out_up hm) (fun _ _ h=>h.keep hm)
end
section
variable {α:Type}
def aget (l:List (ByteArray×α)) (k:ByteArray):Option α:=(l.find? (fun p=>decide (p.1=k))).map (·.2)
def aput (l:List (ByteArray×α)) (k:ByteArray) (v:α):List (ByteArray×α):=match l.findIdx? (fun p=>decide (p.1=k)) with
 | some i=>l.set i (k,v)
 | none=>l++[(k,v)]
def adel (l:List (ByteArray×α)) (k:ByteArray):List (ByteArray×α):=match l.findIdx? (fun p=>decide (p.1=k)) with
 | some i=>l.eraseIdx i
 | none=>l
inductive Par (R:Value→α→Prop):List (ByteArray×Value)→List (ByteArray×α)→Prop
 | nil:Par R [] []
 | cons {k:ByteArray} {v:Value} {a:α} {lv:List (ByteArray×Value)} {l:List (ByteArray×α)} (h:R v a) (t:Par R lv l):Par R ((k,v)::lv) ((k,a)::l)
variable {R R':Value→α→Prop} {lv:List (ByteArray×Value)} {l:List (ByteArray×α)}
theorem Par.imp (h:Par R lv l) (hr:∀ v a,R v a→R' v a):Par R' lv l:=by
 induction h with
 | nil=>exact .nil
 | cons h _ ih=>exact .cons (hr _ _ h) ih
theorem Par.idx (h:Par R lv l) (k:ByteArray):lv.findIdx? (fun p=>decide (p.1=k))=l.findIdx? (fun p=>decide (p.1=k)):=by
 induction h with
 | nil=>rfl
 | cons _ _ ih=>rw [List.findIdx?_cons,List.findIdx?_cons,ih]
theorem Par.get (h:Par R lv l) (k:ByteArray):(vget lv k=none∧aget l k=none)∨∃ v a,vget lv k=some v∧aget l k=some a∧R v a:=by
 unfold vget aget
 induction h with
 | nil=>exact .inl ⟨rfl,rfl⟩
 | @cons k' v a _ _ h _ ih=>
   rw [List.find?_cons,List.find?_cons];by_cases e:k'=k
   · simp only [e,decide_true];exact .inr ⟨v,a,rfl,rfl,h⟩
   · simp only [e,decide_false];exact ih
theorem Par.set (h:Par R lv l):∀ (i:Nat) (k:ByteArray) (v:Value) (a:α),R v a→Par R (lv.set i (k,v)) (l.set i (k,a)):=by
 induction h with
 | nil=>intro i k v a _;exact .nil
 | cons h t ih=>
   intro i k v a hr;cases i with
   | zero=>exact .cons hr t
   | succ i=>exact .cons h (ih i k v a hr)
theorem Par.app {lv2:List (ByteArray×Value)} {l2:List (ByteArray×α)} (h:Par R lv l) (h2:Par R lv2 l2):Par R (lv++lv2) (l++l2):=by
 induction h with
 | nil=>exact h2
 | cons h _ ih=>exact .cons h ih
theorem Par.erase (h:Par R lv l):∀ (i:Nat),Par R (lv.eraseIdx i) (l.eraseIdx i):=by
 induction h with
 | nil=>intro i;exact .nil
 | cons h t ih=>
   intro i;cases i with
   | zero=>exact t
   | succ i=>exact .cons h (ih i)
theorem Par.put (h:Par R lv l) (k:ByteArray) {v:Value} {a:α} (hr:R v a):Par R (vput lv k v) (aput l k a):=by
 unfold vput aput;rw [h.idx];cases l.findIdx? (fun p=>decide (p.1=k)) with
 | some i=>exact h.set _ _ _ _ hr
 | none=>exact h.app (.cons hr .nil)
theorem Par.del (h:Par R lv l) (k:ByteArray):Par R (vdel lv k) (adel l k):=by
 unfold vdel adel;rw [h.idx];cases l.findIdx? (fun p=>decide (p.1=k)) with
 | some i=>exact h.erase _
 | none=>exact h
def MapR (w:World) (b:Nat) (R:Value→α→Prop) (l:List (ByteArray×α)):Prop:=∃ lv,MapV w b lv∧Par R lv l
theorem MapR.mod {w w':World} {b:Nat} {S:Nat→Prop} (h:MapR w b R l) (hm:Mod S w w') (hb:¬ S b) (hr:∀ v a,R v a→R' v a):MapR w' b R' l:=by
 obtain ⟨lv,h1,h2⟩:=h;exact ⟨lv,mapv_mod h1 hm hb,h2.imp hr⟩
end
end
section
open Go Go.W
open Classical in
noncomputable def sameT (a b:Ty):Bool:=decide (a=b)
theorem strEq_iff (a b:ByteArray):strEq a b=decide (a=b):=ba_leq a b
theorem ty_ext {a b:Ty} (h1:a.kind=b.kind) (h2:a.name=b.name) (h3:a.args=b.args):a=b:=by
 cases a;cases b;simp only [Ty.kind,Ty.name,Ty.args] at h1 h2 h3;subst h1 h2 h3;rfl
theorem fn_sameType:Fn 48:=⟨_,rfl,rfl,rfl⟩
open Classical in
theorem f_equal {la lb:List Ty} (ih:∀ u∈la,∀ {w:World} {B B':Nat→Prop} {cs ds:List Value} {t:Ty},TyAt w B cs u→TyAt w B' ds t→CallsR Tryz.prog 48 [.agg cs.toArray,.agg ds.toArray] w fun r w'=>r = .bool (sameT u t)∧Mod (fun _=>False) w w')
   {w:World} {B B':Nat→Prop} {va vb:Value} (ha:EachAt w va 3 B (TyAt w B) la) (hb:EachAt w vb 3 B' (TyAt w B') lb) :
   CallsR Tryz.prog 71 [va,vb,.func (.func 48) #[] #[]] w fun r w'=>r = .bool (decide (la=lb))∧Mod (fun _=>False) w w':=by
 obtain ⟨fn,hfn,hbody,hname⟩:=fn_sameType.ok;obtain ⟨aa,ca,rfl⟩:=each_sl ha;obtain ⟨ab,cb,rfl⟩:=each_sl hb;refine fit71.calls rfl ?_;unfold ir71;(try simp only [go_sem,simprocAttr]);cases hne:((la.length:Int) != lb.length) with
 | true=>
   (try simp only [go_sem,simprocAttr]);refine ⟨congrArg _ (Eq.symm (decide_eq_false (fun e=>?_))),.refl _ _⟩;subst e;simp at hne
 | false=>
   have hlen:la.length=lb.length:=by simpa [Int.ofNat_inj] using hne
   (try simp only [go_sem,simprocAttr]);refine ir_range la.length (fun k ρ w'=>Mod (fun _=>False) w w'∧k≤la.length∧(∀ i,∀ h:i < la.length,i < k→la[i]=lb[i]'(by omega))∧ρ=[(1,.slice ab lb.length cb),(2,.func (.func 48) #[] #[]),(15,.slice aa la.length ca),(16,I la.length),(17,I k)]) ⟨.refl _ _,by omega,fun i _ hi=>absurd hi (by omega),rfl⟩ (each_len ha) ?_ ?_ (by decide) ?_
   · rintro k _ w2 ⟨hm2,hk,_,rfl⟩;exact ⟨rfl,rfl,hk⟩
   · rintro k _ w2 ⟨hm2,_,heq,rfl⟩ hk;obtain ⟨ad,c1,r,e,hr,hl3,hln,_⟩:=each_at (ha.mod hm2 nof (fun _ _ h=>h.mod hm2 nof)) hk;cases e;have hk':k < lb.length:=by omega
     have b1:(0:Int)≤k∧(k:Int) < la.length:=by omega
     have b2:(0:Int)≤k∧(k:Int) < lb.length:=by omega
     (try simp only [go_sem,simprocAttr,zb4,zb6,b1,hln]);refine e_al ?_;intro w3 hb3 hm3 hs3;(try simp only [go_sem,simprocAttr]);refine e_sta (cs:=[I 0,.string noStr,.slice none 0 0]) rfl rfl hb3 hl3 rfl hr.one ?_;intro w4 hb4 hm4 hs4;have hm34:Mod (fun _=>False) w2 w4:=hm3.step hm4 (fun x hx hl=>by omega);obtain ⟨ad2,c2,r2,e2,hr2,hl32,hln2,_⟩:=each_at ((hb.mod hm2 nof (fun _ _ h=>h.mod hm2 nof)).mod hm34 nof (fun _ _ h=>h.mod hm34 nof)) hk';cases e2;(try simp only [go_sem,simprocAttr,zb4,zb6,b2,hln2]);refine s_new (n:=3) (vs:=r2) rfl hl32 hr2.one ?_;intro w5 hb5 hm5 hs5;(try simp only [go_sem,simprocAttr,ln_blk (n:=3) hb5 hl32,ln_blk (n:=3) (hm5.at hb4 _root_.id) hl3]);refine e_cv rfl (by rfl) hfn hbody hname ?_;have hm45:=hm34.trans hm5;refine (ih _ (List.getElem_mem hk) (hr.mod hm45 nof) (hr2.mod hm5 nof)).mono ?_;rintro _ w6 ⟨rfl,hm6⟩;have hm26:=hm2.trans (hm45.trans hm6);by_cases he:la[k]=lb[k]
     · have:sameT la[k] lb[k]=true:=decide_eq_true he;rw [this];(try simp only [go_sem,simprocAttr]);refine ⟨hm26,hk,fun i hi hik=>?_⟩;rcases Nat.lt_or_ge i k with h1 | h1
       · exact heq i hi h1
       · have:i=k:=by omega
         subst this;exact he
     · have:sameT la[k] lb[k]=false:=decide_eq_false he;rw [this];(try simp only [go_sem,simprocAttr]);refine ⟨congrArg _ (Eq.symm (decide_eq_false (fun e=>?_))),hm26⟩;subst e;exact he rfl
   · rintro _ w2 ⟨hm2,_,heq,rfl⟩;(try simp only [go_sem,simprocAttr]);exact ⟨congrArg _ (Eq.symm (decide_eq_true (List.ext_getElem hlen (fun i h1 h2=>heq i h1 h1)))),hm2⟩
open Classical in
theorem f_sameType (a:Ty):∀ {w:World} {B B':Nat→Prop} {cs ds:List Value} {t:Ty},TyAt w B cs a→TyAt w B' ds t→CallsR Tryz.prog 48 [.agg cs.toArray,.agg ds.toArray] w fun r w'=>r = .bool (sameT a t)∧Mod (fun _=>False) w w':=by
 induction a using Ty.ind with
 | h a ih=>
 intro w B B' cs ds t ha ht;obtain ⟨va,rfl,hla⟩:=ha.cells;obtain ⟨vt,rfl,hlt⟩:=ht.cells;refine fit48.calls rfl ?_;unfold ir48;(try simp only [go_sem,simprocAttr]);refine e_bx rfl ?_;intro w1 hb1 hm1 hs1;(try simp only [go_sem,simprocAttr]);refine e_bx rfl ?_;intro w2 hb2 hm2 hs2;have hb1:=hm2.at hb1 _root_.id;have hm:=hm1.trans hm2;(try simp only [go_sem,simprocAttr,cell_of hb1,cell_of hb2,Value.cells]);have bad:¬ (a=t)→Value.bool false=Value.bool (sameT a t):=fun h=>congrArg _ (Eq.symm (decide_eq_false h))
 cases h1:a.kind == t.kind with
 | false=>(try simp only [go_sem,simprocAttr]);exact ⟨bad (fun e=>by subst e;simp at h1),hm⟩
 | true=>
   (try simp only [go_sem,simprocAttr,cell_of hb1,cell_of hb2,Value.cells]);cases h2:a.name.toList == t.name.toList with
   | false=>(try simp only [go_sem,simprocAttr]);exact ⟨bad (fun e=>by subst e;simp at h2),hm⟩
   | true=>
     (try simp only [go_sem,simprocAttr,cell_of hb1,cell_of hb2,Value.cells]);refine e_call (by rfl) ?_;refine (f_equal ih (hla.mod hm nof (fun _ _ h=>h.mod hm nof)) (hlt.mod hm nof (fun _ _ h=>h.mod hm nof))).mono ?_;rintro _ w3 ⟨rfl,hm3⟩;(try simp only [go_sem,simprocAttr]);refine ⟨?_,hm.trans hm3⟩;refine congrArg _ ?_;have h1':a.kind=t.kind:=by simpa using h1
     have h2':a.name=t.name:=by rw [ba_leq] at h2;simpa using h2
     unfold sameT;by_cases h3:a.args=t.args
     · rw [decide_eq_true h3,decide_eq_true (ty_ext h1' h2' h3)]
     · rw [decide_eq_false h3,decide_eq_false (fun e=>h3 (by rw [e]))]
end
section
open Go Go.W
abbrev zTy:List Value:=[I 0,.string noStr,.slice none 0 0]
theorem zTy_one:∀ u∈zTy,u.oneCell'=true:=one_cons rfl (one_cons rfl (one_cons rfl one_nil))
abbrev leafC (k:Int) (s:ByteArray):List Value:=[I k,.string s,.slice none 0 0]
theorem leafC_one (k:Int) (s:ByteArray):∀ u∈leafC k s,u.oneCell'=true:=one_cons rfl (one_cons rfl (one_cons rfl one_nil))
theorem f_intType {w:World}:CallsR Tryz.prog 63 [] w fun r w'=>r = .agg (leafC 1 noStr).toArray∧Mod (fun _=>False) w w':=by
 refine fit63.calls rfl ?_;unfold ir63;(try simp only [go_sem,simprocAttr]);refine e_al ?_;intro w1 hb1 hm1 hs1;(try simp only [go_sem,simprocAttr]);refine e_sta (vs:=leafC 1 noStr) (cs:=zTy) rfl rfl hb1 rfl rfl (leafC_one _ _) ?_;intro w2 hb2 hm2 hs2;(try simp only [go_sem,simprocAttr,rvs,RV.ev,ln_blk (n:=3) hb2 rfl,one?]);exact hm1.step hm2 (fun x hx hl=>by omega)
theorem f_variable (s:ByteArray) {w:World}:CallsR Tryz.prog 76 [.string s] w fun r w'=>r = .agg (leafC 2 s).toArray∧Mod (fun _=>False) w w':=by
 refine fit76.calls rfl ?_;unfold ir76;(try simp only [go_sem,simprocAttr]);refine e_al ?_;intro w1 hb1 hm1 hs1;(try simp only [go_sem,simprocAttr]);refine e_sta (vs:=leafC 2 s) (cs:=zTy) rfl rfl hb1 rfl rfl (leafC_one _ _) ?_;intro w2 hb2 hm2 hs2;(try simp only [go_sem,simprocAttr,rvs,RV.ev,ln_blk (n:=3) hb2 rfl,one?]);exact hm1.step hm2 (fun x hx hl=>by omega)
theorem f_data (s:ByteArray) {v:Value} (hv:v.oneCell'=true) (hv1:One v) {w:World}:CallsR Tryz.prog 77 [.string s,v] w fun r w'=>r = .agg [I 4,.string s,v].toArray∧Mod (fun _=>False) w w':=by
 refine fit77.calls rfl ?_;unfold ir77;(try simp only [go_sem,simprocAttr]);refine e_al ?_;intro w1 hb1 hm1 hs1;(try simp only [go_sem,simprocAttr,eq_true hv1]);refine e_sta (vs:=[I 4,.string s,v]) (cs:=zTy) rfl rfl hb1 rfl rfl (one_cons rfl (one_cons rfl (one_cons hv one_nil))) ?_;intro w2 hb2 hm2 hs2;(try simp only [go_sem,simprocAttr,rvs,RV.ev,ln_blk (n:=3) hb2 rfl,one?]);exact hm1.step hm2 (fun x hx hl=>by omega)
def funT (a b:Ty):Ty:=.mk 3 noStr [a,b]
theorem two_at {w:World} {S:Nat→Prop} {b T c:Nat} {ca cb:List Value} {x y:Ty} (hb:w.heap[b]? = some (.cells (ca++cb).toArray T (0,0))) (hS:¬ S b) (ha:TyAt w (Out S w) ca x) (hbb:TyAt w (Out S w) cb y) (k:Int) (s:ByteArray) :
   TyAt w (Out S w) [I k,.string s,.slice (some ⟨b,0,none⟩) 2 c] (.mk k s [x,y]):=by
 have la:=ha.len;have lb:=hbb.len;refine .mk (rows:=[ca,cb]) ⟨⟨_,c,rfl,fun _ ad e=>by cases e;exact ⟨lt_of_heap hb,hS⟩,fun i hi=>⟨_,rfl,?_,?_⟩⟩,by simp⟩ rfl ?_
 · match i,hi with
   | 0,_=>exact la
   | 1,_=>exact lb
 · intro k hk;rw [add_at,add_at,cell_of hb]
   match i,hi with
   | 0,_=>
     simp only [List.getElem_cons_zero] at hk ⊢;simp only [Nat.zero_mul,Nat.zero_add,List.getElem?_toArray];rw [List.getElem?_append_left hk,List.getElem?_eq_getElem hk]
   | 1,_=>
     simp only [List.getElem_cons_succ,List.getElem_cons_zero] at hk ⊢;simp only [Nat.one_mul,Nat.zero_add,List.getElem?_toArray];rw [List.getElem?_append_right (by omega),la,Nat.add_sub_cancel_left,List.getElem?_eq_getElem hk]
 · intro i r t hr ht
   match i with
   | 0=>simp only [List.getElem?_cons_zero,Option.some.injEq] at hr ht;subst hr ht;exact ha
   | 1=>simp only [List.getElem?_cons_succ,List.getElem?_cons_zero,Option.some.injEq] at hr ht;subst hr ht;exact hbb
   | i+2=>simp at hr
theorem f_fun {x y:Ty} {ca cb:List Value} {S:Nat→Prop} {w:World} (hS:∀ b,S b→b < w.heap.size) (ha:TyAt w (Out S w) ca x) (hb:TyAt w (Out S w) cb y) :
   CallsR Tryz.prog 87 [.agg ca.toArray,.agg cb.toArray] w fun r w'=>(∃ cs,r = .agg (cs:List Value).toArray∧TyAt w' (Out S w') cs (funT x y))∧Mod (fun _=>False) w w':=by
 refine fit87.calls rfl ?_;unfold ir87;have la:=ha.len;have lb:=hb.len;(try simp only [go_sem,simprocAttr]);refine e_bx rfl ?_;intro w1 hb1 hm1 hs1;(try simp only [go_sem,simprocAttr]);refine e_bx rfl ?_;intro w2 hb2 hm2 hs2;(try simp only [go_sem,simprocAttr]);refine e_al ?_;intro w3 hb3 hm3 hs3;have hb1:=(hm2.trans hm3).at hb1 _root_.id;have hb2:=hm3.at hb2 _root_.id;(try simp only [go_sem,simprocAttr,ln_blk (n:=3) (cs:=ca) hb1 la,ln_blk (n:=3) (cs:=cb) hb2 lb]);refine e_bs (cs:=(ca++cb).toArray) rfl ?_ ?_
 · (try simp only [go_sem,simprocAttr,la,lb])
   match ca,la,cb,lb with
   | [a1,a2,a3],_,[b1,b2,b3],_=>rfl
 intro w4 hb4 hm4 hs4;have hb3:=hm4.at hb3 _root_.id;(try simp only [go_sem,simprocAttr]);refine e_sta (vs:=[I 3,.string noStr,.slice (some ⟨w3.heap.size,0,none⟩) 2 2]) (cs:=zTy) rfl rfl hb3 rfl rfl (one_cons rfl (one_cons rfl (one_cons rfl one_nil))) ?_;intro w5 hb5 hm5 hs5;(try simp only [go_sem,simprocAttr,rvs,RV.ev,ln_blk (n:=3) hb5 rfl,one?]);have hm05:Mod (fun _=>False) w w5:=(hm1.trans (hm2.trans (hm3.trans hm4))).step hm5 (fun x hx hl=>by omega);refine ⟨⟨_,rfl,two_at (hm5.at hb4 (by omega)) (fun h=>by have:=hS _ h;omega) (ha.keep (mod0 hm05)) (hb.keep (mod0 hm05)) 3 noStr⟩,hm05⟩
def isArith (s:ByteArray):Bool:=strEq s ⟨#[43]⟩||strEq s ⟨#[45]⟩||strEq s ⟨#[42]⟩||strEq s ⟨#[47]⟩||strEq s ⟨#[37]⟩
def isCmp (s:ByteArray):Bool:=strEq s ⟨#[61,61]⟩||strEq s ⟨#[47,61]⟩||strEq s ⟨#[60]⟩||strEq s ⟨#[60,61]⟩||strEq s ⟨#[62]⟩||strEq s ⟨#[62,61]⟩
abbrev boolN:ByteArray:=⟨#[66,111,111,108]⟩
def opsS (s:ByteArray):Option Ty:=if isArith s then some (.mk 1 noStr []) else if isCmp s then some (.mk 4 boolN []) else none
def opsC (s:ByteArray):List Value:=match opsS s with | some t=>leafC t.kind t.name | none=>zTy
theorem f_operators (s:ByteArray) {w:World}:CallsR Tryz.prog 85 [.string s] w fun r w'=>r = .tuple #[.agg (opsC s).toArray,.bool (opsS s).isSome]∧Mod (fun _=>False) w w':=by
 refine fit85.calls rfl ?_;unfold ir85;(try simp only [go_sem,simprocAttr]);refine e_al ?_;intro w1 hb1 hm1 hs1;(try simp only [go_sem,simprocAttr]);refine ir_then (fun ρ w'=>w1=w'∧ρ.get 2=some (ptr w.heap.size)∧ρ.get 4=some (.string s)∧ρ.get 5=some (.bool (isArith s))) ?_ ?_
 · skip
   cases h1:s.toList == ByteArray.toList ⟨#[43]⟩ with
   | true=>(try simp only [go_sem,simprocAttr,isArith,strEq,h1,Bool.false_or,Bool.true_or])
   | false=>
     (try simp only [go_sem,simprocAttr]);cases h2:s.toList == ByteArray.toList ⟨#[45]⟩ with
     | true=>(try simp only [go_sem,simprocAttr,isArith,strEq,h1,h2,Bool.false_or,Bool.true_or])
     | false=>
       (try simp only [go_sem,simprocAttr]);cases h3:s.toList == ByteArray.toList ⟨#[42]⟩ with
       | true=>(try simp only [go_sem,simprocAttr,isArith,strEq,h1,h2,h3,Bool.false_or,Bool.true_or])
       | false=>
         (try simp only [go_sem,simprocAttr]);cases h4:s.toList == ByteArray.toList ⟨#[47]⟩ with
         | true=>(try simp only [go_sem,simprocAttr,isArith,strEq,h1,h2,h3,h4,Bool.false_or,Bool.true_or])
         | false=>
           (try simp only [go_sem,simprocAttr]);(try simp only [go_sem,simprocAttr,isArith,strEq,h1,h2,h3,h4,Bool.false_or])
 rintro ρ _ ⟨rfl,g2,g4,g5⟩;cases ha:isArith s with
 | true=>
   rw [ha] at g5;have ho:opsS s=some (.mk 1 noStr []):=by rw [opsS,if_pos ha]
   (try simp only [go_sem,simprocAttr,g2,g4,g5]);refine e_call (by rfl) ?_;refine f_intType.mono ?_;rintro _ w2 ⟨rfl,hm2⟩;(try simp only [go_sem,simprocAttr,g2,g4]);refine e_sta (vs:=leafC 1 noStr) (cs:=zTy) g2 rfl (hm2.at hb1 _root_.id) rfl rfl (leafC_one _ _) ?_;intro w3 hb3 hm3 hs3;(try simp only [go_sem,simprocAttr,rvs,RV.ev,ln_blk (n:=3) hb3 rfl,one?]);rw [opsC,ho];exact ⟨rfl,(hm1.trans hm2).step hm3 (fun x hx hl=>by omega)⟩
 | false=>
   rw [ha] at g5;(try simp only [go_sem,simprocAttr,g2,g4,g5]);refine ir_then (fun ρ w'=>w1=w'∧ρ.get 2=some (ptr w.heap.size)∧ρ.get 12=some (.bool (isCmp s))) ?_ ?_
   · skip
     cases h1:s.toList == ByteArray.toList ⟨#[61,61]⟩ with
     | true=>(try simp only [go_sem,simprocAttr,g2,isCmp,strEq,h1,Bool.false_or,Bool.true_or])
     | false=>
       (try simp only [go_sem,simprocAttr,g2,g4]);cases h2:s.toList == ByteArray.toList ⟨#[47,61]⟩ with
       | true=>(try simp only [go_sem,simprocAttr,g2,isCmp,strEq,h1,h2,Bool.false_or,Bool.true_or])
       | false=>
         (try simp only [go_sem,simprocAttr,g2,g4]);cases h3:s.toList == ByteArray.toList ⟨#[60]⟩ with
         | true=>(try simp only [go_sem,simprocAttr,g2,isCmp,strEq,h1,h2,h3,Bool.false_or,Bool.true_or])
         | false=>
           (try simp only [go_sem,simprocAttr,g2,g4]);cases h4:s.toList == ByteArray.toList ⟨#[60,61]⟩ with
           | true=>(try simp only [go_sem,simprocAttr,g2,isCmp,strEq,h1,h2,h3,h4,Bool.false_or,Bool.true_or])
           | false=>
             (try simp only [go_sem,simprocAttr,g2,g4]);cases h5:s.toList == ByteArray.toList ⟨#[62]⟩ with
             | true=>(try simp only [go_sem,simprocAttr,g2,isCmp,strEq,h1,h2,h3,h4,h5,Bool.false_or,Bool.true_or])
             | false=>
               (try simp only [go_sem,simprocAttr,g2,g4]);(try simp only [go_sem,simprocAttr,g2,isCmp,strEq,h1,h2,h3,h4,h5,Bool.false_or])
   rintro ρ _ ⟨rfl,g2,g12⟩;cases hc:isCmp s with
   | true=>
     rw [hc] at g12;have ho:opsS s=some (.mk 4 boolN []):=by rw [opsS,if_neg (by rw [ha];simp),if_pos hc]
     (try simp only [go_sem,simprocAttr,g2,g12]);refine e_call (by rfl) ?_;refine (f_data boolN (v:=.slice none 0 0) rfl rfl).mono ?_;rintro _ w2 ⟨rfl,hm2⟩;(try simp only [go_sem,simprocAttr,g2]);refine e_sta (vs:=leafC 4 boolN) (cs:=zTy) g2 rfl (hm2.at hb1 _root_.id) rfl rfl (leafC_one _ _) ?_;intro w3 hb3 hm3 hs3;(try simp only [go_sem,simprocAttr,rvs,RV.ev,ln_blk (n:=3) hb3 rfl,one?]);rw [opsC,ho];exact ⟨rfl,(hm1.trans hm2).step hm3 (fun x hx hl=>by omega)⟩
   | false=>
     rw [hc] at g12;have hn:opsS s=none:=by rw [opsS,if_neg (by rw [ha];simp),if_neg (by rw [hc];simp)]
     (try simp only [go_sem,simprocAttr,g2,g12]);refine e_sta (vs:=zTy) (cs:=zTy) g2 rfl hb1 rfl rfl zTy_one ?_;intro w2 hb2 hm2 hs2;(try simp only [go_sem,simprocAttr,rvs,RV.ev,ln_blk (n:=3) hb2 rfl,one?]);rw [opsC,hn];exact ⟨rfl,hm1.step hm2 (fun x hx hl=>by omega)⟩
end
section
open Go Go.W
theorem add_pos (a:Addr) {n:Nat} (h:n≠0):a.add n=⟨a.block,a.off+n,none⟩:=by unfold Addr.add;rw [if_neg (by simpa using h)]
def emptyS (e:Ex):Bool:=e.kind == 0&&(strEq e.name noStr&&((e.num == 0)&&(Wr (Wr (Wr (e.types.length+e.args.length)+e.binds.length)+e.alts.length) == 0)))
theorem f_empty (e:Ex) {w:World} {B:Nat→Prop} {cs:List Value} (h:ExAt w B cs e):CallsR Tryz.prog 84 [.agg cs.toArray] w fun r w'=>r = .bool (emptyS e)∧Mod (fun _=>False) w w':=by
 obtain ⟨vt,va,vb,vl,rfl,ht,ha,hb,hl⟩:=h.parts;obtain ⟨at',ct,rfl⟩:=each_sl ht;obtain ⟨aa,ca,rfl⟩:=each_sl ha;obtain ⟨ab,cb,rfl⟩:=each_sl hb;obtain ⟨al,cl,rfl⟩:=each_sl hl;refine fit84.calls rfl ?_;unfold ir84;(try simp only [go_sem,simprocAttr]);refine e_bx rfl ?_;intro w1 hb1 hm1 hs1;(try simp only [go_sem,simprocAttr,cell_of hb1,Value.cells]);cases h1:e.kind == 0 with
 | false=>(try simp only [go_sem,simprocAttr,emptyS,h1,Bool.false_and]);exact hm1
 | true=>
   (try simp only [go_sem,simprocAttr,cell_of hb1,Value.cells]);cases h2:e.name.toList == ByteArray.toList ⟨#[]⟩ with
   | false=>(try simp only [go_sem,simprocAttr,emptyS,strEq,h1,h2,Bool.false_and]);exact hm1
   | true=>
     (try simp only [go_sem,simprocAttr,cell_of hb1,Value.cells]);cases h3:e.num == 0 with
     | false=>(try simp only [go_sem,simprocAttr,emptyS,strEq,h1,h2,h3,Bool.false_and]);exact hm1
     | true=>
       (try simp only [go_sem,simprocAttr,cell_of hb1,Value.cells,emptyS,strEq,h1,h2,h3]);exact hm1
def cnt (e:Ex) (a b c d:Int):Bool:=(e.types.length:Int) == a&&((e.args.length:Int) == b&&((e.binds.length:Int) == c&&((e.alts.length:Int) == d)))
def formNamed (k:Int):Bool:=k == 1||(k == 3||k == 4)||k == 9
def formNum (k:Int):Bool:=k == 2||k == 12
def formOk (e:Ex):Bool:=
 if e.kind == 1 then cnt e 0 0 0 0
 else if e.kind == 2 then (cnt e 0 0 0 0&&decide (e.num ≥ -4611686018427387904))&&decide (e.num≤4611686018427387903)
 else if (e.kind == 3||e.kind == 4) then cnt e e.types.length 0 0 0
 else if (e.kind == 5||e.kind == 10) then cnt e 0 2 0 0
 else if e.kind == 6 then cnt e 0 1 1 0&&(match e.binds with | b::_=>emptyS b.value | []=>false)
 else if e.kind == 7 then cnt e 0 1 e.binds.length 0&&decide ((e.binds.length:Int)≥1)
 else if e.kind == 8 then cnt e 0 1 0 e.alts.length&&decide ((e.alts.length:Int)≥1)
 else if e.kind == 9 then cnt e 0 2 0 0&&(opsS e.name).isSome
 else if e.kind == 11 then cnt e 0 1 1 0
 else if e.kind == 12 then (cnt e 1 0 0 0&&decide (e.num≥1))&&decide (e.num≤4)
 else false
def formedS (e:Ex):Bool:=(formOk e&&(formNamed e.kind||strEq e.name noStr))&&(formNum e.kind||e.num == 0)
theorem f_formed (e:Ex) {w:World} {B:Nat→Prop} {cs:List Value} (h:ExAt w B cs e):CallsR Tryz.prog 62 [.agg cs.toArray] w fun r w'=>r = .bool (formedS e)∧Mod (fun _=>False) w w':=by
 obtain ⟨vt,va,vb,vl,rfl,ht,ha,hb,hl⟩:=h.parts;obtain ⟨at',ct,rfl⟩:=each_sl ht;obtain ⟨aa,ca,rfl⟩:=each_sl ha;obtain ⟨ab,cb,rfl⟩:=each_sl hb;obtain ⟨al,cl,rfl⟩:=each_sl hl;refine fit62.calls rfl ?_;unfold ir62;(try simp only [go_sem,simprocAttr]);refine e_bx rfl ?_;intro w1 hb1 hm1 hs1;(try simp only [go_sem,simprocAttr,cell_of hb1,Value.cells]);refine s_new (n:=4) (vs:=[I e.types.length,I e.args.length,I e.binds.length,I e.alts.length]) rfl rfl (one_cons rfl (one_cons rfl (one_cons rfl (one_cons rfl one_nil)))) ?_;intro w2 hb2 hm2 hs2;have hb1:=hm2.at hb1 _root_.id;have hm:=hm1.trans hm2;(try simp only [go_sem,simprocAttr,cell_of hb1,Value.cells]);refine ir_thenB (fun ρ w'=>Mod (fun _=>False) w2 w'∧ρ.get 1=some (ptr w.heap.size)∧ρ.get 4=some (.bool (formNamed e.kind))∧ρ.get 5=some (.bool (formNum e.kind))∧ρ.get 6=some (.bool (formOk e))) ?_ ?_
 · have hb2d:w2.drew.heap[w1.heap.size]? = _:=hb2;cases h1:e.kind == 1 with
   | true=>
     (try simp only [go_sem,simprocAttr,ln_blk (n:=4) hb2 rfl,ln_blk (n:=4) hb2d rfl,cell_of hb1,cell_of hb2,Value.cells,drew_ln]);have hk:e.kind=1:=by simpa using h1
     (try simp only [go_sem,simprocAttr,ln_blk (n:=4) hb2 rfl,ln_blk (n:=4) hb2d rfl,cell_of hb1,cell_of hb2,Value.cells,drew_ln]);exact ⟨Mod.drew (.refl _ _),congrArg _ (by rw [formNamed,hk];rfl),congrArg _ (by rw [formNum,hk];rfl),congrArg _ (by unfold formOk;rw [hk];rfl)⟩
   | false=>
     (try simp only [go_sem,simprocAttr,ln_blk (n:=4) hb2 rfl,ln_blk (n:=4) hb2d rfl,cell_of hb1,cell_of hb2,Value.cells,drew_ln]);cases h2:e.kind == 2 with
     | true=>
       (try simp only [go_sem,simprocAttr,ln_blk (n:=4) hb2 rfl,ln_blk (n:=4) hb2d rfl,cell_of hb1,cell_of hb2,Value.cells,drew_ln]);have hk:e.kind=2:=by simpa using h2
       (try simp only [go_sem,simprocAttr,ln_blk (n:=4) hb2 rfl,ln_blk (n:=4) hb2d rfl,cell_of hb1,cell_of hb2,Value.cells,drew_ln]);have ho:formOk e=((cnt e 0 0 0 0&&decide (e.num ≥ -4611686018427387904))&&decide (e.num≤4611686018427387903)):=by unfold formOk;rw [hk];rfl
       unfold cnt at ho;cases hc:((e.types.length:Int) == 0&&((e.args.length:Int) == 0&&((e.binds.length:Int) == 0&&((e.alts.length:Int) == 0)))) with
       | false=>rw [hc] at ho;(try simp only [go_sem,simprocAttr,ln_blk (n:=4) hb2 rfl,ln_blk (n:=4) hb2d rfl,cell_of hb1,cell_of hb2,Value.cells,drew_ln]);exact ⟨Mod.drew (.refl _ _),congrArg _ (by rw [formNamed,hk];rfl),congrArg _ (by rw [formNum,hk];rfl),congrArg _ (by rw [ho];rfl)⟩
       | true=>
         rw [hc] at ho;(try simp only [go_sem,simprocAttr,ln_blk (n:=4) hb2 rfl,ln_blk (n:=4) hb2d rfl,cell_of hb1,cell_of hb2,Value.cells,drew_ln]);cases hd:decide (e.num ≥ -4611686018427387904) with
         | false=>rw [hd] at ho;(try simp only [go_sem,simprocAttr,ln_blk (n:=4) hb2 rfl,ln_blk (n:=4) hb2d rfl,cell_of hb1,cell_of hb2,Value.cells,drew_ln]);exact ⟨Mod.drew (.refl _ _),congrArg _ (by rw [formNamed,hk];rfl),congrArg _ (by rw [formNum,hk];rfl),congrArg _ (by rw [ho];rfl)⟩
         | true=>rw [hd] at ho;(try simp only [go_sem,simprocAttr,ln_blk (n:=4) hb2 rfl,ln_blk (n:=4) hb2d rfl,cell_of hb1,cell_of hb2,Value.cells,drew_ln]);exact ⟨Mod.drew (.refl _ _),congrArg _ (by rw [formNamed,hk];rfl),congrArg _ (by rw [formNum,hk];rfl),congrArg _ (by rw [ho];rfl)⟩
     | false=>
       (try simp only [go_sem,simprocAttr,ln_blk (n:=4) hb2 rfl,ln_blk (n:=4) hb2d rfl,cell_of hb1,cell_of hb2,Value.cells,drew_ln]);cases h3:e.kind == 3 with
       | true=>
         (try simp only [go_sem,simprocAttr,ln_blk (n:=4) hb2 rfl,ln_blk (n:=4) hb2d rfl,cell_of hb1,cell_of hb2,Value.cells,drew_ln]);have hk:e.kind=3:=by simpa using h3
         (try simp only [go_sem,simprocAttr,ln_blk (n:=4) hb2 rfl,ln_blk (n:=4) hb2d rfl,cell_of hb1,cell_of hb2,Value.cells,drew_ln]);exact ⟨Mod.drew (.refl _ _),congrArg _ (by rw [formNamed,hk];rfl),congrArg _ (by rw [formNum,hk];rfl),congrArg _ (by unfold formOk;rw [hk];rfl)⟩
       | false=>
         (try simp only [go_sem,simprocAttr,ln_blk (n:=4) hb2 rfl,ln_blk (n:=4) hb2d rfl,cell_of hb1,cell_of hb2,Value.cells,drew_ln]);cases h4:e.kind == 4 with
         | true=>
           (try simp only [go_sem,simprocAttr,ln_blk (n:=4) hb2 rfl,ln_blk (n:=4) hb2d rfl,cell_of hb1,cell_of hb2,Value.cells,drew_ln]);have hk:e.kind=4:=by simpa using h4
           (try simp only [go_sem,simprocAttr,ln_blk (n:=4) hb2 rfl,ln_blk (n:=4) hb2d rfl,cell_of hb1,cell_of hb2,Value.cells,drew_ln]);exact ⟨Mod.drew (.refl _ _),congrArg _ (by rw [formNamed,hk];rfl),congrArg _ (by rw [formNum,hk];rfl),congrArg _ (by unfold formOk;rw [hk];rfl)⟩
         | false=>
           (try simp only [go_sem,simprocAttr,ln_blk (n:=4) hb2 rfl,ln_blk (n:=4) hb2d rfl,cell_of hb1,cell_of hb2,Value.cells,drew_ln]);cases h5:e.kind == 5 with
           | true=>
             (try simp only [go_sem,simprocAttr,ln_blk (n:=4) hb2 rfl,ln_blk (n:=4) hb2d rfl,cell_of hb1,cell_of hb2,Value.cells,drew_ln]);have hk:e.kind=5:=by simpa using h5
             (try simp only [go_sem,simprocAttr,ln_blk (n:=4) hb2 rfl,ln_blk (n:=4) hb2d rfl,cell_of hb1,cell_of hb2,Value.cells,drew_ln]);exact ⟨.refl _ _,congrArg _ (by rw [formNamed,hk];rfl),congrArg _ (by rw [formNum,hk];rfl),congrArg _ (by unfold formOk;rw [hk];rfl)⟩
           | false=>
             (try simp only [go_sem,simprocAttr,ln_blk (n:=4) hb2 rfl,ln_blk (n:=4) hb2d rfl,cell_of hb1,cell_of hb2,Value.cells,drew_ln]);cases h10:e.kind == 10 with
             | true=>
               (try simp only [go_sem,simprocAttr,ln_blk (n:=4) hb2 rfl,ln_blk (n:=4) hb2d rfl,cell_of hb1,cell_of hb2,Value.cells,drew_ln]);have hk:e.kind=10:=by simpa using h10
               (try simp only [go_sem,simprocAttr,ln_blk (n:=4) hb2 rfl,ln_blk (n:=4) hb2d rfl,cell_of hb1,cell_of hb2,Value.cells,drew_ln]);exact ⟨.refl _ _,congrArg _ (by rw [formNamed,hk];rfl),congrArg _ (by rw [formNum,hk];rfl),congrArg _ (by unfold formOk;rw [hk];rfl)⟩
             | false=>
               (try simp only [go_sem,simprocAttr,ln_blk (n:=4) hb2 rfl,ln_blk (n:=4) hb2d rfl,cell_of hb1,cell_of hb2,Value.cells,drew_ln]);cases h6:e.kind == 6 with
               | true=>
                 (try simp only [go_sem,simprocAttr,ln_blk (n:=4) hb2 rfl,ln_blk (n:=4) hb2d rfl,cell_of hb1,cell_of hb2,Value.cells,drew_ln]);have hk:e.kind=6:=by simpa using h6
                 (try simp only [go_sem,simprocAttr,ln_blk (n:=4) hb2 rfl,ln_blk (n:=4) hb2d rfl,cell_of hb1,cell_of hb2,Value.cells,drew_ln]);have ho:formOk e=(cnt e 0 1 1 0&&(match e.binds with | b::_=>emptyS b.value | []=>false)):=by unfold formOk;rw [hk];rfl
                 unfold cnt at ho;cases hc:((e.types.length:Int) == 0&&((e.args.length:Int) == 1&&((e.binds.length:Int) == 1&&((e.alts.length:Int) == 0)))) with
                 | false=>rw [hc] at ho;(try simp only [go_sem,simprocAttr,ln_blk (n:=4) hb2 rfl,ln_blk (n:=4) hb2d rfl,cell_of hb1,cell_of hb2,Value.cells,drew_ln]);exact ⟨.refl _ _,congrArg _ (by rw [formNamed,hk];rfl),congrArg _ (by rw [formNum,hk];rfl),congrArg _ (by rw [ho];rfl)⟩
                 | true=>
                   rw [hc] at ho;have hn:e.binds.length=1:=by simp only [Bool.and_eq_true,beq_iff_eq] at hc;omega
                   have hlt:0 < e.binds.length:=by omega
                   obtain ⟨ad,cc,r,ee,⟨tc,ec,rfl,hrt,hre,_⟩,hl3,_,hcells⟩:=each_at (hb.mod hm nof (fun _ _ h=>h.mod hm nof)) hlt;cases ee;have l1:=hrt.len;have hl7:=ln_sub hcells (o:=4) (n:=7) (by simp [hre.len];omega);rw [List.drop_succ_cons,List.drop_left' l1,List.take_of_length_le (by rw [hre.len];omega),Nat.zero_mul,add_zero',add_pos _ (n:=4) (by decide)] at hl7;have b1:(0:Int)≤0∧(0:Int) < e.binds.length:=by omega
                   (try simp only [go_sem,simprocAttr,zb4,zb6,ln_blk (n:=4) hb2 rfl,ln_blk (n:=4) hb2d rfl,cell_of hb1,cell_of hb2,Value.cells,drew_ln,b1,Nat.zero_mul,hl7]);refine e_call (by rfl) ?_;refine (f_empty _ hre).mono ?_;rintro _ w3 ⟨rfl,hm3⟩;(try simp only [go_sem,simprocAttr,ln_blk (n:=4) hb2 rfl,ln_blk (n:=4) hb2d rfl,cell_of hb1,cell_of hb2,Value.cells,drew_ln]);exact ⟨hm3,congrArg _ (by rw [formNamed,hk];rfl),congrArg _ (by rw [formNum,hk];rfl),congrArg _ (by rw [ho];match e.binds,hlt with | b::_,_=>rfl)⟩
               | false=>
                 (try simp only [go_sem,simprocAttr,ln_blk (n:=4) hb2 rfl,ln_blk (n:=4) hb2d rfl,cell_of hb1,cell_of hb2,Value.cells,drew_ln]);cases h7:e.kind == 7 with
                 | true=>
                   (try simp only [go_sem,simprocAttr,ln_blk (n:=4) hb2 rfl,ln_blk (n:=4) hb2d rfl,cell_of hb1,cell_of hb2,Value.cells,drew_ln]);have hk:e.kind=7:=by simpa using h7
                   (try simp only [go_sem,simprocAttr,ln_blk (n:=4) hb2 rfl,ln_blk (n:=4) hb2d rfl,cell_of hb1,cell_of hb2,Value.cells,drew_ln]);have ho:formOk e=(cnt e 0 1 e.binds.length 0&&decide ((e.binds.length:Int)≥1)):=by unfold formOk;rw [hk];rfl
                   unfold cnt at ho;cases hc:((e.types.length:Int) == 0&&((e.args.length:Int) == 1&&((e.binds.length:Int) == e.binds.length&&((e.alts.length:Int) == 0)))) with
                   | false=>rw [hc] at ho;(try simp only [go_sem,simprocAttr,ln_blk (n:=4) hb2 rfl,ln_blk (n:=4) hb2d rfl,cell_of hb1,cell_of hb2,Value.cells,drew_ln]);exact ⟨.refl _ _,congrArg _ (by rw [formNamed,hk];rfl),congrArg _ (by rw [formNum,hk];rfl),congrArg _ (by rw [ho];rfl)⟩
                   | true=>rw [hc] at ho;(try simp only [go_sem,simprocAttr,ln_blk (n:=4) hb2 rfl,ln_blk (n:=4) hb2d rfl,cell_of hb1,cell_of hb2,Value.cells,drew_ln]);exact ⟨.refl _ _,congrArg _ (by rw [formNamed,hk];rfl),congrArg _ (by rw [formNum,hk];rfl),congrArg _ (by rw [ho];rfl)⟩
                 | false=>
                   (try simp only [go_sem,simprocAttr,ln_blk (n:=4) hb2 rfl,ln_blk (n:=4) hb2d rfl,cell_of hb1,cell_of hb2,Value.cells,drew_ln]);cases h8:e.kind == 8 with
                   | true=>
                     (try simp only [go_sem,simprocAttr,ln_blk (n:=4) hb2 rfl,ln_blk (n:=4) hb2d rfl,cell_of hb1,cell_of hb2,Value.cells,drew_ln]);have hk:e.kind=8:=by simpa using h8
                     (try simp only [go_sem,simprocAttr,ln_blk (n:=4) hb2 rfl,ln_blk (n:=4) hb2d rfl,cell_of hb1,cell_of hb2,Value.cells,drew_ln]);have ho:formOk e=(cnt e 0 1 0 e.alts.length&&decide ((e.alts.length:Int)≥1)):=by unfold formOk;rw [hk];rfl
                     unfold cnt at ho;cases hc:((e.types.length:Int) == 0&&((e.args.length:Int) == 1&&((e.binds.length:Int) == 0&&((e.alts.length:Int) == e.alts.length)))) with
                     | false=>rw [hc] at ho;(try simp only [go_sem,simprocAttr,ln_blk (n:=4) hb2 rfl,ln_blk (n:=4) hb2d rfl,cell_of hb1,cell_of hb2,Value.cells,drew_ln]);exact ⟨.refl _ _,congrArg _ (by rw [formNamed,hk];rfl),congrArg _ (by rw [formNum,hk];rfl),congrArg _ (by rw [ho];rfl)⟩
                     | true=>rw [hc] at ho;(try simp only [go_sem,simprocAttr,ln_blk (n:=4) hb2 rfl,ln_blk (n:=4) hb2d rfl,cell_of hb1,cell_of hb2,Value.cells,drew_ln]);exact ⟨.refl _ _,congrArg _ (by rw [formNamed,hk];rfl),congrArg _ (by rw [formNum,hk];rfl),congrArg _ (by rw [ho];rfl)⟩
                   | false=>
                     (try simp only [go_sem,simprocAttr,ln_blk (n:=4) hb2 rfl,ln_blk (n:=4) hb2d rfl,cell_of hb1,cell_of hb2,Value.cells,drew_ln]);cases h9:e.kind == 9 with
                     | true=>
                       (try simp only [go_sem,simprocAttr,ln_blk (n:=4) hb2 rfl,ln_blk (n:=4) hb2d rfl,cell_of hb1,cell_of hb2,Value.cells,drew_ln]);have hk:e.kind=9:=by simpa using h9
                       (try simp only [go_sem,simprocAttr,ln_blk (n:=4) hb2 rfl,ln_blk (n:=4) hb2d rfl,cell_of hb1,cell_of hb2,Value.cells,drew_ln]);refine e_call (by rfl) ?_;refine (f_operators e.name).mono ?_;rintro _ w3 ⟨rfl,hm3⟩;(try simp only [go_sem,simprocAttr]);refine s_new (n:=3) (vs:=opsC e.name) rfl (by unfold opsC;split<;>rfl) (by unfold opsC;split;exact leafC_one _ _;exact zTy_one) ?_;intro w4 hb4 hm4 hs4;have hm24:=hm3.trans hm4;have hb2:=hm24.at hb2 _root_.id;have ho:formOk e=(cnt e 0 2 0 0&&(opsS e.name).isSome):=by unfold formOk;rw [hk];rfl
                       unfold cnt at ho;(try simp only [go_sem,simprocAttr,ln_blk (n:=4) hb2 rfl,cell_of hb1,cell_of hb2,Value.cells,drew_ln]);cases hc:((e.types.length:Int) == 0&&((e.args.length:Int) == 2&&((e.binds.length:Int) == 0&&((e.alts.length:Int) == 0)))) with
                       | false=>rw [hc] at ho;(try simp only [go_sem,simprocAttr]);exact ⟨hm24,congrArg _ (by rw [formNamed,hk];rfl),congrArg _ (by rw [formNum,hk];rfl),congrArg _ (by rw [ho];rfl)⟩
                       | true=>rw [hc] at ho;(try simp only [go_sem,simprocAttr]);exact ⟨hm24,congrArg _ (by rw [formNamed,hk];rfl),congrArg _ (by rw [formNum,hk];rfl),congrArg _ (by rw [ho];rfl)⟩
                     | false=>
                       (try simp only [go_sem,simprocAttr,ln_blk (n:=4) hb2 rfl,ln_blk (n:=4) hb2d rfl,cell_of hb1,cell_of hb2,Value.cells,drew_ln]);cases h11:e.kind == 11 with
                       | true=>
                         (try simp only [go_sem,simprocAttr,ln_blk (n:=4) hb2 rfl,ln_blk (n:=4) hb2d rfl,cell_of hb1,cell_of hb2,Value.cells,drew_ln]);have hk:e.kind=11:=by simpa using h11
                         (try simp only [go_sem,simprocAttr,ln_blk (n:=4) hb2 rfl,ln_blk (n:=4) hb2d rfl,cell_of hb1,cell_of hb2,Value.cells,drew_ln]);exact ⟨.refl _ _,congrArg _ (by rw [formNamed,hk];rfl),congrArg _ (by rw [formNum,hk];rfl),congrArg _ (by unfold formOk;rw [hk];rfl)⟩
                       | false=>
                         (try simp only [go_sem,simprocAttr,ln_blk (n:=4) hb2 rfl,ln_blk (n:=4) hb2d rfl,cell_of hb1,cell_of hb2,Value.cells,drew_ln]);cases h12:e.kind == 12 with
                         | true=>
                           (try simp only [go_sem,simprocAttr,ln_blk (n:=4) hb2 rfl,ln_blk (n:=4) hb2d rfl,cell_of hb1,cell_of hb2,Value.cells,drew_ln]);have hk:e.kind=12:=by simpa using h12
                           (try simp only [go_sem,simprocAttr,ln_blk (n:=4) hb2 rfl,ln_blk (n:=4) hb2d rfl,cell_of hb1,cell_of hb2,Value.cells,drew_ln]);have ho:formOk e=((cnt e 1 0 0 0&&decide (e.num≥1))&&decide (e.num≤4)):=by unfold formOk;rw [hk];rfl
                           unfold cnt at ho;cases hc:((e.types.length:Int) == 1&&((e.args.length:Int) == 0&&((e.binds.length:Int) == 0&&((e.alts.length:Int) == 0)))) with
                           | false=>rw [hc] at ho;(try simp only [go_sem,simprocAttr,ln_blk (n:=4) hb2 rfl,ln_blk (n:=4) hb2d rfl,cell_of hb1,cell_of hb2,Value.cells,drew_ln]);exact ⟨Mod.drew (.refl _ _),congrArg _ (by rw [formNamed,hk];rfl),congrArg _ (by rw [formNum,hk];rfl),congrArg _ (by rw [ho];rfl)⟩
                           | true=>
                             rw [hc] at ho;(try simp only [go_sem,simprocAttr,ln_blk (n:=4) hb2 rfl,ln_blk (n:=4) hb2d rfl,cell_of hb1,cell_of hb2,Value.cells,drew_ln]);cases hd:decide (e.num≥1) with
                             | false=>rw [hd] at ho;(try simp only [go_sem,simprocAttr,ln_blk (n:=4) hb2 rfl,ln_blk (n:=4) hb2d rfl,cell_of hb1,cell_of hb2,Value.cells,drew_ln]);exact ⟨Mod.drew (.refl _ _),congrArg _ (by rw [formNamed,hk];rfl),congrArg _ (by rw [formNum,hk];rfl),congrArg _ (by rw [ho];rfl)⟩
                             | true=>rw [hd] at ho;(try simp only [go_sem,simprocAttr,ln_blk (n:=4) hb2 rfl,ln_blk (n:=4) hb2d rfl,cell_of hb1,cell_of hb2,Value.cells,drew_ln]);exact ⟨Mod.drew (.refl _ _),congrArg _ (by rw [formNamed,hk];rfl),congrArg _ (by rw [formNum,hk];rfl),congrArg _ (by rw [ho];rfl)⟩
                         | false=>
                           (try simp only [go_sem,simprocAttr,ln_blk (n:=4) hb2 rfl,ln_blk (n:=4) hb2d rfl,cell_of hb1,cell_of hb2,Value.cells,drew_ln]);exact ⟨.refl _ _,congrArg _ (by simp only [formNamed,h1,h2,h3,h4,h5,h10,h6,h7,h8,h9,h11,h12];rfl),congrArg _ (by simp only [formNum,h1,h2,h3,h4,h5,h10,h6,h7,h8,h9,h11,h12];rfl),congrArg _ (by simp only [formOk,h1,h2,h3,h4,h5,h10,h6,h7,h8,h9,h11,h12];rfl)⟩
 · rintro ρ w3 ⟨hm3,g1,g4,g5,g6⟩;have hb1:=hm3.at hb1 _root_.id;have hmm:=hm.trans hm3;have ho:formedS e=((formOk e&&(formNamed e.kind||strEq e.name noStr))&&(formNum e.kind||e.num == 0)):=rfl;cases h1:formOk e with
   | false=>
     rw [h1] at g6 ho;(try simp only [go_sem,simprocAttr,g1,g4,g5,g6]);exact ⟨congrArg _ (by rw [ho];rfl),hmm⟩
   | true=>
     rw [h1] at g6 ho;cases h2:formNamed e.kind with
     | true=>
       rw [h2] at g4 ho;cases h3:formNum e.kind with
       | true=>
         rw [h3] at g5 ho;(try simp only [go_sem,simprocAttr,g1,g4,g5,g6,cell_of hb1,Value.cells]);exact ⟨congrArg _ (by rw [ho];rfl),hmm⟩
       | false=>
         rw [h3] at g5 ho;(try simp only [go_sem,simprocAttr,g1,g4,g5,g6,cell_of hb1,Value.cells]);exact ⟨congrArg _ (by rw [ho];rfl),hmm⟩
     | false=>
       rw [h2] at g4 ho;cases h4:e.name.toList == ByteArray.toList ⟨#[]⟩ with
       | false=>
         rw [strEq,h4] at ho;(try simp only [go_sem,simprocAttr,g1,g4,g5,g6,cell_of hb1,Value.cells,h4]);exact ⟨congrArg _ (by rw [ho];rfl),hmm⟩
       | true=>
         rw [strEq,h4] at ho;cases h3:formNum e.kind with
         | true=>
           rw [h3] at g5 ho;(try simp only [go_sem,simprocAttr,g1,g4,g5,g6,cell_of hb1,Value.cells,h4]);exact ⟨congrArg _ (by rw [ho];rfl),hmm⟩
         | false=>
           rw [h3] at g5 ho;(try simp only [go_sem,simprocAttr,g1,g4,g5,g6,cell_of hb1,Value.cells,h4]);exact ⟨congrArg _ (by rw [ho];rfl),hmm⟩
end
section
open Go Go.W
instance:Inhabited Ty:=⟨.mk 0 noStr []⟩
mutual
def replT (ps:List ByteArray) (by':List Ty):Ty→Int→Ty×Int
 | .mk k n l,left=>match (if k == 2 then strIdx ps n else none) with
   | some i=>(by'.getD i default,Wr (left - (by'.getD i default).size))
   | none=>(.mk k n (replTs ps by' l (Wr (left - 1))).1,(replTs ps by' l (Wr (left - 1))).2)
def replTs (ps:List ByteArray) (by':List Ty):List Ty→Int→List Ty×Int
 | [],left=>([],left)
 | t::l,left=>if left < 0 then ([],left) else ((replT ps by' t left).1::(replTs ps by' l (replT ps by' t left).2).1,(replTs ps by' l (replT ps by' t left).2).2)
end
theorem replT_some {ps:List ByteArray} {bs:List Ty} {t:Ty} {left:Int} {i:Nat} (hk:(t.kind == 2)=true) (hi:strIdx ps t.name=some i):replT ps bs t left=(bs.getD i default,Wr (left - (bs.getD i default).size)):=by
 cases t with | mk k n l=>
 simp only [Ty.kind,Ty.name] at hk hi;rw [replT,if_pos hk,hi]
theorem replT_none {ps:List ByteArray} {bs:List Ty} {t:Ty} {left:Int} (h:(t.kind == 2)=false∨strIdx ps t.name=none):replT ps bs t left=(.mk t.kind t.name (replTs ps bs t.args (Wr (left - 1))).1,(replTs ps bs t.args (Wr (left - 1))).2):=by
 cases t with | mk k n l=>
 simp only [Ty.kind,Ty.name,Ty.args] at h ⊢;rw [replT];rcases h with h | h
 · rw [if_neg (by rw [h];simp)]
 · rw [h];split<;>rename_i h2<;>first | rfl | (split at h2<;>cases h2)
theorem replTs_at {ps:List ByteArray} {bs:List Ty} {l:List Ty} {i:Nat} (hi:i < l.length) (left:Int):replTs ps bs (l.drop i) left=if left < 0 then ([],left) else ((replT ps bs l[i] left).1::(replTs ps bs (l.drop (i+1)) (replT ps bs l[i] left).2).1,(replTs ps bs (l.drop (i+1)) (replT ps bs l[i] left).2).2):=by
 rw [List.drop_eq_getElem_cons hi,replTs]
theorem strIdx_lt {l:List ByteArray} {s:ByteArray} {i:Nat} (h:strIdx l s=some i):i < l.length:=by
 rw [strIdx,List.findIdx?_eq_some_iff_getElem] at h;exact h.1
theorem own_ty {w:World} {S:Nat→Prop} {v:Value} {rows:List (List Value)} {fp:Option Nat} {l:List Ty} (ho:OwnS w tyT 3 v (rows.flatMap id) rows.length fp) (hfp:∀ b,fp=some b→Out S w b) (hl:rows.length=l.length) (hb:rows.length≤1099511627776)
   (he:∀ (i:Nat) (r:List Value) (t:Ty),rows[i]? = some r→l[i]? = some t→TyAt w (Out S w) r t) (k:Int) (n:ByteArray):TyAt w (Out S w) [I k,.string n,v] (.mk k n l):=by
 have hr:∀ r∈rows,r.length=3:=fun r hr=>by
   obtain ⟨i,hi,rfl⟩:=List.getElem_of_mem hr;exact (he i _ _ (List.getElem?_eq_getElem hi) (List.getElem?_eq_getElem (by omega))).len
 exact .mk ⟨(own_rows ho hr).mod (.refl (fun _=>False) w) nof hfp,hb⟩ hl he
theorem flat_snoc (rows:List (List Value)) (r:List Value):(rows++[r]).flatMap id=rows.flatMap id++r:=by simp
theorem snoc_at {w:World} {B:Nat→Prop} {rows:List (List Value)} {l:List Ty} {r:List Value} {t:Ty} (hl:rows.length=l.length) (he:∀ (i:Nat) (r:List Value) (t:Ty),rows[i]? = some r→l[i]? = some t→TyAt w B r t) (hr:TyAt w B r t) :
   ∀ (i:Nat) (r':List Value) (t':Ty),(rows++[r])[i]? = some r'→(l++[t])[i]? = some t'→TyAt w B r' t':=by
 intro i r' t' h1 h2;rcases Nat.lt_or_ge i rows.length with h | h
 · rw [List.getElem?_append_left h] at h1;rw [List.getElem?_append_left (by omega)] at h2;exact he i _ _ h1 h2
 · rw [List.getElem?_append_right h] at h1;rw [List.getElem?_append_right (by omega)] at h2;rcases Nat.eq_zero_or_pos (i - rows.length) with h0 | h0
   · have h0':i - l.length=0:=by omega
     rw [h0] at h1;rw [h0'] at h2;simp only [List.getElem?_cons_zero,Option.some.injEq] at h1 h2;subst h1 h2;exact hr
   · rw [List.getElem?_eq_none (by simp;omega)] at h1;cases h1
theorem row_ln {w:World} {v:Value} {sz i:Nat} {rows:List (List Value)} {B:Nat→Prop} (h:RowsB w v sz rows B) (hi:i < rows.length) :
   ∃ ad c,v = .slice (some ad) rows.length c∧vLN w sz (.pointer (some (ad.add (i*sz))))=some (.agg rows[i].toArray):=by
 obtain ⟨ad,c,e,k1,k2⟩:=row_at h.1 hi;exact ⟨ad,c,e,ln_cells k1 k2⟩
theorem tup_inj {a b c d:Nat} {x:Option Addr} {y:Option Addr} (h:Value.slice x a b=Value.slice y c d):x=y∧a=c∧b=d:=by cases h;exact ⟨rfl,rfl,rfl⟩
end
section
open Go Go.W
abbrev CellI (w:World) (b:Nat) (n:Int):Prop:=w.heap[b]? = some (.cells #[I n] 3 (0,0))
structure ReplIn (w:World) (S:Nat→Prop) (vps vby:Value) (ps:List ByteArray) (bs:List Ty):Prop where
 hps:EachAt w vps 1 (Out S w) StrAt ps
 hby:EachAt w vby 3 (Out S w) (TyAt w (Out S w)) bs
 hle:ps.length≤bs.length
theorem ReplIn.ext {w w':World} {S S':Nat→Prop} {vps vby:Value} {ps:List ByteArray} {bs:List Ty} (h:ReplIn w S vps vby ps bs) (hm:Mod S w w') (hs:∀ b,b < w.heap.size→S' b→S b):ReplIn w' S' vps vby ps bs:=
 ⟨h.hps.up hm out_not (out_ext hm hs) (fun _ _ h=>h),h.hby.up hm out_not (out_ext hm hs) (fun _ _ h=>h.ext hm hs),h.hle⟩
abbrev RS (S:Nat→Prop) (b8 b10:Nat) (fp:Option Nat):Nat→Prop:=fun b=>S b∨b=b8∨b=b10∨fp=some b
structure RInv (w:World) (S:Nat→Prop) (lb b8 b10 n0:Nat) (k0:Int) (nm:ByteArray) (w':World) (v:Value) (fp:Option Nat) (rows:List (List Value)) (lk:List Ty) (L:Int):Prop where
 mod:Mod (· = lb) w w'
 left:CellI w' lb L
 out:w'.heap[b10]? = some (.cells [I k0,.string nm,v].toArray tyT (0,0))
 res:w'.heap[b8]? = some (.cells zTy.toArray tyT (0,0))
 own:OwnS w' tyT 3 v (rows.flatMap id) rows.length fp
 new:∀ b,fp=some b→n0≤b
 len:rows.length=lk.length
 ty:∀ (i:Nat) (r:List Value) (t:Ty),rows[i]? = some r→lk[i]? = some t→TyAt w' (Out (RS S b8 b10 fp) w') r t
theorem f_replaced (t:Ty):∀ {w:World} {S:Nat→Prop} {cs:List Value} {vps vby:Value} {ps:List ByteArray} {bs:List Ty} {lb:Nat} {left:Int},TyAt w (Out S w) cs t→ReplIn w S vps vby ps bs→S lb→(∀ b,S b→b < w.heap.size)→CellI w lb left →
   CallsR Tryz.prog 99 [.agg cs.toArray,vps,vby,ptr lb] w fun r w'=>(∃ cs':List Value,r = .agg cs'.toArray∧TyAt w' (Out S w') cs' (replT ps bs t left).1)∧CellI w' lb (replT ps bs t left).2∧Mod (· = lb) w w':=by
 induction t using Ty.ind with
 | h t ih=>
 intro w S cs vps vby ps bs lb left h hin hSl hS hleft;obtain ⟨v,rfl,hl⟩:=h.cells;obtain ⟨a,c,rfl⟩:=each_sl hl;obtain ⟨ab,cb,rfl⟩:=each_sl hin.hby;have hlb:=lt_of_heap hleft;refine fit99.calls rfl ?_;unfold ir99;(try simp only [go_sem,simprocAttr]);refine e_bx rfl ?_;intro w1 hb1 hm1 hs1;(try simp only [go_sem,simprocAttr]);refine e_al ?_;intro w2 hb2 hm2 hs2;have hb1:=hm2.at hb1 _root_.id;have hm02:=hm1.trans hm2;have hleft2:CellI w2 lb left:=hm02.at hleft _root_.id;(try simp only [go_sem,simprocAttr,cell_of hb1,Value.cells]);refine e_call (by rfl) ?_;refine (f_indexS (hin.ext (mod0 hm02) (fun _ _ h=>h)).hps t.name).mono ?_;rintro _ _ ⟨rfl,rfl⟩;(try simp only [go_sem,simprocAttr,cell_of hb1,Value.cells]);refine wpS_cut (fun ρ w'=>w2=w'∧(((t.kind == 2)=true∧∃ i:Nat,strIdx ps t.name=some i∧ρ.get 9=some (I i)∧ρ.get 23=some (.bool true))∨(((t.kind == 2)=false∨strIdx ps t.name=none)∧ρ.get 23=some (.bool false)∧∃ n,ρ.get 9=some (I n)))∧ρ.get 1=some vps∧ρ.get 2=some (.slice ab bs.length cb)∧ρ.get 3=some (ptr lb)∧ρ.get 4=some (ptr w.heap.size)∧ρ.get 8=some (ptr w1.heap.size)) ?_ ?_
 · cases hk:t.kind == 2 with
   | false=>(try simp only [go_sem,simprocAttr]);exact .inr ⟨_,rfl⟩
   | true=>
     cases hi:strIdx ps t.name with
     | none=>(try simp only [go_sem,simprocAttr]);exact .inr ⟨rfl,_,rfl⟩
     | some i=>
       have hge:decide ((i:Int)≥0)=true:=decide_eq_true (by omega);(try simp only [go_sem,simprocAttr,hge])
 rintro ρ _ ⟨rfl,hcase,g1,g2,g3,g4,g8⟩;rcases hcase with ⟨hk,i,hi,g9,g23⟩ | ⟨hno,g23,n9,g9⟩
 · obtain ⟨rows,hrows,hrl,hre⟩:=hin.hby;have hlt:i < bs.length:=Nat.lt_of_lt_of_le (strIdx_lt hi) hin.hle;have hri:i < rows.length:=by omega
   have hty:TyAt w (Out S w) rows[i] bs[i]:=hre i _ _ (List.getElem?_eq_getElem hri) (List.getElem?_eq_getElem hlt);obtain ⟨ad,cc,e,hln⟩:=row_ln (hrows.up hm02 nof (fun _ h=>h)) hri;obtain ⟨rfl,-,rfl⟩:=tup_inj e;have b1:(0:Int)≤i∧(i:Int) < bs.length:=by omega
   have hd:bs.getD i default=bs[i]:=by simp [List.getD,hlt]
   (try simp only [go_sem,simprocAttr,zb4,zb6,g1,g2,g3,g4,g8,g9,g23,cell_of hleft2,b1,hln,drew_ln]);refine e_call (by rfl) ?_;refine (f_sizeType bs[i] (hty.mod hm02.drew nof)).mono ?_;rintro _ w3 ⟨rfl,hm3⟩;have hm3:=hm3.of_drew;have hleft3:CellI w3 lb left:=hm3.at hleft2 _root_.id;(try simp only [go_sem,simprocAttr]);refine ⟨hm3.old _ (lt_of_heap hleft2) _root_.id,?_⟩;refine e_st1 (cs:=[I left]) rfl rfl hleft3 rfl (by simp) ?_;intro w4 hb4 hm4 hs4;have hm04:Mod (· = lb) w w4:=((mod0 (hm02.trans hm3)).trans hm4);have hB:∀ b,Out S w b→¬ b=lb:=fun b hb e=>hb.2 (e ▸ hSl)
   obtain ⟨ad',cc',e',hln'⟩:=row_ln (hrows.up hm04 hB (fun _ h=>h)) hri;obtain ⟨e1,-,rfl⟩:=tup_inj e';cases e1;(try simp only [go_sem,simprocAttr,zb4,zb6,b1,hln']);have hw1:w.heap.size < w1.heap.size:=by omega
   have hb2:=hm4.at (hm3.at hb2 _root_.id) (by omega);refine e_sta (cs:=zTy) rfl rfl hb2 hty.len rfl hty.one ?_;intro w5 hb5 hm5 hs5;(try simp only [go_sem,simprocAttr,rvs,RV.ev,ln_blk (n:=3) hb5 hty.len,one?]);rw [replT_some hk hi,hd];have hm05:Mod (· = lb) w w5:=hm04.step hm5 (fun x hx hl=>by omega);exact ⟨⟨_,rfl,hty.up hm05 hB (out_up (hm05.weak (fun b hb=>by subst hb;exact hSl)))⟩,hm5.at hb4 (by omega),hm05⟩
 · have hrep:replT ps bs t left=_:=replT_none hno;(try simp only [go_sem,simprocAttr,g1,g2,g3,g4,g8,g9,g23,cell_of hleft2]);refine e_st1 (cs:=[I left]) rfl rfl hleft2 rfl (by simp) ?_;intro w3 hb3 hm3 hs3;have hw1:w.heap.size < w1.heap.size:=by omega
   have hb1:=hm3.at hb1 (by omega);have hb2:=hm3.at hb2 (by omega);(try simp only [go_sem,simprocAttr,cell_of hb1,Value.cells]);refine s_new (n:=3) (vs:=leafC t.kind t.name) rfl rfl (leafC_one _ _) ?_;intro w4 hb4 hm4 hs4;have hb1:=hm4.at hb1 _root_.id;have hb2:=hm4.at hb2 _root_.id;have hb3:=hm4.at hb3 _root_.id;have hm04:Mod (· = lb) w w4:=(mod0 hm02).trans (hm3.trans (mod0 hm4));(try simp only [go_sem,simprocAttr,cell_of hb1,Value.cells]);have hz4:=hm04.size;have hz2:=hm2.size;have hz3:=hm3.size;have zb10:=lt_of_heap hb4;have hS4:∀ b,S b→b < w.heap.size:=hS;have hlen:=each_len hl;refine ir_thenB (fun ρ w'=>∃ v fp rows lk L,RInv w S lb w1.heap.size w3.heap.size w4.heap.size t.kind t.name w' v fp rows lk L∧rows.length≤t.args.length∧replTs ps bs t.args (Wr (left - 1))=(lk,L)∧ρ.get 8=some (ptr w1.heap.size)∧ρ.get 10=some (ptr w3.heap.size)) ?_ ?_
   · refine ir_each (PP:=fun w'=>TyAt w' (Out S w)) (l:=t.args) (B:=Out S w) (fun k ρ w'=>k≤t.args.length∧(∃ v fp rows lk L,RInv w S lb w1.heap.size w3.heap.size w4.heap.size t.kind t.name w' v fp rows lk L∧rows.length≤k∧replTs ps bs t.args (Wr (left - 1))=(lk++(replTs ps bs (t.args.drop k) L).1,(replTs ps bs (t.args.drop k) L).2))∧ρ=[(1,vps),(2,.slice ab bs.length cb),(3,ptr lb),(8,ptr w1.heap.size),(10,ptr w3.heap.size),(49,.slice a t.args.length c),(50,I t.args.length),(51,I k)])
       ⟨by omega,⟨.slice none 0 0,none,[],[],_,⟨hm04,hb3,hb4,hb2,.nil _ _ _,(fun b h=>by cases h),rfl,(fun i r t h=>by simp at h)⟩,by simp,rfl⟩,rfl⟩ hl ?_ (fun _ _ _ h=>h.one) rfl ?_ ?_
     · rintro k _ w5 ⟨hk,⟨v,fp,rows,lk,L,hi,_⟩,rfl⟩;exact ⟨⟨hl.mod hi.mod (fun b hb e=>hb.2 (e ▸ hSl)) (fun _ _ h=>h.mod hi.mod (fun b hb e=>hb.2 (e ▸ hSl))),hk⟩,rfl,rfl,rfl⟩
     · rintro k _ w5 hk w6 r b12 pv ⟨_,⟨v,fp,rows,lk,L,hi,hrk,hrep2⟩,rfl⟩ hr hl3 hb12 hm6 hb12n;have hi6l:=hm6.at hi.left _root_.id;rw [replTs_at hk] at hrep2;(try simp only [go_sem,simprocAttr,cell_of hi6l]);cases hneg:decide (L < 0) with
       | true=>
         have hneg':=of_decide_eq_true hneg;rw [if_pos hneg',List.append_nil] at hrep2;(try simp only [go_sem,simprocAttr]);refine ⟨v,fp,rows,lk,L,⟨hi.mod.trans (mod0 hm6),hi6l,hm6.at hi.out _root_.id,hm6.at hi.res _root_.id,hi.own.mod hm6 (fun _ _ h=>h),hi.new,hi.len,fun i r t h1 h2=>(hi.ty i r t h1 h2).keep (mod0 hm6)⟩,by omega,hrep2⟩
       | false=>
         have hneg':=of_decide_eq_false hneg;rw [if_neg hneg'] at hrep2;have hi6o:=hm6.at hi.out _root_.id;obtain ⟨av,cv,rfl,_,_⟩:=hi.own.val;(try simp only [go_sem,simprocAttr,cell_of hi6o,ln_blk (n:=3) hb12 hl3,drew_ln]);refine e_call (by rfl) ?_;have hm0:Mod (· = lb) w w6.drew:=(hi.mod.trans (mod0 hm6)).drew;have own6:=hi.own.mod hm6.drew (fun _ _ h=>h);have hS1:∀ b,RS S w1.heap.size w3.heap.size fp b→b < w6.drew.heap.size:=fun b hb=>by
           rcases hb with h | h | h | h
           · have:=hS b h;have:=hm0.size;omega
           · have:=lt_of_heap hi.res;have:=hm6.size;have e:w6.drew.heap.size=w6.heap.size:=rfl;omega
           · have:=lt_of_heap hi6o;have e:w6.drew.heap.size=w6.heap.size:=rfl;omega
           · exact own6.lt h
         have hsub:∀ b,b < w.heap.size→RS S w1.heap.size w3.heap.size fp b→S b:=fun b hb h=>by
           rcases h with h | h | h | h
           · exact h
           · omega
           · omega
           · have:=hi.new b h;omega
         have hm0S:Mod S w w6.drew:=hm0.weak (fun b hb=>by subst hb;exact hSl);refine (ih _ (List.getElem_mem hk) (S:=RS S w1.heap.size w3.heap.size fp) (hr.up (hm6.drew) nof (out_ext hm0S hsub)) (hin.ext hm0S hsub) (.inl hSl) hS1 hi6l).mono ?_;rintro _ w7 ⟨⟨cs',rfl,hty'⟩,hl7,hm7⟩;have hlb3:lb≠w3.heap.size:=by omega
         have hlb1:lb≠w1.heap.size:=by omega
         have hm67:Mod (· = lb) w6 w7:=hm7.of_drew;have hi7o:=hm67.at hi6o (fun e=>hlb3 e.symm);have hfl:∀ b,fp=some b→¬ b=lb:=fun b hb e=>by have:=hi.new b hb;omega
         have own7:=own6.mod hm7 hfl;(try simp only [go_sem,simprocAttr]);refine ⟨by rw [hm67.old _ (lt_of_heap hi6o) (fun e=>hlb3 e.symm)],?_⟩;refine e_bs (cs:=cs'.toArray) rfl ?_ ?_
         · (try simp only [go_sem,simprocAttr,hty'.len])
         intro w8 hb8 hm8 hs8;(try simp only [go_sem,simprocAttr]);refine ⟨by rw [hm8.old _ (lt_of_heap hi7o) _root_.id,hm67.old _ (lt_of_heap hi6o) (fun e=>hlb3 e.symm)],?_⟩;have hrl:rows.length≤1099511627776:=by
           obtain ⟨rw0,hrw,hrwl,_⟩:=hl;have:=hrw.2;omega
         have hrd:=rd_block hb8;rw [hty'.len] at hrd;refine e_ap (m:=1) (news:=cs') rfl (own7.mod hm8 (fun _ _ h=>h)) rfl (fun h=>by cases h) hrd hty'.one rfl (by omega) (by omega) ?_;intro v9 w9 fp9 ho9 hm9 hf9;have hm89:Mod (fun b=>fp=some b) w8 w9:=hm9;have hi8o:=hm8.at hi7o _root_.id;have hi9o:=hm9.at hi8o (fun h=>by have:=hi.new _ h;omega);obtain ⟨av9,cv9,rfl,_,_⟩:=ho9.val;(try simp only [go_sem,simprocAttr]);refine e_st1 rfl rfl hi9o rfl (by simp) ?_;intro w10 hb10 hm10 hs10;have hz6:=hm6.size;have hz7:=hm67.size;have hz9:=hm9.size;have hzi:=hi.mod.size;have z5:=lt_of_heap hi.out;have hfp9:∀ b,fp9=some b→w4.heap.size≤b:=fun b hb=>by
           rcases hf9 b hb with h | ⟨h,_⟩
           · exact hi.new b h
           · have:=hi.mod.size;omega
         have key:∀ (x:List Value) (u:Ty),TyAt w7 (Out (RS S w1.heap.size w3.heap.size fp) w7) x u→TyAt w10 (Out (RS S w1.heap.size w3.heap.size fp9) w10) x u:=fun x u h=>by
           have h8:=h.keep (mod0 hm8);have h9:TyAt w9 (Out (RS S w1.heap.size w3.heap.size fp9) w9) x u:=h8.up hm9 (fun b hb hf=>hb.2 (.inr (.inr (.inr hf)))) (fun b hb=>⟨by omega,fun hh=>by
             rcases hh with h | h | h | h
             · exact hb.2 (.inl h)
             · exact hb.2 (.inr (.inl h))
             · exact hb.2 (.inr (.inr (.inl h)))
             · rcases hf9 b h with h | ⟨h,_⟩
               · exact hb.2 (.inr (.inr (.inr h)))
               · have:=hb.1;omega⟩)
           exact h9.keep (hm10.weak (fun b hb=>.inr (.inr (.inl hb))))
         have hm09:Mod (· = lb) w w9:=(((hi.mod.trans (mod0 hm6)).trans hm67).trans (mod0 hm8)).step hm9 (fun b h hlt=>by have:=hi.new b h;omega);have hm010:Mod (· = lb) w w10:=hm09.step hm10 (fun b h hlt=>by omega);have hl10:CellI w10 lb (replT ps bs t.args[k] L).2:=hm10.at (hm9.at (hm8.at hl7 _root_.id) (fun h=>by have:=hi.new _ h;omega)) (by omega);have hr6:=hm6.at hi.res _root_.id;have hr10:=hm10.at (hm9.at (hm8.at (hm67.at hr6 (by omega)) _root_.id) (fun h=>by have:=hi.new _ h;omega)) (by omega);refine ⟨hk,⟨_,fp9,rows++[cs'],lk++[(replT ps bs t.args[k] L).1],_,⟨hm010,hl10,hb10,hr10,?_,hfp9,by simp [hi.len],snoc_at hi.len (fun i x u h1 h2=>key x u ?_) (key _ _ ?_)⟩,by simp;omega,?_⟩⟩
         · rw [flat_snoc,List.length_append];exact ho9.mod hm10 (fun b hb e=>by subst e;have:=hfp9 _ hb;omega)
         · exact ((hi.ty i x u h1 h2).keep (mod0 hm6.drew)).keep (hm7.weak (fun b hb=>by subst hb;exact .inl hSl))
         · exact hty'
         · rw [hrep2,List.append_assoc];rfl
     · rintro _ w5 ⟨_,⟨v,fp,rows,lk,L,hi,hrk,hrep2⟩,rfl⟩;rw [List.drop_length,replTs,List.append_nil] at hrep2;(try simp only [go_sem,simprocAttr]);exact ⟨v,fp,rows,lk,L,hi,hrk,hrep2⟩
   · rintro ρ w5 ⟨v,fp,rows,lk,L,hi,hrk,hrep2,g8,g10⟩;have hrl:rows.length≤1099511627776:=by
       obtain ⟨rw0,hrw,hrwl,_⟩:=hl;have:=hrw.2;omega
     have hzi:=hi.mod.size;have hty:=own_ty (S:=RS S w1.heap.size w3.heap.size none) hi.own (fun b hb=>⟨hi.own.lt hb,fun hh=>by
       have:=hi.new b hb;rcases hh with h | h | h | h
       · have:=hS b h;omega
       · omega
       · omega
       · cases h⟩) hi.len hrl (fun i r t h1 h2=>(hi.ty i r t h1 h2).sub (fun b hb=>by
         rcases hb with h | h | h | h
         · exact .inl h
         · exact .inr (.inl h)
         · exact .inr (.inr (.inl h))
         · cases h)) t.kind t.name
     (try simp only [go_sem,simprocAttr,g8,g10,ln_blk (n:=3) hi.out rfl]);refine e_sta (cs:=zTy) g8 rfl hi.res rfl rfl hty.one ?_;intro w6 hb6 hm6 hs6;(try simp only [go_sem,simprocAttr,rvs,RV.ev,ln_blk (n:=3) hb6 rfl,one?]);rw [hrep,hrep2];refine ⟨⟨_,rfl,hty.up hm6 (fun b hb e=>hb.2 (.inr (.inl e))) (fun b hb=>⟨by have:=hb.1;omega,fun h=>hb.2 (.inl h)⟩)⟩,hm6.at hi.left (by omega),hi.mod.step hm6 (fun x hx hl=>by omega)⟩
def putS (ps:List ByteArray) (bs:List Ty) (t:Ty):Ty×Int:=replT ps bs t 500
theorem f_put (t:Ty) {w:World} {S:Nat→Prop} {cs:List Value} {vps vby:Value} {ps:List ByteArray} {bs:List Ty} (h:TyAt w (Out S w) cs t) (hin:ReplIn w S vps vby ps bs) (hS:∀ b,S b→b < w.heap.size) :
   CallsR Tryz.prog 86 [.agg cs.toArray,vps,vby] w fun r w'=>(∃ cs':List Value,r = .tuple #[.agg cs'.toArray,.bool (decide ((putS ps bs t).2≥0))]∧TyAt w' (Out S w') cs' (putS ps bs t).1)∧Mod (fun _=>False) w w':=by
 refine fit86.calls rfl ?_;unfold ir86;(try simp only [go_sem,simprocAttr]);refine e_bx rfl ?_;intro w1 hb1 hm1 hs1;(try simp only [go_sem,simprocAttr]);refine e_al ?_;intro w2 hb2 hm2 hs2;(try simp only [go_sem,simprocAttr]);refine e_al ?_;intro w3 hb3 hm3 hs3;(try simp only [go_sem,simprocAttr]);refine e_st1 (cs:=[I 0]) rfl rfl hb3 rfl (by simp) ?_;intro w4 hb4 hm4 hs4;have hm34:Mod (fun _=>False) w2 w4:=hm3.step hm4 (fun x hx hl=>by omega);have hb1:=hm34.at (hm2.at hb1 _root_.id) _root_.id;have hb2:=hm34.at hb2 _root_.id;have hm04:=hm1.trans (hm2.trans hm34);have z1:=hm1.size;have z2:=hm2.size;(try simp only [go_sem,simprocAttr,ln_blk (n:=3) (cs:=cs) hb1 h.len]);refine e_call (by rfl) ?_;have hs:∀ b,b < w.heap.size→(S b∨b=w2.heap.size∨b=w1.heap.size)→S b:=fun b hb h=>by
   rcases h with h | h | h
   · exact h
   · omega
   · omega
 refine (f_replaced t (S:=fun b=>S b∨b=w2.heap.size∨b=w1.heap.size) (h.ext (mod0 hm04) hs) (hin.ext (mod0 hm04) hs) (.inr (.inl rfl)) (fun b hb=>by
   rcases hb with h | h | h
   · have:=hS b h;omega
   · omega
   · omega) hb4).mono ?_
 rintro _ w5 ⟨⟨cs',rfl,hty⟩,hl5,hm5⟩;have hb2:=hm5.at hb2 (by omega);(try simp only [go_sem,simprocAttr]);refine s_new (n:=3) (vs:=cs') rfl hty.len hty.one ?_;intro w6 hb6 hm6 hs6;have hl6:=hm6.at hl5 _root_.id;have hb2:=hm6.at hb2 _root_.id;(try simp only [go_sem,simprocAttr,ln_blk (n:=3) hb6 hty.len,cell_of hl6,drew_ln]);have z5:=hm5.size;refine e_sta (w:=w6.drew) (cs:=zTy) rfl rfl hb2 hty.len rfl hty.one ?_;intro w7 hb7 hm7 hs7;have hm7:Mod (· = w1.heap.size) w6 w7:=hm7.of_drew;have hty7:=(hty.keep (mod0 hm6)).keep (hm7.weak (fun b hb=>.inr (.inr hb)));(try simp only [go_sem,simprocAttr,rvs,RV.ev,ln_blk (n:=3) hb7 hty.len,one?]);refine ⟨hm7.old _ (lt_of_heap hl6) (by omega),?_⟩;exact ⟨⟨cs',rfl,hty7.sub (fun b hb=>.inl hb)⟩,((hm04.step hm5 (fun x hx hl=>by omega)).trans hm6).step hm7 (fun x hx hl=>by omega)⟩
end
section
open Go Go.W
structure Env where
 datas:List (ByteArray×Dt)
 cons:List (ByteArray×(Dt×Nat))
 defs:List (ByteArray×Df)
 params:List (ByteArray×Int)
abbrev Cnt:=List (ByteArray×Int)
abbrev Loc:=List (ByteArray×Ty)
def has (l:Cnt) (s:ByteArray):Bool:=decide ((aget l s).getD 0 > 0)
def badData (E:Env) (n:ByteArray) (len:Nat):Bool:=match aget E.datas n with
 | none=>true
 | some d=>(d.params.length:Int) != len
mutual
def Ty.fits (E:Env):Ty→Bool
 | .mk k n l=>if k == 2 then has E.params n else if k == 4 then (if badData E n l.length then false else tysFit E l) else tysFit E l
def tysFit (E:Env):List Ty→Bool
 | []=>true
 | t::l=>t.fits E&&tysFit E l
end
theorem Ty.fits_eq (E:Env) (t:Ty):t.fits E=if t.kind == 2 then has E.params t.name else if t.kind == 4 then (if badData E t.name t.args.length then false else tysFit E t.args) else tysFit E t.args:=by cases t;rw [Ty.fits];rfl
theorem tysFit_all (E:Env) (l:List Ty):tysFit E l=l.all (Ty.fits E):=by
 induction l with
 | nil=>rfl
 | cons t l ih=>rw [tysFit,ih,List.all_cons]
def rightS (E:Env) (t:Ty):Bool:=(wrongS t == 0)&&t.fits E
def namedS (E:Env) (t:Ty) (ps:List ByteArray) (at':List Ty):Except Int Ty:=
 if ((ps.length:Int) != at'.length)=true then .error 83
 else if at'.all (rightS E)=false then .error 83
 else if (putS ps at' t).2≥0 then .ok (putS ps at' t).1 else .error 83
def varT' (s:ByteArray):Ty:=.mk 2 s []
def baseT (d:Dt):Ty:=.mk 4 d.name (d.params.map varT')
def conFields (d:Dt) (i:Nat):List Ty:=(d.cons.map Cn.fields).getD i []
def conT (d:Dt) (i:Nat):Ty:=(conFields d i).foldr funT (baseT d)
end
section
open Go Go.W
def CellsAt (w:World) (B:Nat→Prop) (a:Addr) (cs:List Value):Prop:=B a.block∧∀ k (hk:k < cs.length),w.cell? (a.add k)=some cs[k]
section
variable {w w':World} {B B' S S':Nat→Prop} {a:Addr} {cs:List Value}
theorem CellsAt.up (h:CellsAt w B a cs) (hm:Mod S w w') (hd:∀ b,B b→¬ S b) (hB:∀ b,B b→B' b):CellsAt w' B' a cs:=
 ⟨hB _ h.1,fun k hk=>hm.cell (h.2 k hk) (by rw [add_block];exact hd _ h.1)⟩
theorem CellsAt.c0 (h:CellsAt w B a cs) (hk:0 < cs.length):w.cell? a=some cs[0]:=by have:=h.2 0 hk;rwa [add_zero'] at this
theorem CellsAt.at (h:CellsAt w B a cs) {k:Nat} (hk:k < cs.length) (h0:k≠0:=by decide):w.cell? ⟨a.block,a.off+k,none⟩=some cs[k]:=by have:=h.2 k hk;rwa [add_pos _ h0] at this
theorem CellsAt.ln (h:CellsAt w B a cs) {o n:Nat} (hn:o+n≤cs.length) (h0:o≠0:=by decide):vLN w n (.pointer (some ⟨a.block,a.off+o,none⟩))=some (.agg ((cs.drop o).take n).toArray):=by
 have:=ln_sub h.2 hn
 rwa [add_pos _ h0] at this
def DPtr (w:World) (B:Nat→Prop) (a:Addr) (d:Dt):Prop:=∃ cs,CellsAt w B a cs∧DtAt w B cs d
def FPtr (w:World) (B:Nat→Prop) (a:Addr) (d:Df):Prop:=∃ cs,CellsAt w B a cs∧DfAt w B cs d
theorem DPtr.up {d:Dt} (h:DPtr w B a d) (hm:Mod S w w') (hd:∀ b,B b→¬ S b) (hB:∀ b,B b→B' b):DPtr w' B' a d:=by
 obtain ⟨cs,h1,h2⟩:=h;exact ⟨cs,h1.up hm hd hB,h2.up hm hd hB⟩
theorem FPtr.up {d:Df} (h:FPtr w B a d) (hm:Mod S w w') (hd:∀ b,B b→¬ S b) (hB:∀ b,B b→B' b):FPtr w' B' a d:=by
 obtain ⟨cs,h1,h2⟩:=h;exact ⟨cs,h1.up hm hd hB,h2.up hm hd hB⟩
end
def RData (w:World) (B:Nat→Prop) (v:Value) (d:Dt):Prop:=∃ a,v = .pointer (some a)∧DPtr w B a d
def RPlace (w:World) (B:Nat→Prop) (v:Value) (x:Dt×Nat):Prop:=∃ a,v = .agg #[.pointer (some a),I x.2]∧DPtr w B a x.1∧x.2 < x.1.cons.length
def RDef (w:World) (B:Nat→Prop) (v:Value) (d:Df):Prop:=∃ a,v = .pointer (some a)∧FPtr w B a d
def RI (v:Value) (n:Int):Prop:=v=I n
def RTy (w:World) (B:Nat→Prop) (v:Value) (t:Ty):Prop:=∃ cs:List Value,v = .agg cs.toArray∧TyAt w B cs t
section
variable {w w':World} {B B' S:Nat→Prop} {v:Value}
theorem RData.up {d:Dt} (h:RData w B v d) (hm:Mod S w w') (hd:∀ b,B b→¬ S b) (hB:∀ b,B b→B' b):RData w' B' v d:=by
 obtain ⟨a,e,h⟩:=h;exact ⟨a,e,h.up hm hd hB⟩
theorem RPlace.up {d:Dt×Nat} (h:RPlace w B v d) (hm:Mod S w w') (hd:∀ b,B b→¬ S b) (hB:∀ b,B b→B' b):RPlace w' B' v d:=by
 obtain ⟨a,e,h,hi⟩:=h;exact ⟨a,e,h.up hm hd hB,hi⟩
theorem RDef.up {d:Df} (h:RDef w B v d) (hm:Mod S w w') (hd:∀ b,B b→¬ S b) (hB:∀ b,B b→B' b):RDef w' B' v d:=by
 obtain ⟨a,e,h⟩:=h;exact ⟨a,e,h.up hm hd hB⟩
theorem RTy.up {d:Ty} (h:RTy w B v d) (hm:Mod S w w') (hd:∀ b,B b→¬ S b) (hB:∀ b,B b→B' b):RTy w' B' v d:=by
 obtain ⟨cs,e,h⟩:=h;exact ⟨cs,e,h.up hm hd hB⟩
end
structure Ms where
 c:Nat
 md:Nat
 mc:Nat
 mf:Nat
 mp:Nat
 mb:Nat
 ml:Nat
def Ms.list (M:Ms):List Nat:=[M.c,M.md,M.mc,M.mf,M.mp,M.mb,M.ml]
abbrev Ms.cells (M:Ms):List Value:=[.map (some M.md),.map (some M.mc),.map (some M.mf),.map (some M.mp),.bool false,.map (some M.mb),.map (some M.ml)]
abbrev ckT:Nat:=129
structure CkAt (w:World) (S:Nat→Prop) (M:Ms) (E:Env) (bd:Cnt) (lc:Loc):Prop where
 box:w.heap[M.c]? = some (.cells M.cells.toArray ckT (0,0))
 nodup:M.list.Nodup
 inS:∀ b∈M.list,S b
 lt:∀ b,S b→b < w.heap.size
 datas:MapR w M.md (RData w (Out S w)) E.datas
 cons:MapR w M.mc (RPlace w (Out S w)) E.cons
 defs:MapR w M.mf (RDef w (Out S w)) E.defs
 params:MapR w M.mp RI E.params
 bound:MapR w M.mb RI bd
 locals:MapR w M.ml (RTy w (Out S w)) lc
theorem Ms.ne {M:Ms} (h:M.list.Nodup):(M.c≠M.md∧M.c≠M.mc∧M.c≠M.mf∧M.c≠M.mp∧M.c≠M.mb∧M.c≠M.ml)∧(M.md≠M.mc∧M.md≠M.mf∧M.md≠M.mp∧M.md≠M.mb∧M.md≠M.ml)∧(M.mc≠M.mf∧M.mc≠M.mp∧M.mc≠M.mb∧M.mc≠M.ml)∧(M.mf≠M.mp∧M.mf≠M.mb∧M.mf≠M.ml)∧(M.mp≠M.mb∧M.mp≠M.ml)∧M.mb≠M.ml:=by
 simp only [Ms.list,List.nodup_cons,List.mem_cons,List.not_mem_nil,or_false,not_or,not_false_eq_true,List.nodup_nil,and_true] at h;exact h
abbrev Ms.two (M:Ms):Nat→Prop:=fun b=>b=M.mb∨b=M.ml
theorem CkAt.upd {w w':World} {S:Nat→Prop} {M:Ms} {E:Env} {bd bd':Cnt} {lc lc':Loc} (h:CkAt w S M E bd lc) (hm:Mod M.two w w') (h1:MapR w' M.mb RI bd') (h2:MapR w' M.ml (RTy w' (Out S w')) lc'):CkAt w' S M E bd' lc':=by
 obtain ⟨⟨a1,a2,a3,a4,a5,a6⟩,⟨b1,b2,b3,b4,b5⟩,⟨c1,c2,c3,c4⟩,⟨d1,d2,d3⟩,⟨e1,e2⟩,f1⟩:=Ms.ne h.nodup;have hS:∀ b,M.two b→S b:=fun b hb=>by
   rcases hb with rfl | rfl
   · exact h.inS _ (by simp [Ms.list])
   · exact h.inS _ (by simp [Ms.list])
 have hmS:Mod S w w':=hm.weak hS;have no:∀ {x:Nat},x≠M.mb→x≠M.ml→¬ M.two x:=fun h1 h2 h=>by rcases h with h | h;exact h1 h;exact h2 h
 exact ⟨hm.at h.box (no a5 a6),h.nodup,h.inS,fun b hb=>Nat.lt_of_lt_of_le (h.lt b hb) hm.size,
   h.datas.mod hm (no b4 b5) (fun _ _ x=>x.up hmS out_not (out_up hmS)),h.cons.mod hm (no c3 c4) (fun _ _ x=>x.up hmS out_not (out_up hmS)),
   h.defs.mod hm (no d2 d3) (fun _ _ x=>x.up hmS out_not (out_up hmS)),h.params.mod hm (no e1 e2) (fun _ _ x=>x),h1,h2⟩
theorem MapR.ty {w w':World} {S S':Nat→Prop} {b:Nat} {lc:Loc} (h:MapR w b (RTy w (Out S w)) lc) (hm:Mod S' w w') (hs:∀ b,S' b→S b) (hb:¬ S' b):MapR w' b (RTy w' (Out S w')) lc:=
 MapR.mod h hm hb (fun _ _ x=>x.up (hm.weak hs) out_not (out_up (hm.weak hs)))
theorem CkAt.keep {w w':World} {S:Nat→Prop} {M:Ms} {E:Env} {bd:Cnt} {lc:Loc} (h:CkAt w S M E bd lc) (hm:Mod (fun _=>False) w w'):CkAt w' S M E bd lc:=
 h.upd (mod0 hm) (h.bound.mod hm _root_.id (fun _ _ x=>x)) (h.locals.ty hm (fun _ h=>h.elim) _root_.id)
theorem CkAt.two {w:World} {S:Nat→Prop} {M:Ms} {E:Env} {bd:Cnt} {lc:Loc} (h:CkAt w S M E bd lc):∀ b,M.two b→S b:=fun b hb=>by
 rcases hb with rfl | rfl
 · exact h.inS _ (by simp [Ms.list])
 · exact h.inS _ (by simp [Ms.list])
section
variable {P:Program} {w:World} {ρ:Go.W.Env} {K:Go.W.Env→World→Prop} {rd:List (Nat×Nat)} {i s:Nat} {d:Option Nat} {e:Go.W.E} {fl:List Nat} {t:D}
@[go_sem] theorem wpD_ge_tt (h:ρ.get s=some (.bool true)):wpD P (.e i (some (s,true)) d e fl t) ρ w rd K=(e.wp P w ρ fun v w'=>keptL fl w w' rd∧wpD P t (ρ.put d v) w' rd K):=by simp [wpD,h,isB,undef]
@[go_sem] theorem wpD_ge_ff (h:ρ.get s=some (.bool false)):wpD P (.e i (some (s,false)) d e fl t) ρ w rd K=(e.wp P w ρ fun v w'=>keptL fl w w' rd∧wpD P t (ρ.put d v) w' rd K):=by simp [wpD,h,isB,undef]
@[go_sem] theorem wpD_ge_tf (h:ρ.get s=some (.bool true)):wpD P (.e i (some (s,false)) d e fl t) ρ w rd K=wpD P t (ρ.put d undef) w rd K:=by simp [wpD,h,isB,undef]
@[go_sem] theorem wpD_ge_ft (h:ρ.get s=some (.bool false)):wpD P (.e i (some (s,true)) d e fl t) ρ w rd K=wpD P t (ρ.put d undef) w rd K:=by simp [wpD,h,isB,undef]
end
section
variable {P:Program} {w:World} {ρ:W.Env} {K:Value→World→Prop} {α:Type} {R:Value→α→Prop} {l:List (ByteArray×α)} {b:Nat} {k:ByteArray} {t kt et:TypeId} {m x y:Operand} {d:Option Nat} {ty:TypeId} {pos:String} {af:Array Edge}
theorem e_lkR (hm:(toO m).ev ρ=some (.map (some b))) (hx:(toO x).ev ρ=some (.string k)) (ht:P.underlying t=some (.map kt et)) (hkt:P.underlying kt=some .string)
   {z:Value} (hz:(zeroValue et).run P w = .ok z w) (h:MapR w b R l) (h0:aget l k=none→K (.tuple #[z,.bool false]) w) (h1:∀ v a,aget l k=some a→R v a→K (.tuple #[v,.bool true]) w):E.wp P w ρ K (.raw ⟨d,.lookup t m x true,ty,pos,af,none⟩):=by
 obtain ⟨lv,hv,hp⟩:=h;refine e_lkV hm hx ht hkt hz hv ?_;rcases hp.get k with ⟨e1,e2⟩ | ⟨v,a,e1,e2,hr⟩
 · rw [e1];exact h0 e2
 · rw [e1];exact h1 v a e2 hr
theorem e_muR {v:Value} {a:α} (hm:(toO m).ev ρ=some (.map (some b))) (hx:(toO x).ev ρ=some (.string k)) (hy:(toO y).ev ρ=some v) (ht:P.underlying t=some (.map kt et)) (hkt:P.underlying kt=some .string)
   (h:MapR w b R l) (hr:R v a) (hk:∀ w',MapR w' b R (aput l k a)→Mod (· = b) w w'→w'.heap.size=w.heap.size→K undef w'):E.wp P w ρ K (.raw ⟨d,.mapUpdate t m x y,ty,pos,af,none⟩):=by
 obtain ⟨lv,hv,hp⟩:=h;refine e_muV hm hx hy ht hkt hv ?_;intro w' hv' hm' hs';exact hk w' ⟨_,hv',hp.put k hr⟩ hm' hs'
theorem e_dlR {at':Array TypeId} (hat:at'[0]? = some t) (hm:(toO m).ev ρ=some (.map (some b))) (hx:(toO x).ev ρ=some (.string k)) (ht:P.underlying t=some (.map kt et)) (hkt:P.underlying kt=some (.string))
   (h:MapR w b R l) (hk:∀ w',MapR w' b R (adel l k)→Mod (· = b) w w'→w'.heap.size=w.heap.size→K (.tuple #[]) w'):E.wp P w ρ K (.raw ⟨d,.call { callee:=.builtin .delete,args:=#[m,x],argTypes:=at'},ty,pos,af,none⟩):=by
 obtain ⟨lv,hv,hp⟩:=h;refine e_dlV hat hm hx ht hkt hv ?_;intro w' hv' hm' hs';exact hk w' ⟨_,hv',hp.del k⟩ hm' hs'
theorem e_mmR {t:TypeId} (R:Value→α→Prop) (hk:∀ w',MapR w' w.heap.size R ([]:List (ByteArray×α))→Mod (fun _=>False) w w'→w'.heap.size=w.heap.size+1→K (.map (some w.heap.size)) w') :
   E.wp P w ρ K (.raw ⟨d,.makeMap t none,ty,pos,af,none⟩):=
 e_mmV fun w' h1 h2 h3=>hk w' ⟨_,h1,.nil⟩ h2 h3
theorem raw_g {op:Op} {g:Option (Nat×Bool)} (h:E.wp P w ρ K (.raw ⟨d,op,ty,pos,af,none⟩)):E.wp P w ρ K (.raw ⟨d,op,ty,pos,af,g⟩):=h
theorem e_lkI {l:Cnt} (hm:(toO m).ev ρ=some (.map (some b))) (hx:(toO x).ev ρ=some (.string k)) (ht:P.underlying t=some (.map kt et)) (hkt:P.underlying kt=some .string)
   (hz:(zeroValue et).run P w = .ok (I 0) w) (h:MapR w b RI l) (hk:K (I ((aget l k).getD 0)) w):E.wp P w ρ K (.raw ⟨d,.lookup t m x false,ty,pos,af,none⟩):=by
 obtain ⟨lv,hv,hp⟩:=h;refine e_l1V hm hx ht hkt hz hv ?_;rcases hp.get k with ⟨e1,e2⟩ | ⟨v,a,e1,e2,hr⟩
 · rw [e1];rw [e2] at hk;exact hk
 · rw [e1];rw [e2] at hk;have:v=I a:=hr;rw [this];exact hk
end
end
section
open Go Go.W
theorem f_conType (d:Dt) (i:Nat) {w:World} {S:Nat→Prop} {a:Addr} (hp:DPtr w (Out S w) a d) (hi:i < d.cons.length) (hS:∀ b,S b→b < w.heap.size) :
   CallsR Tryz.prog 65 [.agg #[.pointer (some a),I i]] w fun r w'=>(∃ cs:List Value,r = .agg cs.toArray∧TyAt w' (Out S w') cs (conT d i))∧Mod (fun _=>False) w w':=by
 obtain ⟨cs,hcs,vp,vc,rfl,hpar,hcon⟩:=hp;obtain ⟨ap,cp,rfl⟩:=each_sl hpar;obtain ⟨ac,cc,rfl⟩:=each_sl hcon;refine fit65.calls rfl ?_;unfold ir65;(try simp only [go_sem,Nat.reduceAdd,Nat.reduceEqDiff,Nat.reduceLT,Nat.reduceLeDiff,Nat.reduceMul,reduceCtorEq,↓reduceIte]);refine e_bx rfl ?_;intro w1 hb1 hm1 hs1;(try simp only [go_sem,Nat.reduceAdd,Nat.reduceEqDiff,Nat.reduceLT,Nat.reduceLeDiff,Nat.reduceMul,reduceCtorEq,↓reduceIte]);refine e_al ?_;intro w2 hb2 hm2 hs2;have hb1:=hm2.at hb1 _root_.id;have hm02:=hm1.trans hm2;have hcs2:=hcs.up hm02 nof (fun _ h=>h);have c1:w2.cell? ⟨a.block,a.off+1,none⟩=some (.slice ap d.params.length cp):=hcs2.at (k:=1) (by simp);(try simp only [go_sem,Nat.reduceAdd,Nat.reduceEqDiff,Nat.reduceLT,Nat.reduceLeDiff,Nat.reduceMul,reduceCtorEq,↓reduceIte,cell_of hb1,Value.cells,c1]);have hlen:=each_len hpar;refine ir_range d.params.length (fun k ρ w'=>k≤d.params.length∧∃ v fp,OwnS w' tyT 3 v (((d.params.take k).map (leafC 2)).flatMap id) k fp∧(∀ b,fp=some b→w2.heap.size≤b)∧Mod (fun _=>False) w2 w'∧ρ=[(1,ptr w.heap.size),(2,ptr w1.heap.size),(3,v),(13,.slice ap d.params.length cp),(14,I d.params.length),(15,I k)])
   ⟨by omega,.slice none 0 0,none,.nil _ _ _,(fun b h=>by cases h),.refl _ _,rfl⟩ hlen ?_ ?_ (by decide) ?_
 · rintro k _ w3 ⟨hk,v,fp,_,_,_,rfl⟩;exact ⟨rfl,rfl,hk⟩
 · rintro k _ w3 ⟨_,v,fp,ho,hf,hm3,rfl⟩ hk;obtain ⟨ad,c1,e,hn,hc⟩:=str_at (hpar.up (hm02.trans hm3) nof (fun _ h=>h) (fun _ _ h=>h)) hk;cases e;have b1:(0:Int)≤k∧(k:Int) < d.params.length:=by omega
   obtain ⟨av,cv,rfl,_,_⟩:=ho.val;(try simp only [go_sem,Nat.reduceAdd,Nat.reduceEqDiff,Nat.reduceLT,Nat.reduceLeDiff,Nat.reduceMul,reduceCtorEq,↓reduceIte,zb4,zb6,b1,hc]);refine e_call (by rfl) ?_;refine (f_variable _).mono ?_;rintro _ w4 ⟨rfl,hm4⟩;(try simp only [go_sem,Nat.reduceAdd,Nat.reduceEqDiff,Nat.reduceLT,Nat.reduceLeDiff,Nat.reduceMul,reduceCtorEq,↓reduceIte]);refine e_bs (cs:=(leafC 2 d.params[k]).toArray) rfl rfl ?_;intro w5 hb5 hm5 hs5;have hm35:=hm4.trans hm5;(try simp only [go_sem,Nat.reduceAdd,Nat.reduceEqDiff,Nat.reduceLT,Nat.reduceLeDiff,Nat.reduceMul,reduceCtorEq,↓reduceIte]);have hpl:d.params.length≤1099511627776:=by obtain ⟨r0,h1,h2,_⟩:=hpar;have:=h1.2;omega
   refine e_ap (m:=1) (news:=leafC 2 d.params[k]) rfl (ho.mod hm35 (fun _ _ h=>h)) rfl (fun h=>by cases h) (rd_block hb5) (leafC_one _ _) rfl (by omega) (by omega) ?_;intro v6 w6 fp6 ho6 hm6 hf6;(try simp only [go_sem,Nat.reduceAdd,Nat.reduceEqDiff,Nat.reduceLT,Nat.reduceLeDiff,Nat.reduceMul,reduceCtorEq,↓reduceIte]);have hz:=(hm3.trans hm35).size;refine ⟨hk,v6,fp6,?_,fun b hb=>?_,(hm3.trans hm35).step hm6 (fun b hb hl=>by have:=hf b hb;omega),rfl⟩
   · rw [List.take_succ_eq_append_getElem hk,List.map_append,List.flatMap_append]
     simpa using ho6
   · rcases hf6 b hb with h | ⟨h,_⟩
     · exact hf b h
     · omega
 rintro _ w3 ⟨_,v,fp,ho,hf,hm3,rfl⟩;rw [List.take_length] at ho;have hm03:=hm02.trans hm3;have hb1:=hm3.at hb1 _root_.id;have hb2:=hm3.at hb2 _root_.id;have c3:w3.cell? a=some (.string d.name):=(hcs.up hm03 nof (fun _ h=>h)).c0 (by simp);have z2:=hm02.size;have hoty:TyAt w3 (Out (fun b=>S b∨b=w1.heap.size) w3) [I 4,.string d.name,v] (baseT d):=by
   have ho':OwnS w3 tyT 3 v ((d.params.map (leafC 2)).flatMap id) (d.params.map (leafC 2)).length fp:=by rw [List.length_map];exact ho
   refine own_ty ho' (fun b hb=>⟨ho.lt hb,fun h=>by have:=hf b hb;have:=hm1.size;rcases h with h | h;have:=hS b h;omega;omega⟩) (by simp) ?_ ?_ 4 d.name
   · obtain ⟨r0,h1,h2,_⟩:=hpar;have:=h1.2;simp;omega
   · intro j r t h1 h2;rw [List.getElem?_map] at h1 h2;cases hj:d.params[j]? with
     | none=>rw [hj] at h1;cases h1
     | some s=>
       rw [hj] at h1 h2;simp only [Option.map_some,Option.some.injEq] at h1 h2;subst h1 h2;exact leaf_at _ _ _ _
 obtain ⟨av,cv,rfl,_,_⟩:=ho.val;(try simp only [go_sem,Nat.reduceAdd,Nat.reduceEqDiff,Nat.reduceLT,Nat.reduceLeDiff,Nat.reduceMul,reduceCtorEq,↓reduceIte,cell_of hb1,Value.cells,c3]);refine e_call (by rfl) ?_;refine (f_data d.name (v:=.slice av d.params.length cv) rfl rfl).mono ?_;rintro _ w4 ⟨rfl,hm4⟩;(try simp only [go_sem,Nat.reduceAdd,Nat.reduceEqDiff,Nat.reduceLT,Nat.reduceLeDiff,Nat.reduceMul,reduceCtorEq,↓reduceIte]);refine s_new (n:=3) (vs:=[I 4,.string d.name,.slice av d.params.length cv]) rfl rfl hoty.one ?_;intro w5 hb5 hm5 hs5;have hm35:=hm4.trans hm5;have hm05:=hm03.trans hm35;have hb1:=hm35.at hb1 _root_.id;have hb2:=hm35.at hb2 _root_.id;have c5:w5.cell? ⟨a.block,a.off+2,none⟩=some (.slice ac d.cons.length cc):=(hcs.up hm05 nof (fun _ h=>h)).at (k:=2) (by simp);have hcon5:=hcon.up hm05 nof (fun _ h=>h) (fun _ _ h=>h.mod hm05 nof);obtain ⟨adc,c2,r,e,⟨vf,rfl,hfl,_⟩,_,_,hcc⟩:=each_at hcon5 hi;cases e;obtain ⟨af,cf,rfl⟩:=each_sl hfl;have b1:(0:Int)≤i∧(i:Int) < d.cons.length:=by omega
 have hcf:w5.cell? ((adc.add (i*2)).add 1)=some (.slice af d.cons[i].fields.length cf):=hcc 1 (by simp);rw [add_pos _ (by decide)] at hcf;(try simp only [go_sem,Nat.reduceAdd,Nat.reduceEqDiff,Nat.reduceLT,Nat.reduceLeDiff,Nat.reduceMul,reduceCtorEq,↓reduceIte,zb4,zb6,cell_of hb1,Value.cells,c5,b1,hcf]);have hfs:conFields d i=d.cons[i].fields:=by simp [conFields,List.getD,hi]
 have z1:=hm1.size;have z3:=hm3.size;have z4:=hm4.size;have e5:w5.drew.heap.size=w5.heap.size:=rfl;have hlb:∀ b,Out S w b→¬ b=w4.heap.size:=fun b hb=>by have:=hb.1;omega
 have hflen:=each_len hfl;have ext6:∀ {w':World} {cs:List Value} {t:Ty},Mod S w w'→TyAt w' (Out S w) cs t→TyAt w' (Out (fun b=>S b∨b=w4.heap.size∨b=w1.heap.size) w') cs t:=fun hm h=>h.up (.refl (fun _=>False) _) nof (fun b hb=>⟨by have:=hb.1;have:=hm.size;omega,fun hh=>by
   rcases hh with h | h | h
   · exact hb.2 h
   · exact hlb b hb h
   · have:=hb.1;omega⟩)
 refine ir_thenB (fun ρ w'=>(∃ cs:List Value,w'.heap[w4.heap.size]? = some (.cells cs.toArray tyT (0,0))∧TyAt w' (Out (fun b=>S b∨b=w4.heap.size∨b=w1.heap.size) w') cs (conT d i))∧w'.heap[w1.heap.size]? = some (.cells zTy.toArray tyT (0,0))∧Mod (fun _=>False) w w'∧ρ.get 2=some (ptr w1.heap.size)∧ρ.get 6=some (ptr w4.heap.size)) ?_ ?_
 · refine ir_loop (fun m ρ w'=>m≤d.cons[i].fields.length∧Mod (· = w4.heap.size) w5 w'∧(∃ cs:List Value,w'.heap[w4.heap.size]? = some (.cells cs.toArray tyT (0,0))∧TyAt w' (Out (fun b=>S b∨b=w4.heap.size∨b=w1.heap.size) w') cs ((d.cons[i].fields.drop m).foldr funT (baseT d)))∧w'.heap[w1.heap.size]? = some (.cells zTy.toArray tyT (0,0))∧ρ=[(2,ptr w1.heap.size),(6,ptr w4.heap.size),(7,.slice af d.cons[i].fields.length cf),(8,I ((m:Int) - 1))]) d.cons[i].fields.length
     ⟨Nat.le_refl _,(Mod.refl _ _).drew,⟨_,hb5,?_⟩,hb2,?_⟩ ?_
   · rw [List.drop_length];refine hoty.up hm35.drew nof (fun b hb=>⟨by have:=hb.1;omega,fun hh=>?_⟩);rcases hh with h | h | h
     · exact hb.2 (.inl h)
     · have:=hb.1;omega
     · exact hb.2 (.inr h)
   · rw [wrap_in (by omega) (by omega)]
   rintro m ρ w6 ⟨hm,hm6,⟨cs,hb6,hty⟩,hb2',rfl⟩;unfold ir65L2;cases m with
   | zero=>
     have hge:decide ((((0:Nat):Int) - 1)≥0)=false:=rfl;(try simp only [go_sem,Nat.reduceAdd,Nat.reduceEqDiff,Nat.reduceLT,Nat.reduceLeDiff,Nat.reduceMul,reduceCtorEq,↓reduceIte,hge]);have e:conT d i=(d.cons[i].fields.drop 0).foldr funT (baseT d):=by rw [conT,hfs];rfl
     rw [e];exact ⟨⟨cs,hb6,hty⟩,hb2',(hm05).step hm6 (fun b h hl=>by omega)⟩
   | succ m=>
     have hge:decide ((((m+1:Nat):Int) - 1)≥0)=true:=decide_eq_true (by omega);have em:((m+1:Nat):Int) - 1=(m:Int):=by omega
     rw [em] at hge ⊢;have hge':decide ((m:Int)≥0)=true:=decide_eq_true (by omega);have hw6:Mod S w w6:=(mod0 hm05).step hm6 (fun b h hl=>by omega);obtain ⟨adf,c3,rr,e,hrr,hrl,hrln,_⟩:=each_at (hfl.up hm6 hlb (fun _ h=>h) (fun _ _ h=>h.up hm6 hlb (fun _ h=>h))) (show m < d.cons[i].fields.length by omega);cases e;have b1:(0:Int)≤m∧(m:Int) < d.cons[i].fields.length:=by omega
     have hlcs:=hty.len;have ew:IntKind.i64.wrap ((m:Int) - 1)=(m:Int) - 1:=wrap_in (by omega) (by omega);(try simp only [go_sem,Nat.reduceAdd,Nat.reduceEqDiff,Nat.reduceLT,Nat.reduceLeDiff,Nat.reduceMul,reduceCtorEq,↓reduceIte,hge']);(try simp only [go_sem,Nat.reduceAdd,Nat.reduceEqDiff,Nat.reduceLT,Nat.reduceLeDiff,Nat.reduceMul,reduceCtorEq,↓reduceIte,zb4,zb6,b1,hrln,drew_ln,ln_blk (n:=3) hb6 hlcs,ew]);refine e_call (by rfl) ?_;have d6:Mod (fun _=>False) w6 w6.drew:=(Mod.refl _ _).drew;refine (f_fun (S:=fun b=>S b∨b=w4.heap.size∨b=w1.heap.size) (fun b hb=>?_) ((ext6 hw6 hrr).keep (mod0 d6)) (hty.keep (mod0 d6))).mono ?_
     · have e:w6.drew.heap.size=w6.heap.size:=rfl;have:=hw6.size;have:=lt_of_heap hb6;have:=lt_of_heap hb2';rcases hb with h | h | h
       · have:=hS b h;omega
       · omega
       · omega
     rintro _ w7 ⟨⟨cs2,rfl,hty2⟩,hm7⟩;have hm7:=hm7.of_drew;(try simp only [go_sem,Nat.reduceAdd,Nat.reduceEqDiff,Nat.reduceLT,Nat.reduceLeDiff,Nat.reduceMul,reduceCtorEq,↓reduceIte]);refine e_sta (cs:=cs) rfl rfl (hm7.at hb6 _root_.id) hty2.len hlcs hty2.one ?_;intro w8 hb8 hm8 hs8;(try simp only [go_sem,Nat.reduceAdd,Nat.reduceEqDiff,Nat.reduceLT,Nat.reduceLeDiff,Nat.reduceMul,reduceCtorEq,↓reduceIte,ew]);refine ⟨m,by omega,by omega,(hm6.trans (mod0 hm7)).trans hm8,⟨cs2,hb8,?_⟩,hm8.at (hm7.at hb2' _root_.id) (by omega),rfl⟩;rw [List.drop_eq_getElem_cons (by omega),List.foldr_cons];exact hty2.keep (hm8.weak (fun b hb=>.inr (.inl hb)))
 · rintro ρ w6 ⟨⟨cs,hb6,hty⟩,hb2',hm6,g2,g6⟩;(try simp only [go_sem,Nat.reduceAdd,Nat.reduceEqDiff,Nat.reduceLT,Nat.reduceLeDiff,Nat.reduceMul,reduceCtorEq,↓reduceIte,g2,g6,ln_blk (n:=3) hb6 hty.len]);refine e_sta (cs:=zTy) g2 rfl hb2' hty.len rfl hty.one ?_;intro w7 hb7 hm7 hs7;(try simp only [go_sem,Nat.reduceAdd,Nat.reduceEqDiff,Nat.reduceLT,Nat.reduceLeDiff,Nat.reduceMul,reduceCtorEq,↓reduceIte,rvs,RV.ev,ln_blk (n:=3) hb7 hty.len,one?]);exact ⟨⟨cs,rfl,(hty.keep (hm7.weak (fun b hb=>.inr (.inr hb)))).sub (fun b hb=>.inl hb)⟩,hm6.step hm7 (fun b h hl=>by omega)⟩
end
section
open Go Go.W
theorem zI (w:World):(zeroValue 3).run Tryz.prog w = .ok (I 0) w:=Tryz.zeroValue3 w
theorem f_fits (t:Ty):∀ {w:World} {S B:Nat→Prop} {M:Ms} {E:Env} {bd:Cnt} {lc:Loc} {cs:List Value},CkAt w S M E bd lc→TyAt w B cs t →
   CallsR Tryz.prog 61 [ptr M.c,.agg cs.toArray] w fun r w'=>r = .bool (t.fits E)∧Mod (fun _=>False) w w':=by
 induction t using Ty.ind with
 | h t ih=>
 intro w S B M E bd lc cs hc h;obtain ⟨v,rfl,hl⟩:=h.cells;obtain ⟨a,c,rfl⟩:=each_sl hl;refine fit61.calls rfl ?_;unfold ir61;(try simp only [go_sem,simprocAttr]);refine e_bx rfl ?_;intro w1 hb1 hm1 hs1;have hc1:=hc.keep hm1;have hbox:=hc1.box;rw [t.fits_eq];(try simp only [go_sem,simprocAttr,cell_of hb1,Value.cells,cell_of hbox]);refine ir_thenB (fun ρ w'=>Mod (fun _=>False) w1 w'∧((t.kind == 2)=false∧((t.kind == 4)=false∨badData E t.name t.args.length=false))∧ρ.get 0=some (ptr M.c)∧ρ.get 3=some (ptr w.heap.size)) ?_ ?_
 · (try simp only [go_sem,simprocAttr,cell_of hb1,Value.cells,cell_of hbox,drew_cell]);cases hk2:t.kind == 2 with
   | true=>
     (try simp only [go_sem,simprocAttr,cell_of hb1,Value.cells,cell_of hbox]);refine raw_g ?_;refine e_lkI (k:=t.name) (b:=M.mp) (kt:=9) (et:=3) rfl rfl rfl rfl (zI _) (hc1.params.mod (Mod.refl (fun _=>False) w1).drew _root_.id (fun _ _ x=>x)) ?_;(try simp only [go_sem,simprocAttr]);exact ⟨rfl,hm1.trans (Mod.refl _ _).drew⟩
   | false=>
     (try simp only [go_sem,simprocAttr,cell_of hb1,Value.cells,cell_of hbox]);cases hk4:t.kind == 4 with
     | false=>(try simp only [go_sem,simprocAttr]);exact .refl _ _
     | true=>
       (try simp only [go_sem,simprocAttr,cell_of hb1,Value.cells,cell_of hbox]);have d1:Mod (fun _=>False) w1 w1.drew:=(Mod.refl _ _).drew;have hcd:=hc1.keep d1;refine e_lkR (k:=t.name) (b:=M.md) (kt:=9) (et:=152) rfl rfl rfl rfl (Tryz.zeroValue152 _) hcd.datas (fun hn=>?_) (fun v d hd hr=>?_)
       · have hbad:badData E t.name t.args.length=true:=by rw [badData,hn]
         (try simp only [go_sem,simprocAttr,hbad]);exact hm1.trans (d1.drew)
       · obtain ⟨ad,rfl,cs,hcs,vp,vc,rfl,hpar,hcon⟩:=hr;obtain ⟨ap,cp,rfl⟩:=each_sl hpar;have c1:w1.drew.cell? ⟨ad.block,ad.off+1,none⟩=some (.slice ap d.params.length cp):=hcs.at (k:=1) (by simp);have c1':w1.cell? ⟨ad.block,ad.off+1,none⟩=some (.slice ap d.params.length cp):=c1;have hbad:badData E t.name t.args.length=((d.params.length:Int) != t.args.length):=by rw [badData,hd]
         (try simp only [go_sem,simprocAttr,cell_of hb1,Value.cells,c1']);cases hne:((d.params.length:Int) != t.args.length) with
         | true=>rw [hne] at hbad;(try simp only [go_sem,simprocAttr,hbad]);exact hm1.trans (d1.drew)
         | false=>rw [hne] at hbad;(try simp only [go_sem,simprocAttr,hbad]);exact d1.drew
 · rintro ρ w2 ⟨hm2,⟨hk2,hk4⟩,g0,g3⟩;have hm:=hm1.trans hm2;have hc2:=hc1.keep hm2;have hb2:=hm2.at hb1 _root_.id;have hfit:(if (t.kind == 2)=true then has E.params t.name else if (t.kind == 4)=true then (if badData E t.name t.args.length=true then false else tysFit E t.args) else tysFit E t.args)=tysFit E t.args:=by
     rw [if_neg (by rw [hk2];simp)];rcases hk4 with h | h
     · rw [if_neg (by rw [h];simp)]
     · rw [if_neg (show ¬ badData E t.name t.args.length=true by rw [h];simp),ite_self]
   rw [hfit,tysFit_all];(try simp only [go_sem,simprocAttr,g0,g3,cell_of hb2,Value.cells]);refine ir_each (PP:=fun w'=>TyAt w' B) (l:=t.args) (B:=B) (fun k ρ w'=>Mod (fun _=>False) w w'∧k≤t.args.length∧(∀ i,∀ h:i < t.args.length,i < k→t.args[i].fits E=true)∧ρ=[(0,ptr M.c),(53,.slice a t.args.length c),(54,I t.args.length),(55,I k)])
     ⟨hm,by omega,fun i _ hi=>absurd hi (by omega),rfl⟩ hl ?_ (fun _ _ _ h=>h.one) rfl ?_ ?_
   · rintro k _ w3 ⟨hm3,hk,_,rfl⟩;exact ⟨⟨hl.mod hm3 nof (fun _ _ h=>h.mod hm3 nof),hk⟩,rfl,rfl,rfl⟩
   · rintro k _ w3 hk w4 r b pv ⟨hm3,_,ha,rfl⟩ hr hl3 hb3 hm4 _;(try simp only [go_sem,simprocAttr,ln_blk (n:=3) hb3 hl3]);refine e_call (by rfl) ?_;have hm34:=hm3.trans hm4;refine (ih _ (List.getElem_mem hk) (hc.keep hm34) (hr.mod hm4 nof)).mono ?_;rintro _ w5 ⟨rfl,hm5⟩;cases hf:t.args[k].fits E with
     | false=>
       (try simp only [go_sem,simprocAttr]);refine ⟨congrArg _ (Eq.symm ?_),hm34.trans hm5⟩;rw [List.all_eq_false];exact ⟨_,List.getElem_mem hk,by rw [hf];simp⟩
     | true=>
       (try simp only [go_sem,simprocAttr]);refine ⟨hm34.trans hm5,hk,fun i hi hik=>?_⟩;rcases Nat.lt_or_ge i k with h1 | h1
       · exact ha i hi h1
       · have:i=k:=by omega
         subst this;exact hf
   · rintro _ w3 ⟨hm3,_,ha,rfl⟩;(try simp only [go_sem,simprocAttr]);refine ⟨congrArg _ (Eq.symm ?_),hm3⟩;rw [List.all_eq_true];intro x hx;obtain ⟨i,hi,rfl⟩:=List.getElem_of_mem hx;exact ha i hi hi
theorem f_right (t:Ty) {w:World} {S:Nat→Prop} {M:Ms} {E:Env} {bd:Cnt} {lc:Loc} {cs:List Value} (hc:CkAt w S M E bd lc) (h:TyAt w (Out S w) cs t) :
   CallsR Tryz.prog 46 [ptr M.c,.agg cs.toArray] w fun r w'=>r = .bool (rightS E t)∧Mod (fun _=>False) w w':=by
 refine fit46.calls rfl ?_;unfold ir46;(try simp only [go_sem,simprocAttr]);refine e_bx rfl ?_;intro w1 hb1 hm1 hs1;(try simp only [go_sem,simprocAttr,ln_blk (n:=3) (cs:=cs) hb1 h.len]);refine e_call (by rfl) ?_;refine (f_may t (h.keep (mod0 hm1)) (fun b hb=>hb.1)).mono ?_;rintro _ w2 ⟨rfl,hm2⟩;have hm:=hm1.trans hm2;cases hw:wrongS t == 0 with
 | false=>(try simp only [go_sem,simprocAttr]);exact ⟨congrArg _ (by rw [rightS,hw];rfl),hm⟩
 | true=>
   (try simp only [go_sem,simprocAttr,ln_blk (n:=3) (cs:=cs) (hm2.at hb1 _root_.id) h.len]);refine e_call (by rfl) ?_;refine (f_fits t (hc.keep hm) (h.keep (mod0 hm))).mono ?_;rintro _ w3 ⟨rfl,hm3⟩;(try simp only [go_sem,simprocAttr]);exact ⟨congrArg _ (by rw [rightS,hw];rfl),hm.trans hm3⟩
def ResTy (w:World) (S:Nat→Prop) (r:Value) (x:Except Int Ty):Prop:=match x with
 | .ok t=>∃ cs:List Value,r = .tuple #[.agg cs.toArray,I 0]∧TyAt w (Out S w) cs t
 | .error e=>∃ cs:List Value,cs.length=3∧(∀ u∈cs,u.oneCell'=true)∧r = .tuple #[.agg cs.toArray,I e]∧e≠0
theorem ResTy.bad (w:World) (S:Nat→Prop) {e:Int} (h:e≠0):ResTy w S (.tuple #[.agg zTy.toArray,I e]) (.error e):=⟨zTy,rfl,zTy_one,rfl,h⟩
theorem f_named (t:Ty) {w:World} {S:Nat→Prop} {M:Ms} {E:Env} {bd:Cnt} {lc:Loc} {cs:List Value} {vps vat:Value} {ps:List ByteArray} {at':List Ty} (hc:CkAt w S M E bd lc) (h:TyAt w (Out S w) cs t)
   (hps:EachAt w vps 1 (Out S w) StrAt ps) (hat:EachAt w vat 3 (Out S w) (TyAt w (Out S w)) at') :
   CallsR Tryz.prog 64 [ptr M.c,.agg cs.toArray,vps,vat] w fun r w'=>ResTy w' S r (namedS E t ps at')∧Mod (fun _=>False) w w':=by
 obtain ⟨ap,cp,rfl⟩:=each_sl hps;obtain ⟨aa,ca,rfl⟩:=each_sl hat;refine fit64.calls rfl ?_;unfold ir64;(try simp only [go_sem,simprocAttr]);refine e_bx rfl ?_;intro w1 hb1 hm1 hs1;(try simp only [go_sem,simprocAttr]);refine e_al ?_;intro w2 hb2 hm2 hs2;have hb1:=hm2.at hb1 _root_.id;have hm02:=hm1.trans hm2;have z1:=hm1.size;have ref:∀ (w3:World) (ρ:W.Env) (e:Int) (K:Value→World→Prop),Mod (fun _=>False) w2 w3→namedS E t ps at' = .error 83 →
     (∀ w4,w4.heap[w1.heap.size]? = some (.cells zTy.toArray tyT (0,0))→Mod (fun _=>False) w w4→K undef w4)→∀ x y:O,x.ev ρ=some (ptr w1.heap.size)→y.ev ρ=some (.agg zTy.toArray)→Go.W.E.wp Tryz.prog w3 ρ K (.st 3 x y):=by
   intro w3 ρ e K hm3 _ hk x y hx hy;refine e_sta (cs:=zTy) hx hy (hm3.at hb2 _root_.id) rfl rfl zTy_one ?_;intro w4 hb4 hm4 hs4;exact hk w4 hb4 ((hm02.trans hm3).step hm4 (fun b hb hl=>by omega))
 (try simp only [go_sem,simprocAttr]);cases hne:((ps.length:Int) != at'.length) with
 | true=>
   have hn:namedS E t ps at' = .error 83:=by rw [namedS,if_pos hne]
   (try simp only [go_sem,simprocAttr]);refine ref w2 _ 83 _ (.refl _ _) hn ?_ _ _ rfl rfl;intro w4 hb4 hm4;(try simp only [go_sem,simprocAttr,rvs,RV.ev,ln_blk (n:=3) hb4 rfl,one?]);rw [hn];exact ⟨.bad _ _ (by decide),hm4⟩
 | false=>
   (try simp only [go_sem,simprocAttr]);refine ir_each (PP:=fun w'=>TyAt w' (Out S w)) (l:=at') (B:=Out S w) (fun k ρ w'=>Mod (fun _=>False) w2 w'∧k≤at'.length∧(∀ i,∀ h:i < at'.length,i < k→rightS E at'[i]=true)∧ρ=[(0,ptr M.c),(2,.slice ap ps.length cp),(3,.slice aa at'.length ca),(5,ptr w.heap.size),(8,ptr w1.heap.size),(20,.slice aa at'.length ca),(21,I at'.length),(22,I k)])
     ⟨.refl _ _,by omega,fun i _ hi=>absurd hi (by omega),rfl⟩ hat ?_ (fun _ _ _ h=>h.one) rfl ?_ ?_
   · rintro k _ w3 ⟨hm3,hk,_,rfl⟩;exact ⟨⟨hat.mod (hm02.trans hm3) nof (fun _ _ h=>h.mod (hm02.trans hm3) nof),hk⟩,rfl,rfl,rfl⟩
   · rintro k _ w3 hk w4 r b pv ⟨hm3,_,ha,rfl⟩ hr hl3 hb3 hm4 _;have hm34:=hm3.trans hm4;have hm04:=hm02.trans hm34;(try simp only [go_sem,simprocAttr,ln_blk (n:=3) hb3 hl3]);refine e_call (by rfl) ?_;refine (f_right _ (hc.keep hm04) (hr.up hm4 nof (out_up (mod0 hm04)))).mono ?_;rintro _ w5 ⟨rfl,hm5⟩;have hm35:=hm34.trans hm5;cases hf:rightS E at'[k] with
     | false=>
       have hn:namedS E t ps at' = .error 83:=by
         have:at'.all (rightS E)=false:=by rw [List.all_eq_false];exact ⟨_,List.getElem_mem hk,by rw [hf];simp⟩
         rw [namedS,if_neg (by rw [hne];simp),if_pos this]
       (try simp only [go_sem,simprocAttr]);refine ref w5 _ 83 _ hm35 hn ?_ _ _ rfl rfl;intro w6 hb6 hm6;(try simp only [go_sem,simprocAttr,rvs,RV.ev,ln_blk (n:=3) hb6 rfl,one?]);rw [hn];exact ⟨.bad _ _ (by decide),hm6⟩
     | true=>
       (try simp only [go_sem,simprocAttr]);refine ⟨hm35,hk,fun i hi hik=>?_⟩;rcases Nat.lt_or_ge i k with h1 | h1
       · exact ha i hi h1
       · have:i=k:=by omega
         subst this;exact hf
   rintro _ w3 ⟨hm3,_,ha,rfl⟩;have hm03:=hm02.trans hm3;have hall:at'.all (rightS E)=true:=by
     rw [List.all_eq_true];intro x hx;obtain ⟨i,hi,rfl⟩:=List.getElem_of_mem hx;exact ha i hi hi
   have hlen:ps.length≤at'.length:=by
     have:(ps.length:Int)=at'.length:=by simpa using hne
     omega
   have hn:namedS E t ps at'=if (putS ps at' t).2≥0 then .ok (putS ps at' t).1 else .error 83:=by rw [namedS,if_neg (by rw [hne];simp),if_neg (by rw [hall];simp)]
   have hb1:=hm3.at hb1 _root_.id;have hb2:=hm3.at hb2 _root_.id;(try simp only [go_sem,simprocAttr,ln_blk (n:=3) (cs:=cs) hb1 h.len]);refine e_call (by rfl) ?_;have z3:=hm3.size;have hs:∀ b,b < w.heap.size→(S b∨b=w1.heap.size)→S b:=fun b hb h=>by
     rcases h with h | h
     · exact h
     · omega
   refine (f_put t (S:=fun b=>S b∨b=w1.heap.size) (h.ext (mod0 hm03) hs) ((ReplIn.mk hps hat hlen).ext (mod0 hm03) hs) (fun b hb=>by
     have:=hm03.size;rcases hb with h | h
     · have:=hc.lt b h;omega
     · omega)).mono ?_
   rintro _ w4 ⟨⟨cs',rfl,hty⟩,hm4⟩;(try simp only [go_sem,simprocAttr]);refine s_new (n:=3) (vs:=cs') rfl hty.len hty.one ?_;intro w5 hb5 hm5 hs5;have hm35:=hm3.trans (hm4.trans hm5);cases hok:decide ((putS ps at' t).2≥0) with
   | false=>
     have hn:namedS E t ps at' = .error 83:=by rw [hn,if_neg (of_decide_eq_false hok)]
     (try simp only [go_sem,simprocAttr]);refine ref w5 _ 83 _ hm35 hn ?_ _ _ rfl rfl;intro w6 hb6 hm6;(try simp only [go_sem,simprocAttr,rvs,RV.ev,ln_blk (n:=3) hb6 rfl,one?]);rw [hn];exact ⟨.bad _ _ (by decide),hm6⟩
   | true=>
     have hn:namedS E t ps at' = .ok (putS ps at' t).1:=by rw [hn,if_pos (of_decide_eq_true hok)]
     (try simp only [go_sem,simprocAttr,ln_blk (n:=3) hb5 hty.len]);have z2:=hm2.size;have z4:=hm03.size;refine e_sta (cs:=zTy) rfl rfl ((hm4.trans hm5).at hb2 _root_.id) hty.len rfl hty.one ?_;intro w6 hb6 hm6 hs6;(try simp only [go_sem,simprocAttr,rvs,RV.ev,ln_blk (n:=3) hb6 hty.len,one?]);rw [hn];have hm06:Mod (fun _=>False) w w6:=(hm02.trans hm35).step hm6 (fun b hb hl=>by omega);exact ⟨⟨cs',rfl,((hty.keep (mod0 hm5)).keep (hm6.weak (fun b hb=>.inr hb))).sub (fun b hb=>.inl hb)⟩,hm06⟩
end
section
open Go Go.W
def bindS (E:Env) (b:Bd) (bd:Cnt):Except Int Cnt:=
 if (!isNameS b.name||has bd b.name)=true then .error 82 else if rightS E b.type=true then .ok (aput bd b.name 1) else .error 83
theorem f_bind (b:Bd) {w:World} {S B:Nat→Prop} {M:Ms} {E:Env} {bd:Cnt} {lc:Loc} {cs:List Value} (hc:CkAt w S M E bd lc) (h:BdAt w (Out S w) cs b) :
   CallsR Tryz.prog 88 [ptr M.c,.agg cs.toArray] w fun r w'=>(match bindS E b bd with
     | .ok bd'=>r=I 0∧CkAt w' S M E bd' lc
     | .error e=>r=I e∧e≠0∧∃ bd',CkAt w' S M E bd' lc)∧Mod M.two w w':=by
 obtain ⟨⟨a1,a2,a3,a4,a5,a6⟩,⟨b1,b2,b3,b4,b5⟩,⟨c1,c2,c3,c4⟩,⟨d1,d2,d3⟩,⟨e1,e2⟩,f1⟩:=Ms.ne hc.nodup;obtain ⟨tc,ec,rfl,hrt,hre,hnm⟩:=h;refine fit88.calls rfl ?_;unfold ir88;(try simp only [go_sem,Nat.reduceAdd,Nat.reduceEqDiff,Nat.reduceLT,Nat.reduceLeDiff,Nat.reduceMul,reduceCtorEq,↓reduceIte]);refine e_bx rfl ?_;intro w1 hb1 hm1 hs1;have hc1:=hc.keep hm1;have l1:=hrt.len;(try simp only [go_sem,Nat.reduceAdd,Nat.reduceEqDiff,Nat.reduceLT,Nat.reduceLeDiff,Nat.reduceMul,reduceCtorEq,↓reduceIte,cell_of hb1,Value.cells]);refine e_call (by rfl) ?_;refine (f_isName b.name hnm).mono ?_;rintro _ _ ⟨rfl,rfl⟩;have d1':Mod (fun _=>False) w1 w1.drew:=(Mod.refl _ _).drew;have hcd:=hc1.keep d1';have hbox:=hc1.box;cases hn:isNameS b.name with
 | false=>
   have hbs:bindS E b bd = .error 82:=by rw [bindS,if_pos (by rw [hn];rfl)]
   rw [hbs];(try simp only [go_sem,Nat.reduceAdd,Nat.reduceEqDiff,Nat.reduceLT,Nat.reduceLeDiff,Nat.reduceMul,reduceCtorEq,↓reduceIte]);exact ⟨⟨by decide,_,hcd⟩,mod0 (hm1.trans d1')⟩
 | true=>
   (try simp only [go_sem,Nat.reduceAdd,Nat.reduceEqDiff,Nat.reduceLT,Nat.reduceLeDiff,Nat.reduceMul,reduceCtorEq,↓reduceIte,cell_of hb1,Value.cells,cell_of hbox]);refine raw_g ?_;refine e_lkI (k:=b.name) (b:=M.mb) (kt:=9) (et:=3) rfl rfl rfl rfl (zI _) hcd.bound ?_;have hhas:decide ((aget bd b.name).getD 0 > 0)=has bd b.name:=rfl;cases hh:has bd b.name with
   | true=>
     rw [hh] at hhas;have hbs:bindS E b bd = .error 82:=by rw [bindS,if_pos (by rw [hh];simp)]
     rw [hbs];(try simp only [go_sem,Nat.reduceAdd,Nat.reduceEqDiff,Nat.reduceLT,Nat.reduceLeDiff,Nat.reduceMul,reduceCtorEq,↓reduceIte,hhas]);exact ⟨⟨by decide,_,hcd.keep (Mod.refl _ _)⟩,mod0 (hm1.trans d1')⟩
   | false=>
     rw [hh] at hhas;(try simp only [go_sem,Nat.reduceAdd,Nat.reduceEqDiff,Nat.reduceLT,Nat.reduceLeDiff,Nat.reduceMul,reduceCtorEq,↓reduceIte,hhas,cell_of hb1,Value.cells,cell_of hbox]);have d2':=d1'.drew;have hcd2:=hc1.keep d2';refine e_muR (k:=b.name) (b:=M.mb) (v:=I 1) (kt:=9) (et:=3) rfl rfl rfl rfl rfl hcd2.bound (show RI (I 1) 1 from rfl) ?_;intro w2 hmap hm2 hs2;have hm12:Mod M.two w1 w2:=(mod0 d2').trans (hm2.weak (fun _ h=>.inl h));have hc2:CkAt w2 S M E (aput bd b.name 1) lc:=hc1.upd hm12 hmap (hcd2.locals.ty hm2 (fun x hx=>by subst hx;exact hc.two _ (.inl rfl)) (fun e=>f1 e.symm));have hlb:¬ M.two w.heap.size:=fun h=>by
       rcases h with h | h
       · have:=hc.lt _ (hc.two _ (.inl rfl));omega
       · have:=hc.lt _ (hc.two _ (.inr rfl));omega
     have hb2:=hm12.at hb1 hlb;have k1:=ln_of (off:=1) (n:=3) hb2 (by simp;omega);rw [List.drop_succ_cons,List.drop_zero,List.take_left' l1] at k1;(try simp only [go_sem,Nat.reduceAdd,Nat.reduceEqDiff,Nat.reduceLT,Nat.reduceLeDiff,Nat.reduceMul,reduceCtorEq,↓reduceIte,k1]);refine e_call (by rfl) ?_;have hm02:Mod M.two w w2:=(mod0 hm1).trans hm12;refine (f_right b.type hc2 (hrt.up hm02 (fun x hx hh=>hx.2 (hc.two _ hh)) (out_up (hm02.weak hc.two)))).mono ?_;rintro _ w3 ⟨rfl,hm3⟩;have hbs:bindS E b bd=if rightS E b.type=true then .ok (aput bd b.name 1) else .error 83:=by rw [bindS,if_neg (by rw [hn,hh];simp)]
     rw [hbs];cases hr:rightS E b.type with
     | true=>(try simp only [go_sem,Nat.reduceAdd,Nat.reduceEqDiff,Nat.reduceLT,Nat.reduceLeDiff,Nat.reduceMul,reduceCtorEq,↓reduceIte]);exact ⟨hc2.keep hm3,hm02.trans (mod0 hm3)⟩
     | false=>(try simp only [go_sem,Nat.reduceAdd,Nat.reduceEqDiff,Nat.reduceLT,Nat.reduceLeDiff,Nat.reduceMul,reduceCtorEq,↓reduceIte]);exact ⟨⟨by decide,_,hc2.keep hm3⟩,hm02.trans (mod0 hm3)⟩
end
section
open Go Go.W
abbrev St:=Cnt×Loc
def bindsS (E:Env):List Bd→Cnt→Except Int Cnt
 | [],bd=>.ok bd
 | b::l,bd=>match bindS E b bd with
   | .error x=>.error x
   | .ok bd'=>bindsS E l bd'
def putB:List Bd→Loc→Loc
 | [],lc=>lc
 | b::l,lc=>putB l (aput lc b.name b.type)
def delN:List ByteArray→Loc→Loc
 | [],lc=>lc
 | s::l,lc=>delN l (adel lc s)
def delB (bs:List Bd) (lc:Loc):Loc:=delN (bs.map Bd.name) lc
def varsS:List ByteArray→Cnt→Except Int Cnt
 | [],bd=>.ok bd
 | s::l,bd=>if (!isNameS s||has bd s)=true then .error 82 else varsS l (aput bd s 1)
def putVs (ps:List ByteArray) (bs:List Ty):List ByteArray→List Ty→Loc→Except Int Loc
 | s::l,f::fs,lc=>if (putS ps bs f).2≥0 then putVs ps bs l fs (aput lc s (putS ps bs f).1) else .error 83
 | _,_,lc=>.ok lc
def altFormedS (all:List Al) (i:Nat) (of:Ty):Bool:=match all[i]? with
 | none=>false
 | some a=>
   if a.kind == 1 then (if (a.num != 0||of.kind != 4)=true then false else !(all.take i).any (fun b=>(b.kind == a.kind&&strEq b.con a.con)&&b.num == a.num))
   else if a.kind == 2 then (if ((((!strEq a.con noStr||decide ((a.vars.length:Int) > 0))||of.kind != 1)||decide (a.num < -4611686018427387904))||decide (a.num > 4611686018427387903))=true then false else !(all.take i).any (fun b=>(b.kind == a.kind&&strEq b.con a.con)&&b.num == a.num))
   else if a.kind == 3 then ((strEq a.con noStr&&a.num == 0)&&(a.vars.length:Int) == 0)&&(i:Int) == Wr (all.length - 1)
   else false
noncomputable def appS (E:Env):List Ty→Except Int Ty
 | [f,a]=>if (f.kind != 3)=true then .error 83 else match f.args with
   | x::y::_=>if sameT x a=true then .ok y else .error 83
   | _=>.error 83
 | _=>.error 84
def opS (n:ByteArray):List Ty→Except Int Ty
 | [a,b]=>if (a.kind != 1||b.kind != 1)=true then .error 83 else .ok ((opsS n).getD default)
 | _=>.error 84
def lamS (b:Bd):List Ty→Except Int Ty
 | t::_=>if Wr (Wr (b.type.size+t.size)+1) > 500 then .error 83 else .ok (funT b.type t)
 | _=>.error 84
def altR (E:Env) (of:Ty) (k:Int) (con:ByteArray) (vars:List ByteArray) (run:St→Except Int (Ty×St)) (st:St):Except Int (Ty×St):=
 if (k != 1)=true then run st else match aget E.cons con with
   | none=>.error 82
   | some x=>if (!strEq x.1.name of.name)=true then .error 82
     else if (((conFields x.1 x.2).length:Int) != vars.length)=true then .error 84
     else match varsS vars st.1 with
       | .error e=>.error e
       | .ok bd=>match putVs x.1.params of.args vars (conFields x.1 x.2) st.2 with
         | .error e=>.error e
         | .ok lc=>match run (bd,lc) with
           | .error e=>.error e
           | .ok y=>.ok (y.1,(y.2.1,delN vars y.2.2))
mutual
noncomputable def exprS (E:Env):Ex→St→Except Int (Ty×St)
 | .mk k n m ts xs bs al,st=>
   if formedS (.mk k n m ts xs bs al)=false then .error 84
   else if k=1 then (match aget st.2 n with | none=>.error 82 | some t=>.ok (t,st))
   else if k=2 then .ok (.mk 1 noStr [],st)
   else if k=3 then (match aget E.defs n with | none=>.error 82 | some d=>(namedS E d.type d.params ts).map (fun t=>(t,st)))
   else if k=4 then (match aget E.cons n with | none=>.error 82 | some x=>(namedS E (conT x.1 x.2) x.1.params ts).map (fun t=>(t,st)))
   else if k=12 then (match ts with | []=>.error 84 | t::_=>if rightS E t=true then .ok (t,st) else .error 83)
   else if k=5 then (match exprsS E xs st with | .error x=>.error x | .ok y=>(appS E y.1).map (fun t=>(t,y.2)))
   else if k=9 then (match exprsS E xs st with | .error x=>.error x | .ok y=>(opS n y.1).map (fun t=>(t,y.2)))
   else if k=10 then (match exprsS E xs st with | .error x=>.error x | .ok y=>.ok (y.1.getLastD default,y.2))
   else if k=6 then (match bs with
     | []=>.error 84
     | b::_=>match bindS E b st.1 with
       | .error x=>.error x
       | .ok bd=>match exprsS E xs (bd,aput st.2 b.name b.type) with
         | .error x=>.error x
         | .ok y=>(lamS b y.1).map (fun t=>(t,(y.2.1,adel y.2.2 b.name))))
   else if k=7∨k=11 then (match bindsS E bs st.1 with
     | .error x=>.error x
     | .ok bd=>match bdsS E bs (bd,if k=7 then putB bs st.2 else st.2) with
       | .error x=>.error x
       | .ok st2=>match exprsS E xs (st2.1,putB bs st2.2) with
         | .error x=>.error x
         | .ok y=>.ok (y.1.headD default,(y.2.1,delB bs y.2.2)))
   else match exprsS E xs st with
     | .error x=>.error x
     | .ok y=>if ((y.1.headD default).kind != 1&&(y.1.headD default).kind != 4)=true then .error 83 else altsS E al (y.1.headD default) al 0 default y.2
noncomputable def exprsS (E:Env):List Ex→St→Except Int (List Ty×St)
 | [],st=>.ok ([],st)
 | e::l,st=>match exprS E e st with
   | .error x=>.error x
   | .ok y=>match exprsS E l y.2 with
     | .error x=>.error x
     | .ok z=>.ok (y.1::z.1,z.2)
noncomputable def bdsS (E:Env):List Bd→St→Except Int St
 | [],st=>.ok st
 | .mk _ t v::l,st=>match exprS E v st with
   | .error x=>.error x
   | .ok y=>if sameT y.1 t=true then bdsS E l y.2 else .error 83
noncomputable def altsS (E:Env) (all:List Al) (of:Ty):List Al→Nat→Ty→St→Except Int (Ty×St)
 | [],_,first,st=>.ok (first,st)
 | .mk k con num vars body::l,i,first,st=>
   if altFormedS all i of=false then .error 84
   else match altR E of k con vars (exprS E body) st with
     | .error x=>.error x
     | .ok y=>if i=0 then altsS E all of l (i+1) y.1 y.2 else if sameT y.1 first=true then altsS E all of l (i+1) first y.2 else .error 83
end
end
section
open Go Go.W
mutual
def Ty.tsz:Ty→Nat
 | .mk _ _ l=>1+tysTsz l
def tysTsz:List Ty→Nat
 | []=>0
 | t::l=>t.tsz+tysTsz l
end
mutual
def Ty.wf (E:Env):Ty→Bool
 | .mk k n l=>((k != 3||l.length == 2)&&(k != 4 || !badData E n l.length))&&tysWf E l
def tysWf (E:Env):List Ty→Bool
 | []=>true
 | t::l=>t.wf E&&tysWf E l
end
theorem Ty.tsz_eq (t:Ty):t.tsz=1+tysTsz t.args:=by cases t;rw [Ty.tsz];rfl
theorem Ty.wf_eq (E:Env) (t:Ty):t.wf E=(((t.kind != 3||t.args.length == 2)&&(t.kind != 4 || !badData E t.name t.args.length))&&tysWf E t.args):=by cases t;rw [Ty.wf];rfl
theorem tysWf_all (E:Env) (l:List Ty):tysWf E l=l.all (Ty.wf E):=by
 induction l with
 | nil=>rfl
 | cons t l ih=>rw [tysWf,ih,List.all_cons]
theorem tsz_mem {l:List Ty} {u:Ty} (h:u∈l):u.tsz≤tysTsz l:=by
 induction l with
 | nil=>cases h
 | cons t l ih=>
   rw [tysTsz];rcases List.mem_cons.1 h with rfl | h
   · omega
   · have:=ih h;omega
theorem tsz_pos (t:Ty):1≤t.tsz:=by rw [t.tsz_eq];omega
theorem size_tsz (t:Ty):t.tsz≤1000000→t.size=(t.tsz:Int):=by
 induction t using Ty.ind with
 | h t ih=>
 have key:∀ (l:List Ty),(∀ u∈l,u.tsz≤1000000→u.size=(u.tsz:Int))→∀ n:Int,1≤n→n+tysTsz l≤1000001→tysSize l n=n+tysTsz l:=by
   intro l
   induction l with
   | nil=>intro _ n _ _;rw [tysSize,tysTsz];omega
   | cons u l ihl=>
     intro hu n h1 h2;rw [tysTsz] at h2;rw [tysSize,tysTsz,hu u (by simp) (by omega),show Wr (n+(u.tsz:Int))=n+u.tsz from wrap_in (by omega) (by omega),ihl (fun v hv=>hu v (by simp [hv])) _ (by omega) (by omega)];omega
 intro h;rw [t.tsz_eq] at h ⊢;rw [t.size_eq,key t.args ih 1 (by omega) (by omega)];omega
theorem nodes_tsz (t:Ty):t.nodes≤500→(t.tsz:Int)=t.nodes:=by
 induction t using Ty.ind with
 | h t ih=>
 have key:∀ (l:List Ty),(∀ u∈l,u.nodes≤500→(u.tsz:Int)=u.nodes)→∀ n:Int,1≤n→n≤1001→n≤tysNodes l n∧(tysNodes l n≤500→tysNodes l n=n+tysTsz l):=by
   intro l
   induction l with
   | nil=>intro _ n h1 h2;rw [tysNodes,tysTsz];exact ⟨Int.le_refl _,fun _=>by omega⟩
   | cons u l ihl=>
     intro hu n h1 h2;obtain ⟨⟨a1,a2⟩,_⟩:=nvars_le u;rw [tysNodes,tysTsz]
     split
     · exact ⟨Int.le_refl _,fun h=>by omega⟩
     · have e:Wr (n+u.nodes)=n+u.nodes:=wrap_in (by omega) (by omega);rw [e];obtain ⟨b1,b2⟩:=ihl (fun v hv=>hu v (by simp [hv])) (n+u.nodes) (by omega) (by omega);refine ⟨by omega,fun h=>?_⟩;have e1:=b2 h;have e2:=hu u (by simp) (by omega);omega
 intro h;obtain ⟨k1,k2⟩:=key t.args ih 1 (by omega) (by omega);rw [t.nodes_eq] at h ⊢;rw [t.tsz_eq];have:=k2 (by omega);omega
def Good (E:Env) (t:Ty):Prop:=t.wf E=true∧t.tsz≤500
def GoodL (E:Env) (lc:Loc):Prop:=∀ p∈lc,Good E p.2
structure GoodE (E:Env):Prop where
 cons:∀ n x,aget E.cons n=some x→(∃ d,aget E.datas x.1.name=some d∧d.params.length=x.1.params.length)∧∀ f∈conFields x.1 x.2,f.wf E=true
 defs:∀ n f,aget E.defs n=some f→f.type.wf E=true
theorem may_wf (E:Env) (t:Ty):t.may=true→t.fits E=true→t.wf E=true:=by
 induction t using Ty.ind with
 | h t ih=>
 intro h1 h2;rw [t.may_eq,Bool.and_eq_true] at h1;obtain ⟨hh,hm⟩:=h1;rw [t.fits_eq] at h2;rw [t.wf_eq,tysWf_all];have kids:tysFit E t.args=true→t.args.all (Ty.wf E)=true:=fun hf=>by
   rw [tysFit_all,List.all_eq_true] at hf;have hm':∀ u∈t.args,u.may=true:=by
     intro u hu;have:(t.args.any fun t=>!t.may)=false:=by rw [tysMay_any,hm];rfl
     have:=List.any_eq_false.1 this u hu
     simpa using this
   rw [List.all_eq_true];exact fun u hu=>ih u hu (hm' u hu) (hf u hu)
 unfold headOk at hh;by_cases k2:(t.kind == 2)=true
 · have e2:t.kind=2:=by simpa using k2
   rw [e2] at hh ⊢;have:t.args=[]:=by
     have:(isVarS t.name&&((t.args.length:Int) == 0))=true:=hh;simp only [Bool.and_eq_true,beq_iff_eq] at this;exact List.eq_nil_of_length_eq_zero (by omega)
   rw [this];rfl
 · rw [if_neg k2] at h2;by_cases k4:(t.kind == 4)=true
   · have e4:t.kind=4:=by simpa using k4
     rw [if_pos k4] at h2
     split at h2
     · cases h2
     · rename_i hb;rw [e4,kids h2];have:badData E t.name t.args.length=false:=by simpa using hb
       rw [this];rfl
   · rw [if_neg k4] at h2;rw [kids h2];have n4:(t.kind != 4)=true:=by simpa using k4
     rw [n4];by_cases k3:(t.kind == 3)=true
     · have e3:t.kind=3:=by simpa using k3
       rw [e3] at hh ⊢;have:(strEq t.name noStr&&((t.args.length:Int) == 2))=true:=hh;simp only [Bool.and_eq_true,beq_iff_eq] at this;have:t.args.length=2:=by omega
       rw [this];rfl
     · have n3:(t.kind != 3)=true:=by simpa using k3
       rw [n3];rfl
theorem right_good {E:Env} {t:Ty} (h:rightS E t=true):Good E t:=by
 rw [rightS,Bool.and_eq_true] at h;have h0:wrongS t=0:=by simpa using h.1
 unfold wrongS at h0
 split at h0
 · omega
 · rename_i hm
   split at h0
   · omega
   · rename_i hn;have:=nodes_tsz t (by omega);exact ⟨may_wf E t (by simpa using hm) h.2,by omega⟩
theorem repl_good {E:Env} {ps:List ByteArray} {bs:List Ty} (hb:∀ b∈bs,Good E b) (hle:ps.length≤bs.length) (t:Ty):t.wf E=true→∀ left:Int,0≤left→left≤500 →
   -501≤(replT ps bs t left).2∧(replT ps bs t left).2≤left - 1∧(0≤(replT ps bs t left).2→(replT ps bs t left).1.wf E=true∧((replT ps bs t left).1.tsz:Int)=left - (replT ps bs t left).2):=by
 induction t using Ty.ind with
 | h t ih=>
 intro hw left h1 h2;have key:∀ (l:List Ty),(∀ u∈l,u.wf E=true→∀ left:Int,0≤left→left≤500 →
     -501≤(replT ps bs u left).2∧(replT ps bs u left).2≤left - 1∧(0≤(replT ps bs u left).2→(replT ps bs u left).1.wf E=true∧((replT ps bs u left).1.tsz:Int)=left - (replT ps bs u left).2))→(∀ u∈l,u.wf E=true) →
     ∀ left:Int,-501≤left→left≤500 → -501≤(replTs ps bs l left).2∧(replTs ps bs l left).2≤left∧(0≤(replTs ps bs l left).2→tysWf E (replTs ps bs l left).1=true∧(replTs ps bs l left).1.length=l.length∧(tysTsz (replTs ps bs l left).1:Int)=left - (replTs ps bs l left).2):=by
   intro l
   induction l with
   | nil=>intro _ _ left h1 h2;rw [replTs];exact ⟨h1,Int.le_refl _,fun _=>⟨rfl,rfl,by rw [tysTsz];omega⟩⟩
   | cons u l ihl=>
     intro hu hw left h1 h2;rw [replTs]
     split
     · exact ⟨h1,Int.le_refl _,fun h=>by simp only at h;omega⟩
     · obtain ⟨a1,a2,a3⟩:=hu u (by simp) (hw u (by simp)) left (by omega) h2;obtain ⟨b1,b2,b3⟩:=ihl (fun v hv=>hu v (by simp [hv])) (fun v hv=>hw v (by simp [hv])) (replT ps bs u left).2 (by omega) (by omega);refine ⟨b1,by simp only;omega,fun h=>?_⟩;simp only at h ⊢;obtain ⟨c1,c2,c3⟩:=b3 h;obtain ⟨d1,d2⟩:=a3 (by omega);rw [tysWf,tysTsz,c1,d1];exact ⟨rfl,by rw [List.length_cons,List.length_cons,c2],by omega⟩
 rw [t.wf_eq,Bool.and_eq_true,tysWf_all,List.all_eq_true] at hw;have none:((t.kind == 2)=false∨strIdx ps t.name=none) → -501≤(replT ps bs t left).2∧(replT ps bs t left).2≤left - 1∧(0≤(replT ps bs t left).2→(replT ps bs t left).1.wf E=true∧((replT ps bs t left).1.tsz:Int)=left - (replT ps bs t left).2):=fun hno=>by
   rw [replT_none hno];have e:Wr (left - 1)=left - 1:=wrap_in (by omega) (by omega);rw [e];obtain ⟨b1,b2,b3⟩:=key t.args ih hw.2 (left - 1) (by omega) (by omega);refine ⟨b1,b2,fun h=>?_⟩;obtain ⟨c1,c2,c3⟩:=b3 h;show (Ty.wf E (.mk _ _ _))=true∧((Ty.tsz (.mk _ _ _):Nat):Int)=_;rw [Ty.wf,Ty.tsz,c1,c2,hw.1];exact ⟨rfl,by omega⟩
 cases hk:t.kind == 2 with
 | false=>exact none (.inl hk)
 | true=>
   cases hi:strIdx ps t.name with
   | none=>exact none (.inr hi)
   | some i=>
     rw [replT_some hk hi];have hlt:i < bs.length:=Nat.lt_of_lt_of_le (strIdx_lt hi) hle;have hd:bs.getD i default=bs[i]:=by simp [List.getD,hlt]
     rw [hd];obtain ⟨g1,g2⟩:=hb _ (List.getElem_mem hlt);have g3:=tsz_pos bs[i];rw [size_tsz bs[i] (by omega)];have e:Wr (left - (bs[i].tsz:Int))=left - bs[i].tsz:=wrap_in (by omega) (by omega);rw [e];exact ⟨by simp only;omega,by simp only;omega,fun _=>⟨g1,by simp only;omega⟩⟩
theorem put_good {E:Env} {ps:List ByteArray} {bs:List Ty} (hb:∀ b∈bs,Good E b) (hle:ps.length≤bs.length) {t:Ty} (hw:t.wf E=true) (h:(putS ps bs t).2≥0):Good E (putS ps bs t).1:=by
 obtain ⟨a,b,c⟩:=repl_good hb hle t hw 500 (by omega) (by omega);obtain ⟨d,e⟩:=c h;exact ⟨d,by unfold putS at h ⊢;omega⟩
theorem named_good {E:Env} {t u:Ty} {ps:List ByteArray} {at':List Ty} (hw:t.wf E=true) (h:namedS E t ps at' = .ok u):Good E u:=by
 unfold namedS at h
 split at h
 · cases h
 · rename_i hne
   split at h
   · cases h
   · rename_i hall
     split at h
     · rename_i hok;cases h;have hl:(ps.length:Int)=at'.length:=by simpa using hne
       have ha:at'.all (rightS E)=true:=by simpa using hall
       rw [List.all_eq_true] at ha;exact put_good (fun b hb=>right_good (ha b hb)) (by omega) hw hok
     · cases h
theorem base_wf {E:Env} {d d':Dt} (h:aget E.datas d.name=some d') (hl:d'.params.length=d.params.length):(baseT d).wf E=true:=by
 have e:badData E d.name (d.params.map varT').length=false:=by
   rw [badData,h];simp [hl]
 rw [baseT,Ty.wf,e,tysWf_all];have:(d.params.map varT').all (Ty.wf E)=true:=by
   rw [List.all_eq_true];intro x hx;obtain ⟨s,_,rfl⟩:=List.mem_map.1 hx;rw [varT',Ty.wf];rfl
 rw [this];rfl
theorem fun_wf {E:Env} {a b:Ty} (ha:a.wf E=true) (hb:b.wf E=true):(funT a b).wf E=true:=by
 rw [funT,Ty.wf,tysWf,tysWf,tysWf,ha,hb];rfl
theorem con_wf {E:Env} (hE:GoodE E) {n:ByteArray} {x:Dt×Nat} (h:aget E.cons n=some x):(conT x.1 x.2).wf E=true:=by
 obtain ⟨⟨d,hd,hl⟩,hf⟩:=hE.cons n x h;have:∀ (l:List Ty),(∀ f∈l,f.wf E=true)→(l.foldr funT (baseT x.1)).wf E=true:=by
   intro l
   induction l with
   | nil=>intro _;exact base_wf hd hl
   | cons f l ih=>intro h;rw [List.foldr_cons];exact fun_wf (h f (by simp)) (ih (fun g hg=>h g (by simp [hg])))
 exact this _ hf
theorem alt_le {E:Env} (hE:GoodE E) {con:ByteArray} {x:Dt×Nat} {of:Ty} (h:aget E.cons con=some x) (hn:strEq x.1.name of.name=true) (hw:of.wf E=true) (hk:of.kind=4):x.1.params.length=of.args.length:=by
 obtain ⟨⟨d,hd,hl⟩,_⟩:=hE.cons con x h;have en:x.1.name=of.name:=by rw [strEq_iff] at hn;simpa using hn
 rw [of.wf_eq,hk,Bool.and_eq_true,Bool.and_eq_true] at hw;have hb:badData E of.name of.args.length=false:=by simpa using hw.1.2
 rw [badData,← en,hd] at hb;have:(d.params.length:Int)=of.args.length:=by simpa using hb
 omega
theorem wf_mem {E:Env} {t u:Ty} (h:t.wf E=true) (hu:u∈t.args):u.wf E=true:=by
 rw [t.wf_eq,Bool.and_eq_true,tysWf_all,List.all_eq_true] at h;exact h.2 u hu
theorem good_mem {E:Env} {t u:Ty} (h:Good E t) (hu:u∈t.args):Good E u:=by
 refine ⟨wf_mem h.1 hu,?_⟩;have:=tsz_mem hu;have h2:=h.2;rw [t.tsz_eq] at h2;omega
theorem fun_two {E:Env} {t:Ty} (h:t.wf E=true) (hk:t.kind=3):t.args.length=2:=by
 rw [t.wf_eq,hk,Bool.and_eq_true,Bool.and_eq_true] at h
 simpa using h.1.1
theorem aget_mem {α:Type} {l:List (ByteArray×α)} {k:ByteArray} {v:α} (h:aget l k=some v):∃ p∈l,p.1=k∧p.2=v:=by
 unfold aget at h;obtain ⟨p,hp,rfl⟩:=Option.map_eq_some_iff.1 h;exact ⟨p,List.mem_of_find?_eq_some hp,by simpa using List.find?_some hp,rfl⟩
theorem aput_mem {α:Type} {l:List (ByteArray×α)} {k:ByteArray} {v:α} {p:ByteArray×α} (h:p∈aput l k v):p∈l∨p=(k,v):=by
 unfold aput at h
 split at h
 · exact List.mem_or_eq_of_mem_set h
 · rcases List.mem_append.1 h with h | h
   · exact .inl h
   · exact .inr (List.mem_singleton.1 h)
theorem adel_mem {α:Type} {l:List (ByteArray×α)} {k:ByteArray} {p:ByteArray×α} (h:p∈adel l k):p∈l:=by
 unfold adel at h
 split at h
 · exact List.mem_of_mem_eraseIdx h
 · exact h
theorem GoodL.put {E:Env} {lc:Loc} (h:GoodL E lc) {n:ByteArray} {t:Ty} (ht:Good E t):GoodL E (aput lc n t):=fun p hp=>by
 rcases aput_mem hp with hp | rfl
 · exact h p hp
 · exact ht
theorem GoodL.del {E:Env} {lc:Loc} (h:GoodL E lc) (n:ByteArray):GoodL E (adel lc n):=fun p hp=>h p (adel_mem hp)
theorem GoodL.delN {E:Env}:∀ (l:List ByteArray) {lc:Loc},GoodL E lc→GoodL E (delN l lc)
 | [],_,h=>h
 | s::l,_,h=>GoodL.delN l (h.del s)
theorem GoodL.putB {E:Env}:∀ (l:List Bd) {lc:Loc},GoodL E lc→(∀ b∈l,Good E b.type)→GoodL E (putB l lc)
 | [],_,h,_=>h
 | b::l,_,h,hb=>GoodL.putB l (h.put (hb b (by simp))) (fun c hc=>hb c (by simp [hc]))
theorem GoodL.get {E:Env} {lc:Loc} (h:GoodL E lc) {n:ByteArray} {t:Ty} (ht:aget lc n=some t):Good E t:=by
 obtain ⟨p,hp,_,rfl⟩:=aget_mem ht;exact h p hp
theorem bind_good {E:Env} {b:Bd} {bd bd':Cnt} (h:bindS E b bd = .ok bd'):Good E b.type:=by
 unfold bindS at h
 split at h
 · cases h
 · split at h
   · rename_i hr;exact right_good hr
   · cases h
theorem binds_good {E:Env}:∀ (l:List Bd) {bd bd':Cnt},bindsS E l bd = .ok bd'→∀ b∈l,Good E b.type
 | [],_,_,_=>fun b hb=>by cases hb
 | c::l,bd,bd',h=>fun b hb=>by
   rw [bindsS] at h
   split at h
   · cases h
   · rename_i bd2 hb2;rcases List.mem_cons.1 hb with rfl | hb
     · exact bind_good hb2
     · exact binds_good l h b hb
end
section
open Go Go.W
theorem exprS_eq (E:Env) (e:Ex) (st:St):exprS E e st =
   if formedS e=false then .error 84
   else if e.kind=1 then (match aget st.2 e.name with | none=>.error 82 | some t=>.ok (t,st))
   else if e.kind=2 then .ok (.mk 1 noStr [],st)
   else if e.kind=3 then (match aget E.defs e.name with | none=>.error 82 | some d=>(namedS E d.type d.params e.types).map (fun t=>(t,st)))
   else if e.kind=4 then (match aget E.cons e.name with | none=>.error 82 | some x=>(namedS E (conT x.1 x.2) x.1.params e.types).map (fun t=>(t,st)))
   else if e.kind=12 then (match e.types with | []=>.error 84 | t::_=>if rightS E t=true then .ok (t,st) else .error 83)
   else if e.kind=5 then (match exprsS E e.args st with | .error x=>.error x | .ok y=>(appS E y.1).map (fun t=>(t,y.2)))
   else if e.kind=9 then (match exprsS E e.args st with | .error x=>.error x | .ok y=>(opS e.name y.1).map (fun t=>(t,y.2)))
   else if e.kind=10 then (match exprsS E e.args st with | .error x=>.error x | .ok y=>.ok (y.1.getLastD default,y.2))
   else if e.kind=6 then (match e.binds with
     | []=>.error 84
     | b::_=>match bindS E b st.1 with
       | .error x=>.error x
       | .ok bd=>match exprsS E e.args (bd,aput st.2 b.name b.type) with
         | .error x=>.error x
         | .ok y=>(lamS b y.1).map (fun t=>(t,(y.2.1,adel y.2.2 b.name))))
   else if e.kind=7∨e.kind=11 then (match bindsS E e.binds st.1 with
     | .error x=>.error x
     | .ok bd=>match bdsS E e.binds (bd,if e.kind=7 then putB e.binds st.2 else st.2) with
       | .error x=>.error x
       | .ok st2=>match exprsS E e.args (st2.1,putB e.binds st2.2) with
         | .error x=>.error x
         | .ok y=>.ok (y.1.headD default,(y.2.1,delB e.binds y.2.2)))
   else match exprsS E e.args st with
     | .error x=>.error x
     | .ok y=>if ((y.1.headD default).kind != 1&&(y.1.headD default).kind != 4)=true then .error 83 else altsS E e.alts (y.1.headD default) e.alts 0 default y.2:=by
 cases e;rw [exprS.eq_def];rfl
theorem altsS_cons (E:Env) (all:List Al) (of:Ty) (a:Al) (l:List Al) (i:Nat) (first:Ty) (st:St):altsS E all of (a::l) i first st =
   if altFormedS all i of=false then .error 84
   else match altR E of a.kind a.con a.vars (exprS E a.body) st with
     | .error x=>.error x
     | .ok y=>if i=0 then altsS E all of l (i+1) y.1 y.2 else if sameT y.1 first=true then altsS E all of l (i+1) first y.2 else .error 83:=by
 cases a;rw [altsS];rfl
theorem bdsS_cons (E:Env) (b:Bd) (l:List Bd) (st:St):bdsS E (b::l) st=(match exprS E b.value st with
   | .error x=>.error x
   | .ok y=>if sameT y.1 b.type=true then bdsS E l y.2 else .error 83):=by
 cases b;rw [bdsS];rfl
theorem exmap_ok {α β:Type} {x:Except Int α} {f:α→β} {y:β} (h:x.map f = .ok y):∃ a,x = .ok a∧f a=y:=by
 cases x with
 | error e=>cases h
 | ok a=>cases h;exact ⟨a,rfl,rfl⟩
def G (E:Env) (e:Ex):Prop:=∀ st y,GoodL E st.2→exprS E e st = .ok y→Good E y.1∧GoodL E y.2.2
theorem exprs_good {E:Env}:∀ (l:List Ex),(∀ u∈l,G E u)→∀ st y,GoodL E st.2→exprsS E l st = .ok y→(∀ t∈y.1,Good E t)∧GoodL E y.2.2∧y.1.length=l.length
 | [],_,st,y,hl,h=>by
   rw [exprsS] at h;cases h;exact ⟨fun t ht=>(by cases ht),hl,rfl⟩
 | e::l,hg,st,y,hl,h=>by
   rw [exprsS] at h
   split at h
   · cases h
   · rename_i y1 h1
     split at h
     · cases h
     · rename_i z hz;cases h;obtain ⟨a1,a2⟩:=hg e (by simp) _ _ hl h1;obtain ⟨b1,b2,b3⟩:=exprs_good l (fun u hu=>hg u (by simp [hu])) _ _ a2 hz;refine ⟨fun t ht=>?_,b2,by simp [b3]⟩;rcases List.mem_cons.1 ht with rfl | ht
       · exact a1
       · exact b1 t ht
theorem bds_good {E:Env}:∀ (l:List Bd),(∀ b∈l,G E b.value)→∀ st y,GoodL E st.2→bdsS E l st = .ok y→GoodL E y.2
 | [],_,st,y,hl,h=>by rw [bdsS] at h;cases h;exact hl
 | b::l,hg,st,y,hl,h=>by
   rw [bdsS_cons] at h
   split at h
   · cases h
   · rename_i y1 h1
     split at h
     · exact bds_good l (fun u hu=>hg u (by simp [hu])) _ _ (hg b (by simp) _ _ hl h1).2 h
     · cases h
theorem putVs_good {E:Env} {ps:List ByteArray} {bs:List Ty} (hb:∀ b∈bs,Good E b) (hle:ps.length≤bs.length):∀ (vs:List ByteArray) (fs:List Ty),(∀ f∈fs,f.wf E=true)→∀ lc lc',GoodL E lc→putVs ps bs vs fs lc = .ok lc'→GoodL E lc'
 | s::l,f::fs,hf,lc,lc',hl,h=>by
   rw [putVs] at h
   split at h
   · rename_i hok;exact putVs_good hb hle l fs (fun g hg=>hf g (by simp [hg])) _ _ (hl.put (put_good hb hle (hf f (by simp)) hok)) h
   · cases h
 | [],_,_,lc,lc',hl,h=>by rw [putVs] at h;cases h;exact hl;intros;simp_all
 | s::l,[],_,lc,lc',hl,h=>by rw [putVs] at h;cases h;exact hl;intros;simp_all
theorem altR_good {E:Env} (hE:GoodE E) {of:Ty} (hof:Good E of) {k:Int} {con:ByteArray} {vars:List ByteArray} (hk:k=1→of.kind=4) {e:Ex} (hg:G E e) {st:St} {y:Ty×St} (hl:GoodL E st.2) (h:altR E of k con vars (exprS E e) st = .ok y):Good E y.1∧GoodL E y.2.2:=by
 unfold altR at h
 split at h
 · exact hg _ _ hl h
 · rename_i hk1;have hk1:k=1:=by simpa using hk1
   split at h
   · cases h
   · rename_i x hx
     split at h
     · cases h
     · rename_i hn
       split at h
       · cases h
       · split at h
         · cases h
         · rename_i bd hbd
           split at h
           · cases h
           · rename_i lc hlc
             split at h
             · cases h
             · rename_i y1 h1;cases h;have hle:=alt_le hE hx (by simpa using hn) hof.1 (hk hk1);have hlc':=putVs_good (fun b hb=>good_mem hof hb) (by omega) _ _ (hE.cons _ _ hx).2 _ _ hl hlc;obtain ⟨a1,a2⟩:=hg _ _ hlc' h1;exact ⟨a1,GoodL.delN _ a2⟩
theorem altF_kind {all:List Al} {i:Nat} {of:Ty} {a:Al} (ha:all[i]? = some a) (h:altFormedS all i of=true) (hk:a.kind=1):of.kind=4:=by
 unfold altFormedS at h;rw [ha] at h;simp only [hk] at h;rw [if_pos (by rfl)] at h
 split at h
 · cases h
 · rename_i h2;simp only [Bool.or_eq_true,not_or,bne_iff_ne,ne_eq,Decidable.not_not] at h2;exact h2.2
theorem alts_good {E:Env} (hE:GoodE E) {all:List Al} {of:Ty} (hof:Good E of):∀ (l:List Al) (i:Nat),all.drop i=l→(∀ a∈l,G E a.body)→∀ (first:Ty) (st:St) (y:Ty×St),(i=0→l≠[])→(i≠0→Good E first)→GoodL E st.2→altsS E all of l i first st = .ok y→Good E y.1∧GoodL E y.2.2
 | [],i,hd,_,first,st,y,h0,hf,hl,h=>by
   rw [altsS] at h;cases h;exact ⟨hf (fun e=>h0 e rfl),hl⟩
 | a::l,i,hd,hg,first,st,y,h0,hf,hl,h=>by
   rw [altsS_cons] at h;have ha:all[i]? = some a:=by
     have:=congrArg (fun z=>z[0]?) hd
     simpa using this
   have hd':all.drop (i+1)=l:=by
     have:=congrArg (List.drop 1) hd
     simpa using this
   split at h
   · cases h
   · rename_i hform;have hform:altFormedS all i of=true:=by simpa using hform
     split at h
     · cases h
     · rename_i y1 h1;obtain ⟨a1,a2⟩:=altR_good hE hof (fun hk=>altF_kind ha hform hk) (hg a (by simp)) hl h1
       split at h
       · exact alts_good hE hof l (i+1) hd' (fun b hb=>hg b (by simp [hb])) _ _ _ (fun e=>by omega) (fun _=>a1) a2 h
       · rename_i hi
         split at h
         · exact alts_good hE hof l (i+1) hd' (fun b hb=>hg b (by simp [hb])) _ _ _ (fun e=>by omega) (fun _=>hf hi) a2 h
         · cases h
theorem leaf_good (E:Env):Good E (.mk 1 noStr []):=by
 refine ⟨by rw [Ty.wf];rfl,by rw [Ty.tsz,tysTsz];omega⟩
theorem formed_cnt {e:Ex} (h:formedS e=true):formOk e=true:=by
 unfold formedS at h;simp only [Bool.and_eq_true] at h;exact h.1.1
theorem cnt_eq {e:Ex} {a b c d:Int} (h:cnt e a b c d=true):(e.types.length:Int)=a∧(e.args.length:Int)=b∧(e.binds.length:Int)=c∧(e.alts.length:Int)=d:=by
 unfold cnt at h;simp only [Bool.and_eq_true,beq_iff_eq] at h;exact h
structure Formed (e:Ex):Prop where
 a2:e.kind=5∨e.kind=9∨e.kind=10→e.args.length=2
 a1:e.kind=6∨e.kind=7∨e.kind=8∨e.kind=11→e.args.length=1
 b1:e.kind=6∨e.kind=11→e.binds.length=1
 b2:e.kind=7→1≤e.binds.length
 al:e.kind=8→1≤e.alts.length
 t1:e.kind=12→e.types.length=1
 op:e.kind=9→(opsS e.name).isSome=true
 rng:1≤e.kind∧e.kind≤12
theorem formed_of {e:Ex} (h:formedS e=true):Formed e:=by
 have h:=formed_cnt h;unfold formOk at h;have c5:e.kind=5→cnt e 0 2 0 0=true:=fun hk=>by have h2:=h;rw [hk] at h2;exact h2
 have c10:e.kind=10→cnt e 0 2 0 0=true:=fun hk=>by have h2:=h;rw [hk] at h2;exact h2
 have c9:e.kind=9→(cnt e 0 2 0 0&&(opsS e.name).isSome)=true:=fun hk=>by have h2:=h;rw [hk] at h2;exact h2
 have c6:e.kind=6→(cnt e 0 1 1 0&&(match e.binds with | b::_=>emptyS b.value | []=>false))=true:=fun hk=>by have h2:=h;rw [hk] at h2;exact h2
 have c7:e.kind=7→(cnt e 0 1 e.binds.length 0&&decide ((e.binds.length:Int)≥1))=true:=fun hk=>by have h2:=h;rw [hk] at h2;exact h2
 have c8:e.kind=8→(cnt e 0 1 0 e.alts.length&&decide ((e.alts.length:Int)≥1))=true:=fun hk=>by have h2:=h;rw [hk] at h2;exact h2
 have c11:e.kind=11→cnt e 0 1 1 0=true:=fun hk=>by have h2:=h;rw [hk] at h2;exact h2
 have c12:e.kind=12→((cnt e 1 0 0 0&&decide (e.num≥1))&&decide (e.num≤4))=true:=fun hk=>by have h2:=h;rw [hk] at h2;exact h2
 refine ⟨?_,?_,?_,?_,?_,?_,?_,?_⟩
 · rintro (hk | hk | hk)
   · have:=cnt_eq (c5 hk);omega
   · have:=cnt_eq (Bool.and_eq_true _ _ |>.mp (c9 hk)).1;omega
   · have:=cnt_eq (c10 hk);omega
 · rintro (hk | hk | hk | hk)
   · have:=cnt_eq (Bool.and_eq_true _ _ |>.mp (c6 hk)).1;omega
   · have:=cnt_eq (Bool.and_eq_true _ _ |>.mp (c7 hk)).1;omega
   · have:=cnt_eq (Bool.and_eq_true _ _ |>.mp (c8 hk)).1;omega
   · have:=cnt_eq (c11 hk);omega
 · rintro (hk | hk)
   · have:=cnt_eq (Bool.and_eq_true _ _ |>.mp (c6 hk)).1;omega
   · have:=cnt_eq (c11 hk);omega
 · intro hk;have:=(Bool.and_eq_true _ _ |>.mp (c7 hk)).2;have:=of_decide_eq_true this;omega
 · intro hk;have:=(Bool.and_eq_true _ _ |>.mp (c8 hk)).2;have:=of_decide_eq_true this;omega
 · intro hk;have:=cnt_eq (Bool.and_eq_true _ _ |>.mp (Bool.and_eq_true _ _ |>.mp (c12 hk)).1).1;omega
 · intro hk;exact (Bool.and_eq_true _ _ |>.mp (c9 hk)).2
 · apply Classical.byContradiction;intro hn;have n1:(e.kind == 1)=false:=by simp;omega
   have n2:(e.kind == 2)=false:=by simp;omega
   have n3:(e.kind == 3)=false:=by simp;omega
   have n4:(e.kind == 4)=false:=by simp;omega
   have n5:(e.kind == 5)=false:=by simp;omega
   have n6:(e.kind == 6)=false:=by simp;omega
   have n7:(e.kind == 7)=false:=by simp;omega
   have n8:(e.kind == 8)=false:=by simp;omega
   have n9:(e.kind == 9)=false:=by simp;omega
   have n10:(e.kind == 10)=false:=by simp;omega
   have n11:(e.kind == 11)=false:=by simp;omega
   have n12:(e.kind == 12)=false:=by simp;omega
   simp only [n1,n2,n3,n4,n5,n6,n7,n8,n9,n10,n11,n12,Bool.false_eq_true,if_false,Bool.or_self] at h
theorem app_good {E:Env} {l:List Ty} (hl:∀ t∈l,Good E t) {t:Ty} (h:appS E l = .ok t):Good E t:=by
 unfold appS at h
 split at h
 · rename_i f a
   split at h
   · cases h
   · split at h
     · rename_i x y r heq
       split at h
       · cases h;exact good_mem (hl f (by simp)) (by rw [heq];simp)
       · cases h
     · cases h
 · cases h
theorem op_good {E:Env} {n:ByteArray} {l:List Ty} (ho:(opsS n).isSome=true) (hb:badData E boolN 0=false) {t:Ty} (h:opS n l = .ok t):Good E t:=by
 unfold opS at h
 split at h
 · split at h
   · cases h
   · cases h;unfold opsS at ho ⊢
     split
     · exact leaf_good E
     · split
       · refine ⟨?_,by simp [Ty.tsz,tysTsz]⟩;show Ty.wf E (.mk 4 boolN [])=true;rw [Ty.wf,List.length_nil,hb];rfl
       · rename_i h1 h2;rw [if_neg h1,if_neg h2] at ho;cases ho
 · cases h
theorem lam_good {E:Env} {b:Bd} (hb:Good E b.type) {l:List Ty} (hl:∀ t∈l,Good E t) {t:Ty} (h:lamS b l = .ok t):Good E t:=by
 unfold lamS at h
 split at h
 · rename_i u r
   split at h
   · cases h
   · rename_i hs;cases h;obtain ⟨b1,b2⟩:=hb;obtain ⟨u1,u2⟩:=hl u (by simp);refine ⟨fun_wf b1 u1,?_⟩;rw [size_tsz _ (by omega),size_tsz _ (by omega)] at hs;rw [show Wr ((b.type.tsz:Int)+u.tsz)=(b.type.tsz:Int)+u.tsz from wrap_in (by omega) (by omega),show Wr (((b.type.tsz:Int)+u.tsz)+1)=((b.type.tsz:Int)+u.tsz)+1 from wrap_in (by omega) (by omega)] at hs;rw [funT,Ty.tsz,tysTsz,tysTsz,tysTsz];omega
 · cases h
theorem expr_good {E:Env} (hE:GoodE E) (hb:badData E boolN 0=false) (e:Ex):G E e:=by
 induction e using Ex.ind with
 | h e ih1 ih2 ih3=>
 intro st y hl h;rw [exprS_eq] at h;by_cases hf:formedS e=false
 · rw [if_pos hf] at h;cases h
 rw [if_neg hf] at h;have F:=formed_of (by simpa using hf);by_cases hk:e.kind=1
 · rw [if_pos hk] at h
   split at h
   · cases h
   · rename_i t ht;cases h;exact ⟨hl.get ht,hl⟩
 rw [if_neg hk] at h;by_cases hk:e.kind=2
 · rw [if_pos hk] at h;cases h;exact ⟨leaf_good E,hl⟩
 rw [if_neg hk] at h;by_cases hk:e.kind=3
 · rw [if_pos hk] at h
   split at h
   · cases h
   · rename_i d hd;obtain ⟨t,ht,rfl⟩:=exmap_ok h;exact ⟨named_good (hE.defs _ _ hd) ht,hl⟩
 rw [if_neg hk] at h;by_cases hk:e.kind=4
 · rw [if_pos hk] at h
   split at h
   · cases h
   · rename_i x hx;obtain ⟨t,ht,rfl⟩:=exmap_ok h;exact ⟨named_good (con_wf hE hx) ht,hl⟩
 rw [if_neg hk] at h;by_cases hk:e.kind=12
 · rw [if_pos hk] at h
   split at h
   · cases h
   · split at h
     · rename_i hr;cases h;exact ⟨right_good hr,hl⟩
     · cases h
 rw [if_neg hk] at h;by_cases hk:e.kind=5
 · rw [if_pos hk] at h
   split at h
   · cases h
   · rename_i z hz;obtain ⟨t,ht,rfl⟩:=exmap_ok h;obtain ⟨a1,a2,_⟩:=exprs_good _ ih1 _ _ hl hz;exact ⟨app_good a1 ht,a2⟩
 rw [if_neg hk] at h;by_cases hk:e.kind=9
 · rw [if_pos hk] at h
   split at h
   · cases h
   · rename_i z hz;obtain ⟨t,ht,rfl⟩:=exmap_ok h;obtain ⟨a1,a2,_⟩:=exprs_good _ ih1 _ _ hl hz;exact ⟨op_good (F.op hk) hb ht,a2⟩
 rw [if_neg hk] at h;by_cases hk:e.kind=10
 · rw [if_pos hk] at h
   split at h
   · cases h
   · rename_i z hz;cases h;obtain ⟨a1,a2,a3⟩:=exprs_good _ ih1 _ _ hl hz;rw [F.a2 (by omega)] at a3;refine ⟨a1 _ ?_,a2⟩
     match z.1,a3 with
     | [a,b],_=>simp
 rw [if_neg hk] at h;by_cases hk:e.kind=6
 · rw [if_pos hk] at h
   split at h
   · cases h
   · rename_i b r hbs
     split at h
     · cases h
     · rename_i bd hbd
       split at h
       · cases h
       · rename_i z hz;obtain ⟨t,ht,rfl⟩:=exmap_ok h;have gb:=bind_good hbd;obtain ⟨a1,a2,a3⟩:=exprs_good _ ih1 _ _ (hl.put gb) hz;exact ⟨lam_good gb a1 ht,a2.del _⟩
 rw [if_neg hk] at h;by_cases hk:e.kind=7∨e.kind=11
 · rw [if_pos hk] at h
   split at h
   · cases h
   · rename_i bd hbd;have gb:=binds_good _ hbd
     split at h
     · cases h
     · rename_i st2 h2;have g2:=bds_good _ ih2 _ _ (by show GoodL E (if e.kind=7 then _ else _);split;exact GoodL.putB _ hl gb;exact hl) h2
       split at h
       · cases h
       · rename_i z hz;cases h;obtain ⟨a1,a2,a3⟩:=exprs_good _ ih1 _ _ (GoodL.putB _ g2 gb) hz;rw [F.a1 (by omega)] at a3;refine ⟨a1 _ ?_,GoodL.delN _ a2⟩
         match z.1,a3 with
         | [a],_=>simp
 rw [if_neg hk] at h
 split at h
 · cases h
 · rename_i z hz;obtain ⟨a1,a2,a3⟩:=exprs_good _ ih1 _ _ hl hz;have hk8:e.kind=8:=by have:=F.rng;omega
   rw [F.a1 (by omega)] at a3;have hof:Good E (z.1.headD default):=a1 _ (by match z.1,a3 with | [a],_=>simp)
   split at h
   · cases h
   · refine alts_good hE hof _ 0 rfl ih3 _ _ _ (fun _ h0=>?_) (fun h0=>absurd rfl h0) a2 h;have:=F.al hk8;have h0:e.alts=[]:=h0;rw [h0] at this;simp at this
end
section
open Go Go.W
theorem CkAt.ext {w w':World} {S S':Nat→Prop} {M:Ms} {E:Env} {bd:Cnt} {lc:Loc} (h:CkAt w S M E bd lc) (hm:Mod (fun _=>False) w w') (hs:∀ b,b < w.heap.size→S' b→S b) (hsub:∀ b,S b→S' b) (hlt:∀ b,S' b→b < w'.heap.size):CkAt w' S' M E bd lc:=by
 have hmS:Mod S w w':=mod0 hm;exact ⟨hm.at h.box _root_.id,h.nodup,fun b hb=>hsub b (h.inS b hb),hlt,
   h.datas.mod hm _root_.id (fun _ _ x=>x.up hmS out_not (out_ext hmS hs)),h.cons.mod hm _root_.id (fun _ _ x=>x.up hmS out_not (out_ext hmS hs)),
   h.defs.mod hm _root_.id (fun _ _ x=>x.up hmS out_not (out_ext hmS hs)),h.params.mod hm _root_.id (fun _ _ x=>x),h.bound.mod hm _root_.id (fun _ _ x=>x),h.locals.mod hm _root_.id (fun _ _ x=>x.up hmS out_not (out_ext hmS hs))⟩
theorem out_sub {w:World} {S S':Nat→Prop} (hs:∀ b,S b→S' b):∀ b,Out S' w b→Out S w b:=fun b h=>⟨h.1,fun hh=>h.2 (hs b hh)⟩
theorem CkAt.sub {w:World} {S S':Nat→Prop} {M:Ms} {E:Env} {bd:Cnt} {lc:Loc} (h:CkAt w S' M E bd lc) (hs:∀ b,S b→S' b) (hin:∀ b∈M.list,S b):CkAt w S M E bd lc:=by
 have hm:=Mod.refl (fun _=>False) w;exact ⟨h.box,h.nodup,hin,fun b hb=>h.lt b (hs b hb),
   h.datas.mod hm _root_.id (fun _ _ x=>x.up hm nof (out_sub hs)),h.cons.mod hm _root_.id (fun _ _ x=>x.up hm nof (out_sub hs)),
   h.defs.mod hm _root_.id (fun _ _ x=>x.up hm nof (out_sub hs)),h.params,h.bound,h.locals.mod hm _root_.id (fun _ _ x=>x.up hm nof (out_sub hs))⟩
theorem CkAt.side {w w':World} {S S':Nat→Prop} {M:Ms} {E:Env} {bd:Cnt} {lc:Loc} (h:CkAt w S M E bd lc) (hm:Mod S' w w') (hs:∀ b,S' b→S b) (hno:∀ b∈M.list,¬ S' b):CkAt w' S M E bd lc:=by
 have hmS:=hm.weak hs;have no:∀ b,b∈M.list→¬ S' b:=hno;exact ⟨hm.at h.box (no _ (by simp [Ms.list])),h.nodup,h.inS,fun b hb=>Nat.lt_of_lt_of_le (h.lt b hb) hm.size,
   h.datas.mod hm (no _ (by simp [Ms.list])) (fun _ _ x=>x.up hmS out_not (out_up hmS)),h.cons.mod hm (no _ (by simp [Ms.list])) (fun _ _ x=>x.up hmS out_not (out_up hmS)),
   h.defs.mod hm (no _ (by simp [Ms.list])) (fun _ _ x=>x.up hmS out_not (out_up hmS)),h.params.mod hm (no _ (by simp [Ms.list])) (fun _ _ x=>x),h.bound.mod hm (no _ (by simp [Ms.list])) (fun _ _ x=>x),
   h.locals.mod hm (no _ (by simp [Ms.list])) (fun _ _ x=>x.up hmS out_not (out_up hmS))⟩
@[go_sem] theorem n00:((0:Int) != 0)=false:=_root_.id rfl
def ResE (w:World) (S:Nat→Prop) (M:Ms) (E:Env) (r:Value) (x:Except Int (Ty×St)):Prop:=match x with
 | .ok y=>(∃ cs:List Value,r = .tuple #[.agg cs.toArray,I 0]∧TyAt w (Out S w) cs y.1)∧CkAt w S M E y.2.1 y.2.2
 | .error e=>∃ cs:List Value,cs.length=3∧(∀ u∈cs,u.oneCell'=true)∧r = .tuple #[.agg cs.toArray,I e]∧e≠0∧∃ bd lc,CkAt w S M E bd lc
theorem ResE.bad {w:World} {S:Nat→Prop} {M:Ms} {E:Env} {e:Int} (h:e≠0) (hc:∃ bd lc,CkAt w S M E bd lc):ResE w S M E (.tuple #[.agg zTy.toArray,I e]) (.error e):=⟨zTy,rfl,zTy_one,rfl,h,hc⟩
def ExprC (E:Env) (e:Ex):Prop:=∀ {w:World} {S:Nat→Prop} {M:Ms} {st:St} {cs:List Value},CkAt w S M E st.1 st.2→GoodL E st.2→ExAt w (Out S w) cs e →
 CallsR Tryz.prog 47 [ptr M.c,.agg cs.toArray] w fun r w'=>ResE w' S M E r (exprS E e st)∧Mod M.two w w'
abbrev And1 (S:Nat→Prop) (b4:Nat):Nat→Prop:=fun b=>S b∨b=b4
theorem and1_new {w:World} {S:Nat→Prop} {b4:Nat} (h:w.heap.size≤b4):∀ b,b < w.heap.size→And1 S b4 b→S b:=fun b hb hh=>by
 rcases hh with h | h
 · exact h
 · omega
theorem two_no {w:World} {S:Nat→Prop} {M:Ms} {E:Env} {bd:Cnt} {lc:Loc} (h:CkAt w S M E bd lc) {b:Nat} (hb:w.heap.size≤b):¬ M.two b:=fun hh=>by have:=h.lt b (h.two b hh);omega
theorem list_no {w:World} {S:Nat→Prop} {M:Ms} {E:Env} {bd:Cnt} {lc:Loc} (h:CkAt w S M E bd lc) {b4:Nat} (hb:w.heap.size≤b4):∀ b∈M.list,¬ b=b4:=fun b hm hh=>by have:=h.lt b (h.inS b hm);omega
theorem res_ok {w w':World} {S:Nat→Prop} {M:Ms} {E:Env} {st:St} {cs:List Value} {t:Ty} {b4:Nat} (hc:CkAt w (And1 S b4) M E st.1 st.2) (ht:TyAt w (Out (And1 S b4) w) cs t) (hm:Mod (· = b4) w w') (hin:∀ b∈M.list,S b) (hno:∀ b∈M.list,¬ b=b4) :
   ResE w' S M E (.tuple #[.agg cs.toArray,I 0]) (.ok (t,st)):=
 ⟨⟨cs,rfl,(ht.keep (hm.weak (fun b hb=>.inr hb))).sub (fun b hb=>.inl hb)⟩,(hc.side hm (fun b hb=>.inr hb) hno).sub (fun b hb=>.inl hb) hin⟩
theorem e_ref {w w3:World} {ρ:Go.W.Env} {K:Value→World→Prop} {S:Nat→Prop} {M:Ms} {E:Env} {bd0 bd:Cnt} {lc0 lc:Loc} {b4:Nat} (hc:CkAt w S M E bd0 lc0) (z1:w.heap.size≤b4) (hb2:w3.heap[b4]? = some (.cells zTy.toArray tyT (0,0))) (hm03:Mod M.two w w3) (hc3:CkAt w3 (And1 S b4) M E bd lc)
   {p q:O} (hp:p.ev ρ=some (ptr b4)) (hq:q.ev ρ=some (.agg zTy.toArray))
   (hk:∀ w4,w4.heap[b4]? = some (.cells zTy.toArray tyT (0,0))→Mod M.two w w4→(∃ bd lc,CkAt w4 S M E bd lc)→K undef w4):Go.W.E.wp Tryz.prog w3 ρ K (.st 3 p q):=by
 refine e_sta (cs:=zTy) hp hq hb2 rfl rfl zTy_one ?_;intro w4 hb4 hm4 hs4;exact hk w4 hb4 (hm03.step hm4 (fun b hb hl=>by omega)) ⟨_,_,(hc3.side hm4 (fun b hb=>.inr hb) (list_no hc z1)).sub (fun b hb=>.inl hb) hc.inS⟩
theorem list_two {α:Type} {l:List α} (h:l.length=2):∃ x y,l=[x,y]:=by
 match l,h with
 | [x,y],_=>exact ⟨x,y,rfl⟩
theorem list_one {α:Type} {l:List α} (h:l.length=1):∃ x,l=[x]:=by
 match l,h with
 | [x],_=>exact ⟨x,rfl⟩
theorem arg_at {w:World} {B:Nat→Prop} {v:Value} {l:List Ex} (h:EachAt w v 7 B (ExAt w B) l) {i:Nat} (hi:i < l.length) :
   ∃ ad c r,v = .slice (some ad) l.length c∧ExAt w B r l[i]∧vLN w 7 (.pointer (some (ad.add (i*7))))=some (.agg r.toArray):=by
 obtain ⟨ad,c,r,e,h1,_,h2,_⟩:=each_at h hi;exact ⟨ad,c,r,e,h1,h2⟩
end
section
open Go Go.W
theorem f_app {E:Env} (hE:GoodE E) (hbo:badData E boolN 0=false) {e x y:Ex} (hxy:e.args=[x,y]) (ihx:ExprC E x) (ihy:ExprC E y) {w:World} {S:Nat→Prop} {M:Ms} {st:St} {cs:List Value} (hc:CkAt w S M E st.1 st.2) (hg:GoodL E st.2) (h:ExAt w (Out S w) cs e) :
   CallsR Tryz.prog 66 [ptr M.c,.agg cs.toArray] w fun r w'=>ResE w' S M E r (match exprsS E e.args st with | .error x=>.error x | .ok y=>(appS E y.1).map (fun t=>(t,y.2)))∧Mod M.two w w':=by
 obtain ⟨vt,va,vb,vl,rfl,ht,ha,hb,hl⟩:=h.parts;obtain ⟨aa,ca,rfl⟩:=each_sl ha;refine fit66.calls rfl ?_;unfold ir66;(try simp only [go_sem,simprocAttr]);refine e_bx rfl ?_;intro w1 hb1 hm1 hs1;(try simp only [go_sem,simprocAttr]);refine e_al ?_;intro w2 hb2 hm2 hs2;have hb1:=hm2.at hb1 _root_.id;have hm02:=hm1.trans hm2;have z1:=hm1.size;have hsub:∀ b,S b→And1 S w1.heap.size b:=fun b hb=>.inl hb
 have hc2:CkAt w2 (And1 S w1.heap.size) M E st.1 st.2:=hc.ext hm02 (and1_new z1) hsub (fun b hb=>by
   rcases hb with h | h
   · have:=hc.lt b h;omega
   · omega)
 have hl2:e.args.length=2:=by rw [hxy];rfl
 have ha2:EachAt w2 (.slice aa e.args.length ca) 7 (Out (And1 S w1.heap.size) w2) (ExAt w2 (Out (And1 S w1.heap.size) w2)) e.args:=ha.up hm02 nof (out_ext (mod0 hm02) (and1_new z1)) (fun _ _ h=>h.ext (mod0 hm02) (and1_new z1));have b1:(0:Int)≤0∧(0:Int) < e.args.length:=by omega
 have b2:(0:Int)≤1∧(1:Int) < e.args.length:=by omega
 obtain ⟨ad,c1,r1,e1,hx,hlnx⟩:=arg_at ha2 (i:=0) (by omega);obtain ⟨rfl,-,-⟩:=tup_inj e1;have ex0:e.args[0]'(by omega)=x:=by simp [hxy]
 have ex1:e.args[1]'(by omega)=y:=by simp [hxy]
 rw [ex0] at hx;rw [Nat.zero_mul,add_zero'] at hlnx;rw [hxy];simp only [exprsS];(try simp only [go_sem,simprocAttr,zb4,zb6,cell_of hb1,Value.cells,b1,Nat.zero_mul,hlnx]);refine e_call (by rfl) ?_;refine (ihx hc2 hg hx).mono ?_;rintro r3 w3 ⟨hr3,hm3⟩;cases hx1:exprS E x st with
 | error e3=>
   rw [hx1] at hr3;obtain ⟨cz,hz3,hz1,rfl,hne,bd3,lc3,hcx⟩:=hr3;(try simp only [go_sem,simprocAttr]);refine s_new (n:=3) (vs:=cz) rfl hz3 hz1 ?_;intro w4 hb4 hm4 hs4;have hne':(e3 != 0)=true:=by simpa using hne
   (try simp only [go_sem,simprocAttr,hne']);refine e_ref hc z1 ((hm3.trans (mod0 hm4)).at hb2 (two_no hc z1)) ((mod0 hm02).trans (hm3.trans (mod0 hm4))) (hcx.keep hm4) rfl rfl ?_;intro w5 hb5 hm5 hck;(try simp only [go_sem,simprocAttr,rvs,RV.ev,ln_blk (n:=3) hb5 rfl,one?]);exact ⟨.bad hne hck,hm5⟩
 | ok y1=>
   obtain ⟨t1,st1⟩:=y1;rw [hx1] at hr3;obtain ⟨⟨c3,rfl,hty3⟩,hc3⟩:=hr3;have g1:=expr_good hE hbo x st _ hg hx1;(try simp only [go_sem,simprocAttr]);refine s_new (n:=3) (vs:=c3) rfl hty3.len hty3.one ?_;intro w4 hb4 hm4 hs4;have hc4:=hc3.keep hm4;have hm24:=hm3.trans (mod0 hm4);have hb1:=hm24.at hb1 (two_no hc (by omega));have S2:=hc2.two;have ha4:EachAt w4 (.slice (some ad) e.args.length ca) 7 (Out (And1 S w1.heap.size) w4) (ExAt w4 (Out (And1 S w1.heap.size) w4)) e.args:=ha2.up hm24 (fun b hb hh=>hb.2 (S2 b hh)) (out_up (hm24.weak S2)) (fun _ _ h=>h.keep (hm24.weak S2));obtain ⟨ad',c1',r2,e2,hy,hlny⟩:=arg_at ha4 (i:=1) (by omega);obtain ⟨e3,-,-⟩:=tup_inj e2;cases e3;rw [ex1] at hy;rw [Nat.one_mul,add_pos _ (n:=7) (by decide)] at hlny;(try simp only [go_sem,simprocAttr,zb4,zb6,cell_of hb1,Value.cells,b2,Int.toNat_one,Nat.one_mul,hlny]);refine e_call (by rfl) ?_;refine (ihy hc4 g1.2 hy).mono ?_;rintro r5 w5 ⟨hr5,hm5⟩;have hm25:=hm24.trans hm5;cases hy1:exprS E y st1 with
   | error e3=>
     rw [hy1] at hr5;obtain ⟨cz,hz3,hz1,rfl,hne,bd3,lc3,hcx⟩:=hr5;(try simp only [go_sem,simprocAttr]);refine s_new (n:=3) (vs:=cz) rfl hz3 hz1 ?_;intro w6 hb6 hm6 hs6;have hne':(e3 != 0)=true:=by simpa using hne
     (try simp only [go_sem,simprocAttr,hne']);refine e_ref hc z1 ((hm25.trans (mod0 hm6)).at hb2 (two_no hc z1)) ((mod0 hm02).trans (hm25.trans (mod0 hm6))) (hcx.keep hm6) rfl rfl ?_;intro w7 hb7 hm7 hck;(try simp only [go_sem,simprocAttr,rvs,RV.ev,ln_blk (n:=3) hb7 rfl,one?]);exact ⟨.bad hne hck,hm7⟩
   | ok y2=>
     obtain ⟨t2,st2⟩:=y2;rw [hy1] at hr5;obtain ⟨⟨c5,rfl,hty5⟩,hc5⟩:=hr5;(try simp only [go_sem,simprocAttr]);refine s_new (n:=3) (vs:=c5) rfl hty5.len hty5.one ?_;intro w6 hb6 hm6 hs6;have hm26:=hm25.trans (mod0 hm6);have hc6:=hc5.keep hm6;have z3:=hm3.size;have hb4':=(hm5.trans (mod0 hm6)).at hb4 (two_no hc (by omega));have hty1:TyAt w6 (Out (And1 S w1.heap.size) w6) c3 t1:=(hty3.keep (mod0 hm4)).keep ((hm5.trans (mod0 hm6)).weak S2);obtain ⟨v3,rfl,hargs⟩:=hty1.cells;obtain ⟨a3,cc3,rfl⟩:=each_sl hargs;have hb6d:w6.drew.heap[w5.heap.size]? = _:=hb6;(try simp only [go_sem,simprocAttr,cell_of hb4',drew_ln,ln_blk (n:=3) hb6d hty5.len]);have happ:∀ z,(Except.map (fun t=>(t,st2)) (appS E [t1,t2]):Except Int (Ty×St))=z→(Except.map (fun t=>(t,st2)) (appS E [t1,t2]):Except Int (Ty×St))=z:=fun z h=>h
     cases hk:t1.kind != 3 with
     | true=>
       have ha:appS E [t1,t2] = .error 83:=by rw [appS,if_pos hk]
       rw [ha];(try simp only [go_sem,simprocAttr]);refine e_ref hc z1 ((hm26.drew).at hb2 (two_no hc z1)) ((mod0 hm02).trans (hm26.drew)) (hc6.keep (Mod.refl _ _).drew) rfl rfl ?_;intro w7 hb7 hm7 hck;(try simp only [go_sem,simprocAttr,rvs,RV.ev,ln_blk (n:=3) hb7 rfl,one?]);exact ⟨.bad (by decide) hck,hm7⟩
     | false=>
       have hk3:t1.kind=3:=by simpa using hk
       obtain ⟨u,v,huv⟩:=list_two (fun_two g1.1.1 hk3);have l2:t1.args.length=2:=by rw [huv];rfl
       have d1:(0:Int)≤0∧(0:Int) < t1.args.length:=by omega
       have d2:(0:Int)≤1∧(1:Int) < t1.args.length:=by omega
       obtain ⟨rows,hrows,hrl,hre⟩:=hargs;obtain ⟨ad3,cc,ee,hlu⟩:=row_ln hrows (i:=0) (by omega);obtain ⟨rfl,-,-⟩:=tup_inj ee;obtain ⟨ad4,cc',ee',hlv⟩:=row_ln hrows (i:=1) (by omega);obtain ⟨ee4,-,-⟩:=tup_inj ee';cases ee4;rw [Nat.zero_mul,add_zero'] at hlu;rw [Nat.one_mul,add_pos _ (n:=3) (by decide)] at hlv;have hu:TyAt w6 (Out (And1 S w1.heap.size) w6) rows[0] u:=hre 0 _ _ (List.getElem?_eq_getElem (by omega)) (by rw [huv];rfl);have hv:TyAt w6 (Out (And1 S w1.heap.size) w6) rows[1] v:=hre 1 _ _ (List.getElem?_eq_getElem (by omega)) (by rw [huv];rfl);have ha:appS E [t1,t2]=if sameT u t2=true then .ok v else .error 83:=by rw [appS,if_neg (by rw [hk];simp),huv]
       rw [ha];(try simp only [go_sem,simprocAttr,zb4,zb6,cell_of hb4',d1,Nat.zero_mul,hlu,drew_ln,ln_blk (n:=3) hb6 hty5.len]);refine e_call (by rfl) ?_;have dd:Mod (fun _=>False) w6 w6.drew:=(Mod.refl _ _).drew;refine (f_sameType u (hu.keep (mod0 dd)) ((hty5.keep (mod0 hm6)).keep (mod0 dd))).mono ?_;rintro _ w7 ⟨rfl,hm7⟩;have hm67:Mod (fun _=>False) w6 w7:=dd.trans hm7;cases hs:sameT u t2 with
       | false=>
         (try simp only [go_sem,simprocAttr]);refine e_ref hc z1 ((hm26.trans (mod0 hm67)).at hb2 (two_no hc z1)) ((mod0 hm02).trans (hm26.trans (mod0 hm67))) (hc6.keep hm67) rfl rfl ?_;intro w8 hb8 hm8 hck;(try simp only [go_sem,simprocAttr,rvs,RV.ev,ln_blk (n:=3) hb8 rfl,one?]);exact ⟨.bad (by decide) hck,hm8⟩
       | true=>
         obtain ⟨ad5,cc5,ee5,hlv7⟩:=row_ln (hrows.up hm67 nof (fun _ h=>h)) (i:=1) (by omega);obtain ⟨ee6,-,-⟩:=tup_inj ee5;cases ee6;rw [Nat.one_mul,add_pos _ (n:=3) (by decide)] at hlv7;(try simp only [go_sem,simprocAttr,zb4,zb6,cell_of (hm67.at hb4' _root_.id),d2,Int.toNat_one,Nat.one_mul,hlv7]);have hm27:=hm26.trans (mod0 hm67);refine e_sta (cs:=zTy) rfl rfl (hm27.at hb2 (two_no hc z1)) hv.len rfl hv.one ?_;intro w8 hb8 hm8 hs8;(try simp only [go_sem,simprocAttr,rvs,RV.ev,ln_blk (n:=3) hb8 hv.len,one?]);exact ⟨res_ok (hc6.keep hm67) (hv.keep (mod0 hm67)) hm8 hc.inS (list_no hc z1),((mod0 hm02).trans hm27).step hm8 (fun b hb hl=>by omega)⟩
end
section
open Go Go.W
theorem e_ixa {P:Program} {w:World} {ρ:Go.W.Env} {K:Value→World→Prop} {t el:TypeId} {len sz:Nat} {x i:Operand} {k:IntKind} {n:Int} {a:Addr} {dst:Option Nat} {ty:TypeId} {pos:String} {af:Array Edge} (hx:(toO x).ev ρ=some (.pointer (some a))) (hi:(toO i).ev ρ=some (.int k n))
   (ht:P.underlying t=some (.array len el)) (hsz:szOf P el=some sz) (h0:0≤n) (h1:n < len) (hk:K (.pointer (some (a.add (n.toNat*sz)))) w):Go.W.E.wp P w ρ K (.raw ⟨dst,.indexAddr t x i,ty,pos,af,none⟩):=by
 refine opWp_of_run fun act ha=>⟨_,w,?_,hk⟩
 have g1:ro P w (underlying t)=some (.array len el):=by rw [ro_underlying,ht]
 have g2:ro P w (sizeOf el)=some sz:=by rw [ro_sizeOf];exact hsz
 have g3:ro P w (Instr.indexAt t (.pointer (some a)) (.int k n))=some (.pointer (some (a.add (n.toNat*sz)))):=by
   simp only [Instr.indexAt,asIntOf,Instr.sureAddr,asAddr,ro_bind,ro_pure,Option.bind_some,g1,g2,if_pos (And.intro h0 h1),Option.map_some,ro_map]
 simp only [execOp,ha x _ hx,ha i _ hi,Sem.run_bind,ro_run g3,Result.andThen_ok,Sem.run_pure]
theorem exprs_app {E:Env}:∀ (l1 l2:List Ex) (st:St),exprsS E (l1++l2) st=(match exprsS E l1 st with
   | .error x=>.error x
   | .ok y=>match exprsS E l2 y.2 with
     | .error x=>.error x
     | .ok z=>.ok (y.1++z.1,z.2))
 | [],l2,st=>by
   rw [List.nil_append,exprsS];simp only;cases exprsS E l2 st<;>rfl
 | e::l1,l2,st=>by
   rw [List.cons_append,exprsS,exprsS];cases exprS E e st with
   | error x=>rfl
   | ok y=>
     simp only;rw [exprs_app l1 l2 y.2];cases exprsS E l1 y.2 with
     | error x=>rfl
     | ok z=>
       simp only;cases exprsS E l2 z.2<;>rfl
structure OpI (w:World) (S:Nat→Prop) (M:Ms) (E:Env) (b6 k:Nat) (l:List Ex) (st:St) (w2:World) (ts:List Ty) (st':St) (cs:List Value):Prop where
 len:ts.length=k
 run:exprsS E (l.take k) st = .ok (ts,st')
 ck:CkAt w S M E st'.1 st'.2
 good:GoodL E st'.2
 box:w.heap[b6]? = some (.cells cs.toArray 180 (0,0))
 six:cs.length=6
 kinds:∀ i,∀ h:i < ts.length,cs[3*i]? = some (I ts[i].kind)
 mod:Mod (fun b=>M.two b∨b=b6) w2 w
theorem f_op {E:Env} (hE:GoodE E) (hbo:badData E boolN 0=false) {e:Ex} (hl2:e.args.length=2) (hop:(opsS e.name).isSome=true) (ih:∀ u∈e.args,ExprC E u) {w:World} {S:Nat→Prop} {M:Ms} {st:St} {cs:List Value} (hc:CkAt w S M E st.1 st.2) (hg:GoodL E st.2) (h:ExAt w (Out S w) cs e) :
   CallsR Tryz.prog 67 [ptr M.c,.agg cs.toArray] w fun r w'=>ResE w' S M E r (match exprsS E e.args st with | .error x=>.error x | .ok y=>(opS e.name y.1).map (fun t=>(t,y.2)))∧Mod M.two w w':=by
 obtain ⟨vt,va,vb,vl,rfl,ht,ha,hb,hl⟩:=h.parts;obtain ⟨aa,ca,rfl⟩:=each_sl ha;refine fit67.calls rfl ?_;unfold ir67;(try simp only [go_sem,simprocAttr]);refine e_bx rfl ?_;intro w1 hb1 hm1 hs1;(try simp only [go_sem,simprocAttr]);refine e_al ?_;intro w2 hb2 hm2 hs2;(try simp only [go_sem,simprocAttr]);refine e_al ?_;intro w3 hb3 hm3 hs3;have hb1:=(hm2.trans hm3).at hb1 _root_.id;have hb2:=hm3.at hb2 _root_.id;have hm03:=hm1.trans (hm2.trans hm3);have z1:=hm1.size;have z2:=hm2.size;have hnew:∀ b,b < w.heap.size→And1 (And1 S w1.heap.size) w2.heap.size b→S b:=fun b hb hh=>by
   rcases hh with (h | h) | h
   · exact h
   · omega
   · omega
 have hc3:CkAt w3 (And1 (And1 S w1.heap.size) w2.heap.size) M E st.1 st.2:=hc.ext hm03 hnew (fun b hb=>.inl (.inl hb)) (fun b hb=>by
   rcases hb with (h | h) | h
   · have:=hc.lt b h;omega
   · omega
   · omega)
 have S3:=hc3.two;have ha3:EachAt w3 (.slice aa e.args.length ca) 7 (Out (And1 (And1 S w1.heap.size) w2.heap.size) w3) (ExAt w3 (Out (And1 (And1 S w1.heap.size) w2.heap.size) w3)) e.args:=ha.up hm03 nof (out_ext (mod0 hm03) hnew) (fun _ _ h=>h.ext (mod0 hm03) hnew);have ref:∀ (w4:World) (ρ:Go.W.Env) (K:Value→World→Prop) (bd:Cnt) (lc:Loc),Mod (fun b=>M.two b∨b=w2.heap.size) w3 w4→CkAt w4 (And1 (And1 S w1.heap.size) w2.heap.size) M E bd lc→∀ p q:O,p.ev ρ=some (ptr w1.heap.size)→q.ev ρ=some (.agg zTy.toArray) →
     (∀ w5,w5.heap[w1.heap.size]? = some (.cells zTy.toArray tyT (0,0))→Mod M.two w w5→(∃ bd lc,CkAt w5 S M E bd lc)→K undef w5)→Go.W.E.wp Tryz.prog w4 ρ K (.st 3 p q):=by
   intro w4 ρ K bd lc hm4 hck p q hp hq hk;exact e_ref hc z1 (hm4.at hb2 (fun hh=>by rcases hh with h | h;exact two_no hc z1 h;omega)) ((mod0 hm03:Mod M.two w w3).step hm4 (fun b hb hl=>by rcases hb with h | h;exact h;omega)) (hck.sub (fun b hb=>.inl hb) (fun b hb=>.inl (hc.inS b hb))) hp hq hk
 (try simp only [go_sem,simprocAttr]);refine ir_thenB (fun ρ w'=>∃ ts st' cs,OpI w' (And1 (And1 S w1.heap.size) w2.heap.size) M E w2.heap.size 2 e.args st w3 ts st' cs∧ρ.get 3=some (ptr w.heap.size)∧ρ.get 4=some (ptr w1.heap.size)∧ρ.get 6=some (ptr w2.heap.size)) ?_ ?_
 · refine ir_loop (fun m ρ w'=>∃ k,m=2 - k∧k≤2∧∃ ts st' cs,OpI w' (And1 (And1 S w1.heap.size) w2.heap.size) M E w2.heap.size k e.args st w3 ts st' cs∧ρ=[(0,ptr M.c),(3,ptr w.heap.size),(4,ptr w1.heap.size),(6,ptr w2.heap.size),(12,I k)]) 2
     ⟨0,rfl,by omega,[],st,[I 0,.string noStr,.slice none 0 0,I 0,.string noStr,.slice none 0 0],⟨rfl,rfl,hc3,hg,hb3,rfl,fun i hi=>(by cases hi),.refl _ _⟩,rfl⟩ ?_
   rintro m _ w4 ⟨k,rfl,hk2,ts,st',cs,hi,rfl⟩;unfold ir67L1;(try simp only [go_sem,simprocAttr]);cases hlt:decide ((k:Int) < 2) with
   | false=>
     have hk:k=2:=by have:=of_decide_eq_false hlt;omega
     subst hk;(try simp only [go_sem,simprocAttr]);exact ⟨ts,st',cs,hi⟩
   | true=>
     have hk:k < 2:=by have:=of_decide_eq_true hlt;omega
     have hka:k < e.args.length:=by omega
     have hw34:Mod (And1 (And1 S w1.heap.size) w2.heap.size) w3 w4:=hi.mod.weak (fun b hb=>by
       rcases hb with h | h
       · exact S3 b h
       · exact .inr h)
     have hb1:=hi.mod.at hb1 (fun hh=>by rcases hh with h | h;exact two_no hc (Nat.le_refl _) h;omega);have ha4:=ha3.up hw34 out_not (out_up hw34) (fun _ _ h=>h.keep hw34);obtain ⟨ad,c1,r1,e1,hx,hlnx⟩:=arg_at ha4 (i:=k) hka;obtain ⟨rfl,-,-⟩:=tup_inj e1;have b1:(0:Int)≤k∧(k:Int) < e.args.length:=by omega
     (try simp only [go_sem,simprocAttr,zb4,zb6,cell_of hb1,Value.cells,b1,hlnx]);refine e_call (by rfl) ?_;refine (ih _ (List.getElem_mem hka) hi.ck hi.good hx).mono ?_;rintro r5 w5 ⟨hr5,hm5⟩;have hm35:Mod (fun b=>M.two b∨b=w2.heap.size) w3 w5:=hi.mod.trans (hm5.weak (fun b h=>.inl h));have hsplit:e.args=e.args.take k++(e.args[k]::e.args.drop (k+1)):=by rw [← List.drop_eq_getElem_cons hka,List.take_append_drop]
     cases hx1:exprS E e.args[k] st' with
     | error e3=>
       rw [hx1] at hr5;obtain ⟨cz,hz3,hz1,rfl,hne,bd3,lc3,hcx⟩:=hr5;have hne':(e3 != 0)=true:=by simpa using hne
       have hall:exprsS E e.args st = .error e3:=by rw [hsplit,exprs_app,hi.run];simp only [exprsS,hx1]
       rw [hall];(try simp only [go_sem,simprocAttr]);refine s_new (n:=3) (vs:=cz) rfl hz3 hz1 ?_;intro w6 hb6 hm6 hs6;(try simp only [go_sem,simprocAttr,hne']);refine ref w6 _ _ _ _ (hm35.trans (mod0 hm6)) (hcx.keep hm6) _ _ rfl rfl ?_;intro w7 hb7 hm7 hck;(try simp only [go_sem,simprocAttr,rvs,RV.ev,ln_blk (n:=3) hb7 rfl,one?]);exact ⟨.bad hne hck,hm7⟩
     | ok y1=>
       obtain ⟨t1,st1⟩:=y1;rw [hx1] at hr5;obtain ⟨⟨c5,rfl,hty5⟩,hc5⟩:=hr5;have g1:=expr_good hE hbo _ _ _ hi.good hx1;(try simp only [go_sem,simprocAttr]);refine s_new (n:=3) (vs:=c5) rfl hty5.len hty5.one ?_;intro w6 hb6 hm6 hs6;(try simp only [go_sem,simprocAttr,ln_blk (n:=3) hb6 hty5.len]);refine e_ixa (a:=⟨w2.heap.size,0,none⟩) (n:=(k:Int)) (len:=2) (el:=tyT) (sz:=3) rfl rfl rfl szTy (by omega) (by omega) ?_;have hz2:¬ M.two w2.heap.size:=two_no hc (by omega);have hbx:=hm6.at (hm5.at hi.box hz2) _root_.id;rw [Int.toNat_natCast,add_at,Nat.zero_add];(try simp only [go_sem,simprocAttr]);refine e_stg (cs:=cs) (off:=k*3) (vs:=c5) rfl rfl hbx hty5.len (by rw [hi.six];omega) hty5.one ?_;intro w7 hb7 hm7 hs7;have hw:IntKind.i64.wrap ((k:Int)+1)=((k+1:Nat):Int):=by rw [wrap_in (by omega) (by omega)];omega
       (try simp only [go_sem,simprocAttr,hw]);have hsp:=sp_mid (xs:=cs) (tl:=[]) (vs:=c5) (o:=k*3) (by rw [hty5.len,hi.six];omega);rw [List.append_nil] at hsp;rw [hsp,List.append_nil] at hb7;have hc7:=(hc5.keep hm6).side hm7 (fun b hb=>.inr hb) (list_no hc (by omega));obtain ⟨v5,e5,_⟩:=hty5.cells;have hl5:=hty5.len;refine ⟨2 - (k+1),by omega,k+1,rfl,by omega,ts++[t1],st1,_,⟨by simp [hi.len],?_,hc7,g1.2,hb7,?_,?_,?_⟩,rfl⟩
       · rw [List.take_succ_eq_append_getElem hka,exprs_app,hi.run];simp only [exprsS,hx1]
       · simp only [List.length_append,List.length_take,List.length_drop,hi.six,hl5];omega
       · intro i hi';rw [List.length_append,hi.len] at hi';simp only [List.length_cons,List.length_nil] at hi';rcases Nat.lt_or_ge i k with hik | hik
         · rw [List.append_assoc,List.getElem?_append_left (by rw [List.length_take,hi.six];omega),List.getElem?_take_of_lt (by omega),hi.kinds i (by rw [hi.len];exact hik)]
           congr 2
           rw [List.getElem_append_left (by rw [hi.len];exact hik)]
         · have hik:i=k:=by omega
           subst hik;rw [List.append_assoc,List.getElem?_append_right (by rw [List.length_take];omega),List.length_take,hi.six,show 3*i - min (i*3) 6=0 by omega,e5];simp only [List.cons_append,List.getElem?_cons_zero,Option.some.injEq]
           congr 1
           rw [List.getElem_append_right (by rw [hi.len];omega)];simp [hi.len]
       · exact (hm35.trans (mod0 hm6)).trans (hm7.weak (fun b h=>.inr h))
 · rintro ρ w4 ⟨ts,st',cs,hi,g3,g4,g6⟩;have hrun:=hi.run;rw [List.take_of_length_le (by omega)] at hrun;rw [hrun];obtain ⟨a,b,hab⟩:=list_two hi.len;subst hab;have k0:cs[0]? = some (I a.kind):=hi.kinds 0 (by simp);have k3:cs[3]? = some (I b.kind):=hi.kinds 1 (by simp);have hops:opS e.name [a,b]=if (a.kind != 1||b.kind != 1)=true then .error 83 else .ok ((opsS e.name).getD default):=rfl
   have c0:w4.cell? ⟨w2.heap.size,0,none⟩=some (I a.kind):=by rw [cell_of hi.box,List.getElem?_toArray];exact k0
   have c3:w4.cell? ⟨w2.heap.size,3,none⟩=some (I b.kind):=by rw [cell_of hi.box,List.getElem?_toArray];exact k3
   have hb1:=hi.mod.at hb1 (fun hh=>by rcases hh with h | h;exact two_no hc (Nat.le_refl _) h;omega);(try simp only [go_sem,simprocAttr,g3,g4,g6]);refine e_ixa (a:=⟨w2.heap.size,0,none⟩) (n:=0) (len:=2) (el:=tyT) (sz:=3) g6 rfl rfl szTy (by omega) (by omega) ?_;rw [show (0:Int).toNat*3=0 from rfl,add_zero'];(try simp only [go_sem,simprocAttr,g3,g4,g6,c0]);cases hka:a.kind != 1 with
   | true=>
     have hop':opS e.name [a,b] = .error 83:=by rw [hops,if_pos (by rw [hka];rfl)]
     rw [hop'];(try simp only [go_sem,simprocAttr,g3,g4,g6]);refine ref w4 _ _ _ _ hi.mod hi.ck _ _ rfl rfl ?_;intro w7 hb7 hm7 hck;(try simp only [go_sem,simprocAttr,rvs,RV.ev,ln_blk (n:=3) hb7 rfl,one?]);exact ⟨.bad (by decide) hck,hm7⟩
   | false=>
     (try simp only [go_sem,simprocAttr,g3,g4,g6]);refine raw_g ?_;refine e_ixa (a:=⟨w2.heap.size,0,none⟩) (n:=1) (len:=2) (el:=tyT) (sz:=3) g6 rfl rfl szTy (by omega) (by omega) ?_;rw [show (1:Int).toNat*3=3 from rfl,add_at,Nat.zero_add];(try simp only [go_sem,simprocAttr,g3,g4,g6,c3]);cases hkb:b.kind != 1 with
     | true=>
       have hop':opS e.name [a,b] = .error 83:=by rw [hops,if_pos (by rw [hkb];simp)]
       rw [hop'];(try simp only [go_sem,simprocAttr,g3,g4,g6]);refine ref w4 _ _ _ _ hi.mod hi.ck _ _ rfl rfl ?_;intro w7 hb7 hm7 hck;(try simp only [go_sem,simprocAttr,rvs,RV.ev,ln_blk (n:=3) hb7 rfl,one?]);exact ⟨.bad (by decide) hck,hm7⟩
     | false=>
       have hop':opS e.name [a,b] = .ok ((opsS e.name).getD default):=by rw [hops,if_neg (by rw [hka,hkb];simp)]
       rw [hop'];(try simp only [go_sem,simprocAttr,g3,g4,g6,cell_of hb1,Value.cells]);refine e_call (by rfl) ?_;refine (f_operators e.name).mono ?_;rintro _ w5 ⟨rfl,hm5⟩;obtain ⟨t,ht⟩:=Option.isSome_iff_exists.1 hop;have htl:t = .mk t.kind t.name []:=by
         unfold opsS at ht
         split at ht
         · cases ht;rfl
         · split at ht
           · cases ht;rfl
           · cases ht
       have hoc:opsC e.name=leafC t.kind t.name:=by rw [opsC,ht]
       rw [hoc,ht];(try simp only [go_sem,simprocAttr]);refine s_new (n:=3) (vs:=leafC t.kind t.name) rfl rfl (leafC_one _ _) ?_;intro w6 hb6 hm6 hs6;(try simp only [go_sem,simprocAttr,ln_blk (n:=3) hb6 rfl]);have hm46:=hm5.trans hm6;have hb2:=(hi.mod.trans (mod0 hm46)).at hb2 (fun hh=>by rcases hh with h | h;exact two_no hc z1 h;omega);refine e_sta (vs:=leafC t.kind t.name) (cs:=zTy) rfl rfl hb2 rfl rfl (leafC_one _ _) ?_;intro w7 hb7 hm7 hs7;(try simp only [go_sem,simprocAttr,rvs,RV.ev,ln_blk (n:=3) hb7 rfl,one?]);have hc6:=(hi.ck.keep hm46).sub (S:=And1 S w1.heap.size) (fun b hb=>.inl hb) (fun b hb=>.inl (hc.inS b hb));have hty:TyAt w6 (Out (And1 S w1.heap.size) w6) (leafC t.kind t.name) t:=by
         have:=leaf_at w6 (Out (And1 S w1.heap.size) w6) t.kind t.name;rw [← htl] at this;exact this
       exact ⟨res_ok hc6 hty hm7 hc.inS (list_no hc z1),((mod0 hm03:Mod M.two w w3).step (hi.mod.trans (mod0 hm46)) (fun b hb hl=>by rcases hb with h | h;exact h;omega)).step hm7 (fun b hb hl=>by omega)⟩
end
section
open Go Go.W
section
variable {w:World} {ρ:Go.W.Env} {K:Value→World→Prop} {S:Nat→Prop} {M:Ms} {E:Env} {bd:Cnt} {lc:Loc} {n:ByteArray} {m x y:Operand} {d:Option Nat} {ty:TypeId} {pos:String} {af:Array Edge}
theorem ml_ne (hc:CkAt w S M E bd lc):M.mb≠M.ml:=(Ms.ne hc.nodup).2.2.2.2.2
theorem e_putL {cs:List Value} {t:Ty} (hc:CkAt w S M E bd lc) (hm:(toO m).ev ρ=some (.map (some M.ml))) (hx:(toO x).ev ρ=some (.string n)) (hy:(toO y).ev ρ=some (.agg cs.toArray)) (ht:TyAt w (Out S w) cs t)
   (hk:∀ w',CkAt w' S M E bd (aput lc n t)→Mod M.two w w'→w'.heap.size=w.heap.size→K undef w'):Go.W.E.wp Tryz.prog w ρ K (.raw ⟨d,.mapUpdate 127 m x y,ty,pos,af,none⟩):=by
 refine e_muR (kt:=9) (et:=tyT) hm hx hy rfl rfl hc.locals ⟨cs,rfl,ht⟩ ?_;intro w' h1 h2 h3;have h2':Mod M.two w w':=h2.weak (fun b hb=>.inr hb);have hmS:=h2'.weak hc.two;exact hk w' (hc.upd h2' (hc.bound.mod h2 (fun e=>ml_ne hc e) (fun _ _ x=>x)) (MapR.mod h1 (Mod.refl (fun _=>False) w') _root_.id (fun _ _ x=>x.up hmS out_not (out_up hmS)))) h2' h3
theorem e_delL {at':Array TypeId} (hat:at'[0]? = some 127) (hc:CkAt w S M E bd lc) (hm:(toO m).ev ρ=some (.map (some M.ml))) (hx:(toO x).ev ρ=some (.string n))
   (hk:∀ w',CkAt w' S M E bd (adel lc n)→Mod M.two w w'→w'.heap.size=w.heap.size→K (.tuple #[]) w'):Go.W.E.wp Tryz.prog w ρ K (.raw ⟨d,.call { callee:=.builtin .delete,args:=#[m,x],argTypes:=at'},ty,pos,af,none⟩):=by
 refine e_dlR (kt:=9) (et:=tyT) hat hm hx rfl rfl hc.locals ?_;intro w' h1 h2 h3;have h2':Mod M.two w w':=h2.weak (fun b hb=>.inr hb);have hmS:=h2'.weak hc.two;exact hk w' (hc.upd h2' (hc.bound.mod h2 (fun e=>ml_ne hc e) (fun _ _ x=>x)) (MapR.mod h1 (Mod.refl (fun _=>False) w') _root_.id (fun _ _ x=>x.up hmS out_not (out_up hmS)))) h2' h3
theorem e_putN (hc:CkAt w S M E bd lc) (hm:(toO m).ev ρ=some (.map (some M.mb))) (hx:(toO x).ev ρ=some (.string n)) (hy:(toO y).ev ρ=some (I 1))
   (hk:∀ w',CkAt w' S M E (aput bd n 1) lc→Mod M.two w w'→w'.heap.size=w.heap.size→K undef w'):Go.W.E.wp Tryz.prog w ρ K (.raw ⟨d,.mapUpdate 90 m x y,ty,pos,af,none⟩):=by
 refine e_muR (kt:=9) (et:=3) hm hx hy rfl rfl hc.bound (show RI (I 1) 1 from rfl) ?_;intro w' h1 h2 h3;have h2':Mod M.two w w':=h2.weak (fun b hb=>.inl hb);exact hk w' (hc.upd h2' h1 (hc.locals.ty h2 (fun x hx=>by subst hx;exact hc.two _ (.inl rfl)) (fun e=>ml_ne hc e.symm))) h2' h3
end
theorem bd_cells {w:World} {B:Nat→Prop} {b:Bd} {cs:List Value} {bb:Nat} {T:Nat} (h:BdAt w B cs b) (hb:w.heap[bb]? = some (.cells cs.toArray T (0,0))) :
   ∃ tc ec,cs = .string b.name::(tc++ec)∧TyAt w B tc b.type∧ExAt w B ec b.value∧vLN w 3 (.pointer (some ⟨bb,1,none⟩))=some (.agg tc.toArray)∧vLN w 7 (.pointer (some ⟨bb,4,none⟩))=some (.agg ec.toArray)∧w.cell? ⟨bb,0,none⟩=some (.string b.name)∧cs.length=11:=by
 obtain ⟨tc,ec,rfl,hrt,hre,hnm⟩:=h;have l1:=hrt.len;have l2:=hre.len;refine ⟨tc,ec,rfl,hrt,hre,?_,?_,by rw [cell_of hb];simp,by simp;omega⟩
 · have:=ln_of (off:=1) (n:=3) hb (by simp;omega)
   rwa [List.drop_succ_cons,List.drop_zero,List.take_left' l1] at this
 · have:=ln_of (off:=4) (n:=7) hb (by simp;omega)
   rwa [List.drop_succ_cons,List.drop_left' l1,List.take_of_length_le (by omega)] at this
theorem BdAt.up {w w':World} {B B' S:Nat→Prop} {cs:List Value} {b:Bd} (h:BdAt w B cs b) (hm:Mod S w w') (hd:∀ b,B b→¬ S b) (hB:∀ b,B b→B' b):BdAt w' B' cs b:=by
 obtain ⟨tc,ec,e,h1,h2,hn⟩:=h;exact ⟨tc,ec,e,h1.up hm hd hB,h2.up hm hd hB,hn⟩
theorem AlAt.up {w w':World} {B B' S:Nat→Prop} {cs:List Value} {a:Al} (h:AlAt w B cs a) (hm:Mod S w w') (hd:∀ b,B b→¬ S b) (hB:∀ b,B b→B' b):AlAt w' B' cs a:=by
 obtain ⟨vv,ec,e,h1,h2⟩:=h;exact ⟨vv,ec,e,h1.up hm hd hB (fun _ _ h=>h),h2.up hm hd hB⟩
theorem BdAt.keep {w w':World} {S:Nat→Prop} {cs:List Value} {b:Bd} (h:BdAt w (Out S w) cs b) (hm:Mod S w w'):BdAt w' (Out S w') cs b:=h.up hm out_not (out_up hm)
end
section
open Go Go.W
theorem f_lam {E:Env} (hE:GoodE E) (hbo:badData E boolN 0=false) {e x:Ex} {b:Bd} (hx0:e.args=[x]) (hb0:e.binds=[b]) (ihx:ExprC E x) {w:World} {S:Nat→Prop} {M:Ms} {st:St} {cs:List Value} (hc:CkAt w S M E st.1 st.2) (hg:GoodL E st.2) (h:ExAt w (Out S w) cs e) :
   CallsR Tryz.prog 68 [ptr M.c,.agg cs.toArray] w fun r w'=>ResE w' S M E r (match bindS E b st.1 with
       | .error x=>.error x
       | .ok bd=>match exprsS E e.args (bd,aput st.2 b.name b.type) with
         | .error x=>.error x
         | .ok y=>(lamS b y.1).map (fun t=>(t,(y.2.1,adel y.2.2 b.name))))∧Mod M.two w w':=by
 obtain ⟨vt,va,vb,vl,rfl,ht,ha,hb,hl⟩:=h.parts;obtain ⟨aa,ca,rfl⟩:=each_sl ha;obtain ⟨ab,cb,rfl⟩:=each_sl hb;refine fit68.calls rfl ?_;unfold ir68;(try simp only [go_sem,simprocAttr]);refine e_bx rfl ?_;intro w1 hb1 hm1 hs1;(try simp only [go_sem,simprocAttr]);refine e_al ?_;intro w2 hb2 hm2 hs2;have hb1:=hm2.at hb1 _root_.id;have hm02:=hm1.trans hm2;have z1:=hm1.size;have hc2:CkAt w2 (And1 S w1.heap.size) M E st.1 st.2:=hc.ext hm02 (and1_new z1) (fun b hb=>.inl hb) (fun b hb=>by
   rcases hb with h | h
   · have:=hc.lt b h;omega
   · omega)
 have S2:=hc2.two;have lx:e.args.length=1:=by rw [hx0];rfl
 have lb:e.binds.length=1:=by rw [hb0];rfl
 have ha2:EachAt w2 (.slice aa e.args.length ca) 7 (Out (And1 S w1.heap.size) w2) (ExAt w2 (Out (And1 S w1.heap.size) w2)) e.args:=ha.up hm02 nof (out_ext (mod0 hm02) (and1_new z1)) (fun _ _ h=>h.ext (mod0 hm02) (and1_new z1));have hb2':EachAt w2 (.slice ab e.binds.length cb) 11 (Out (And1 S w1.heap.size) w2) (BdAt w2 (Out (And1 S w1.heap.size) w2)) e.binds:=hb.up hm02 nof (out_ext (mod0 hm02) (and1_new z1)) (fun _ _ h=>h.up hm02 nof (out_ext (mod0 hm02) (and1_new z1)));have b1:(0:Int)≤0∧(0:Int) < e.args.length:=by omega
 have b2:(0:Int)≤0∧(0:Int) < e.binds.length:=by omega
 obtain ⟨adb,c2,rb,e2,hbd,lrb,hlnb,_⟩:=each_at hb2' (i:=0) (by omega);obtain ⟨rfl,-,-⟩:=tup_inj e2;have exb:e.binds[0]'(by omega)=b:=by simp [hb0]
 have ex0:e.args[0]'(by omega)=x:=by simp [hx0]
 rw [exb] at hbd;rw [Nat.zero_mul,add_zero'] at hlnb;(try simp only [go_sem,simprocAttr,zb4,zb6,cell_of hb1,Value.cells,b2,Nat.zero_mul,hlnb]);refine s_new (n:=11) (vs:=rb) rfl lrb hbd.one ?_;intro w3 hb3 hm3 hs3;have hc3:=hc2.keep hm3;(try simp only [go_sem,simprocAttr,ln_blk (n:=11) hb3 lrb]);refine e_call (by rfl) ?_;refine (f_bind (B:=fun _=>False) b hc3 (hbd.keep (mod0 hm3))).mono ?_;rintro r4 w4 ⟨hr4,hm4⟩;have hm24:Mod M.two w2 w4:=(mod0 hm3).trans hm4;cases hbi:bindS E b st.1 with
 | error e4=>
   rw [hbi] at hr4;obtain ⟨rfl,hne,bd4,hcx⟩:=hr4;have hne':(e4 != 0)=true:=by simpa using hne
   (try simp only [go_sem,simprocAttr,hne']);refine e_ref hc z1 (hm24.at hb2 (two_no hc z1)) ((mod0 hm02).trans hm24) hcx rfl rfl ?_;intro w5 hb5 hm5 hck;(try simp only [go_sem,simprocAttr,rvs,RV.ev,ln_blk (n:=3) hb5 rfl,one?]);exact ⟨.bad hne hck,hm5⟩
 | ok bd=>
   rw [hbi] at hr4;obtain ⟨rfl,hc4⟩:=hr4;have hgb:=bind_good hbi;have h3no:¬ M.two w2.heap.size:=two_no hc (by omega);have hb3:=hm4.at hb3 h3no;have d4:Mod (fun _=>False) w4 w4.drew:=(Mod.refl _ _).drew;have hc4d:=hc4.keep d4;have hbd4:=hbd.keep ((hm24.trans (mod0 d4)).weak S2);obtain ⟨tc,ec,rfl,htc,hec,k1,k2,k0,kl⟩:=bd_cells hbd4 hb3;have k1':vLN w4 3 (.pointer (some ⟨w2.heap.size,1,none⟩))=some (.agg tc.toArray):=by rw [← drew_ln];exact k1
   have k0':w4.cell? ⟨w2.heap.size,0,none⟩=some (.string b.name):=k0;(try simp only [go_sem,simprocAttr,cell_of hc4.box,k0',drew_ln,k1']);refine e_putL (n:=b.name) hc4d rfl rfl rfl htc ?_;intro w5 hc5 hm5 hs5;have hm25:Mod M.two w2 w5:=hm24.trans ((mod0 d4).trans hm5);have hb1:=hm25.at hb1 (two_no hc (Nat.le_refl _));have ha5:=ha2.up hm25 (fun b hb hh=>hb.2 (S2 b hh)) (out_up (hm25.weak S2)) (fun _ _ h=>h.keep (hm25.weak S2));obtain ⟨ad,c1,r1,e1,hx,hlnx⟩:=arg_at ha5 (i:=0) (by omega);obtain ⟨rfl,-,-⟩:=tup_inj e1;rw [ex0] at hx;rw [Nat.zero_mul,add_zero'] at hlnx;have hg5:GoodL E (aput st.2 b.name b.type):=hg.put hgb;rw [hx0];simp only [exprsS];(try simp only [go_sem,simprocAttr,zb4,zb6,cell_of hb1,Value.cells,b1,Nat.zero_mul,hlnx]);refine e_call (by rfl) ?_;refine (ihx (st:=(bd,aput st.2 b.name b.type)) hc5 hg5 hx).mono ?_;rintro r6 w6 ⟨hr6,hm6⟩;have hm26:=hm25.trans hm6;have hb3:=(hm5.trans hm6).at hb3 h3no;cases hx1:exprS E x (bd,aput st.2 b.name b.type) with
   | error e6=>
     rw [hx1] at hr6;obtain ⟨cz,hz3,hz1,rfl,hne,bd6,lc6,hc6⟩:=hr6;(try simp only [go_sem,simprocAttr]);refine s_new (n:=3) (vs:=cz) rfl hz3 hz1 ?_;intro w7 hb7 hm7 hs7;have hc7:=(hc6.keep hm7).keep (Mod.refl _ _).drew;have hb3:=hm7.at hb3 _root_.id;have k0'':w7.cell? ⟨w2.heap.size,0,none⟩=some (.string b.name):=by rw [cell_of hb3];simp
     (try simp only [go_sem,simprocAttr,cell_of hc7.box,cell_of (hc6.keep hm7).box,k0'']);refine e_delL (n:=b.name) rfl hc7 rfl rfl ?_;intro w8 hc8 hm8 hs8;have hm28:Mod M.two w2 w8:=(hm26.trans (mod0 hm7)).trans hm8.of_drew;have hne':(e6 != 0)=true:=by simpa using hne
     (try simp only [go_sem,simprocAttr,hne']);refine e_ref hc z1 (hm28.at hb2 (two_no hc z1)) ((mod0 hm02).trans hm28) hc8 rfl rfl ?_;intro w9 hb9 hm9 hck;(try simp only [go_sem,simprocAttr,rvs,RV.ev,ln_blk (n:=3) hb9 rfl,one?]);exact ⟨.bad hne hck,hm9⟩
   | ok y1=>
     obtain ⟨t1,st1⟩:=y1;rw [hx1] at hr6;obtain ⟨⟨c6,rfl,hty6⟩,hc6⟩:=hr6;have g6:=expr_good hE hbo x _ _ hg5 hx1;(try simp only [go_sem,simprocAttr]);refine s_new (n:=3) (vs:=c6) rfl hty6.len hty6.one ?_;intro w7 hb7 hm7 hs7;have hc7:=(hc6.keep hm7).keep (Mod.refl _ _).drew;have hb3:=hm7.at hb3 _root_.id;have k0'':w7.cell? ⟨w2.heap.size,0,none⟩=some (.string b.name):=by rw [cell_of hb3];simp
     (try simp only [go_sem,simprocAttr,cell_of hc7.box,cell_of (hc6.keep hm7).box,k0'']);refine e_delL (n:=b.name) rfl hc7 rfl rfl ?_;intro w8 hc8 hm8 hs8;have hm78:Mod M.two w7 w8:=hm8.of_drew;have hm48:Mod M.two w4 w8:=((mod0 d4).trans hm5).trans (hm6.trans ((mod0 hm7).trans hm78));have hm28:Mod M.two w2 w8:=hm24.trans hm48;have hb3:=hm78.at hb3 h3no;have hb7:=hm78.at hb7 (two_no hc (by have:=hm26.size;omega));have hbd8:=hbd4.keep (((hm5.trans hm6).trans ((mod0 hm7).trans hm78)).weak S2);have hty8:TyAt w8 (Out (And1 S w1.heap.size) w8) c6 t1:=(hty6.keep (mod0 hm7)).keep (hm78.weak S2);obtain ⟨tc',ec',e8,htc8,_,k18,_,_,_⟩:=bd_cells hbd8 hb3;have e8:tc=tc':=by
       have:=congrArg (fun l=>(l.drop 1).take 3) e8
       simpa [List.take_left' htc.len,List.take_left' htc8.len] using this
     subst e8;have hlam:lamS b [t1]=if Wr (Wr (b.type.size+t1.size)+1) > 500 then .error 83 else .ok (funT b.type t1):=rfl
     have hb7d:w8.drew.heap[w6.heap.size]? = _:=hb7;(try simp only [go_sem,simprocAttr,k18,drew_ln,ln_blk (n:=3) hb7 hty6.len]);refine e_call (by rfl) ?_;refine (f_sizeType b.type (htc8.mod (Mod.refl (fun _=>False) w8).drew nof)).mono ?_;rintro _ w9 ⟨rfl,hm9⟩;have hm9:=hm9.of_drew;(try simp only [go_sem,simprocAttr]);refine ⟨by rw [hm9.old _ (lt_of_heap hb7) _root_.id],?_⟩;refine e_call (by rfl) ?_;refine (f_sizeType t1 (hty8.mod hm9 nof)).mono ?_;rintro _ w10 ⟨rfl,hm10⟩;have hm8a:Mod (fun _=>False) w8 w10:=hm9.trans hm10;have hc10:=hc8.keep hm8a;(try simp only [go_sem,simprocAttr]);cases hgt:decide (IntKind.i64.wrap (IntKind.i64.wrap (b.type.size+t1.size)+1) > 500) with
     | true=>
       have hlam':lamS b [t1] = .error 83:=by rw [hlam,if_pos (of_decide_eq_true hgt)]
       rw [hlam'];(try simp only [go_sem,simprocAttr]);refine e_ref hc z1 ((hm28.trans (mod0 hm8a)).at hb2 (two_no hc z1)) ((mod0 hm02).trans (hm28.trans (mod0 hm8a))) hc10 rfl rfl ?_;intro w11 hb11 hm11 hck;(try simp only [go_sem,simprocAttr,rvs,RV.ev,ln_blk (n:=3) hb11 rfl,one?]);exact ⟨.bad (by decide) hck,hm11⟩
     | false=>
       have hlam':lamS b [t1] = .ok (funT b.type t1):=by rw [hlam,if_neg (of_decide_eq_false hgt)]
       rw [hlam'];obtain ⟨tc'',ec'',e10,htc10,_,k110,_,_,_⟩:=bd_cells (hbd8.keep (mod0 hm8a)) (hm8a.at hb3 _root_.id);have e10:tc=tc'':=by
         have:=congrArg (fun l=>(l.drop 1).take 3) e10
         simpa [List.take_left' htc.len,List.take_left' htc10.len] using this
       subst e10;(try simp only [go_sem,simprocAttr,k110,ln_blk (n:=3) (hm8a.at hb7 _root_.id) hty6.len]);refine e_call (by rfl) ?_;refine (f_fun (fun b hb=>hc10.lt b hb) htc10 (hty8.keep (mod0 hm8a))).mono ?_;rintro _ w11 ⟨⟨cf,rfl,htf⟩,hm11⟩;have hm211:=hm28.trans (mod0 (hm8a.trans hm11));(try simp only [go_sem,simprocAttr]);refine e_sta (cs:=zTy) rfl rfl (hm211.at hb2 (two_no hc z1)) htf.len rfl htf.one ?_;intro w12 hb12 hm12 hs12;(try simp only [go_sem,simprocAttr,rvs,RV.ev,ln_blk (n:=3) hb12 htf.len,one?]);exact ⟨res_ok (st:=(st1.1,adel st1.2 b.name)) (hc10.keep hm11) htf hm12 hc.inS (list_no hc z1),((mod0 hm02).trans hm211).step hm12 (fun b hb hl=>by omega)⟩
end
section
open Go Go.W
theorem putB_at {l:List Bd} {i:Nat} (hi:i < l.length) (lc:Loc):putB (l.drop i) lc=putB (l.drop (i+1)) (aput lc l[i].name l[i].type):=by rw [List.drop_eq_getElem_cons hi,putB]
theorem bindsS_at {E:Env} {l:List Bd} {i:Nat} (hi:i < l.length) (bd:Cnt):bindsS E (l.drop i) bd=(match bindS E l[i] bd with | .error x=>.error x | .ok bd'=>bindsS E (l.drop (i+1)) bd'):=by rw [List.drop_eq_getElem_cons hi,bindsS];try rfl
theorem bdsS_at {E:Env} {l:List Bd} {i:Nat} (hi:i < l.length) (st:St):bdsS E (l.drop i) st=(match exprS E l[i].value st with | .error x=>.error x | .ok y=>if sameT y.1 l[i].type=true then bdsS E (l.drop (i+1)) y.2 else .error 83):=by rw [List.drop_eq_getElem_cons hi,bdsS_cons];try rfl
theorem delB_at {l:List Bd} {i:Nat} (hi:i < l.length) (lc:Loc):delB (l.drop i) lc=delB (l.drop (i+1)) (adel lc l[i].name):=by rw [List.drop_eq_getElem_cons hi,delB,List.map_cons,delN,delB]
theorem fn_let1:Fn 89:=⟨_,rfl,rfl,rfl⟩
theorem f_let1 {E:Env} {e:Ex} {w:World} {S:Nat→Prop} {M:Ms} {bd:Cnt} {lc:Loc} {cs:List Value} {b2 b3:Nat} (hc:CkAt w S M E bd lc) (h:ExAt w (Out S w) cs e) (hb3:w.heap[b3]? = some (.cells cs.toArray 47 (0,0))) (hb2:w.heap[b2]? = some (.cells #[ptr M.c] 98 (0,0))) (n3:¬ M.two b3) (n2:¬ M.two b2) :
   CallsR Tryz.prog 89 [ptr b3,ptr b2] w fun r w'=>CkAt w' S M E bd (putB e.binds lc)∧Mod M.two w w':=by
 obtain ⟨vt,va,vb,vl,rfl,ht,ha,hb,hl⟩:=h.parts;obtain ⟨ab,cb,rfl⟩:=each_sl hb;refine fit89.calls rfl ?_;unfold ir89;(try simp only [go_sem,simprocAttr,cell_of hb3]);have S2:=hc.two;refine ir_each (PP:=fun w'=>BdAt w' (Out S w)) (l:=e.binds) (B:=Out S w) (fun k ρ w'=>k≤e.binds.length∧Mod M.two w w'∧(∃ lck,CkAt w' S M E bd lck∧putB (e.binds.drop k) lck=putB e.binds lc)∧ρ=[(1,ptr b2),(5,.slice ab e.binds.length cb),(6,I e.binds.length),(7,I k)])
   ⟨by omega,.refl _ _,⟨lc,hc,rfl⟩,rfl⟩ hb ?_ (fun _ _ _ h=>h.one) rfl ?_ ?_
 · rintro k _ w2 ⟨hk,hm2,_,rfl⟩;exact ⟨⟨hb.up hm2 (fun b hb hh=>hb.2 (S2 b hh)) (fun _ h=>h) (fun _ _ h=>h.up hm2 (fun b hb hh=>hb.2 (S2 b hh)) (fun _ h=>h)),hk⟩,rfl,rfl,rfl⟩
 · rintro k _ w2 hk w3 r b pv ⟨_,hm2,⟨lck,hck,hput⟩,rfl⟩ hr hl3 hb4 hm3 hnb;have hr3:BdAt w3.drew (Out S w3.drew) r e.binds[k]:=hr.up hm3.drew nof (fun b hb=>⟨by have:=hb.1;have:=hm2.size;have:=hm3.size;have e:w3.drew.heap.size=w3.heap.size:=rfl;omega,hb.2⟩);have hb4d:w3.drew.heap[b]? = _:=hb4;obtain ⟨tc,ec,rfl,htc,hec,k1,k2,k0,kl⟩:=bd_cells hr3 hb4d;have hc3:=hck.keep hm3;have hb2':=(hm2.trans (mod0 hm3)).at hb2 n2;have k1':vLN w3 3 (.pointer (some ⟨b,1,none⟩))=some (.agg tc.toArray):=by rw [← drew_ln];exact k1
   have k0':w3.cell? ⟨b,0,none⟩=some (.string e.binds[k].name):=k0;(try simp only [go_sem,simprocAttr,cell_of hb2',cell_of hc3.box,k0',drew_ln,k1']);refine e_putL (n:=e.binds[k].name) (hc3.keep (Mod.refl _ _).drew) rfl rfl rfl htc ?_;intro w5 hc5 hm5 hs5;(try simp only [go_sem,simprocAttr]);exact ⟨hk,(hm2.trans (mod0 hm3)).trans hm5.of_drew,_,hc5,by rw [← hput,putB_at hk]⟩
 · rintro _ w2 ⟨_,hm2,⟨lck,hck,hput⟩,rfl⟩;rw [List.drop_length,putB] at hput;subst hput;(try simp only [go_sem,simprocAttr]);exact ⟨hck,hm2⟩
def Kept (w:World) (S:Nat→Prop) (M:Ms) (E:Env) (cz:List Value) (u:Value) (x:Except Int (Ty×St)):Prop:=match x with
 | .error e=>u=I e∧e≠0∧∃ bd lc,CkAt w S M E bd lc
 | .ok y=>u=I 0∧TyAt w (Out S w) cz y.1∧CkAt w S M E y.2.1 y.2.2
theorem f_let {E:Env} (hE:GoodE E) (hbo:badData E boolN 0=false) {e x:Ex} (hx0:e.args=[x]) (ihx:ExprC E x) (ihb:∀ b∈e.binds,ExprC E b.value) {w:World} {S:Nat→Prop} {M:Ms} {st:St} {cs:List Value} (hc:CkAt w S M E st.1 st.2) (hg:GoodL E st.2) (h:ExAt w (Out S w) cs e) :
   CallsR Tryz.prog 69 [ptr M.c,.agg cs.toArray] w fun r w'=>ResE w' S M E r (match bindsS E e.binds st.1 with
     | .error x=>.error x
     | .ok bd=>match bdsS E e.binds (bd,if e.kind=7 then putB e.binds st.2 else st.2) with
       | .error x=>.error x
       | .ok st2=>match exprsS E e.args (st2.1,putB e.binds st2.2) with
         | .error x=>.error x
         | .ok y=>.ok (y.1.headD default,(y.2.1,delB e.binds y.2.2)))∧Mod M.two w w':=by
 obtain ⟨vt,va,vb,vl,rfl,ht,ha,hb,hl⟩:=h.parts;obtain ⟨aa,ca,rfl⟩:=each_sl ha;obtain ⟨ab,cb,rfl⟩:=each_sl hb;obtain ⟨fn1,hfn,hbody,hname⟩:=fn_let1.ok;refine fit69.calls rfl ?_;unfold ir69;(try simp only [go_sem,Nat.reduceAdd,Nat.reduceEqDiff,Nat.reduceLT,Nat.reduceLeDiff,Nat.reduceMul,reduceCtorEq,↓reduceIte]);refine e_bx rfl ?_;intro wa hba hma hsa;(try simp only [go_sem,Nat.reduceAdd,Nat.reduceEqDiff,Nat.reduceLT,Nat.reduceLeDiff,Nat.reduceMul,reduceCtorEq,↓reduceIte]);refine e_bx rfl ?_;intro wb hbb hmb hsb;(try simp only [go_sem,Nat.reduceAdd,Nat.reduceEqDiff,Nat.reduceLT,Nat.reduceLeDiff,Nat.reduceMul,reduceCtorEq,↓reduceIte]);refine e_al ?_;intro w3 hb4 hmc hsc;have hb3:=hmc.at hbb _root_.id;have hb2:=(hmb.trans hmc).at hba _root_.id;have hm03:=hma.trans (hmb.trans hmc);have za:=hma.size;have zb:=hmb.size;have zw:w.heap.size≤wb.heap.size:=by omega
 have hc3:CkAt w3 (And1 S wb.heap.size) M E st.1 st.2:=hc.ext hm03 (and1_new zw) (fun b hb=>.inl hb) (fun b hb=>by
   rcases hb with h | h
   · have:=hc.lt b h;omega
   · omega)
 have S3:=hc3.two;have n2:¬ M.two w.heap.size:=two_no hc (Nat.le_refl _);have n3:¬ M.two wa.heap.size:=two_no hc za;have n4:¬ M.two wb.heap.size:=two_no hc zw;have lx:e.args.length=1:=by rw [hx0];rfl
 have he3:ExAt w3 (Out (And1 S wb.heap.size) w3) [I e.kind,.string e.name,I e.num,vt,.slice aa e.args.length ca,.slice ab e.binds.length cb,vl] e:=h.ext (mod0 hm03) (and1_new zw);have ha3:EachAt w3 (.slice aa e.args.length ca) 7 (Out (And1 S wb.heap.size) w3) (ExAt w3 (Out (And1 S wb.heap.size) w3)) e.args:=ha.up hm03 nof (out_ext (mod0 hm03) (and1_new zw)) (fun _ _ h=>h.ext (mod0 hm03) (and1_new zw));have hb3':EachAt w3 (.slice ab e.binds.length cb) 11 (Out (And1 S wb.heap.size) w3) (BdAt w3 (Out (And1 S wb.heap.size) w3)) e.binds:=hb.up hm03 nof (out_ext (mod0 hm03) (and1_new zw)) (fun _ _ h=>h.up hm03 nof (out_ext (mod0 hm03) (and1_new zw)));have later:∀ {w':World},Mod M.two w3 w'→EachAt w' (.slice ab e.binds.length cb) 11 (Out (And1 S wb.heap.size) w3) (BdAt w' (Out (And1 S wb.heap.size) w3)) e.binds:=fun hm=>
   hb3'.up hm (fun b hb hh=>hb.2 (S3 b hh)) (fun _ h=>h) (fun _ _ h=>h.up hm (fun b hb hh=>hb.2 (S3 b hh)) (fun _ h=>h))
 have now:∀ {w' w'':World} {r:List Value} {b:Bd},Mod M.two w3 w'→Mod (fun _=>False) w' w''→BdAt w' (Out (And1 S wb.heap.size) w3) r b→BdAt w'' (Out (And1 S wb.heap.size) w'') r b:=fun hm hm' hr=>
   hr.up hm' nof (fun b hb=>⟨by have:=hb.1;have:=hm.size;have:=hm'.size;omega,hb.2⟩)
 (try simp only [go_sem,Nat.reduceAdd,Nat.reduceEqDiff,Nat.reduceLT,Nat.reduceLeDiff,Nat.reduceMul,reduceCtorEq,↓reduceIte,cell_of hb3,Value.cells]);refine ir_each (PP:=fun w'=>BdAt w' (Out (And1 S wb.heap.size) w3)) (l:=e.binds) (B:=Out (And1 S wb.heap.size) w3) (fun k ρ w'=>k≤e.binds.length∧Mod M.two w3 w'∧(∃ bdk,CkAt w' (And1 S wb.heap.size) M E bdk st.2∧bindsS E (e.binds.drop k) bdk=bindsS E e.binds st.1)∧ρ=[(2,ptr w.heap.size),(3,ptr wa.heap.size),(4,ptr wb.heap.size),(19,.slice ab e.binds.length cb),(20,I e.binds.length),(21,I k)])
   ⟨by omega,.refl _ _,⟨st.1,hc3,rfl⟩,rfl⟩ hb3' ?_ (fun _ _ _ h=>h.one) rfl ?_ ?_
 · rintro k _ w4 ⟨hk,hm4,_,rfl⟩;exact ⟨⟨later hm4,hk⟩,rfl,rfl,rfl⟩
 · rintro k _ w4 hk w5 r b7 pv ⟨_,hm4,⟨bdk,hck,hbs⟩,rfl⟩ hr hl3 hb7 hm5 _;have hm35:=hm4.trans (mod0 hm5);(try simp only [go_sem,Nat.reduceAdd,Nat.reduceEqDiff,Nat.reduceLT,Nat.reduceLeDiff,Nat.reduceMul,reduceCtorEq,↓reduceIte,cell_of (hm35.at hb2 n2),Value.cells,ln_blk (n:=11) hb7 hl3]);refine e_call (by rfl) ?_;refine (f_bind (B:=fun _=>False) e.binds[k] (hck.keep hm5) (now hm4 hm5 hr)).mono ?_;rintro r6 w6 ⟨hr6,hm6⟩;have hm36:=hm35.trans hm6;rw [bindsS_at hk] at hbs;cases hbi:bindS E e.binds[k] bdk with
   | error e4=>
     rw [hbi] at hr6 hbs;obtain ⟨rfl,hne,bd4,hcx⟩:=hr6;have hne':(e4 != 0)=true:=by simpa using hne
     rw [← hbs];(try simp only [go_sem,Nat.reduceAdd,Nat.reduceEqDiff,Nat.reduceLT,Nat.reduceLeDiff,Nat.reduceMul,reduceCtorEq,↓reduceIte,hne']);refine e_ref hc zw (hm36.at hb4 n4) ((mod0 hm03).trans hm36) hcx rfl rfl ?_;intro w7 hb7 hm7 hck;(try simp only [go_sem,Nat.reduceAdd,Nat.reduceEqDiff,Nat.reduceLT,Nat.reduceLeDiff,Nat.reduceMul,reduceCtorEq,↓reduceIte,rvs,RV.ev,ln_blk (n:=3) hb7 rfl,one?]);exact ⟨.bad hne hck,hm7⟩
   | ok bd'=>
     rw [hbi] at hr6 hbs;obtain ⟨rfl,hc6⟩:=hr6;(try simp only [go_sem,Nat.reduceAdd,Nat.reduceEqDiff,Nat.reduceLT,Nat.reduceLeDiff,Nat.reduceMul,reduceCtorEq,↓reduceIte]);exact ⟨hk,hm36,bd',hc6,hbs⟩
 rintro _ w4 ⟨_,hm4,⟨bd,hc4,hbs⟩,rfl⟩;rw [List.drop_length,bindsS] at hbs;rw [← hbs];have hgb:=binds_good e.binds hbs.symm;have hb3:=hm4.at hb3 n3;(try simp only [go_sem,Nat.reduceAdd,Nat.reduceEqDiff,Nat.reduceLT,Nat.reduceLeDiff,Nat.reduceMul,reduceCtorEq,↓reduceIte,cell_of hb3,Value.cells]);refine ir_then (fun ρ w'=>Mod M.two w3 w'∧CkAt w' (And1 S wb.heap.size) M E bd (if e.kind=7 then putB e.binds st.2 else st.2)∧ρ.get 2=some (ptr w.heap.size)∧ρ.get 3=some (ptr wa.heap.size)∧ρ.get 4=some (ptr wb.heap.size)∧ρ.get 9=some (.func (.func 89) #[] #[ptr wa.heap.size,ptr w.heap.size])) ?_ ?_
 · cases hk7:e.kind == 7 with
   | false=>(try simp only [go_sem,Nat.reduceAdd,Nat.reduceEqDiff,Nat.reduceLT,Nat.reduceLeDiff,Nat.reduceMul,reduceCtorEq,↓reduceIte]);exact ⟨hm4,by rw [if_neg (by simpa using hk7)];exact hc4⟩
   | true=>
     (try simp only [go_sem,Nat.reduceAdd,Nat.reduceEqDiff,Nat.reduceLT,Nat.reduceLeDiff,Nat.reduceMul,reduceCtorEq,↓reduceIte]);refine e_cv (f:=89) (cap:=#[ptr wa.heap.size,ptr w.heap.size]) rfl (by rfl) hfn hbody hname ?_;refine (f_let1 hc4 (he3.keep (hm4.weak S3)) hb3 (hm4.at hb2 n2) n3 n2).mono ?_;rintro r5 w5 ⟨hc5,hm5⟩;(try simp only [go_sem,Nat.reduceAdd,Nat.reduceEqDiff,Nat.reduceLT,Nat.reduceLeDiff,Nat.reduceMul,reduceCtorEq,↓reduceIte]);exact ⟨hm4.trans hm5,by rw [if_pos (by simpa using hk7)];exact hc5⟩
 rintro ρ w5 ⟨hm5,hc5,g2,g3,g4,g9⟩;generalize hlc1:(if e.kind=7 then putB e.binds st.2 else st.2)=lc1 at hc5;have hg5:GoodL E lc1:=by
   rw [← hlc1];split
   · exact GoodL.putB _ hg hgb
   · exact hg
 have hb3:=hm5.at (w':=w5) (show w3.heap[wa.heap.size]? = _ from hmc.at hbb _root_.id) n3;(try simp only [go_sem,Nat.reduceAdd,Nat.reduceEqDiff,Nat.reduceLT,Nat.reduceLeDiff,Nat.reduceMul,reduceCtorEq,↓reduceIte,g2,g3,g4,g9,cell_of hb3,Value.cells]);refine ir_each (PP:=fun w'=>BdAt w' (Out (And1 S wb.heap.size) w3)) (l:=e.binds) (B:=Out (And1 S wb.heap.size) w3) (fun k ρ w'=>k≤e.binds.length∧Mod M.two w3 w'∧(∃ stk:St,CkAt w' (And1 S wb.heap.size) M E stk.1 stk.2∧GoodL E stk.2∧bdsS E (e.binds.drop k) stk=bdsS E e.binds (bd,lc1))∧ρ=[(2,ptr w.heap.size),(3,ptr wa.heap.size),(4,ptr wb.heap.size),(9,.func (.func 89) #[] #[ptr wa.heap.size,ptr w.heap.size]),(40,.slice ab e.binds.length cb),(41,I e.binds.length),(42,I k)])
   ⟨by omega,hm5,⟨(bd,lc1),hc5,hg5,rfl⟩,rfl⟩ hb3' ?_ (fun _ _ _ h=>h.one) rfl ?_ ?_
 · rintro k _ w6 ⟨hk,hm6,_,rfl⟩;exact ⟨⟨later hm6,hk⟩,rfl,rfl,rfl⟩
 · rintro k _ w6 hk w7 r b11 pv ⟨_,hm6,⟨stk,hck,hgk,hbd⟩,rfl⟩ hr hl3 hb11 hm7 hb11n;have hm37:=hm6.trans (mod0 hm7);have hr7:=now hm6 hm7 hr;obtain ⟨tc,ec,rfl,htc,hec,k1,k2,k0,kl⟩:=bd_cells hr7 hb11;(try simp only [go_sem,Nat.reduceAdd,Nat.reduceEqDiff,Nat.reduceLT,Nat.reduceLeDiff,Nat.reduceMul,reduceCtorEq,↓reduceIte,cell_of (hm37.at hb2 n2),Value.cells,k2]);refine e_call (by rfl) ?_;refine (ihb _ (List.getElem_mem hk) (hck.keep hm7) hgk hec).mono ?_;rintro r8 w8 ⟨hr8,hm8⟩;have hm38:=hm37.trans hm8;rw [bdsS_at hk] at hbd;cases hx1:exprS E e.binds[k].value stk with
   | error e4=>
     rw [hx1] at hr8 hbd;obtain ⟨cz,hz3,hz1,rfl,hne,bd6,lc6,hcx⟩:=hr8;have hne':(e4 != 0)=true:=by simpa using hne
     rw [← hbd];(try simp only [go_sem,Nat.reduceAdd,Nat.reduceEqDiff,Nat.reduceLT,Nat.reduceLeDiff,Nat.reduceMul,reduceCtorEq,↓reduceIte]);refine s_new (n:=3) (vs:=cz) rfl hz3 hz1 ?_;intro w9 hb9 hm9 hs9;(try simp only [go_sem,Nat.reduceAdd,Nat.reduceEqDiff,Nat.reduceLT,Nat.reduceLeDiff,Nat.reduceMul,reduceCtorEq,↓reduceIte,hne']);refine e_ref hc zw ((hm38.trans (mod0 hm9)).at hb4 n4) ((mod0 hm03).trans (hm38.trans (mod0 hm9))) (hcx.keep hm9) rfl rfl ?_;intro w10 hb10 hm10 hck;(try simp only [go_sem,Nat.reduceAdd,Nat.reduceEqDiff,Nat.reduceLT,Nat.reduceLeDiff,Nat.reduceMul,reduceCtorEq,↓reduceIte,rvs,RV.ev,ln_blk (n:=3) hb10 rfl,one?]);exact ⟨.bad hne hck,hm10⟩
   | ok y1=>
     obtain ⟨t1,st1⟩:=y1;rw [hx1] at hr8 hbd;obtain ⟨⟨c8,rfl,hty8⟩,hc8⟩:=hr8;have g8:=expr_good hE hbo _ _ _ hgk hx1;(try simp only [go_sem,Nat.reduceAdd,Nat.reduceEqDiff,Nat.reduceLT,Nat.reduceLeDiff,Nat.reduceMul,reduceCtorEq,↓reduceIte]);refine s_new (n:=3) (vs:=c8) rfl hty8.len hty8.one ?_;intro w9 hb9 hm9 hs9;have hm89:Mod M.two w7 w9:=hm8.trans (mod0 hm9);have hb11':=hm89.at hb11 (two_no hc (by have:=hm03.size;have:=hm6.size;omega));have hr9:BdAt w9 (Out (And1 S wb.heap.size) w9) (.string e.binds[k].name::(tc++ec)) e.binds[k]:=hr7.keep (hm89.weak S3);obtain ⟨tc',ec',e9,htc9,hec9,k1',_,_,_⟩:=bd_cells hr9 hb11';have e9:tc=tc':=by
       have:=congrArg (fun l=>(l.drop 1).take 3) e9
       simpa [List.take_left' htc.len,List.take_left' htc9.len] using this
     subst e9;(try simp only [go_sem,Nat.reduceAdd,Nat.reduceEqDiff,Nat.reduceLT,Nat.reduceLeDiff,Nat.reduceMul,reduceCtorEq,↓reduceIte,ln_blk (n:=3) hb9 hty8.len,k1']);refine e_call (by rfl) ?_;refine (f_sameType t1 (hty8.keep (mod0 hm9)) htc9).mono ?_;rintro _ w10 ⟨rfl,hm10⟩;have hm310:=hm38.trans (mod0 (hm9.trans hm10));have hc10:=hc8.keep (hm9.trans hm10);have hbd':(if sameT t1 e.binds[k].type=true then bdsS E (e.binds.drop (k+1)) st1 else .error 83)=bdsS E e.binds (bd,lc1):=hbd;cases hs:sameT t1 e.binds[k].type with
     | false=>
       rw [if_neg (by rw [hs];simp)] at hbd';rw [← hbd'];(try simp only [go_sem,Nat.reduceAdd,Nat.reduceEqDiff,Nat.reduceLT,Nat.reduceLeDiff,Nat.reduceMul,reduceCtorEq,↓reduceIte]);refine e_ref hc zw (hm310.at hb4 n4) ((mod0 hm03).trans hm310) hc10 rfl rfl ?_;intro w11 hb11 hm11 hck;(try simp only [go_sem,Nat.reduceAdd,Nat.reduceEqDiff,Nat.reduceLT,Nat.reduceLeDiff,Nat.reduceMul,reduceCtorEq,↓reduceIte,rvs,RV.ev,ln_blk (n:=3) hb11 rfl,one?]);exact ⟨.bad (by decide) hck,hm11⟩
     | true=>
       rw [if_pos hs] at hbd';(try simp only [go_sem,Nat.reduceAdd,Nat.reduceEqDiff,Nat.reduceLT,Nat.reduceLeDiff,Nat.reduceMul,reduceCtorEq,↓reduceIte]);exact ⟨hk,hm310,st1,hc10,g8.2,hbd'⟩
 rintro _ w6 ⟨_,hm6,⟨st2,hc6,hg6,hbd⟩,rfl⟩;rw [List.drop_length,bdsS] at hbd;rw [← hbd];(try simp only [go_sem,Nat.reduceAdd,Nat.reduceEqDiff,Nat.reduceLT,Nat.reduceLeDiff,Nat.reduceMul,reduceCtorEq,↓reduceIte]);refine e_cv (f:=89) (cap:=#[ptr wa.heap.size,ptr w.heap.size]) rfl (by rfl) hfn hbody hname ?_;have hb3:=hm6.at (w':=w6) (show w3.heap[wa.heap.size]? = _ from hmc.at hbb _root_.id) n3;refine (f_let1 hc6 (he3.keep (hm6.weak S3)) hb3 (hm6.at hb2 n2) n3 n2).mono ?_;rintro r7 w7 ⟨hc7,hm7⟩;have hm37:=hm6.trans hm7;have hg7:GoodL E (putB e.binds st2.2):=GoodL.putB _ hg6 hgb;have hb3:=hm7.at hb3 n3;have hb2':=hm37.at hb2 n2;have ha7:EachAt w7 (.slice aa e.args.length ca) 7 (Out (And1 S wb.heap.size) w7) (ExAt w7 (Out (And1 S wb.heap.size) w7)) e.args:=ha3.up hm37 (fun b hb hh=>hb.2 (S3 b hh)) (out_up (hm37.weak S3)) (fun _ _ h=>h.keep (hm37.weak S3));have b1:(0:Int)≤0∧(0:Int) < e.args.length:=by omega
 obtain ⟨ad,c1,r1,e1,hx,hlnx⟩:=arg_at ha7 (i:=0) (by omega);obtain ⟨rfl,-,-⟩:=tup_inj e1;have ex0:e.args[0]'(by omega)=x:=by simp [hx0]
 rw [ex0] at hx;rw [Nat.zero_mul,add_zero'] at hlnx;have hrun:exprsS E e.args (st2.1,putB e.binds st2.2)=(match exprS E x (st2.1,putB e.binds st2.2) with | .error e=>.error e | .ok y=>.ok ([y.1],y.2)):=by
   rw [hx0];simp only [exprsS]
   try (cases exprS E x (st2.1,putB e.binds st2.2)<;>rfl)
 (try simp only [go_sem,Nat.reduceAdd,Nat.reduceEqDiff,Nat.reduceLT,Nat.reduceLeDiff,Nat.reduceMul,reduceCtorEq,↓reduceIte,zb4,zb6,cell_of hb2',cell_of hb3,Value.cells,b1,Nat.zero_mul,hlnx,drew_ln]);have d7:Mod (fun _=>False) w7 w7.drew:=(Mod.refl _ _).drew;have z7:=hm37.size;have z03:=hm03.size;have ed:w7.drew.heap.size=w7.heap.size:=rfl;have hadl:ad.block < w7.heap.size:=by
   obtain ⟨ad',_,r',e',_,hl7,_,hcc⟩:=each_at ha7 (i:=0) (by omega);obtain ⟨e'',-,-⟩:=tup_inj e';cases e'';have:=cell_lt (hcc 0 (by omega))
   rwa [add_block,add_block] at this
 refine wpD_cut (fun ρ w'=>∃ b14 cz u,ρ.get 2=some (ptr w.heap.size)∧ρ.get 3=some (ptr wa.heap.size)∧ρ.get 4=some (ptr wb.heap.size)∧ρ.get 14=some (ptr b14)∧ρ.get 15=some u∧w'.heap[b14]? = some (.cells cz.toArray tyT (0,0))∧cz.length=3∧(∀ u∈cz,u.oneCell'=true)∧Mod M.two w3 w'∧w7.heap.size≤b14 ∧
   Kept w' (And1 S wb.heap.size) M E cz u (exprS E x (st2.1,putB e.binds st2.2))) ?_ ?_
 · rw [wpD_e2];refine ⟨?_,?_⟩
   · refine e_call (by rfl) ?_;refine (ihx (st:=(st2.1,putB e.binds st2.2)) (hc7.keep d7) hg7 (hx.keep (mod0 d7))).mono ?_;rintro r8 w8 ⟨hr8,hm8⟩;have hm8':Mod M.two w7 w8:=hm8.of_drew;have z8:=hm8'.size;have key:∃ cz u,r8 = .tuple #[.agg cz.toArray,u]∧cz.length=3∧(∀ u∈cz,u.oneCell'=true)∧Kept w8 (And1 S wb.heap.size) M E cz u (exprS E x (st2.1,putB e.binds st2.2)):=by
       cases hx1:exprS E x (st2.1,putB e.binds st2.2) with
       | error e4=>rw [hx1] at hr8;obtain ⟨cz,hz3,hz1,rfl,hne,hck⟩:=hr8;exact ⟨cz,_,rfl,hz3,hz1,rfl,hne,hck⟩
       | ok y1=>rw [hx1] at hr8;obtain ⟨⟨cz,rfl,hty⟩,hck⟩:=hr8;exact ⟨cz,_,rfl,hty.len,hty.one,rfl,hty,hck⟩
     obtain ⟨cz,u,rfl,hz3,hz1,hkept⟩:=key;(try simp only [go_sem,Nat.reduceAdd,Nat.reduceEqDiff,Nat.reduceLT,Nat.reduceLeDiff,Nat.reduceMul,reduceCtorEq,↓reduceIte]);refine e_al ?_;intro w9 hb9 hm9 hs9;have zz:w3.heap.size≤w8.heap.size:=by omega
     (try simp only [go_sem,Nat.reduceAdd,Nat.reduceEqDiff,Nat.reduceLT,Nat.reduceLeDiff,Nat.reduceMul,reduceCtorEq,↓reduceIte]);have h9:∀ b,b < w7.heap.size→w9.heap[b]? = w8.heap[b]?:=fun b hb=>hm9.old b (by omega) _root_.id
     refine ⟨⟨h9 _ hadl,h9 _ (by omega),h9 _ (by omega)⟩,?_⟩;refine e_sta (cs:=zTy) rfl rfl hb9 hz3 rfl hz1 ?_;intro w10 hb10 hm10 hs10;have hm810:Mod (fun _=>False) w8 w10:=hm9.step hm10 (fun b hb hl=>by omega);(try simp only [go_sem,Nat.reduceAdd,Nat.reduceEqDiff,Nat.reduceLT,Nat.reduceLeDiff,Nat.reduceMul,reduceCtorEq,↓reduceIte]);refine ⟨_,_,_,rfl,rfl,hb10,hz3,hz1,(hm37.trans hm8').trans (mod0 hm810),by omega,?_⟩;cases hx1:exprS E x (st2.1,putB e.binds st2.2) with
     | error e4=>rw [hx1] at hkept;obtain ⟨k1,k2,bd8,lc8,k3⟩:=hkept;exact ⟨k1,k2,bd8,lc8,k3.keep hm810⟩
     | ok y1=>rw [hx1] at hkept;obtain ⟨k1,k2,k3⟩:=hkept;exact ⟨k1,k2.keep (mod0 hm810),k3.keep hm810⟩
   · refine e_al ?_;intro w8 hb8 hm8 hs8;have hm8':Mod (fun _=>False) w7 w8:=hm8.of_drew;have h8:∀ b,b < w7.heap.size→w8.heap[b]? = w7.heap[b]?:=fun b hb=>hm8'.old b hb _root_.id
     (try simp only [go_sem,Nat.reduceAdd,Nat.reduceEqDiff,Nat.reduceLT,Nat.reduceLeDiff,Nat.reduceMul,reduceCtorEq,↓reduceIte]);refine ⟨⟨h8 _ hadl,h8 _ (by omega),h8 _ (by omega)⟩,?_⟩;have hnew:∀ b,b < w7.heap.size→And1 (And1 S wb.heap.size) w7.heap.size b→And1 S wb.heap.size b:=fun b hb hh=>by
       rcases hh with h | h
       · exact h
       · omega
     have hc8:CkAt w8 (And1 (And1 S wb.heap.size) w7.heap.size) M E st2.1 (putB e.binds st2.2):=hc7.ext hm8' hnew (fun b hb=>.inl hb) (fun b hb=>by
       rcases hb with h | h
       · have:=hc7.lt b h;omega
       · omega)
     refine e_call (by rfl) ?_;refine (ihx (st:=(st2.1,putB e.binds st2.2)) hc8 hg7 (hx.ext (mod0 hm8') hnew)).mono ?_;rintro r9 w9 ⟨hr9,hm9⟩;have z9:=hm9.size;have hb8:=hm9.at hb8 (two_no hc (by omega));have key:∃ cz u,r9 = .tuple #[.agg cz.toArray,u]∧cz.length=3∧(∀ u∈cz,u.oneCell'=true)∧Kept w9 (And1 (And1 S wb.heap.size) w7.heap.size) M E cz u (exprS E x (st2.1,putB e.binds st2.2)):=by
       cases hx1:exprS E x (st2.1,putB e.binds st2.2) with
       | error e4=>rw [hx1] at hr9;obtain ⟨cz,hz3,hz1,rfl,hne,hck⟩:=hr9;exact ⟨cz,_,rfl,hz3,hz1,rfl,hne,hck⟩
       | ok y1=>rw [hx1] at hr9;obtain ⟨⟨cz,rfl,hty⟩,hck⟩:=hr9;exact ⟨cz,_,rfl,hty.len,hty.one,rfl,hty,hck⟩
     obtain ⟨cz,u,rfl,hz3,hz1,hkept⟩:=key;(try simp only [go_sem,Nat.reduceAdd,Nat.reduceEqDiff,Nat.reduceLT,Nat.reduceLeDiff,Nat.reduceMul,reduceCtorEq,↓reduceIte]);refine e_sta (cs:=zTy) rfl rfl hb8 hz3 rfl hz1 ?_;intro w10 hb10 hm10 hs10;have hlno:∀ b∈M.list,¬ b=w7.heap.size:=list_no hc (by omega);have hsub1:∀ b,And1 S wb.heap.size b→And1 (And1 S wb.heap.size) w7.heap.size b:=fun b hb=>.inl hb
     have hin1:∀ b∈M.list,And1 S wb.heap.size b:=fun b hb=>.inl (hc.inS b hb)
     (try simp only [go_sem,Nat.reduceAdd,Nat.reduceEqDiff,Nat.reduceLT,Nat.reduceLeDiff,Nat.reduceMul,reduceCtorEq,↓reduceIte]);refine ⟨_,_,_,rfl,rfl,hb10,hz3,hz1,(hm37.trans ((mod0 hm8').trans hm9)).step hm10 (fun b hb hl=>by omega),by omega,?_⟩;cases hx1:exprS E x (st2.1,putB e.binds st2.2) with
     | error e4=>rw [hx1] at hkept;obtain ⟨k1,k2,bd8,lc8,k3⟩:=hkept;exact ⟨k1,k2,bd8,lc8,(k3.side hm10 (fun b hb=>.inr hb) hlno).sub hsub1 hin1⟩
     | ok y1=>rw [hx1] at hkept;obtain ⟨k1,k2,k3⟩:=hkept;exact ⟨k1,(k2.keep (hm10.weak (fun b hb=>.inr hb))).sub hsub1,(k3.side hm10 (fun b hb=>.inr hb) hlno).sub hsub1 hin1⟩
 rintro ρ w8 ⟨b14,cz,u,g2,g3,g4,g14,g15,hb14,hz3,hz1,hm8,hb14n,hkept⟩;have hb3:=hm8.at (w':=w8) (show w3.heap[wa.heap.size]? = _ from hmc.at hbb _root_.id) n3;(try simp only [go_sem,Nat.reduceAdd,Nat.reduceEqDiff,Nat.reduceLT,Nat.reduceLeDiff,Nat.reduceMul,reduceCtorEq,↓reduceIte,g2,g3,g4,g14,g15,cell_of hb3,Value.cells]);have out:∀ (bd':Cnt) (lc':Loc),CkAt w8 (And1 S wb.heap.size) M E bd' lc'→True:=fun _ _ _=>trivial
 have hck8:∃ bd' lc',CkAt w8 (And1 S wb.heap.size) M E bd' lc'∧(∀ y,exprS E x (st2.1,putB e.binds st2.2) = .ok y→bd'=y.2.1∧lc'=y.2.2):=by
   cases hx1:exprS E x (st2.1,putB e.binds st2.2) with
   | error e4=>rw [hx1] at hkept;obtain ⟨_,_,bd8,lc8,k3⟩:=hkept;exact ⟨bd8,lc8,k3,fun y h=>by cases h⟩
   | ok y1=>rw [hx1] at hkept;exact ⟨_,_,hkept.2.2,fun y h=>by cases h;exact ⟨rfl,rfl⟩⟩
 obtain ⟨bd8,lc8,hc8,hok8⟩:=hck8;have n14:¬ M.two b14:=two_no hc (by omega);refine ir_each (PP:=fun w'=>BdAt w' (Out (And1 S wb.heap.size) w3)) (l:=e.binds) (B:=Out (And1 S wb.heap.size) w3) (fun k ρ w'=>k≤e.binds.length∧Mod M.two w8 w'∧(∃ lck,CkAt w' (And1 S wb.heap.size) M E bd8 lck∧delB (e.binds.drop k) lck=delB e.binds lc8)∧ρ=[(2,ptr w.heap.size),(4,ptr wb.heap.size),(14,ptr b14),(15,u),(76,.slice ab e.binds.length cb),(77,I e.binds.length),(78,I k)])
   ⟨by omega,.refl _ _,⟨lc8,hc8,rfl⟩,rfl⟩ hb3' ?_ (fun _ _ _ h=>h.one) rfl ?_ ?_
 · rintro k _ w9 ⟨hk,hm9,_,rfl⟩;exact ⟨⟨later (hm8.trans hm9),hk⟩,rfl,rfl,rfl⟩
 · rintro k _ w9 hk w10 r b17 pv ⟨_,hm9,⟨lck,hck,hdel⟩,rfl⟩ hr hl3 hb17 hm10 _;have hm310:=(hm8.trans hm9).trans (mod0 hm10);have hr10:=now (hm8.trans hm9) hm10 hr;obtain ⟨tc,ec,rfl,htc,hec,k1,k2,k0,kl⟩:=bd_cells hr10 hb17;have hc10:=hck.keep hm10;(try simp only [go_sem,Nat.reduceAdd,Nat.reduceEqDiff,Nat.reduceLT,Nat.reduceLeDiff,Nat.reduceMul,reduceCtorEq,↓reduceIte,cell_of (hm310.at hb2 n2),Value.cells,cell_of hc10.box,k0]);refine e_delL (n:=e.binds[k].name) rfl (hc10.keep (Mod.refl _ _).drew) rfl rfl ?_;intro w11 hc11 hm11 hs11;(try simp only [go_sem,Nat.reduceAdd,Nat.reduceEqDiff,Nat.reduceLT,Nat.reduceLeDiff,Nat.reduceMul,reduceCtorEq,↓reduceIte]);exact ⟨hk,(hm9.trans (mod0 hm10)).trans hm11.of_drew,_,hc11,by rw [← hdel,delB_at hk]⟩
 rintro _ w9 ⟨_,hm9,⟨lck,hck,hdel⟩,rfl⟩;have hdel:lck=delB e.binds lc8:=by rw [← hdel,List.drop_length];rfl
 subst hdel;have hb14:=hm9.at hb14 n14;have hm39:=hm8.trans hm9;(try simp only [go_sem,Nat.reduceAdd,Nat.reduceEqDiff,Nat.reduceLT,Nat.reduceLeDiff,Nat.reduceMul,reduceCtorEq,↓reduceIte,ln_blk (n:=3) hb14 hz3]);refine e_sta (cs:=zTy) rfl rfl (hm39.at hb4 n4) hz3 rfl hz1 ?_;intro w10 hb10 hm10 hs10;have hmf:Mod M.two w w10:=((mod0 hm03).trans hm39).step hm10 (fun b hb hl=>by omega);cases hx1:exprS E x (st2.1,putB e.binds st2.2) with
 | error e4=>
   rw [hx1] at hkept hrun;obtain ⟨rfl,hne,_⟩:=hkept;have hrun':exprsS E e.args (st2.1,putB e.binds st2.2) = .error e4:=hrun;(try simp only [go_sem,Nat.reduceAdd,Nat.reduceEqDiff,Nat.reduceLT,Nat.reduceLeDiff,Nat.reduceMul,reduceCtorEq,↓reduceIte,rvs,RV.ev,ln_blk (n:=3) hb10 hz3,one?]);rw [hrun'];exact ⟨⟨cz,hz3,hz1,rfl,hne,_,_,(hck.side hm10 (fun b hb=>.inr hb) (list_no hc zw)).sub (fun b hb=>.inl hb) hc.inS⟩,hmf⟩
 | ok y1=>
   obtain ⟨t1,st1⟩:=y1;obtain ⟨rfl,rfl⟩:=hok8 _ hx1;rw [hx1] at hkept hrun;obtain ⟨rfl,hty,_⟩:=hkept;have hrun':exprsS E e.args (st2.1,putB e.binds st2.2) = .ok ([t1],st1):=hrun;(try simp only [go_sem,Nat.reduceAdd,Nat.reduceEqDiff,Nat.reduceLT,Nat.reduceLeDiff,Nat.reduceMul,reduceCtorEq,↓reduceIte,rvs,RV.ev,ln_blk (n:=3) hb10 hz3,one?]);rw [hrun'];exact ⟨res_ok (st:=(st1.1,delB e.binds st1.2)) hck (hty.keep (hm9.weak S3)) hm10 hc.inS (list_no hc zw),hmf⟩
end
section
open Go Go.W
theorem fn_altF:Fn 101:=⟨_,rfl,rfl,rfl⟩
def altEq (a b:Al):Bool:=(b.kind == a.kind&&strEq b.con a.con)&&b.num == a.num
theorem each_take {α:Type} {w:World} {a:Option Addr} {n c sz:Nat} {B:Nat→Prop} {P:List Value→α→Prop} {l:List α} (h:EachAt w (.slice a n c) sz B P l) {i:Nat} (hi:i≤l.length):EachAt w (.slice a i c) sz B P (l.take i):=by
 obtain ⟨rows,⟨⟨a',c',e,hb,hr⟩,hlen⟩,h2,h3⟩:=h;obtain ⟨rfl,rfl,rfl⟩:a=a'∧n=rows.length∧c=c':=by cases e;exact ⟨rfl,rfl,rfl⟩
 refine ⟨rows.take i,⟨⟨a,c,by rw [List.length_take];congr 1;omega,fun h0=>hb (by rw [List.length_take] at h0;omega),fun j hj=>?_⟩,by rw [List.length_take];omega⟩,by rw [List.length_take,List.length_take];omega,fun j r x hr' hx=>?_⟩
 · rw [List.length_take] at hj;obtain ⟨ad,h4,h5,h6⟩:=hr j (by omega);exact ⟨ad,h4,by rw [List.getElem_take];exact h5,by rw [List.getElem_take];exact h6⟩
 · have hj:j < i:=by
     rcases Nat.lt_or_ge j i with h | h
     · exact h
     · rw [List.getElem?_eq_none (by rw [List.length_take];omega)] at hr';cases hr'
   rw [List.getElem?_take_of_lt hj] at hr' hx;exact h3 j r x hr' hx
theorem f_altF1 {a b:Al} {w:World} {B B':Nat→Prop} {r cs:List Value} {bb:Nat} (hb:AlAt w B r b) (ha:AlAt w B' cs a) (hbox:w.heap[bb]? = some (.cells cs.toArray 97 (0,0))) :
   CallsR Tryz.prog 101 [.agg r.toArray,ptr bb] w fun x w'=>x = .bool (altEq a b)∧Mod (fun _=>False) w w':=by
 obtain ⟨vb,eb,rfl,_,_⟩:=hb;obtain ⟨va,ea,rfl,_,_⟩:=ha;refine fit101.calls rfl ?_;unfold ir101;(try simp only [go_sem,simprocAttr]);refine e_bx rfl ?_;intro w1 hb1 hm1 hs1;have hbox:=hm1.at hbox _root_.id;(try simp only [go_sem,simprocAttr,cell_of hb1,cell_of hbox,Value.cells]);cases h1:b.kind == a.kind with
 | false=>(try simp only [go_sem,simprocAttr]);exact ⟨congrArg _ (by rw [altEq,h1];rfl),hm1⟩
 | true=>
   (try simp only [go_sem,simprocAttr,cell_of hb1,cell_of hbox,Value.cells]);cases h2:b.con.toList == a.con.toList with
   | false=>(try simp only [go_sem,simprocAttr]);exact ⟨congrArg _ (by rw [altEq,strEq,h1,h2];rfl),hm1⟩
   | true=>
     (try simp only [go_sem,simprocAttr,cell_of hb1,cell_of hbox,Value.cells]);exact ⟨congrArg _ (by rw [altEq,strEq,h1,h2];rfl),hm1⟩
theorem f_altFormed {all:List Al} {i:Nat} (hi:i < all.length) {of:Ty} {w:World} {B B':Nat→Prop} {v:Value} {cs:List Value} (hl:EachAt w v 11 B (AlAt w B) all) (hcap:CapOk v) (ht:TyAt w B' cs of) :
   CallsR Tryz.prog 90 [v,I i,.agg cs.toArray] w fun r w'=>r = .bool (altFormedS all i of)∧Mod (fun _=>False) w w':=by
 obtain ⟨a,c,rfl⟩:=each_sl hl;obtain ⟨vt,rfl,_⟩:=ht.cells;refine fit90.calls rfl ?_;unfold ir90;(try simp only [go_sem,simprocAttr]);refine e_bx rfl ?_;intro w1 hb1 hm1 hs1;obtain ⟨ad,c1,r,e,hr,hl11,hln,_⟩:=each_at (hl.mod hm1 nof (fun _ _ h=>h.mod hm1 nof)) hi;cases e;have b1:(0:Int)≤i∧(i:Int) < all.length:=by omega
 (try simp only [go_sem,simprocAttr,zb4,zb6,b1,hln]);refine s_new (n:=11) (vs:=r) rfl hl11 hr.one ?_;intro w2 hb2 hm2 hs2;have hm02:=hm1.trans hm2;have hb1:=hm2.at hb1 _root_.id;obtain ⟨vv,ec,rfl,hvv,hec⟩:=hr;obtain ⟨av,cv,rfl⟩:=each_sl hvv;have hget:all[i]? = some all[i]:=List.getElem?_eq_getElem hi;generalize hx:all[i]=x at *;have c0:w2.cell? ⟨w1.heap.size,0,none⟩=some (I x.kind):=by rw [cell_of hb2];rfl
 have c1:w2.cell? ⟨w1.heap.size,1,none⟩=some (.string x.con):=by rw [cell_of hb2];rfl
 have c2:w2.cell? ⟨w1.heap.size,2,none⟩=some (I x.num):=by rw [cell_of hb2];rfl
 have c3:w2.cell? ⟨w1.heap.size,3,none⟩=some (.slice av x.vars.length cv):=by rw [cell_of hb2];rfl
 have ck:w2.cell? ⟨w.heap.size,0,none⟩=some (I of.kind):=by rw [cell_of hb1];rfl
 (try simp only [go_sem,simprocAttr,c0]);have hcap':all.length≤c:=hcap;have hafd:altFormedS all i of=if (x.kind == 1)=true then (if (x.num != 0||of.kind != 4)=true then false else !(all.take i).any (altEq x))
     else if (x.kind == 2)=true then (if ((((!strEq x.con noStr||decide ((x.vars.length:Int) > 0))||of.kind != 1)||decide (x.num < -4611686018427387904))||decide (x.num > 4611686018427387903))=true then false else !(all.take i).any (altEq x))
     else if (x.kind == 3)=true then ((strEq x.con noStr&&x.num == 0)&&(x.vars.length:Int) == 0)&&(i:Int) == Wr (all.length - 1)
     else false:=by
   unfold altFormedS;rw [hget];rfl
 have no:altFormedS all i of=false→Value.bool false=Value.bool (altFormedS all i of)∧Mod (fun _=>False) w w2:=fun h=>⟨by rw [h],hm02⟩
 refine ir_thenB (fun ρ w'=>w2=w'∧altFormedS all i of = !(all.take i).any (altEq x)∧ρ.get 0=some (.slice (some ad) all.length c)∧ρ.get 1=some (I i)∧ρ.get 7=some (ptr w1.heap.size)) ?_ ?_
 · (try simp only [go_sem,simprocAttr]);cases k1:x.kind == 1 with
   | true=>
     rw [if_pos k1] at hafd;(try simp only [go_sem,simprocAttr,c2,ck]);cases n1:x.num != 0 with
     | true=>(try simp only [go_sem,simprocAttr]);exact no (by rw [hafd,n1];rfl)
     | false=>
       (try simp only [go_sem,simprocAttr,ck]);cases n2:of.kind != 4 with
       | true=>(try simp only [go_sem,simprocAttr]);exact no (by rw [hafd,n1,n2];rfl)
       | false=>(try simp only [go_sem,simprocAttr]);exact by rw [hafd,n1,n2];rfl
   | false=>
     rw [if_neg (by rw [k1];simp)] at hafd;(try simp only [go_sem,simprocAttr,c1,c2,c3,ck]);cases k2:x.kind == 2 with
     | true=>
       rw [if_pos k2,strEq] at hafd;(try simp only [go_sem,simprocAttr,c1,c2,c3,ck]);cases n1:x.con.toList == ByteArray.toList ⟨#[]⟩ with
       | false=>(try simp only [go_sem,simprocAttr,c1,c2,c3,ck]);exact no (by rw [hafd,n1];rfl)
       | true=>
         rw [n1] at hafd;(try simp only [go_sem,simprocAttr,c1,c2,c3,ck]);cases n2:decide ((x.vars.length:Int) > 0) with
         | true=>rw [n2] at hafd;(try simp only [go_sem,simprocAttr,c1,c2,c3,ck]);exact no (by rw [hafd];rfl)
         | false=>
           rw [n2] at hafd;(try simp only [go_sem,simprocAttr,c1,c2,c3,ck]);cases n3:of.kind != 1 with
           | true=>rw [n3] at hafd;(try simp only [go_sem,simprocAttr,c1,c2,c3,ck]);exact no (by rw [hafd];rfl)
           | false=>
             rw [n3] at hafd;(try simp only [go_sem,simprocAttr,c1,c2,c3,ck]);cases n4:decide (x.num < -4611686018427387904) with
             | true=>rw [n4] at hafd;(try simp only [go_sem,simprocAttr,c1,c2,c3,ck]);exact no (by rw [hafd];rfl)
             | false=>
               rw [n4] at hafd;(try simp only [go_sem,simprocAttr,c1,c2,c3,ck]);cases n5:decide (x.num > 4611686018427387903) with
               | true=>rw [n5] at hafd;(try simp only [go_sem,simprocAttr]);exact no (by rw [hafd];rfl)
               | false=>rw [n5] at hafd;(try simp only [go_sem,simprocAttr]);exact by rw [hafd];rfl
     | false=>
       rw [if_neg (by rw [k2];simp)] at hafd;(try simp only [go_sem,simprocAttr,c1,c2,c3,ck]);cases k3:x.kind == 3 with
       | true=>
         rw [if_pos k3,strEq] at hafd;(try simp only [go_sem,simprocAttr,c1,c2,c3]);cases n1:x.con.toList == ByteArray.toList ⟨#[]⟩ with
         | false=>(try simp only [go_sem,simprocAttr,c1,c2,c3]);exact no (by rw [hafd,n1];rfl)
         | true=>
           rw [n1] at hafd;(try simp only [go_sem,simprocAttr,c1,c2,c3]);cases n2:x.num == 0 with
           | false=>rw [n2] at hafd;(try simp only [go_sem,simprocAttr,c1,c2,c3]);exact no (by rw [hafd];rfl)
           | true=>
             rw [n2] at hafd;(try simp only [go_sem,simprocAttr,c1,c2,c3]);cases n3:(x.vars.length:Int) == 0 with
             | false=>rw [n3] at hafd;(try simp only [go_sem,simprocAttr,c1,c2,c3]);exact no (by rw [hafd];rfl)
             | true=>
               rw [n3] at hafd;(try simp only [go_sem,simprocAttr,c1,c2,c3]);exact ⟨congrArg _ (by rw [hafd];rfl),hm02⟩
       | false=>
         rw [if_neg (by rw [k3];simp)] at hafd;(try simp only [go_sem,simprocAttr]);exact no hafd
 · rintro ρ _ ⟨rfl,hf,g0,g1,g7⟩;have hle:(i:Int)≤c:=by omega
   (try simp only [go_sem,simprocAttr,zb4,zb6,g0,g1,g7,hle]);have hsl:(if c=0 then some ad else some ad)=some ad:=by split<;>rfl
   rw [hsl];refine ⟨_,rfl,?_⟩;have hm:=hm02;refine e_call (by rfl) ?_;refine (f_contains_alt (PP:=fun w=>AlAt w B) (p:=altEq x) (each_take (hl.mod hm02 nof (fun _ _ h=>h.mod hm02 nof)) (Nat.le_of_lt hi)) (fun _ _ _ _ h hm=>h.mod hm nof) fn_altF ?_).mono ?_
   · intro w3 r3 u hu hm3 hr3;exact f_altF1 hr3 (B':=B) (cs:=I x.kind :: .string x.con::I x.num :: .slice av x.vars.length cv::ec) ⟨_,ec,rfl,(hvv.mod hm2 nof (fun _ _ h=>h)).mod hm3 nof (fun _ _ h=>h),(hec.mod hm2 nof).mod hm3 nof⟩ (hm3.at hb2 _root_.id)
   · rintro _ w3 ⟨rfl,hm3⟩;(try simp only [go_sem,simprocAttr]);exact ⟨congrArg _ hf.symm,hm02.trans hm3⟩
end
section
open Go Go.W
theorem keptL_of {fl:List Nat} {w w':World}:∀ (rd:List (Nat×Nat)),(∀ p∈rd,w'.heap[p.2]? = w.heap[p.2]?)→keptL fl w w' rd
 | [],_=>trivial
 | (i,b)::rd,h=>⟨fun _=>h (i,b) (by simp),keptL_of rd (fun p hp=>h p (by simp [hp]))⟩
theorem keptL_nil {w w':World}:∀ (rd:List (Nat×Nat)),keptL [] w w' rd
 | []=>trivial
 | (i,b)::rd=>⟨fun h=>(by simp [inL] at h),keptL_nil rd⟩
theorem d_look {P:Program} {w:World} {ρ:Go.W.Env} {K:Go.W.Env→World→Prop} {rd:List (Nat×Nat)} {α:Type} {Rr:Value→α→Prop} {l:List (ByteArray×α)} {b0:Nat} {k:ByteArray} {t kt et:TypeId} {m x:Nat} {i i2 i3 i4 j j2 j3 a b c d f g T n:Nat} {z:Value} {fl:List Nat} {ty:TypeId} {pos:String} {af:Array Edge} {zc:List Value}
   (hm:ρ.get m=some (.map (some b0))) (hx:ρ.get x=some (.string k)) (ht:P.underlying t=some (.map kt et)) (hkt:P.underlying kt=some .string) (hz0:∀ w,(zeroValue et).run P w = .ok (.agg zc.toArray) w) (hzc:zc.length=n∧∀ u∈zc,u.oneCell'=true) (hz:z.cells.size=n)
   (h:MapR w b0 Rr l) (hR:∀ v y,Rr v y→∃ cs:List Value,v = .agg cs.toArray∧cs.length=n∧∀ u∈cs,u.oneCell'=true) (hrd:∀ p∈rd,p.2 < w.heap.size)
   (hd:([a,b,c,d,f,g].Nodup∧m≠f∧x≠f))
   (hk:∀ (w':World) (ρ':Go.W.Env) (cz:List Value) (u:Value),(∀ s,s∉[a,b,c,d,f,g]→ρ'.get s=ρ.get s)→ρ'.get f=some (ptr w.heap.size)→ρ'.get g=some u→w'.heap[w.heap.size]? = some (.cells cz.toArray T (0,0))→Mod (fun _=>False) w w'→cz.length=n→(∀ u∈cz,u.oneCell'=true) →
     ((aget l k=none∧u = .bool false)∨∃ y,aget l k=some y∧Rr (.agg cz.toArray) y∧u = .bool true)→K ρ' w') :
   wpD P (.e2 i (some a) (.raw ⟨some a,.lookup t (.tmp m) (.tmp x) true,ty,pos,af,none⟩) [] (.r i2 none (some b) (.mv (.t a)) <| .r i3 none (some c) (.ex 0 (.t b)) <| .r i4 none (some d) (.ex 1 (.t b)) <| .e j none (some f) (.al T z) fl <| .e j2 none none (.st n (.t f) (.t c)) [] <| .r j3 none (some g) (.mv (.t d)) .nil)
     j (some f) (.al T z) fl (.e i none (some a) (.raw ⟨some a,.lookup t (.tmp m) (.tmp x) true,ty,pos,af,none⟩) [] <| .r i2 none (some b) (.mv (.t a)) <| .r i3 none (some c) (.ex 0 (.t b)) <| .r i4 none (some d) (.ex 1 (.t b)) <| .e j2 none none (.st n (.t f) (.t c)) [] <| .r j3 none (some g) (.mv (.t d)) .nil)) ρ w rd K:=by
 obtain ⟨hnd,hmf,hxf⟩:=hd;simp only [List.nodup_cons,List.mem_cons,List.not_mem_nil,or_false,not_or,not_false_eq_true,List.nodup_nil,and_true] at hnd;obtain ⟨⟨nab,nac,nad,naf,nag⟩,⟨nbc,nbd,nbf,nbg⟩,⟨ncd,ncf,ncg⟩,⟨ndf,ndg⟩,nfg⟩:=hnd;have look:∀ (w0:World) (ρ0:Go.W.Env) (K0:Value→World→Prop),MapR w0 b0 Rr l→ρ0.get m=some (.map (some b0))→ρ0.get x=some (.string k) →
     (∀ (cz:List Value) (u:Value),cz.length=n→(∀ u∈cz,u.oneCell'=true)→((aget l k=none∧u = .bool false)∨∃ y,aget l k=some y∧Rr (.agg cz.toArray) y∧u = .bool true)→K0 (.tuple #[.agg cz.toArray,u]) w0) →
     Go.W.E.wp P w0 ρ0 K0 (.raw ⟨some a,.lookup t (.tmp m) (.tmp x) true,ty,pos,af,none⟩):=by
   intro w0 ρ0 K0 h0 hm0 hx0 hk0;refine e_lkR (k:=k) hm0 hx0 ht hkt (hz0 w0) h0 (fun hn=>hk0 zc _ hzc.1 hzc.2 (.inl ⟨hn,rfl⟩)) (fun v y hy hr=>?_);obtain ⟨cs,rfl,h1,h2⟩:=hR v y hr;exact hk0 cs _ h1 h2 (.inr ⟨y,hy,hr,rfl⟩)
 rw [wpD_e2];refine ⟨?_,?_⟩
 · refine look w ρ _ h hm hx ?_;intro cz u h1 h2 h3;refine ⟨keptL_of _ (fun _ _=>rfl),?_⟩;refine ⟨.tuple #[.agg cz.toArray,u],by simp [R.ev,O.ev,Env.put,Env.get],.agg cz.toArray,by simp [R.ev,O.ev,Env.put,Env.get,vEx],u,by simp [R.ev,O.ev,Env.put,Env.get,vEx,Ne.symm nbc],?_⟩;refine e_al ?_;intro w1 hb1 hm1 hs1;refine ⟨keptL_of _ (fun p hp=>hm1.old _ (hrd p hp) _root_.id),?_⟩;refine e_sta (w:=w1) (cs:=z.cells.toList) (vs:=cz) (by simp [O.ev,Env.put,Env.get];rfl) (by simp [O.ev,Env.put,Env.get,ncd,Ne.symm ncd,ncf,Ne.symm ncf]) (by simpa using hb1) h1 (by simpa using hz) h2 ?_;intro w2 hb2 hm2 hs2;refine ⟨keptL_of _ (fun p hp=>hm2.old _ (by have:=hrd p hp;omega) (by have:=hrd p hp;omega)),?_⟩;refine ⟨u,by simp [R.ev,O.ev,Env.put,Env.get,ndf,Ne.symm ndf],?_⟩;refine hk w2 _ cz u (fun s hs=>?_) (by simp [Env.put,Env.get,nfg,Ne.symm nfg]) (by simp [Env.put,Env.get]) hb2 (hm1.step hm2 (fun b hb hl=>by omega)) h1 h2 h3;simp only [List.mem_cons,List.not_mem_nil,or_false,not_or] at hs;obtain ⟨s1,s2,s3,s4,s5,s6⟩:=hs;simp [Env.put,Env.get,Ne.symm s1,Ne.symm s2,Ne.symm s3,Ne.symm s4,Ne.symm s5,Ne.symm s6]
 · refine e_al ?_;intro w1 hb1 hm1 hs1;refine ⟨keptL_of _ (fun p hp=>hm1.old _ (hrd p hp) _root_.id),?_⟩;refine look w1 _ _ (h.mod hm1 _root_.id (fun _ _ x=>x)) (by simp [Env.put,Env.get,Ne.symm hmf,hm]) (by simp [Env.put,Env.get,Ne.symm hxf,hx]) ?_;intro cz u h1 h2 h3;refine ⟨keptL_of _ (fun _ _=>rfl),?_⟩;refine ⟨.tuple #[.agg cz.toArray,u],by simp [R.ev,O.ev,Env.put,Env.get],.agg cz.toArray,by simp [R.ev,O.ev,Env.put,Env.get,vEx],u,by simp [R.ev,O.ev,Env.put,Env.get,vEx,Ne.symm nbc],?_⟩;refine e_sta (w:=w1) (cs:=z.cells.toList) (vs:=cz) (by simp [O.ev,Env.put,Env.get,naf,nbf,ncf,ndf];rfl) (by simp [O.ev,Env.put,Env.get,ncd,Ne.symm ncd]) (by simpa using hb1) h1 (by simpa using hz) h2 ?_;intro w2 hb2 hm2 hs2;refine ⟨keptL_of _ (fun p hp=>hm2.old _ (by have:=hrd p hp;omega) (by have:=hrd p hp;omega)),?_⟩;refine ⟨u,by simp [R.ev,O.ev,Env.put,Env.get],?_⟩;refine hk w2 _ cz u (fun s hs=>?_) (by simp [Env.put,Env.get,naf,nbf,ncf,ndf,Ne.symm nfg]) (by simp [Env.put,Env.get]) hb2 (hm1.step hm2 (fun b hb hl=>by omega)) h1 h2 h3;simp only [List.mem_cons,List.not_mem_nil,or_false,not_or] at hs;obtain ⟨s1,s2,s3,s4,s5,s6⟩:=hs;simp [Env.put,Env.get,Ne.symm s1,Ne.symm s2,Ne.symm s3,Ne.symm s4,Ne.symm s5,Ne.symm s6]
theorem d_call {P:Program} {w:World} {ρ:Go.W.Env} {K:Go.W.Env→World→Prop} {rd:List (Nat×Nat)} {Ms:Nat→Prop} {PA PB Post:World→List Value→Value→Prop} {fn:FuncId} {args:List O} {vs:List Value} {i i2 i3 i4 j j2 j3 a b c d f g T n:Nat} {z:Value} {fl:List Nat}
   (ha:evs ρ args=some vs) (ha':∀ v,evs ((f,v)::ρ) args=some vs) (hz:z.cells.size=n) (hMs:∀ b,w.heap.size≤b→¬ Ms b) (hrd:∀ p∈rd,p.2 < w.heap.size)
   (hA:CallsR P fn vs w fun r w1=>∃ (cz:List Value) (u:Value),r = .tuple #[.agg cz.toArray,u]∧cz.length=n∧(∀ u∈cz,u.oneCell'=true)∧PA w1 cz u∧Mod Ms w w1)
   (hB:∀ w0,Mod (fun _=>False) w w0→w0.heap.size=w.heap.size+1→CallsR P fn vs w0 fun r w1=>∃ (cz:List Value) (u:Value),r = .tuple #[.agg cz.toArray,u]∧cz.length=n∧(∀ u∈cz,u.oneCell'=true)∧PB w1 cz u∧Mod Ms w0 w1)
   (hAP:∀ w1 cz u w2,PA w1 cz u→Mod (fun _=>False) w1 w2→Post w2 cz u) (hBP:∀ w1 cz u w2,PB w1 cz u→Mod (· = w.heap.size) w1 w2→Post w2 cz u)
   (hd:[a,b,c,d,f,g].Nodup)
   (hk:∀ (w':World) (ρ':Go.W.Env) (bb:Nat) (cz:List Value) (u:Value),(∀ s,s∉[a,b,c,d,f,g]→ρ'.get s=ρ.get s)→ρ'.get f=some (ptr bb)→ρ'.get g=some u→w'.heap[bb]? = some (.cells cz.toArray T (0,0))→w.heap.size≤bb→Mod Ms w w'→cz.length=n→(∀ u∈cz,u.oneCell'=true)→Post w' cz u→K ρ' w') :
   wpD P (.e2 i (some a) (.call fn args) [] (.r i2 none (some b) (.mv (.t a)) <| .r i3 none (some c) (.ex 0 (.t b)) <| .r i4 none (some d) (.ex 1 (.t b)) <| .e j none (some f) (.al T z) fl <| .e j2 none none (.st n (.t f) (.t c)) [] <| .r j3 none (some g) (.mv (.t d)) .nil)
     j (some f) (.al T z) fl (.e i none (some a) (.call fn args) [] <| .r i2 none (some b) (.mv (.t a)) <| .r i3 none (some c) (.ex 0 (.t b)) <| .r i4 none (some d) (.ex 1 (.t b)) <| .e j2 none none (.st n (.t f) (.t c)) [] <| .r j3 none (some g) (.mv (.t d)) .nil)) ρ w rd K:=by
 have hnd:=hd;simp only [List.nodup_cons,List.mem_cons,List.not_mem_nil,or_false,not_or,not_false_eq_true,List.nodup_nil,and_true] at hnd;obtain ⟨⟨nab,nac,nad,naf,nag⟩,⟨nbc,nbd,nbf,nbg⟩,⟨ncd,ncf,ncg⟩,⟨ndf,ndg⟩,nfg⟩:=hnd;rw [wpD_e2];refine ⟨?_,?_⟩
 · refine e_call ha (hA.mono ?_);rintro r w1 ⟨cz,u,rfl,h1,h2,hp,hm1⟩;have z1:=hm1.size;refine ⟨keptL_nil _,?_⟩;refine ⟨.tuple #[.agg cz.toArray,u],by simp [R.ev,O.ev,Env.put,Env.get],.agg cz.toArray,by simp [R.ev,O.ev,Env.put,Env.get,vEx],u,by simp [R.ev,O.ev,Env.put,Env.get,vEx,Ne.symm nbc],?_⟩;refine e_al ?_;intro w2 hb2 hm2 hs2;refine ⟨keptL_of _ (fun p hp=>hm2.old _ (by have:=hrd p hp;omega) _root_.id),?_⟩;refine e_sta (w:=w2) (cs:=z.cells.toList) (vs:=cz) (by simp [O.ev,Env.put,Env.get];rfl) (by simp [O.ev,Env.put,Env.get,ncd,Ne.symm ncd,ncf,Ne.symm ncf]) (by simpa using hb2) h1 (by simpa using hz) h2 ?_;intro w3 hb3 hm3 hs3;refine ⟨keptL_of _ (fun p hp=>hm3.old _ (by have:=hrd p hp;omega) (by have:=hrd p hp;omega)),?_⟩;refine ⟨u,by simp [R.ev,O.ev,Env.put,Env.get,ndf,Ne.symm ndf],?_⟩;have hm13:Mod (fun _=>False) w1 w3:=hm2.step hm3 (fun b hb hl=>by omega);refine hk w3 _ w1.heap.size cz u (fun s hs=>?_) (by simp [Env.put,Env.get,nfg,Ne.symm nfg]) (by simp [Env.put,Env.get]) hb3 (by omega) (hm1.trans (mod0 hm13)) h1 h2 (hAP _ _ _ _ hp hm13);simp only [List.mem_cons,List.not_mem_nil,or_false,not_or] at hs;obtain ⟨s1,s2,s3,s4,s5,s6⟩:=hs;simp [Env.put,Env.get,Ne.symm s1,Ne.symm s2,Ne.symm s3,Ne.symm s4,Ne.symm s5,Ne.symm s6]
 · refine e_al ?_;intro w1 hb1 hm1 hs1;refine ⟨keptL_of _ (fun p hp=>hm1.old _ (hrd p hp) _root_.id),?_⟩;refine e_call (ha' _) ((hB w1 hm1 hs1).mono ?_);rintro r w2 ⟨cz,u,rfl,h1,h2,hp,hm2⟩;have z2:=hm2.size;refine ⟨keptL_nil _,?_⟩;refine ⟨.tuple #[.agg cz.toArray,u],by simp [R.ev,O.ev,Env.put,Env.get],.agg cz.toArray,by simp [R.ev,O.ev,Env.put,Env.get,vEx],u,by simp [R.ev,O.ev,Env.put,Env.get,vEx,Ne.symm nbc],?_⟩;refine e_sta (w:=w2) (cs:=z.cells.toList) (vs:=cz) (by simp [O.ev,Env.put,Env.get,naf,nbf,ncf,ndf];rfl) (by simp [O.ev,Env.put,Env.get,ncd,Ne.symm ncd]) (by simpa using hm2.at hb1 (hMs _ (Nat.le_refl _))) h1 (by simpa using hz) h2 ?_;intro w3 hb3 hm3 hs3;refine ⟨keptL_of _ (fun p hp=>hm3.old _ (by have:=hrd p hp;omega) (by have:=hrd p hp;omega)),?_⟩;refine ⟨u,by simp [R.ev,O.ev,Env.put,Env.get],?_⟩;refine hk w3 _ w.heap.size cz u (fun s hs=>?_) (by simp [Env.put,Env.get,naf,nbf,ncf,ndf,Ne.symm nfg]) (by simp [Env.put,Env.get]) hb3 (Nat.le_refl _) (((mod0 hm1).trans hm2).step hm3 (fun b hb hl=>by omega)) h1 h2 (hBP _ _ _ _ hp hm3);simp only [List.mem_cons,List.not_mem_nil,or_false,not_or] at hs;obtain ⟨s1,s2,s3,s4,s5,s6⟩:=hs;simp [Env.put,Env.get,Ne.symm s1,Ne.symm s2,Ne.symm s3,Ne.symm s4,Ne.symm s5,Ne.symm s6]
end
end Go.Proofs.YtjfgeekjjlhbdaaGreatDoor