/- The row and the card of MeaningMore. -/
import Derived.Test.YtjfgeekjjlhbdaaGreatDoorZME
import Derived.Test.YtjfgeekjjlhbdaaGreatDoorZMA
import Derived.Test.YtjfgeekjjlhbdaaGreatDoorRows
import Derived.Deep.Slices
import Derived.Test.YtjfgeekjjlhbdaaGreatDoorCards
import Derived.Test.YtjfgeekjjlhbdaaGreatDoorTie
import Derived.Deep.DeepHandedRow
import Derived.Lay
import Derived.MakeChecks
set_option linter.unusedSimpArgs false
set_option linter.unusedVariables false
set_option maxRecDepth 100000
namespace Go.Proofs.YtjfgeekjjlhbdaaGreatDoor
section
open Go Go.W
def Cx.kp (X:Cx) (l:List (Nat×Obj)):Cx:={ X with keep:=l}
theorem step_kp (X:Cx) (l:List (Nat×Obj)) (m:Rn):stepS (X.kp l) m=stepS X m:=rfl
theorem begin_kp (X:Cx) (l:List (Nat×Obj)) (e:Ex) (v:Nms) (m:Rn):beginS (X.kp l) e v m=beginS X e v m:=rfl
theorem goOn_kp (X:Cx) (l:List (Nat×Obj)):∀ (n:Nat) (md:Md) (m:Rn),goOnS (X.kp l) n md m=goOnS X n md m
 | 0,md,m=>by cases md<;>rw [goOnS,goOnS]
 | n+1,.go e v,m=>by
   rw [goOnS,goOnS]
   simp only [step_kp,begin_kp,goOn_kp X l n]
 | n+1,.val x,m=>by
   rw [goOnS,goOnS]
   simp only [goOn_kp X l n]
theorem force_kp (X:Cx) (l:List (Nat×Obj)) (n c:Nat) (m:Rn):forceS (X.kp l) n c m=forceS X n c m:=by
 unfold forceS
 simp only [goOn_kp]
theorem RnIn.rekeep {w w':World} {S:Nat→Prop} {r md mf:Nat} {bs:List Nat} {X:Cx} {m:Rn} {vt vf:Value} {trows frows:List (List Value)} {tfp ffp fp fp':Option Nat} {K K':List (Nat×Obj)} (h:RnIn w S r md mf bs (X.kp K) m vt vf trows frows tfp ffp) (hK:∀ b,fp=some b→∃ o,(b,o)∈K)
   (hm:Mod (fun b=>fp=some b) w w') (hnew:∀ b,fp'=some b→fp=some b∨w.heap.size≤b) (hlt:∀ b,fp'=some b→b < w'.heap.size) (hK':∀ p∈K',fp'=some p.1∧w'.heap[p.1]? = some p.2) :
   RnIn w' (fun b=>S b∨fp'=some b) r md mf bs (X.kp K') m vt vf trows frows tfp ffp:=by
 have inK:∀ b,fp=some b→S b∧b∉rnList r md mf bs tfp ffp:=fun b hb=>by
   obtain ⟨o,ho⟩:=hK b hb
   exact ⟨(h.kept _ ho).2.1,(h.kept _ ho).2.2⟩
 have ne:∀ b∈rnList r md mf bs tfp ffp,¬ fp=some b:=fun b hb e=>(inK b e).2 hb
 have ne':∀ b∈rnList r md mf bs tfp ffp,¬ fp'=some b:=fun b hb e=>by
   rcases hnew b e with h1 | h1
   · exact ne b hb h1
   · have:=h.lt b (h.inS b hb);omega
 have hmS:Mod S w w':=hm.weak (fun b hb=>(inK b hb).1)
 have hout:∀ b,Out S w b→Out (fun b=>S b∨fp'=some b) w' b:=fun b hb=>⟨Nat.lt_of_lt_of_le hb.1 hm.size,fun hh=>by
   rcases hh with h1 | h1
   · exact hb.2 h1
   · rcases hnew b h1 with h2 | h2
     · exact hb.2 (inK b h2).1
     · have:=hb.1;omega⟩
 refine ⟨hm.at h.box (ne r (by simp)),h.told.mod hm (fun b hb=>ne b (by simp [hb])),h.items,h.frms.mod hm (fun b hb=>ne b (by simp [hb])),h.frames.imp (fun _ _ x=>x.up hmS out_not hout (fun _ _ h=>h)),h.blocks,fun b hb=>.inl (h.inS b hb),?_,h.len,?_,
   h.defs.mod hm (ne md (by simp)) (fun _ _ x=>x),h.fields.mod hm (ne mf (by simp)) (fun _ _ x=>x),h.steps,fun p hp=>?_⟩
 · rintro b (hb | hb)
   · exact Nat.lt_of_lt_of_le (h.lt b hb) hm.size
   · exact hlt b hb
 · intro i b x hi hx
   obtain ⟨v,h1,h2⟩:=h.cell i b x hi hx
   exact ⟨v,hm.at h1 (ne b (by simp [List.mem_of_getElem? hi])),h2.up hmS out_not hout (fun _ _ h=>h)⟩
 · obtain ⟨h1,h2⟩:=hK' p hp
   exact ⟨h2,.inr h1,fun hh=>ne' _ hh h1⟩
theorem RnAt.drop {w:World} {S:Nat→Prop} {r md mf:Nat} {bs:List Nat} {X:Cx} {m:Rn} {K:List (Nat×Obj)} (h:RnAt w S r md mf bs (X.kp K) m):RnAt w S r md mf bs (X.kp []) m:=by
 obtain ⟨vt,vf,trows,frows,tfp,ffp,h⟩:=h
 exact ⟨vt,vf,trows,frows,tfp,ffp,h.box,h.told,h.items,h.frms,h.frames,h.blocks,h.inS,h.lt,h.len,h.cell,h.defs,h.fields,h.steps,fun p hp=>by cases hp⟩
abbrev tCp:Nat:=82
structure WsAt (w w0:World) (bs:List Nat) (v:Value) (ws:List Nat) (rows:List Value) (fp:Option Nat) (K:List (Nat×Obj)):Prop where
 own:OwnS w tCp 1 v rows ws.length fp
 all:All2 (RCell bs) rows ws
 new:∀ b,fp=some b→w0.heap.size≤b
 k1:∀ b,fp=some b→∃ o,(b,o)∈K
theorem WsAt.up {w w' w0:World} {S S':Nat→Prop} {r md mf:Nat} {bs bs0 bs' bs0':List Nat} {X:Cx} {m m':Rn} {v:Value} {ws:List Nat} {rows:List Value} {fp:Option Nat} {K:List (Nat×Obj)} (h:WsAt w w0 bs v ws rows fp K) (hR:RnAt w S r md mf bs0 (X.kp K) m) (hR':RnAt w' S' r md mf bs0' (X.kp K) m') (hb:∀ (c b:Nat),bs[c]? = some b→bs'[c]? = some b):WsAt w' w0 bs' v ws rows fp K:=by
 refine ⟨⟨h.own.1,?_⟩,all2_imp (fun _ _ x=>by obtain ⟨y,e,h⟩:=x;exact ⟨y,e,hb _ _ h⟩) h.all,h.new,h.k1⟩
 rcases h.own.2 with h1 | ⟨b,c,sp,h1,h2,h3,h4⟩
 · exact .inl h1
 · refine .inr ⟨b,c,sp,h1,h2,?_,h4⟩
   obtain ⟨o,ho⟩:=h.k1 b h2
   obtain ⟨_,_,_,_,_,_,hh⟩:=hR
   obtain ⟨_,_,_,_,_,_,hh'⟩:=hR'
   have e1:=(hh.kept _ ho).1
   have e2:=(hh'.kept _ ho).1
   simp only at e1 e2
   rw [h3] at e1
   rw [e2,← e1]
theorem WsAt.push {w w' w'' w0:World} {S:Nat→Prop} {r md mf:Nat} {bs:List Nat} {X:Cx} {m:Rn} {v v':Value} {ws:List Nat} {rows:List Value} {fp fp':Option Nat} {K:List (Nat×Obj)} {c b:Nat} (h:WsAt w w0 bs v ws rows fp K) (hR:RnAt w S r md mf bs (X.kp K) m) (hc:bs[c]? = some b) (hm0:Mod (fun _=>False) w w') (hz:w0.heap.size≤w.heap.size)
   (ho:OwnS w'' tCp 1 v' (rows++[ptr b]) (ws.length+1) fp') (hm:Mod (fun b=>fp=some b) w' w'') (hf:∀ b,fp'=some b→fp=some b∨b=w'.heap.size∧b < w''.heap.size) :
   ∃ S' K',RnAt w'' S' r md mf bs (X.kp K') m∧Grew S S' w∧Mod S w w''∧WsAt w'' w0 bs v' (ws++[c]) (rows++[ptr b]) fp' K':=by
 obtain ⟨vt,vf,trows,frows,tfp,ffp,hh⟩:=hR.keep hm0
 have hfS:∀ b,fp=some b→S b:=fun b hb=>by
   obtain ⟨o,ho⟩:=h.k1 b hb
   exact (hh.kept _ ho).2.1
 have z0:=hm0.size
 have hnew:∀ b,fp'=some b→fp=some b∨w'.heap.size≤b:=fun b hb=>by
   rcases hf b hb with h1 | ⟨h1,_⟩
   · exact .inl h1
   · exact .inr (by omega)
 have hlt:∀ b,fp'=some b→b < w''.heap.size:=fun b hb=>ho.lt hb
 have all':All2 (RCell bs) (rows++[ptr b]) (ws++[c]):=h.all.snoc ⟨b,rfl,hc⟩
 have own':OwnS w'' tCp 1 v' (rows++[ptr b]) (ws++[c]).length fp':=by rw [List.length_append];exact ho
 have new':∀ b,fp'=some b→w0.heap.size≤b:=fun b hb=>by
   rcases hnew b hb with h1 | h1
   · exact h.new b h1
   · omega
 have hg:Grew S (fun b=>S b∨fp'=some b) w:=⟨fun b hb=>.inl hb,fun b hb=>by
   rcases hb with h1 | h1
   · exact .inl h1
   · rcases hnew b h1 with h2 | h2
     · exact .inl (hfS b h2)
     · exact .inr (by omega)⟩
 obtain ⟨b',cap,sp,e1,e2,e3,_⟩:=ho.pos (by omega)
 refine ⟨_,[(b',.cells (rows++[ptr b]++sp).toArray tCp (0,0))],⟨vt,vf,trows,frows,tfp,ffp,hh.rekeep (K':=[(b',.cells (rows++[ptr b]++sp).toArray tCp (0,0))]) h.k1 hm hnew hlt (fun p hp=>by rw [List.mem_singleton.1 hp];exact ⟨e2,e3⟩)⟩,hg,(mod0 hm0).trans (hm.weak hfS),own',all',new',fun b hb=>?_⟩
 rw [e2] at hb
 cases hb
 exact ⟨_,List.mem_singleton.2 rfl⟩
end
section
open Go Go.W
theorem ir_blk {P:Program} {N id:Nat} {a:IR} {Q:Post} {ρ:Go.W.Env} {w:World} (h:irwp P N a (blkQ id Q) ρ w):irwp P N (.block id a) Q ρ w:=h
theorem enter_val {m m':Rn} {c:Nat} {x:Cl} (h:enterCl m c=(some (.val x),m')):m'=m∧x.isV=true:=by
 unfold enterCl at h
 cases hx:m.cells[c]? with
 | none=>rw [hx] at h;cases h
 | some y=>
   rw [hx] at h
   cases y<;>first | (cases h;exact ⟨rfl,rfl⟩) | cases h
theorem force_sm {X:Cx} {n c:Nat} {m:Rn} {r:Option Cl×Rn} (h:forceS X n c m=some r) (hf:m.frames=[]):GoR X m r:=by
 unfold forceS at h
 have k:=enter_sm m c
 have kv:∀ x m',enterCl m c=(some (.val x),m')→m'=m∧x.isV=true:=fun x m'=>enter_val
 generalize enterCl m c=rr at h k kv
 match rr,h,k,kv with
 | (none,m'),h,k,kv=>
   cases h
   have ks:m'.steps=m.steps:=k.steps
   exact ⟨k.told,by show m.steps≤m'.steps;omega,fun hh=>by show m'.steps≤_;omega,fun x hx=>by (cases hx),fun _=>.inr (k.stop rfl)⟩
 | (some (.val x),m'),h,k,kv=>
   cases h
   obtain ⟨rfl,_⟩:=kv x m' rfl
   exact ⟨rfl,Int.le_refl _,fun h=>h,fun _ _=>⟨rfl,rfl,hf⟩,fun hn=>by cases hn⟩
 | (some (.go e v),m'),h,k,kv=>
   have ks:m'.steps=m.steps:=k.steps
   exact (goOn_sm n h).from k.told (by omega) (fun hh=>by omega) (k.go _ rfl)
theorem all2_take {α β:Type} {P:α→β→Prop}:∀ {l:List α} {m:List β} (k:Nat),All2 P l m→All2 P (l.take k) (m.take k)
 | _,_,0,_=>trivial
 | [],[],k+1,_=>trivial
 | a::l,b::m,k+1,h=>⟨h.1,all2_take k h.2⟩
 | [],_::_,k+1,h=>h.elim
 | _::_,[],k+1,h=>h.elim
theorem f_tell {n:Nat} {w:World} {S:Nat→Prop} {r md mf:Nat} {bs:List Nat} {X:Cx} {m mF:Rn} {x:Cl} {u:Value} (h:RnAt w S r md mf bs (X.kp []) m) (hu:ClAt w (Out S w) bs x u) (hv:x.isV=true) (hfr:m.frames=[]) (htl:(m.told.length:Int)≤m.steps) (hres:tellS X n x [] m=some mF) :
   CallsR Tryz.prog 29 [ptr r,u] w fun _ w'=>(∃ S' bs',RnAt w' S' r md mf bs' (X.kp []) mF∧Grew S S' w)∧Mod S w w':=by
 refine fit29.calls rfl ?_
 unfold ir29
 (try simp only [go_sem,Nat.reduceAdd,Nat.reduceEqDiff,Nat.reduceLT,Nat.reduceLeDiff,Nat.reduceMul,reduceCtorEq,↓reduceIte])
 refine ir_loop (fun z ρ w'=>Mod S w w'∧∃ (S':Nat→Prop) (bs':List Nat) (m':Rn) (x:Cl) (u:Value) (ws:List Nat) (vw:Value) (rows:List Value) (fp:Option Nat) (K:List (Nat×Obj)),RnAt w' S' r md mf bs' (X.kp K) m'∧Grew S S' w∧ClAt w' (Out S' w') bs' x u∧x.isV=true∧WsAt w' w bs' vw ws rows fp K∧m'.frames=[]∧(m'.told.length:Int)≤m'.steps∧tellS X z x ws m'=some mF ∧
   ρ.get 0=some (ptr r)∧ρ.get 1=some u∧ρ.get 4=some vw) n ⟨.refl _ _,S,bs,m,x,u,[],.slice none 0 0,[],none,[],h,grew_refl,hu,hv,⟨OwnS.nil _ _ _,trivial,fun b hb=>(by cases hb),fun b hb=>(by cases hb)⟩,hfr,htl,hres,rfl,rfl,rfl⟩ ?_
 rintro z ρ w1 ⟨hm1,S1,bs1,m1,x,u,ws,vw,rows,fp,K,hR1,hg1,hu1,hv1,hw1,hfr1,htl1,hte,g0,g1,g4⟩
 clear h hu hv hfr htl hres
 have hst1:m1.steps≤1048576∧0≤m1.steps:=by
   obtain ⟨_,_,_,_,_,_,hh⟩:=hR1
   have:=hh.steps;omega
 have Sr:∀ y,y=r→S1 y:=fun y hy=>by obtain ⟨_,_,_,_,_,_,hx⟩:=hR1;rw [hy];exact hx.inS _ (by simp)
 match z,hte with
 | 0,hte=>rw [tellS] at hte;cases hte
 | z+1,hte=>
 rw [tellS] at hte
 unfold ir29L2
 obtain ⟨T,zz,rfl,_⟩:=cl_iface hu1 hv1
 have hev:evs ρ [.t 0]=some [ptr r]:=by simp only [evs,O.ev,g0]
 refine ir_blk (ir_cut (fun ρ w2=>RnAt w2 S1 r md mf bs1 (X.kp K) { m1 with steps:=m1.steps+1}∧Mod (· = r) w1 w2∧m1.steps≠X.fuel∧ρ.get 0=some (ptr r)∧ρ.get 1=some (.iface T zz)∧ρ.get 4=some vw) ?_ ?_)
 · (try simp only [go_sem,Nat.reduceAdd,Nat.reduceEqDiff,Nat.reduceLT,Nat.reduceLeDiff,Nat.reduceMul,reduceCtorEq,↓reduceIte,g0,g1,g4])
   refine e_call hev ?_
   refine (f_step hR1).mono ?_
   rintro _ w2 ⟨rfl,hR2,hm2⟩
   have hm2S:=hm2.weak Sr
   have hm02:=mod_grew hm1 hg1 hm2S
   rw [step_kp] at hR2 ⊢
   rcases step_cases X m1 with ⟨q1,q2⟩ | ⟨q1,q2⟩
   · rw [q2,if_pos rfl] at hte
     rw [q2] at hR2 ⊢
     cases hte
     (try simp only [go_sem,Nat.reduceAdd,Nat.reduceEqDiff,Nat.reduceLT,Nat.reduceLeDiff,Nat.reduceMul,reduceCtorEq,↓reduceIte,g0,g1,g4,rvs,RV.ev,one?])
     exact ⟨⟨S1,bs1,hR2.drop,hg1⟩,hm02⟩
   · rw [q2] at hR2 ⊢
     (try simp only [go_sem,Nat.reduceAdd,Nat.reduceEqDiff,Nat.reduceLT,Nat.reduceLeDiff,Nat.reduceMul,reduceCtorEq,↓reduceIte,g0,g1,g4])
     exact ⟨hR2,hm2,q1⟩
 rintro ρ w2 ⟨hR2,hm2,q1,g0,g1,g4⟩
 have hm2S:=hm2.weak Sr
 have hm02:=mod_grew hm1 hg1 hm2S
 have q2:stepS X m1=(true,{ m1 with steps:=m1.steps+1}):=by unfold stepS;rw [if_neg q1]
 rw [q2,if_neg (by simp)] at hte
 simp only at hte
 have hu2:=hu1.up hm2S out_not (out_up hm2S) (fun _ _ h=>h)
 have hw2:WsAt w2 w bs1 vw ws rows fp K:=hw1.up hR1 hR2 (fun _ _ h=>h)
 refine ir_cut (fun ρ w3=>∃ (S3:Nat→Prop) (m3:Rn) (ws3:List Nat) (vw3:Value) (rows3:List Value) (fp3:Option Nat) (K3:List (Nat×Obj)),RnAt w3 S3 r md mf bs1 (X.kp K3) m3∧Grew S S3 w∧Mod S w w3∧WsAt w3 w bs1 vw3 ws3 rows3 fp3 K3∧m3.frames=[]∧(m3.told.length:Int)≤m3.steps∧m3.steps=m1.steps+1∧ρ.get 0=some (ptr r)∧ρ.get 4=some vw3 ∧
   (if 16777216 < ws3.length then none else match ws3.getLast? with
     | none=>some { m3 with kind:=2}
     | some c=>match forceS X z c m3 with
       | none=>none
       | some (none,m3)=>some m3
       | some (some y,m3)=>tellS X z y ws3.dropLast m3)=some mF) ?_ ?_
 · have hmid : ∀ {w3 : World} {S3 : Nat → Prop} {vw3 : Value} {ws3 : List Nat} {rows3 : List Value} {fp3 : Option Nat} {K3 : List (Nat × Obj)} {m3 : Rn}, RnAt w3 S3 r md mf bs1 (X.kp K3) m3 → Grew S S3 w → Mod S w w3 → WsAt w3 w bs1 vw3 ws3 rows3 fp3 K3 → m3 = { m1 with steps := m1.steps + 1, told := m1.told ++ itemS x } → ws3 = ws ++ (fieldsOf x).reverse →
       (∃ (S3:Nat→Prop) (m3:Rn) (ws3:List Nat) (vw3':Value) (rows3:List Value) (fp3:Option Nat) (K3:List (Nat×Obj)),RnAt w3 S3 r md mf bs1 (X.kp K3) m3∧Grew S S3 w∧Mod S w w3∧WsAt w3 w bs1 vw3' ws3 rows3 fp3 K3∧m3.frames=[]∧(m3.told.length:Int)≤m3.steps∧m3.steps=m1.steps+1∧vw3=vw3' ∧
         (if 16777216 < ws3.length then none else match ws3.getLast? with
           | none=>some { m3 with kind:=2}
           | some c=>match forceS X z c m3 with
             | none=>none
             | some (none,m3)=>some m3
             | some (some y,m3)=>tellS X z y ws3.dropLast m3)=some mF):=fun {w3 S3 vw3 ws3 rows3 fp3 K3 m3} a1 a2 a3 a4 a5 a6=>by
     subst a5 a6
     have hil:(itemS x).length≤1:=by cases x<;>simp [itemS]
     exact ⟨S3,_,_,vw3,rows3,fp3,K3,a1,a2,a3,a4,hfr1,by simp;omega,rfl,rfl,hte⟩
   obtain ⟨vt,vf,trows,frows,tfp,ffp,hh⟩:=hR2
   have htl:trows.length=m1.told.length:=hh.items.at.1
   obtain ⟨avt,cvt,rfl,_,_⟩:=hh.told.val
   have hbs:∀ {w3:World} {row:List Value},Mod (fun _=>False) w2 w3→True:=fun _=>trivial
   cases x with
   | num n=>
     cases hu2
     (try simp only [go_sem,Nat.reduceAdd,Nat.reduceEqDiff,Nat.reduceLT,Nat.reduceLeDiff,Nat.reduceMul,reduceCtorEq,↓reduceIte,g0,g1,g4])
     refine e_taC (D:=.int .i64) rfl rfl rfl (Tryz.zeroValue115 _) (fun _=>?_) (fun h=>absurd rfl h)
     (try simp only [go_sem,Nat.reduceAdd,Nat.reduceEqDiff,Nat.reduceLT,Nat.reduceLeDiff,Nat.reduceMul,reduceCtorEq,↓reduceIte,cell_of hh.box])
     refine e_bs (cs:=#[.string noStr,I n]) rfl rfl ?_
     intro w3 hb3 hm3 hs3
     have hbox3:=hm3.at hh.box _root_.id
     (try simp only [go_sem,Nat.reduceAdd,Nat.reduceEqDiff,Nat.reduceLT,Nat.reduceLeDiff,Nat.reduceMul,reduceCtorEq,↓reduceIte])
     refine e_ap (m:=1) (news:=[.string noStr,I n]) rfl (hh.told.mod hm3 (fun _ _ h=>h)) rfl (fun h=>by cases h) (rd_block (xs:=[.string noStr,I n]) hb3) (one_cons rfl (one_cons rfl one_nil)) rfl (by omega) (by omega) ?_
     intro v4 w4 fp4 ho4 hm4 hf4
     obtain ⟨n1,n2,n3,n4,n5,n6,n7,n8,n9⟩:=hh.ne
     have hbox4:=hm4.at hbox3 (fun e=>(n4 r e).1 rfl)
     obtain ⟨av4,cv4,rfl,_,_⟩:=ho4.val
     (try simp only [go_sem,Nat.reduceAdd,Nat.reduceEqDiff,Nat.reduceLT,Nat.reduceLeDiff,Nat.reduceMul,reduceCtorEq,↓reduceIte])
     refine e_st1 (b:=r) (off:=1) (v:=.slice av4 (trows.length+1) cv4) rfl rfl hbox4 rfl (by simp) ?_
     intro w5 hb5 hm5 hs5
     obtain ⟨S5,hR5,hg5,hm25⟩:=(hh.keep hm3).tell (it:=(noStr,n)) (row:=[.string noStr,I n]) hm4 ho4 (fun b hb=>by
       rcases hf4 b hb with h | ⟨h,_⟩
       · exact .inl h
       · exact .inr (by rw [h];exact Nat.le_refl _)) rfl hm5 hb5
     have hm25':Mod S1 w2 w5:=(mod0 hm3).trans hm25
     have hg25:Grew S1 S5 w2:=grew_step grew_refl hg5 hm3.size
     (try simp only [go_sem,Nat.reduceAdd,Nat.reduceEqDiff,Nat.reduceLT,Nat.reduceLeDiff,Nat.reduceMul,reduceCtorEq,↓reduceIte])
     exact hmid hR5 (grew_step hg1 hg25 hm02.size) (mod_grew hm02 hg1 hm25') (hw2.up ⟨_,_,_,_,_,_,hh⟩ hR5 (fun _ _ h=>h)) rfl (by simp [fieldsOf])
   | con k fs=>
     obtain ⟨a,vs,e1,hcs,hfs⟩:=hu2
     cases e1
     obtain ⟨af,cf,rfl⟩:=each_sl hfs
     have hlf:=each_len hfs
     have k0:w2.cell? a=some (.string k):=hcs.c0 (by simp)
     have hlr:=lt_of_heap hh.box
     (try simp only [go_sem,Nat.reduceAdd,Nat.reduceEqDiff,Nat.reduceLT,Nat.reduceLeDiff,Nat.reduceMul,reduceCtorEq,↓reduceIte,g0,g1,g4])
     refine e_taC (D:=.int .i64) rfl rfl rfl (Tryz.zeroValue115 _) (fun h=>by cases h) (fun _=>?_)
     (try simp only [go_sem,Nat.reduceAdd,Nat.reduceEqDiff,Nat.reduceLT,Nat.reduceLeDiff,Nat.reduceMul,reduceCtorEq,↓reduceIte])
     refine e_taC (D:=.pointer 114) rfl rfl rfl (Tryz.zeroValue111 _) (fun _=>?_) (fun h=>absurd rfl h)
     (try simp only [go_sem,Nat.reduceAdd,Nat.reduceEqDiff,Nat.reduceLT,Nat.reduceLeDiff,Nat.reduceMul,reduceCtorEq,↓reduceIte,cell_of hh.box,k0])
     refine e_bs (cs:=#[.string k,I 0]) rfl rfl ?_
     intro w3 hb3 hm3 hs3
     have hm3:Mod (fun _=>False) w2 w3:=hm3.of_drew
     have hbox3:=hm3.at hh.box _root_.id
     refine ⟨hm3.old _ hlr _root_.id,?_⟩
     refine e_ap (m:=1) (news:=[.string k,I 0]) rfl (hh.told.mod hm3 (fun _ _ h=>h)) rfl (fun h=>by cases h) (rd_block (xs:=[.string k,I 0]) hb3) (one_cons rfl (one_cons rfl one_nil)) rfl (by omega) (by omega) ?_
     intro v4 w4 fp4 ho4 hm4 hf4
     obtain ⟨n1,n2,n3,n4,n5,n6,n7,n8,n9⟩:=hh.ne
     have hbox4:=hm4.at hbox3 (fun e=>(n4 r e).1 rfl)
     obtain ⟨av4,cv4,rfl,_,_⟩:=ho4.val
     (try simp only [go_sem,Nat.reduceAdd,Nat.reduceEqDiff,Nat.reduceLT,Nat.reduceLeDiff,Nat.reduceMul,reduceCtorEq,↓reduceIte])
     refine e_st1 (b:=r) (off:=1) (v:=.slice av4 (trows.length+1) cv4) rfl rfl hbox4 rfl (by simp) ?_
     intro w5 hb5 hm5 hs5
     obtain ⟨S5,hR5,hg5,hm25⟩:=(hh.keep hm3).tell (it:=(k,0)) (row:=[.string k,I 0]) hm4 ho4 (fun b hb=>by
       rcases hf4 b hb with h | ⟨h,_⟩
       · exact .inl h
       · exact .inr (by rw [h];exact Nat.le_refl _)) rfl hm5 hb5
     have hm25':Mod S1 w2 w5:=(mod0 hm3).trans hm25
     have hg25:Grew S1 S5 w2:=grew_step grew_refl hg5 hm3.size
     have hg05:=grew_step hg1 hg25 hm02.size
     have hm05:=mod_grew hm02 hg1 hm25'
     have hw5:=hw2.up ⟨_,_,_,_,_,_,hh⟩ hR5 (fun _ _ h=>h)
     have hout5:=grew_out hg25 hm25'.size
     have hcs5:=hcs.up hm25' out_not hout5
     have hfs5:=hfs.up hm25' out_not hout5 (fun _ _ h=>h)
     have k1:w5.cell? ⟨a.block,a.off+1,none⟩=some (.slice af fs.length cf):=hcs5.at (k:=1) (by simp)
     have e1:IntKind.i64.wrap ((fs.length:Int) - 1)=(fs.length:Int) - 1:=wrap_in (by omega) (by omega)
     have hsum:ws.length+fs.length≤16777216:=by
       apply Classical.byContradiction
       intro hn
       rw [if_pos (by simp [fieldsOf];omega)] at hte
       cases hte
     (try simp only [go_sem,Nat.reduceAdd,Nat.reduceEqDiff,Nat.reduceLT,Nat.reduceLeDiff,Nat.reduceMul,reduceCtorEq,↓reduceIte,k1,e1])
     refine ir_loop (fun z' ρ w'=>z'≤fs.length∧∃ (S':Nat→Prop) (K':List (Nat×Obj)) (vk:Value) (rows':List Value) (fp':Option Nat),RnAt w' S' r md mf bs1 (X.kp K') { m1 with steps:=m1.steps+1,told:=m1.told++[(k,0)]}∧Grew S5 S' w5∧Mod S5 w5 w'∧WsAt w' w bs1 vk (ws++(fs.drop z').reverse) rows' fp' K' ∧
       ρ=[(0,ptr r),(4,vk),(6,.pointer (some a)),(7,I ((z':Int) - 1))]) fs.length ⟨Nat.le_refl _,S5,K,vw,rows,fp,hR5,grew_refl,.refl _ _,by rw [List.drop_length,List.reverse_nil,List.append_nil];exact hw5,rfl⟩ ?_
     · rintro q _ w6 ⟨hq,S6,K6,v6,rows6,fp6,hR6,hg56,hm56,hw6,rfl⟩
       unfold ir29L1
       match q,hq,hw6 with
       | 0,hq,hw6=>
         have b0:decide (((0:Nat):Int) - 1≥0)=false:=by decide
         (try simp only [go_sem,Nat.reduceAdd,Nat.reduceEqDiff,Nat.reduceLT,Nat.reduceLeDiff,Nat.reduceMul,reduceCtorEq,↓reduceIte,b0])
         exact hmid hR6 (grew_step hg05 hg56 hm05.size) (mod_grew hm05 hg05 hm56) hw6 rfl (by simp [fieldsOf])
       | q+1,hq,hw6=>
         have e2:((q+1:Nat):Int) - 1=(q:Int):=by omega
         have e3:IntKind.i64.wrap ((q:Int) - 1)=(q:Int) - 1:=wrap_in (by omega) (by omega)
         have b0:decide ((q:Int)≥0)=true:=by simp
         have hout6:=grew_out hg56 hm56.size
         have hfs6:=hfs5.up hm56 out_not hout6 (fun _ _ h=>h)
         have hcs6:=hcs5.up hm56 out_not hout6
         have k6:w6.cell? ⟨a.block,a.off+1,none⟩=some (.slice af fs.length cf):=hcs6.at (k:=1) (by simp)
         have hqf:q < fs.length:=by omega
         obtain ⟨ad2,c2,r2,e4,⟨b,rfl,hbb⟩,_,hcf⟩:=each_cells hfs6 hqf
         obtain ⟨rfl,-,-⟩:=tup_inj e4
         have f0:w6.cell? (ad2.add q)=some (ptr b):=by have:=hcf.c0 (by simp);rwa [Nat.mul_one] at this
         have p3:(0:Int)≤q∧(q:Int) < fs.length:=by omega
         (try simp only [go_sem,Nat.reduceAdd,Nat.reduceEqDiff,Nat.reduceLT,Nat.reduceLeDiff,Nat.reduceMul,reduceCtorEq,↓reduceIte,e2,b0,k6])
         (try simp only [go_sem,Nat.reduceAdd,Nat.reduceEqDiff,Nat.reduceLT,Nat.reduceLeDiff,Nat.reduceMul,reduceCtorEq,↓reduceIte,zb4,zb6,e2,b0,k6,p3,f0])
         refine e_bs (cs:=#[ptr b]) rfl rfl ?_
         intro w7 hb7 hm7 hs7
         have hw7:=hw6.own.mod hm7 (fun _ _ h=>h)
         (try simp only [go_sem,Nat.reduceAdd,Nat.reduceEqDiff,Nat.reduceLT,Nat.reduceLeDiff,Nat.reduceMul,reduceCtorEq,↓reduceIte])
         refine e_ap (m:=1) (news:=[ptr b]) rfl hw7 rfl (fun h=>by cases h) (rd_block (xs:=[ptr b]) hb7) (one_cons rfl one_nil) rfl (by simp;omega) (by simp;omega) ?_
         intro v8 w8 fp8 ho8 hm8 hf8
         obtain ⟨S8,K8,hR8,hg8,hm68,hw8⟩:=hw6.push hR6 hbb hm7 (by have:=hm05.size;have:=hm56.size;omega) ho8 hm8 hf8
         have e5:ws++(fs.drop (q+1)).reverse++[fs[q]]=ws++(fs.drop q).reverse:=by
           rw [List.drop_eq_getElem_cons hqf,List.reverse_cons,List.append_assoc]
         rw [e5] at hw8
         (try simp only [go_sem,Nat.reduceAdd,Nat.reduceEqDiff,Nat.reduceLT,Nat.reduceLeDiff,Nat.reduceMul,reduceCtorEq,↓reduceIte,e3])
         exact ⟨q,Nat.lt_succ_self q,by omega,S8,K8,v8,_,fp8,hR8,grew_step hg56 hg8 hm56.size,mod_grew hm56 hg56 hm68,hw8,rfl⟩
   | lam e nm=>
     obtain ⟨a,_,_,e1,_⟩:=hu2
     cases e1
     (try simp only [go_sem,Nat.reduceAdd,Nat.reduceEqDiff,Nat.reduceLT,Nat.reduceLeDiff,Nat.reduceMul,reduceCtorEq,↓reduceIte,g0,g1,g4])
     refine e_taC (D:=.int .i64) rfl rfl rfl (Tryz.zeroValue115 _) (fun h=>by cases h) (fun _=>?_)
     (try simp only [go_sem,Nat.reduceAdd,Nat.reduceEqDiff,Nat.reduceLT,Nat.reduceLeDiff,Nat.reduceMul,reduceCtorEq,↓reduceIte])
     refine e_taC (D:=.pointer 114) rfl rfl rfl (Tryz.zeroValue111 _) (fun h=>by cases h) (fun _=>?_)
     (try simp only [go_sem,Nat.reduceAdd,Nat.reduceEqDiff,Nat.reduceLT,Nat.reduceLeDiff,Nat.reduceMul,reduceCtorEq,↓reduceIte])
     exact hmid ⟨_,_,_,_,_,_,hh⟩ hg1 hm02 hw2 (by simp [itemS]) (by simp [fieldsOf])
   | par k l fs=>
     obtain ⟨a,_,e1,_⟩:=hu2
     cases e1
     (try simp only [go_sem,Nat.reduceAdd,Nat.reduceEqDiff,Nat.reduceLT,Nat.reduceLeDiff,Nat.reduceMul,reduceCtorEq,↓reduceIte,g0,g1,g4])
     refine e_taC (D:=.int .i64) rfl rfl rfl (Tryz.zeroValue115 _) (fun h=>by cases h) (fun _=>?_)
     (try simp only [go_sem,Nat.reduceAdd,Nat.reduceEqDiff,Nat.reduceLT,Nat.reduceLeDiff,Nat.reduceMul,reduceCtorEq,↓reduceIte])
     refine e_taC (D:=.pointer 114) rfl rfl rfl (Tryz.zeroValue111 _) (fun h=>by cases h) (fun _=>?_)
     (try simp only [go_sem,Nat.reduceAdd,Nat.reduceEqDiff,Nat.reduceLT,Nat.reduceLeDiff,Nat.reduceMul,reduceCtorEq,↓reduceIte])
     exact hmid ⟨_,_,_,_,_,_,hh⟩ hg1 hm02 hw2 (by simp [itemS]) (by simp [fieldsOf])
   | wait e nm=>cases hv1
   | busy=>cases hv1
   | emp=>cases hv1
 · rintro ρ w3 ⟨S3,m3,ws3,vw3,rows3,fp3,K3,hR3,hg3,hm03,hw3,hfr3,htl3,hst3,g0,g4,hte⟩
   obtain ⟨a3,c3,rfl,hc3,_⟩:=hw3.own.val
   have hq:(if 16777216 < ws3.length then none else match ws3.getLast? with
     | none=>some { m3 with kind:=2}
     | some c=>match forceS X z c m3 with
       | none=>none
       | some (none,m3)=>some m3
       | some (some y,m3)=>tellS X z y ws3.dropLast m3)=some mF:=hte
   have hlw:ws3.length≤16777216:=by
     apply Classical.byContradiction
     intro hn;rw [if_pos (by omega)] at hq;cases hq
   rw [if_neg (by omega)] at hq
   have Sr3:∀ y,y=r→S3 y:=fun y hy=>by obtain ⟨_,_,_,_,_,_,hx⟩:=hR3;rw [hy];exact hx.inS _ (by simp)
   cases hl:ws3.getLast? with
   | none=>
     rw [hl] at hq
     cases hq
     have h0:=List.getLast?_eq_none_iff.1 hl
     have b0:((ws3.length:Int) == 0)=true:=by rw [h0];try rfl
     obtain ⟨vt,vf,trows,frows,tfp,ffp,hh⟩:=hR3.drop
     (try simp only [go_sem,Nat.reduceAdd,Nat.reduceEqDiff,Nat.reduceLT,Nat.reduceLeDiff,Nat.reduceMul,reduceCtorEq,↓reduceIte,g0,g4,b0])
     refine e_st1 (b:=r) (off:=0) (v:=I 2) rfl rfl hh.box rfl (by simp) ?_
     intro w4 hb4 hm4 hs4
     (try simp only [go_sem,Nat.reduceAdd,Nat.reduceEqDiff,Nat.reduceLT,Nat.reduceLeDiff,Nat.reduceMul,reduceCtorEq,↓reduceIte,rvs,RV.ev,one?])
     exact ⟨⟨S3,bs1,⟨_,_,_,_,_,_,hh.upr (m':={ m3 with kind:=2}) hm4 hb4 rfl rfl rfl ⟨hh.steps.1,hh.steps.2.1⟩⟩,hg3⟩,mod_grew hm03 hg3 (hm4.weak Sr3)⟩
   | some c=>
     rw [hl] at hq
     simp only at hq
     have hne:ws3≠[]:=fun e=>by rw [e] at hl;cases hl
     have hpos:0 < ws3.length:=List.length_pos_iff.2 hne
     have b0:((ws3.length:Int) == 0)=false:=by
       have:¬ (ws3.length:Int)=0:=by omega
       simpa using this
     have e1:IntKind.i64.wrap ((ws3.length:Int) - 1)=((ws3.length - 1:Nat):Int):=by rw [wrap_in (by omega) (by omega)];omega
     have b1:(0:Int)≤((ws3.length - 1:Nat):Int)∧((ws3.length - 1:Nat):Int) < ws3.length:=by omega
     have b3:(0:Int)≤((ws3.length - 1:Nat):Int)∧((ws3.length - 1:Nat):Int)≤c3:=by omega
     have hlr:=hw3.all.at.1
     obtain ⟨bW,cW,sp,e2,hfp,hbW,_,_⟩:=hw3.own.pos hpos
     cases e2
     have hlast:ws3[ws3.length - 1]? = some c:=by rw [← List.getLast?_eq_getElem?];exact hl
     have hk:ws3.length - 1 < rows3.length:=by omega
     obtain ⟨b,hrb,hbb⟩:=hw3.all.at.2 _ _ _ (List.getElem?_eq_getElem hk) hlast
     have hcell:w3.cell? ⟨bW,ws3.length - 1,none⟩=some (ptr b):=by
       rw [cell_of hbW]
       simp only [List.getElem?_toArray]
       rw [List.getElem?_append_left hk,List.getElem?_eq_getElem hk,hrb]
     (try simp only [go_sem,Nat.reduceAdd,Nat.reduceEqDiff,Nat.reduceLT,Nat.reduceLeDiff,Nat.reduceMul,reduceCtorEq,↓reduceIte,g0,g4,b0,e1])
     (try simp only [go_sem,Nat.reduceAdd,Nat.reduceEqDiff,Nat.reduceLT,Nat.reduceLeDiff,Nat.reduceMul,reduceCtorEq,↓reduceIte,zb4,zb6,g0,g4,b0,e1,b1,b3,sl_same,ite_self,Nat.mul_one,add_at,Nat.zero_add,hcell])
     have hdl:ws3.dropLast=ws3.take (ws3.length - 1):=List.dropLast_eq_take
     have hwp:WsAt w3 w bs1 (.slice (some ⟨bW,0,none⟩) (ws3.length - 1) c3) ws3.dropLast (rows3.take (ws3.length - 1)) fp3 K3:=by
       refine ⟨?_,by rw [hdl];exact all2_take _ hw3.all,hw3.new,hw3.k1⟩
       have:=own_pre hw3.own (k:=ws3.length - 1) (by omega)
       rw [Nat.mul_one] at this
       rw [List.length_dropLast]
       exact this
     cases hfo:forceS X z c m3 with
     | none=>rw [hfo] at hq;cases hq
     | some rr=>
     rw [hfo] at hq
     have hgo:=force_sm hfo hfr3
     have hst3':0≤m3.steps:=by omega
     refine e_call (by rfl) ?_
     refine (f_force hR3 hbb (by rw [hfr3];exact hst3') (by rw [force_kp];exact hfo)).mono ?_
     rintro v w4 ⟨⟨S4,bs4,hR4,hg4,hbs4,hval⟩,hm4⟩
     have hg04:=grew_step hg3 hg4 hm03.size
     have hm04:=mod_grew hm03 hg3 hm4
     match rr,hq,hgo,hR4,hval with
     | (none,m4),hq,hgo,hR4,hval=>
       have hval:v=_:=hval
       subst hval
       cases hq
       (try simp only [go_sem,Nat.reduceAdd,Nat.reduceEqDiff,Nat.reduceLT,Nat.reduceLeDiff,Nat.reduceMul,reduceCtorEq,↓reduceIte,rvs,RV.ev,one?])
       exact ⟨⟨S4,bs4,hR4.drop,hg04⟩,hm04⟩
     | (some y,m4),hq,hgo,hR4,⟨u4,e4,hu4,hv4⟩=>
       subst e4
       have ht4:m4.told=m3.told:=hgo.told
       have hs4:m3.steps≤m4.steps:=hgo.steps
       obtain ⟨_,_,hf4⟩:=hgo.val y rfl
       have hw4:=hwp.up hR3 hR4 hbs4
       (try simp only [go_sem,Nat.reduceAdd,Nat.reduceEqDiff,Nat.reduceLT,Nat.reduceLeDiff,Nat.reduceMul,reduceCtorEq,↓reduceIte])
       exact ⟨_,Nat.lt_succ_self z,hm04,S4,bs4,m4,y,u4,_,_,_,_,K3,hR4,hg04,hu4,hv4,hw4,hf4,by rw [ht4];omega,hq,rfl,rfl⟩
end
section
open Go Go.W
theorem raw_ins {P:Program} {w:World} {ρ:Go.W.Env} {K:Value→World→Prop} {d:Option Nat} {t:TypeId} {m x y:Operand} {ty:TypeId} {pos:String} {af:Array Edge} (h:Go.W.E.wp P w ρ K (.raw ⟨d,.mapUpdate t m x y,ty,pos,af,none⟩)):Go.W.E.wp P w ρ K (.raw ⟨d,.insert t m x y,ty,pos,af,none⟩):=h
theorem RnIn.upm {w w':World} {S:Nat→Prop} {r md mf:Nat} {bs:List Nat} {X:Cx} {m:Rn} {vt vf:Value} {trows frows:List (List Value)} {tfp ffp:Option Nat} {ds:List (ByteArray×Nat)} {fs:List (ByteArray×Int)} (h:RnIn w S r md mf bs X m vt vf trows frows tfp ffp) (hm:Mod (fun b=>b=md∨b=mf) w w') (hd:MapR w' md (RCell bs) ds) (hf:MapR w' mf RI fs) :
   RnIn w' S r md mf bs { X with defs:=ds,fields:=fs} m vt vf trows frows tfp ffp:=by
 obtain ⟨n1,n2,n3,n4,n5,n6,n7,n8,n9⟩:=h.ne
 have Sm:∀ b,(b=md∨b=mf)→S b:=fun b hb=>by
   rcases hb with rfl | rfl<;>exact h.inS _ (by simp)
 have hmS:=hm.weak Sm
 refine ⟨hm.at h.box (fun e=>by rcases e with e | e;exact n1 e;exact n2 e),h.told.mod hm (fun b hb e=>by rcases e with e | e;exact (n4 b hb).2.1 e.symm;exact (n4 b hb).2.2 e.symm),h.items,h.frms.mod hm (fun b hb e=>by rcases e with e | e;exact (n5 b hb).2.1 e.symm;exact (n5 b hb).2.2 e.symm),h.frames.imp (fun _ _ x=>x.up hmS out_not (out_up hmS) (fun _ _ h=>h)),h.blocks,h.inS,fun b hb=>Nat.lt_of_lt_of_le (h.lt b hb) hm.size,h.len,?_,hd,hf,h.steps,fun p hp=>?_⟩
 · intro i b x hi hx
   obtain ⟨v,h1,h2⟩:=h.cell i b x hi hx
   have hmem:=List.mem_of_getElem? hi
   exact ⟨v,hm.at h1 (fun e=>by rcases e with e | e;exact (n6 b hmem).2.1 e.symm;exact (n6 b hmem).2.2 e.symm),h2.up hmS out_not (out_up hmS) (fun _ _ h=>h)⟩
 · obtain ⟨a1,a2,a3⟩:=h.kept p hp
   exact ⟨hm.at a1 (fun e=>by rcases e with e | e<;>exact a3 (by rw [e];simp)),a2,a3⟩
def defsF:List Df→Nat→List (ByteArray×Nat)→List (ByteArray×Nat)
 | [],_,l=>l
 | d::ds,i,l=>defsF ds (i+1) (aput l d.name i)
def consF:List Cn→List (ByteArray×Int)→List (ByteArray×Int)
 | [],l=>l
 | k::ks,l=>consF ks (aput l k.name k.fields.length)
def datasF:List Dt→List (ByteArray×Int)→List (ByteArray×Int)
 | [],l=>l
 | d::ds,l=>datasF ds (consF d.cons l)
abbrev consN:ByteArray:=⟨#[67,111,110,115]⟩
abbrev pairN:ByteArray:=⟨#[80,97,105,114]⟩
abbrev tripleN:ByteArray:=⟨#[84,114,105,112,108,101]⟩
def fields0:List (ByteArray×Int):=[(consN,2),(pairN,2),(tripleN,3)]
def newX (p:Pg) (fuel:Int):Cx:={ fuel:=fuel,defs:=defsF p.defs 0 [],fields:=datasF p.datas fields0}
def newM (p:Pg):Rn:={ cells:=p.defs.map (fun d=>Cl.wait d.body []),frames:=[],told:=[],steps:=0,kind:=0,stuck:=0}
theorem defsF_at {l:List Df} {i:Nat} (hi:i < l.length) (m:List (ByteArray×Nat)):defsF (l.drop i) i m=defsF (l.drop (i+1)) (i+1) (aput m l[i].name i):=by rw [List.drop_eq_getElem_cons hi,defsF]
theorem consF_at {l:List Cn} {i:Nat} (hi:i < l.length) (m:List (ByteArray×Int)):consF (l.drop i) m=consF (l.drop (i+1)) (aput m l[i].name l[i].fields.length):=by rw [List.drop_eq_getElem_cons hi,consF]
theorem datasF_at {l:List Dt} {i:Nat} (hi:i < l.length) (m:List (ByteArray×Int)):datasF (l.drop i) m=datasF (l.drop (i+1)) (consF l[i].cons m):=by rw [List.drop_eq_getElem_cons hi,datasF]
theorem f_newRun (p:Pg) {fuel:Int} {w:World} {cs:List Value} (h:PgAt w (Out (fun _=>False) w) cs p) (hf:0≤fuel∧fuel≤1048576) :
   CallsR Tryz.prog 25 [.agg cs.toArray,I fuel] w fun v w'=>(∃ (r md mf:Nat) (S:Nat→Prop) (bs:List Nat),v=ptr r∧RnAt w' S r md mf bs (newX p fuel) (newM p)∧∀ b,S b→w.heap.size≤b)∧Mod (fun _=>False) w w':=by
 obtain ⟨vd,vf,rfl,hd,hdf⟩:=h
 obtain ⟨ad,cd,rfl⟩:=each_sl hd
 obtain ⟨af,cf,rfl⟩:=each_sl hdf
 have hlf:=each_len hdf
 have hld:=each_len hd
 refine fit25.calls rfl ?_
 unfold ir25
 (try simp only [go_sem,simprocAttr])
 refine e_bx rfl ?_
 intro w1 hb1 hm1 hs1
 (try simp only [go_sem,simprocAttr])
 refine e_mmR (α:=Nat) (fun _ _=>False) ?_
 intro w2 hp2 hm2 hs2
 (try simp only [go_sem,simprocAttr])
 refine e_mmR (α:=Int) RI ?_
 intro w3 hp3 hm3 hs3
 (try simp only [go_sem,simprocAttr])
 refine raw_ins ?_
 refine e_muR (kt:=9) (et:=3) (b:=w2.heap.size) (k:=consN) (v:=I 2) (a:=(2:Int)) rfl rfl rfl rfl rfl hp3 rfl ?_
 intro w4 hp4 hm4 hs4
 (try simp only [go_sem,simprocAttr])
 refine raw_ins ?_
 refine e_muR (kt:=9) (et:=3) (b:=w2.heap.size) (k:=pairN) (v:=I 2) (a:=(2:Int)) rfl rfl rfl rfl rfl hp4 rfl ?_
 intro w5 hp5 hm5 hs5
 (try simp only [go_sem,simprocAttr])
 refine raw_ins ?_
 refine e_muR (kt:=9) (et:=3) (b:=w2.heap.size) (k:=tripleN) (v:=I 3) (a:=(3:Int)) rfl rfl rfl rfl rfl hp5 rfl ?_
 intro w6 hp6 hm6 hs6
 (try simp only [go_sem,simprocAttr])
 refine e_bx rfl ?_
 intro w7 hb7 hm7 hs7
 have m13:Mod (fun _=>False) w w3:=(hm1.trans hm2).trans hm3
 have z1:w1.heap.size=w.heap.size+1:=hs1
 have z2:w2.heap.size=w1.heap.size+1:=hs2
 have z3:w3.heap.size=w2.heap.size+1:=hs3
 have z6:w6.heap.size=w3.heap.size:=by omega
 have m36:Mod (· = w2.heap.size) w3 w6:=(hm4.trans hm5).trans hm6
 have m07:Mod (fun _=>False) w w7:=(m13.step m36 (fun b hb hl=>by omega)).trans hm7
 have hmdd:=(((hp2.mod hm3 _root_.id (fun _ _ h=>h)).mod m36 (fun e=>by omega) (fun _ _ h=>h)).mod hm7 _root_.id (fun _ _ h=>h):MapR w7 w1.heap.size (fun _ _=>False) [])
 have hmff:MapR w7 w2.heap.size RI fields0:=hp6.mod hm7 _root_.id (fun _ _ h=>h)
 have hR0:RnIn w7 (fun b=>b=w6.heap.size∨b=w1.heap.size∨b=w2.heap.size) w6.heap.size w1.heap.size w2.heap.size [] { fuel:=fuel,defs:=[],fields:=fields0} { cells:=[],frames:=[],told:=[],steps:=0,kind:=0,stuck:=0} (.slice none 0 0) (.slice none 0 0) [] [] none none:=by
   refine ⟨hb7,OwnS.nil _ _ _,trivial,OwnS.nil _ _ _,trivial,?_,?_,?_,rfl,fun i b x hi=>by simp at hi,?_,hmff,⟨Int.le_refl _,hf.1,hf.2⟩,fun p hp=>by cases hp⟩
   · simp [rnList];omega
   · intro b hb;simp [rnList] at hb;exact hb
   · have z7:w7.heap.size=w6.heap.size+1:=hs7
     rintro b (rfl | rfl | rfl)<;>omega
   · obtain ⟨lv,hv,hp⟩:=hmdd
     cases hp
     exact ⟨[],hv,.nil⟩
 have hb17:w7.heap[w.heap.size]? = some (.cells [.slice ad p.datas.length cd,.slice af p.defs.length cf].toArray 25 (0,0)):=by
   refine hm7.at (m36.at ((hm2.trans hm3).at hb1 _root_.id) (fun e=>by omega)) _root_.id
 (try simp only [go_sem,simprocAttr,cell_of hb17])
 refine ir_loop (fun z ρ w'=>∃ (i:Nat) (S':Nat→Prop) (bs':List Nat) (ds:List (ByteArray×Nat)),z=p.defs.length - i∧i≤p.defs.length∧RnAt w' S' w6.heap.size w1.heap.size w2.heap.size bs' { fuel:=fuel,defs:=ds,fields:=fields0} { cells:=(p.defs.take i).map (fun d=>Cl.wait d.body []),frames:=[],told:=[],steps:=0,kind:=0,stuck:=0}∧(∀ b,S' b→w1.heap.size≤b)∧Mod (fun _=>False) w w'∧w'.heap[w.heap.size]? = some (.cells [.slice ad p.datas.length cd,.slice af p.defs.length cf].toArray 25 (0,0))∧defsF p.defs 0 []=defsF (p.defs.drop i) i ds ∧
   ρ=[(2,ptr w.heap.size),(5,ptr w6.heap.size),(19,I p.defs.length),(20,I i)]) p.defs.length ⟨0,_,[],[],by omega,by omega,⟨_,_,_,_,_,_,hR0⟩,?_,m07,hb17,rfl,rfl⟩ ?_
 · rintro b (rfl | rfl | rfl)<;>omega
 rintro z _ w8 ⟨i,S8,bs8,ds,rfl,hi,hR8,hS8,hm8,hb8,hds,rfl⟩
 unfold ir25L1
 by_cases q:i < p.defs.length
 · have b1:decide ((i:Int) < p.defs.length)=true:=by simpa using q
   have p1:(0:Int)≤i∧(i:Int) < p.defs.length:=by omega
   have hout:∀ {w':World} {S':Nat→Prop},Mod (fun _=>False) w w'→(∀ b,S' b→w1.heap.size≤b)→∀ b,Out (fun _=>False) w b→Out S' w' b:=fun hm hs b hb=>⟨Nat.lt_of_lt_of_le hb.1 hm.size,fun hh=>by have:=hs b hh;have:=hb.1;omega⟩
   have hd8:=hdf.up hm8 nof (hout hm8 hS8) (fun _ _ h=>h.up hm8 nof (hout hm8 hS8))
   obtain ⟨ad2,c2,rr,e1,hdat,hl12,hcs⟩:=each_cells hd8 q
   obtain ⟨rfl,-,-⟩:=tup_inj e1
   obtain ⟨vp,tc,bc,rfl,ltc,lbc,_,_,hbody,_⟩:=hdat
   have c0:w8.cell? (ad2.add (i*12))=some (.string p.defs[i].name):=hcs.c0 (by simp)
   have hbp:CellsAt w8 (Out S8 w8) ⟨(ad2.add (i*12)).block,(ad2.add (i*12)).off+5,none⟩ bc:=hcs.part (fun j hj=>by
     rw [show 5+j=(j+3)+1+1 by omega]
     simp only [List.getElem?_cons_succ]
     rw [List.getElem?_append_right (by omega),ltc,Nat.add_sub_cancel]
     exact List.getElem?_eq_getElem hj) (by decide)
   have lc:=cell_lt c0
   obtain ⟨vt',vf',tr',fr',tf',ff',hh8⟩:=hR8
   have hlb:bs8.length=i:=by rw [hh8.len];simp;omega
   (try simp only [go_sem,simprocAttr,b1])
   (try simp only [go_sem,simprocAttr,zb4,zb6,cell_of hb8,cell_of hh8.box,p1,c0])
   have l8:=lt_of_heap hb8
   have lr8:=lt_of_heap hh8.box
   refine e_bx rfl ?_
   intro w9 hb9 hm9' hs9
   have hm9:Mod (fun _=>False) w8 w9:=hm9'.of_drew
   refine ⟨⟨hm9.old _ lc _root_.id,hm9.old _ l8 _root_.id,hm9.old _ lr8 _root_.id⟩,?_⟩
   have z9:w9.heap.size=w8.heap.size+1:=hs9
   have z8:=hm8.size
   (try simp only [go_sem,simprocAttr])
   refine e_bx rfl ?_
   intro w10 hb10 hm10 hs10
   refine ⟨⟨hm10.old _ (by omega) _root_.id,hm10.old _ (by omega) _root_.id,hm10.old _ (by omega) _root_.id⟩,?_⟩
   have hm810:=hm9.trans hm10
   have hnew:∀ b,b < w8.heap.size→And1 S8 w9.heap.size b→S8 b:=and1_new (by omega)
   have hnot:¬ And1 S8 w9.heap.size w8.heap.size:=by
     rintro (hx | hx)
     · have:=hh8.lt _ hx;omega
     · omega
   have hR10:=(RnAt.keep ⟨_,_,_,_,_,_,hh8⟩ hm9).new (x:=.wait p.defs[i].body []) (v:=.iface 105 (ptr w8.heap.size)) hm10 hb10 (Nat.le_refl _) ⟨_,_,_,rfl,cells_of_new (S:=And1 S8 w9.heap.size) (cs:=[.pointer (some ⟨(ad2.add (i*12)).block,(ad2.add (i*12)).off+5,none⟩),.pointer none]) hb9 hm10 hnot,⟨_,bc,rfl,hbp.up (mod0 hm810 (S:=S8)) out_not (out_ext (mod0 hm810) hnew),hbody.up (mod0 hm810 (S:=S8)) out_not (out_ext (mod0 hm810) hnew)⟩,rfl⟩
   obtain ⟨vt,vf,trr,frr,tfp,ffp,hh10⟩:=hR10
   have hget:(bs8++[w9.heap.size])[i]? = some w9.heap.size:=by rw [← hlb,List.getElem?_append_right (Nat.le_refl _)];simp
   (try simp only [go_sem,simprocAttr])
   refine e_muR (kt:=9) (et:=82) (b:=w1.heap.size) (k:=p.defs[i].name) (v:=ptr w9.heap.size) (a:=i) rfl rfl rfl rfl rfl hh10.defs ⟨_,rfl,hget⟩ ?_
   intro w11 hp11 hm11 hs11
   have e3:IntKind.i64.wrap ((i:Int)+1)=((i+1:Nat):Int):=by rw [wrap_in (by omega) (by omega)];omega
   have hne:=hh10.ne
   have hh11:=hh10.upm (hm11.weak (fun b hb=>.inl hb)) hp11 (hh10.fields.mod hm11 (fun e=>hne.2.2.1 e.symm) (fun _ _ x=>x))
   have etk:(p.defs.take (i+1)).map (fun d=>Cl.wait d.body [])=(p.defs.take i).map (fun d=>Cl.wait d.body [])++[Cl.wait p.defs[i].body []]:=by
     rw [List.take_succ_eq_append_getElem q,List.map_append];try rfl
   (try simp only [go_sem,simprocAttr,e3])
   refine ⟨_,by omega,i+1,_,_,_,rfl,q,⟨_,_,_,_,_,_,by rw [etk];exact hh11⟩,?_,?_,?_,?_,rfl⟩
   · rintro b (hb | hb)
     · exact hS8 b hb
     · omega
   · exact (hm8.trans hm810).step hm11 (fun b hb hl=>by omega)
   · exact hm11.at (hm810.at hb8 _root_.id) (fun e=>by omega)
   · rw [hds,defsF_at q]
 · have b1:decide ((i:Int) < p.defs.length)=false:=by simpa using q
   have hi2:i=p.defs.length:=by omega
   subst hi2
   rw [List.drop_length,defsF] at hds
   rw [List.take_length] at hR8
   (try simp only [go_sem,simprocAttr,b1,cell_of hb8])
   have hout:∀ {w':World},Mod (fun _=>False) w w'→∀ b,Out (fun _=>False) w b→Out (fun _=>False) w' b:=fun hm b hb=>⟨Nat.lt_of_lt_of_le hb.1 hm.size,hb.2⟩
   refine ir_loop (fun z ρ w'=>∃ (i:Nat) (fs:List (ByteArray×Int)),z=p.datas.length - i∧i≤p.datas.length∧RnAt w' S8 w6.heap.size w1.heap.size w2.heap.size bs8 { fuel:=fuel,defs:=ds,fields:=fs} (newM p)∧Mod (fun _=>False) w w'∧datasF p.datas fields0=datasF (p.datas.drop i) fs ∧
     ρ=[(5,ptr w6.heap.size),(45,.slice ad p.datas.length cd),(46,I p.datas.length),(47,I i)]) p.datas.length ⟨0,fields0,by omega,by omega,hR8,hm8,rfl,rfl⟩ ?_
   rintro z _ w9 ⟨i,fs,rfl,hi3,hR9,hm9,hfs,rfl⟩
   unfold ir25L3
   by_cases q2:i < p.datas.length
   · have b2:decide ((i:Int) < p.datas.length)=true:=by simpa using q2
     have p2:(0:Int)≤i∧(i:Int) < p.datas.length:=by omega
     have e3:IntKind.i64.wrap ((i:Int)+1)=((i+1:Nat):Int):=by rw [wrap_in (by omega) (by omega)];omega
     obtain ⟨ad2,c2,rr,e1,⟨vp,vc,rfl,hpar,hcons⟩,hl3,hcs⟩:=each_cells hd q2
     obtain ⟨rfl,-,-⟩:=tup_inj e1
     obtain ⟨ac,cc,rfl⟩:=each_sl hcons
     have hlc:=each_len hcons
     obtain ⟨ap,cp,rfl⟩:=each_sl hpar
     have hln:=ln_cells hl3 (hcs.up hm9 nof (hout hm9)).2
     (try simp only [go_sem,simprocAttr,b2])
     (try simp only [go_sem,simprocAttr,zb4,zb6,p2,hln])
     refine e_al ?_
     intro w10 hb10 hm10 hs10
     (try simp only [go_sem,simprocAttr])
     refine e_sta (vs:=[.string p.datas[i].name,.slice ap p.datas[i].params.length cp,.slice ac p.datas[i].cons.length cc]) (cs:=[.string noStr,.slice none 0 0,.slice none 0 0]) rfl rfl hb10 rfl rfl (one_cons rfl (one_cons rfl (one_cons rfl one_nil))) ?_
     intro w11 hb11 hm11 hs11
     have hm911:Mod (fun _=>False) w9 w11:=hm10.step hm11 (fun b hb hl=>by have e:b=w9.heap.size:=hb;omega)
     (try simp only [go_sem,simprocAttr,cell_of hb11])
     refine ir_loop (fun z ρ w'=>∃ (k:Nat) (fs':List (ByteArray×Int)),z=p.datas[i].cons.length - k∧k≤p.datas[i].cons.length∧RnAt w' S8 w6.heap.size w1.heap.size w2.heap.size bs8 { fuel:=fuel,defs:=ds,fields:=fs'} (newM p)∧Mod (fun _=>False) w w'∧consF p.datas[i].cons fs=consF (p.datas[i].cons.drop k) fs' ∧
       ρ=[(5,ptr w6.heap.size),(45,.slice (some ad2) p.datas.length cd),(46,I p.datas.length),(47,I i),(52,.slice ac p.datas[i].cons.length cc),(53,I p.datas[i].cons.length),(54,I k)]) p.datas[i].cons.length ⟨0,fs,by omega,by omega,hR9.keep hm911,hm9.trans hm911,rfl,rfl⟩ ?_
     rintro z _ w12 ⟨k,fs',rfl,hk3,hR12,hm12,hfs',rfl⟩
     unfold ir25L2
     by_cases q3:k < p.datas[i].cons.length
     · have b3:decide ((k:Int) < p.datas[i].cons.length)=true:=by simpa using q3
       have p3:(0:Int)≤k∧(k:Int) < p.datas[i].cons.length:=by omega
       have e4:IntKind.i64.wrap ((k:Int)+1)=((k+1:Nat):Int):=by rw [wrap_in (by omega) (by omega)];omega
       obtain ⟨ad3,c3,rr3,e5,⟨vf3,rfl,hfl,_⟩,hl2,hcs3⟩:=each_cells hcons q3
       obtain ⟨rfl,-,-⟩:=tup_inj e5
       obtain ⟨af3,cf3,rfl⟩:=each_sl hfl
       have hln3:=ln_cells hl2 (hcs3.up hm12 nof (hout hm12)).2
       (try simp only [go_sem,simprocAttr,b3])
       (try simp only [go_sem,simprocAttr,zb4,zb6,p3,hln3])
       refine e_al ?_
       intro w13 hb13 hm13 hs13
       (try simp only [go_sem,simprocAttr])
       refine e_sta (vs:=[.string p.datas[i].cons[k].name,.slice af3 p.datas[i].cons[k].fields.length cf3]) (cs:=[.string noStr,.slice none 0 0]) rfl rfl hb13 rfl rfl (one_cons rfl (one_cons rfl one_nil)) ?_
       intro w14 hb14 hm14 hs14
       have hm1214:Mod (fun _=>False) w12 w14:=hm13.step hm14 (fun b hb hl=>by have e:b=w12.heap.size:=hb;omega)
       obtain ⟨vt,vf,trr,frr,tfp,ffp,hh14⟩:=hR12.keep hm1214
       have d14:Mod (fun _=>False) w14 w14.drew:=(Mod.refl _ _).drew
       (try simp only [go_sem,simprocAttr,cell_of hb14,cell_of hh14.box])
       refine e_muR (kt:=9) (et:=3) (b:=w2.heap.size) (k:=p.datas[i].cons[k].name) (v:=I p.datas[i].cons[k].fields.length) (a:=(p.datas[i].cons[k].fields.length:Int)) rfl rfl rfl rfl rfl (hh14.keep d14).fields rfl ?_
       intro w15 hp15 hm15 hs15
       have hh15:=(hh14.keep d14).upm (hm15.weak (fun b hb=>.inr hb)) ((hh14.keep d14).defs.mod hm15 (fun e=>hh14.ne.2.2.1 e) (fun _ _ x=>x)) hp15
       (try simp only [go_sem,simprocAttr,e4])
       have hmw2:w.heap.size≤w2.heap.size:=by omega
       exact ⟨_,by omega,k+1,_,rfl,q3,⟨_,_,_,_,_,_,hh15⟩,(hm12.trans (hm1214.trans d14)).step hm15 (fun b hb hl=>by have e:b=w2.heap.size:=hb;omega),by rw [hfs',consF_at q3],rfl⟩
     · have b3:decide ((k:Int) < p.datas[i].cons.length)=false:=by simpa using q3
       have hk4:k=p.datas[i].cons.length:=by omega
       subst hk4
       rw [List.drop_length,consF] at hfs'
       (try simp only [go_sem,simprocAttr,b3,e3])
       exact ⟨_,by omega,i+1,fs',rfl,q2,hR12,hm12,by rw [hfs,datasF_at q2,hfs'],rfl⟩
   · have b2:decide ((i:Int) < p.datas.length)=false:=by simpa using q2
     have hi4:i=p.datas.length:=by omega
     subst hi4
     rw [List.drop_length,datasF] at hfs
     (try simp only [go_sem,simprocAttr,b2,rvs,RV.ev,one?])
     have hX:newX p fuel = { fuel:=fuel,defs:=ds,fields:=fs}:=by unfold newX;rw [hds,hfs]
     exact ⟨⟨w6.heap.size,w1.heap.size,w2.heap.size,S8,bs8,rfl,by rw [hX];exact hR9,fun b hb=>by have:=hS8 b hb;omega⟩,hm9⟩
end
section
open Go Go.W
theorem fs_two {w:World} {S:Nat→Prop} {bs:List Nat} {b T c i j x y:Nat} (hb:w.heap[b]? = some (.cells [ptr x,ptr y].toArray T (0,0))) (hS:¬ S b) (hi:bs[i]? = some x) (hj:bs[j]? = some y):FsAt w (Out S w) bs [i,j] (.slice (some ⟨b,0,none⟩) 2 c):=by
 refine ⟨[[ptr x],[ptr y]],⟨⟨_,c,rfl,fun _ ad e=>by cases e;exact ⟨lt_of_heap hb,hS⟩,fun k hk=>⟨_,rfl,?_,?_⟩⟩,by simp⟩,rfl,?_⟩
 · match k,hk with
   | 0,_=>rfl
   | 1,_=>rfl
 · intro q hq
   rw [add_at,add_at,cell_of hb]
   match k,hk,q,hq with
   | 0,_,0,_=>rfl
   | 1,_,0,_=>rfl
   | 0,_,q+1,hq=>simp at hq
   | 1,_,q+1,hq=>simp at hq
 · intro k r c hr hc
   match k with
   | 0=>simp only [List.getElem?_cons_zero,Option.some.injEq] at hr hc;subst hr hc;exact ⟨x,rfl,hi⟩
   | 1=>simp only [List.getElem?_cons_succ,List.getElem?_cons_zero,Option.some.injEq] at hr hc;subst hr hc;exact ⟨y,rfl,hj⟩
   | k+2=>simp at hr
def Rn.ls (m:Rn) (l:List Int):Rn:={ m with cells:=(listedS l m.cells).2}
theorem listed_con (l:List Int) (cs:List Cl):∃ n fs,(listedS l cs).1 = .con n fs:=by
 cases l with
 | nil=>exact ⟨_,_,rfl⟩
 | cons n l=>exact ⟨_,_,rfl⟩
theorem ls_cons (m:Rn) (n:Int) (l:List Int):m.ls (n::l)=(((m.ls l).new (.num n)).new (listedS l m.cells).1):=by
 unfold Rn.ls Rn.new
 simp [listedS]
theorem f_listed {input:List Int} {v:Value} {w:World} {S:Nat→Prop} {r md mf:Nat} {bs:List Nat} {X:Cx} {m:Rn} (h:RnAt w S r md mf bs X m) (hi:Ints w v input) :
   CallsR Tryz.prog 28 [v] w fun u w'=>(∃ S' bs',RnAt w' S' r md mf bs' X (m.ls input)∧Grew S S' w∧(∀ (c b:Nat),bs[c]? = some b→bs'[c]? = some b)∧ClAt w' (Out S' w') bs' (listedS input m.cells).1 u)∧Mod (fun _=>False) w w':=by
 obtain ⟨av,cv,rfl,hle,_⟩:=hi
 rename_i hix
 refine fit28.calls rfl ?_
 unfold ir28
 (try simp only [go_sem,Nat.reduceAdd,Nat.reduceEqDiff,Nat.reduceLT,Nat.reduceLeDiff,Nat.reduceMul,reduceCtorEq,↓reduceIte])
 refine e_bx rfl ?_
 intro w1 hb1 hm1 hs1
 have e1:IntKind.i64.wrap ((input.length:Int) - 1)=(input.length:Int) - 1:=wrap_in (by omega) (by omega)
 (try simp only [go_sem,Nat.reduceAdd,Nat.reduceEqDiff,Nat.reduceLT,Nat.reduceLeDiff,Nat.reduceMul,reduceCtorEq,↓reduceIte,e1])
 have hS:=h
 obtain ⟨_,_,_,_,_,_,hh⟩:=hS
 refine ir_loop (fun k ρ w'=>k≤input.length∧∃ (S':Nat→Prop) (bs':List Nat) (u:Value),RnAt w' S' r md mf bs' X (m.ls (input.drop k))∧Grew S S' w∧(∀ (c b:Nat),bs[c]? = some b→bs'[c]? = some b)∧ClAt w' (Out S' w') bs' (listedS (input.drop k) m.cells).1 u∧Mod (fun _=>False) w w' ∧
   ρ=[(0,.slice av input.length cv),(3,u),(4,I ((k:Int) - 1))]) input.length ⟨Nat.le_refl _,S,bs,.iface 111 (ptr w.heap.size),?_,grew_refl,fun _ _ h=>h,?_,hm1,rfl⟩ ?_
 · rw [List.drop_length];exact h.keep hm1
 · rw [List.drop_length]
   exact ⟨_,_,rfl,cells_new (cs:=[.string ⟨#[78,105,108]⟩,.slice none 0 0]) hb1 (fun hx=>by have:=hh.lt _ hx;omega),each_nil _ _ _ _⟩
 · rintro k _ w2 ⟨hk,S2,bs2,u,hR2,hg2,hbs2,hu2,hm2,rfl⟩
   unfold ir28L1
   match k,hk,hR2,hu2 with
   | 0,hk,hR2,hu2=>
     have b0:decide (((0:Nat):Int) - 1≥0)=false:=by decide
     (try simp only [go_sem,Nat.reduceAdd,Nat.reduceEqDiff,Nat.reduceLT,Nat.reduceLeDiff,Nat.reduceMul,reduceCtorEq,↓reduceIte,b0,rvs,RV.ev,one?])
     exact ⟨⟨S2,bs2,hR2,hg2,hbs2,hu2⟩,hm2⟩
   | k+1,hk,hR2,hu2=>
     have hkl:k < input.length:=by omega
     obtain ⟨ad,rfl,hc⟩:=hix k hkl
     have hc2:=hm2.cell hc _root_.id
     have e2:((k+1:Nat):Int) - 1=(k:Int):=by omega
     have e3:IntKind.i64.wrap ((k:Int) - 1)=(k:Int) - 1:=wrap_in (by omega) (by omega)
     have b0:decide ((k:Int)≥0)=true:=by simp
     have p1:(0:Int)≤k∧(k:Int) < input.length:=by omega
     obtain ⟨kn,kf,hcon⟩:=listed_con (input.drop (k+1)) m.cells
     obtain ⟨T,z,hu0,_⟩:=cl_iface hu2 (by rw [hcon];try rfl)
     subst hu0
     (try simp only [go_sem,Nat.reduceAdd,Nat.reduceEqDiff,Nat.reduceLT,Nat.reduceLeDiff,Nat.reduceMul,reduceCtorEq,↓reduceIte,e2,b0])
     (try simp only [go_sem,Nat.reduceAdd,Nat.reduceEqDiff,Nat.reduceLT,Nat.reduceLeDiff,Nat.reduceMul,reduceCtorEq,↓reduceIte,zb4,zb6,e2,b0,p1,hc2])
     refine e_bx rfl ?_
     intro w3 hb3 hm3 hs3
     have hR3:=hR2.new (x:=.num input[k]) (v:=.iface 115 (I input[k])) hm3 hb3 (Nat.le_refl _) rfl
     have hu3:=hu2.up (mod0 hm3 (S:=S2)) out_not (out_ext (mod0 hm3) (and1_new (Nat.le_refl _))) (app_get (b:=w2.heap.size))
     (try simp only [go_sem,Nat.reduceAdd,Nat.reduceEqDiff,Nat.reduceLT,Nat.reduceLeDiff,Nat.reduceMul,reduceCtorEq,↓reduceIte])
     refine e_bx rfl ?_
     intro w4 hb4 hm4 hs4
     have hR4:=hR3.new (x:=(listedS (input.drop (k+1)) m.cells).1) (v:=.iface T z) hm4 hb4 (Nat.le_refl _) (hu3.up (mod0 hm4 (S:=And1 S2 w2.heap.size)) out_not (out_ext (mod0 hm4) (and1_new (Nat.le_refl _))) app_get)
     (try simp only [go_sem,Nat.reduceAdd,Nat.reduceEqDiff,Nat.reduceLT,Nat.reduceLeDiff,Nat.reduceMul,reduceCtorEq,↓reduceIte])
     refine e_bs (cs:=#[ptr w2.heap.size,ptr w3.heap.size]) rfl rfl ?_
     intro w5 hb5 hm5 hs5
     (try simp only [go_sem,Nat.reduceAdd,Nat.reduceEqDiff,Nat.reduceLT,Nat.reduceLeDiff,Nat.reduceMul,reduceCtorEq,↓reduceIte])
     refine e_bx rfl ?_
     intro w6 hb6 hm6 hs6
     (try simp only [go_sem,Nat.reduceAdd,Nat.reduceEqDiff,Nat.reduceLT,Nat.reduceLeDiff,Nat.reduceMul,reduceCtorEq,↓reduceIte,e3])
     have edrop:input.drop k=input[k]::input.drop (k+1):=List.drop_eq_getElem_cons hkl
     have hls:m.ls (input.drop k)=((m.ls (input.drop (k+1))).new (.num input[k])).new (listedS (input.drop (k+1)) m.cells).1:=by rw [edrop,ls_cons]
     have z2:=hm2.size
     have z23:w3.heap.size=w2.heap.size+1:=hs3
     have z34:w4.heap.size=w3.heap.size+1:=hs4
     have z45:w5.heap.size=w4.heap.size+1:=hs5
     have hg4:Grew S (And1 (And1 S2 w2.heap.size) w3.heap.size) w:=⟨fun b hb=>.inl (.inl (hg2.1 b hb)),fun b hb=>by
       rcases hb with (h | h) | h
       · exact hg2.2 b h
       · right;omega
       · right;omega⟩
     have hlt2:∀ b,S2 b→b < w2.heap.size:=by obtain ⟨_,_,_,_,_,_,hx⟩:=hR2;exact hx.lt
     have hlen2:bs2.length=(m.ls (input.drop (k+1))).cells.length:=by obtain ⟨_,_,_,_,_,_,hx⟩:=hR2;exact hx.len
     have hnot:∀ x,w4.heap.size≤x→¬ (And1 (And1 S2 w2.heap.size) w3.heap.size) x:=fun x hx hh=>by
       rcases hh with (h | h) | h
       · have:=hlt2 _ h;omega
       · omega
       · omega
     refine ⟨k,Nat.lt_succ_self k,by omega,And1 (And1 S2 w2.heap.size) w3.heap.size,bs2++[w2.heap.size]++[w3.heap.size],_,?_,hg4,fun c b h=>app_get _ _ (app_get _ _ (hbs2 c b h)),?_,(hm2.trans (hm3.trans hm4)).trans (hm5.trans hm6),rfl⟩
     · rw [hls];exact (hR4.keep hm5).keep hm6
     · rw [edrop]
       refine ⟨_,_,rfl,cells_new (cs:=[.string ⟨#[67,111,110,115]⟩,.slice (some ⟨w4.heap.size,0,none⟩) 2 2]) hb6 (hnot _ (by omega)),fs_two (hm6.at hb5 _root_.id) (hnot _ (Nat.le_refl _)) ?_ ?_⟩
       · show (bs2++[w2.heap.size]++[w3.heap.size])[(listedS (input.drop (k+1)) m.cells).2.length]? = _
         have:(listedS (input.drop (k+1)) m.cells).2.length=bs2.length:=by rw [hlen2];try rfl
         rw [this,List.append_assoc,List.getElem?_append_right (Nat.le_refl _)];simp
       · show (bs2++[w2.heap.size]++[w3.heap.size])[(listedS (input.drop (k+1)) m.cells).2.length+1]? = _
         have:(listedS (input.drop (k+1)) m.cells).2.length=bs2.length:=by rw [hlen2];try rfl
         rw [this,List.append_assoc,List.getElem?_append_right (by omega)];simp
end
section
open Go Go.W
abbrev PlF:=Ty→Cnt→Option (Bool×Cnt)
def plL (f:PlF):List Ty→Cnt→Option (Bool×Cnt)
 | [],s=>some (true,s)
 | t::l,s=>match f t s with
   | none=>none
   | some (false,s')=>some (false,s')
   | some (true,s')=>plL f l s'
def plC (f:PlF):List Cn→Cnt→Option (Bool×Cnt)
 | [],s=>some (true,s)
 | k::l,s=>match plL f k.fields s with
   | none=>none
   | some (false,s')=>some (false,s')
   | some (true,s')=>plC f l s'
def plD (f:PlF) (n:ByteArray):List Dt→Cnt→Option (Bool×Cnt)
 | [],s=>some (true,s)
 | d::l,s=>if d.name≠n then plD f n l s else match plC f d.cons s with
   | none=>none
   | some (false,s')=>some (false,s')
   | some (true,s')=>plD f n l s'
def plF (ds:List Dt):Nat→PlF
 | 0=>fun _ _=>none
 | n+1=>fun t s=>if t.kind=3 then some (false,s) else match plL (plF ds n) t.args s with
   | none=>none
   | some (false,s')=>some (false,s')
   | some (true,s')=>if t.kind≠4∨(aget s' t.name).getD 0 > 0 then some (true,s') else plD (plF ds n) t.name ds (aput s' t.name 1)
theorem plL_at {f:PlF} {l:List Ty} {i:Nat} (hi:i < l.length) (s:Cnt):plL f (l.drop i) s=match f l[i] s with
   | none=>none
   | some (false,s')=>some (false,s')
   | some (true,s')=>plL f (l.drop (i+1)) s':=by rw [List.drop_eq_getElem_cons hi,plL]
theorem plC_at {f:PlF} {l:List Cn} {i:Nat} (hi:i < l.length) (s:Cnt):plC f (l.drop i) s=match plL f l[i].fields s with
   | none=>none
   | some (false,s')=>some (false,s')
   | some (true,s')=>plC f (l.drop (i+1)) s':=by rw [List.drop_eq_getElem_cons hi,plC]
theorem plD_at {f:PlF} {n:ByteArray} {l:List Dt} {i:Nat} (hi:i < l.length) (s:Cnt):plD f n (l.drop i) s=if l[i].name≠n then plD f n (l.drop (i+1)) s else match plC f l[i].cons s with
   | none=>none
   | some (false,s')=>some (false,s')
   | some (true,s')=>plD f n (l.drop (i+1)) s':=by rw [List.drop_eq_getElem_cons hi,plD]
theorem f_plain (p:Pg):∀ (n:Nat) (t:Ty) {s s':Cnt} {b:Bool} {w:World} {B:Nat→Prop} {cs ct:List Value} {sm:Nat},PgAt w B cs p→TyAt w B ct t→MapR w sm RI s→¬ B sm→plF p.datas n t s=some (b,s') →
   CallsR Tryz.prog 34 [.agg cs.toArray,.agg ct.toArray,.map (some sm)] w fun v w'=>v = .bool b∧MapR w' sm RI s'∧Mod (· = sm) w w'
 | 0,t,s,s',b,w,B,cs,ct,sm,hp,ht,hm,hB,h=>by rw [plF] at h;cases h
 | n+1,t,s,s',b,w,B,cs,ct,sm,hp,ht,hm,hB,h=>by
   have hp0:=hp
   have lts:sm < w.heap.size:=by obtain ⟨lv,⟨es,c,h1,_⟩,_⟩:=hm;exact lt_of_heap h1
   obtain ⟨vd,vf,rfl,hd,_⟩:=hp
   obtain ⟨ad,cd,rfl⟩:=each_sl hd
   have hld:=each_len hd
   obtain ⟨va,rfl,hl⟩:=ht.cells
   obtain ⟨aa,ca,rfl⟩:=each_sl hl
   have hla:=each_len hl
   have hnB:∀ b,B b→¬ (b=sm):=fun b hb e=>hB (by rw [← e];exact hb)
   have h:(if t.kind=3 then some (false,s) else match plL (plF p.datas n) t.args s with
     | none=>none
     | some (false,s')=>some (false,s')
     | some (true,s')=>if t.kind≠4∨(aget s' t.name).getD 0 > 0 then some (true,s') else plD (plF p.datas n) t.name p.datas (aput s' t.name 1))=some (b,s'):=h
   refine fit34.calls rfl ?_
   unfold ir34
   refine ir_cut (fun ρ w2=>∃ b3 b4,w.heap.size≤b3∧w.heap.size≤b4∧w2.heap[b3]? = some (.cells [.slice ad p.datas.length cd,vf].toArray 25 (0,0))∧w2.heap[b4]? = some (.cells [I t.kind,.string t.name,.slice aa t.args.length ca].toArray 42 (0,0))∧Mod (fun _=>False) w w2∧ρ=[(2,.map (some sm)),(3,ptr b3),(4,ptr b4)]) ?_ ?_
   · (try simp only [go_sem,simprocAttr])
     refine e_bx rfl ?_
     intro w1 hb1 hm1 hs1
     (try simp only [go_sem,simprocAttr])
     refine e_bx rfl ?_
     intro w2 hb2 hm2 hs2
     (try simp only [go_sem,simprocAttr])
     exact ⟨w.heap.size,w1.heap.size,Nat.le_refl _,hm1.size,hm2.at hb1 _root_.id,hb2,hm1.trans hm2,rfl⟩
   rintro _ w2 ⟨b3,b4,l3,l4,hb3,hb4,m02,rfl⟩
   have m2:Mod (· = sm) w w2:=m02.weak (fun _ h=>h.elim)
   have hM2:=hm.mod m02 _root_.id (fun _ _ x=>x)
   have later:∀ {w':World},Mod (· = sm) w w'→∀ {w3:World},True:=fun _=>trivial
   have box:∀ {w':World},Mod (· = sm) w2 w'→w'.heap[b3]? = some (.cells [.slice ad p.datas.length cd,vf].toArray 25 (0,0))∧w'.heap[b4]? = some (.cells [I t.kind,.string t.name,.slice aa t.args.length ca].toArray 42 (0,0))∧Mod (· = sm) w w':=fun hm=>⟨hm.at hb3 (fun e=>by omega),hm.at hb4 (fun e=>by omega),m2.trans hm⟩
   cases hk:t.kind == 3 with
   | true=>
     rw [if_pos (by simpa using hk)] at h
     cases h
     (try simp only [go_sem,simprocAttr,cell_of hb4,hk,rvs,RV.ev,one?])
     exact ⟨hM2,m2⟩
   | false=>
     rw [if_neg (by simpa using hk)] at h
     refine ir_cut (fun ρ w'=>w2=w'∧ρ.get 2=some (.map (some sm))∧ρ.get 3=some (ptr b3)∧ρ.get 4=some (ptr b4)) ?_ ?_
     · (try simp only [go_sem,simprocAttr,cell_of hb4,hk])
     rintro ρ _ ⟨rfl,g2,g3,g4⟩
     cases hall:plL (plF p.datas n) t.args s with
     | none=>rw [hall] at h;cases h
     | some bs=>
     obtain ⟨bb,ss⟩:=bs
     rw [hall] at h
     refine ir_cut (fun ρ w'=>bb=true∧MapR w' sm RI ss∧Mod (· = sm) w2 w'∧ρ.get 2=some (.map (some sm))∧ρ.get 3=some (ptr b3)∧ρ.get 4=some (ptr b4)) ?_ ?_
     · (try simp only [go_sem,simprocAttr,g2,g3,g4,cell_of hb4])
       refine ir_loop (fun z ρ w'=>∃ (i:Nat) (s1:Cnt),z=t.args.length - i∧i≤t.args.length∧plL (plF p.datas n) (t.args.drop i) s1=some (bb,ss)∧MapR w' sm RI s1∧Mod (· = sm) w2 w'∧ρ.get 2=some (.map (some sm))∧ρ.get 3=some (ptr b3)∧ρ.get 4=some (ptr b4)∧ρ.get 19=some (.slice aa t.args.length ca)∧ρ.get 20=some (I t.args.length)∧ρ.get 21=some (I i)) t.args.length ⟨0,s,by omega,by omega,hall,hM2,.refl _ _,rfl,rfl,rfl,rfl,rfl,rfl⟩ ?_
       rintro z ρ w3 ⟨i,s1,rfl,hi,hpl,hM3,m23,g2,g3,g4,g19,g20,g21⟩
       unfold ir34L1
       by_cases q:i < t.args.length
       · have b1:decide ((i:Int) < t.args.length)=true:=by simpa using q
         have p1:(0:Int)≤i∧(i:Int) < t.args.length:=by omega
         obtain ⟨hb33,hb43,m3⟩:=box m23
         have hl3:=hl.mod m3 hnB (fun _ _ h=>h.mod m3 hnB)
         obtain ⟨ad1,c1,r1,e1,htr,hlr,hln,_⟩:=each_at hl3 q
         obtain ⟨rfl,-,-⟩:=tup_inj e1
         (try simp only [go_sem,simprocAttr,g2,g3,g4,g19,g20,g21,b1])
         (try simp only [go_sem,simprocAttr,zb4,zb6,p1,hln])
         rw [plL_at q] at hpl
         refine e_al ?_
         intro w4 hb4' hm4 hs4
         have hr1:=htr.len
         obtain ⟨vr,er,hlr'⟩:=htr.cells
         (try simp only [go_sem,simprocAttr])
         refine e_sta (vs:=r1) (cs:=[I 0,.string noStr,.slice none 0 0]) rfl rfl hb4' hr1 rfl htr.one ?_
         intro w5 hb5 hm5 hs5
         have m35:Mod (fun _=>False) w3 w5:=hm4.step hm5 (fun b hb hl=>by have e:b=w3.heap.size:=hb;omega)
         have m25:Mod (· = sm) w2 w5:=m23.trans (m35.weak (fun _ h=>h.elim))
         obtain ⟨hb35,hb45,m5⟩:=box m25
         cases hrec:plF p.datas n t.args[i] s1 with
         | none=>rw [hrec] at hpl;cases hpl
         | some bs=>
         obtain ⟨b6,s6⟩:=bs
         rw [hrec] at hpl
         (try simp only [go_sem,simprocAttr,ln_blk (n:=2) (cs:=[.slice ad p.datas.length cd,vf]) hb35 rfl,ln_blk (n:=3) (cs:=r1) hb5 hr1])
         refine e_call (by rfl) ?_
         refine (f_plain p n t.args[i] (hp0.mod m5 hnB) ((htr.mod m35 (fun _ _ h=>h))) (hM3.mod m35 _root_.id (fun _ _ x=>x)) hB hrec).mono ?_
         rintro _ w6 ⟨rfl,hM6,hm6⟩
         have m26:=m25.trans hm6
         have e3:IntKind.i64.wrap ((i:Int)+1)=((i+1:Nat):Int):=by rw [wrap_in (by omega) (by omega)];omega
         cases b6 with
         | false=>
           cases hpl
           cases h
           (try simp only [go_sem,simprocAttr,rvs,RV.ev,one?])
           exact ⟨hM6,m2.trans m26⟩
         | true=>
           (try simp only [go_sem,simprocAttr,e3])
           exact ⟨_,by omega,i+1,s6,rfl,q,hpl,hM6,m26,rfl⟩
       · have b1:decide ((i:Int) < t.args.length)=false:=by simpa using q
         rw [List.drop_eq_nil_of_le (by omega),plL] at hpl
         cases hpl
         (try simp only [go_sem,simprocAttr,g2,g3,g4,g19,g20,g21,b1])
         exact ⟨hM3,m23⟩
     rintro ρ w3 ⟨rfl,hM3,m23,g2,g3,g4⟩
     obtain ⟨hb33,hb43,m3⟩:=box m23
     have h:(if t.kind≠4∨(aget ss t.name).getD 0 > 0 then some (true,ss) else plD (plF p.datas n) t.name p.datas (aput ss t.name 1))=some (b,s'):=h
     refine ir_cut (fun ρ w4=>t.kind=4∧¬ (aget ss t.name).getD 0 > 0∧w3=w4∧ρ.get 2=some (.map (some sm))∧ρ.get 3=some (ptr b3)∧ρ.get 4=some (ptr b4)) ?_ ?_
     · cases h4:(t.kind != 4) with
       | true=>
         have h4':t.kind≠4:=by simpa using h4
         rw [if_pos (.inl h4')] at h
         cases h
         (try simp only [go_sem,simprocAttr,g2,g3,g4,cell_of hb43,h4,rvs,RV.ev,one?])
         exact ⟨hM3,m3⟩
       | false=>
         have h4':t.kind=4:=by simpa using h4
         (try simp only [go_sem,simprocAttr,g2,g3,g4,cell_of hb43,h4])
         refine raw_g ?_
         refine e_lkI (k:=t.name) (b:=sm) (kt:=9) (et:=3) rfl rfl rfl rfl (zI _) hM3 ?_
         cases hs:decide ((aget ss t.name).getD 0 > 0) with
         | true=>
           have hs':(aget ss t.name).getD 0 > 0:=by simpa using hs
           rw [if_pos (.inr hs')] at h
           cases h
           (try simp only [go_sem,simprocAttr,hs,rvs,RV.ev,one?])
           exact ⟨hM3,m3⟩
         | false=>
           have hs':¬ (aget ss t.name).getD 0 > 0:=by simpa using hs
           (try simp only [go_sem,simprocAttr,hs])
           exact ⟨h4',hs'⟩
     rintro ρ _ ⟨h4,hs,rfl,g2,g3,g4⟩
     rw [if_neg (by rintro (h | h);exact h h4;exact hs h)] at h
     refine ir_cut (fun ρ w4=>MapR w4 sm RI (aput ss t.name 1)∧Mod (· = sm) w3 w4∧ρ.get 2=some (.map (some sm))∧ρ.get 3=some (ptr b3)∧ρ.get 4=some (ptr b4)) ?_ ?_
     · (try simp only [go_sem,simprocAttr,g2,g3,g4,cell_of hb43])
       refine e_muR (kt:=9) (et:=3) (b:=sm) (k:=t.name) (v:=I 1) (a:=(1:Int)) rfl rfl rfl rfl rfl hM3 rfl ?_
       intro w4 hp4 hm4 hs4
       (try simp only [go_sem,simprocAttr])
       exact ⟨hp4,hm4⟩
     rintro ρ w4 ⟨hM4,m34,g2,g3,g4⟩
     have m24:=m23.trans m34
     obtain ⟨hb34,hb44,m4⟩:=box m24
     (try simp only [go_sem,simprocAttr,g2,g3,g4,cell_of hb34])
     refine ir_loop (fun z ρ w'=>∃ (i:Nat) (s1:Cnt),z=p.datas.length - i∧i≤p.datas.length∧plD (plF p.datas n) t.name (p.datas.drop i) s1=some (b,s')∧MapR w' sm RI s1∧Mod (· = sm) w2 w'∧ρ.get 2=some (.map (some sm))∧ρ.get 3=some (ptr b3)∧ρ.get 4=some (ptr b4)∧ρ.get 45=some (.slice ad p.datas.length cd)∧ρ.get 46=some (I p.datas.length)∧ρ.get 47=some (I i)) p.datas.length ⟨0,_,by omega,by omega,h,hM4,m24,rfl,rfl,rfl,rfl,rfl,rfl⟩ ?_
     rintro z ρ w5 ⟨i,s1,rfl,hi,hpl,hM5,m25,g2,g3,g4,g45,g46,g47⟩
     obtain ⟨hb35,hb45,m5⟩:=box m25
     unfold ir34L4
     by_cases q:i < p.datas.length
     · have b1:decide ((i:Int) < p.datas.length)=true:=by simpa using q
       have p1:(0:Int)≤i∧(i:Int) < p.datas.length:=by omega
       have e3:IntKind.i64.wrap ((i:Int)+1)=((i+1:Nat):Int):=by rw [wrap_in (by omega) (by omega)];omega
       obtain ⟨ad1,c1,r1,e1,⟨vp,vc,rfl,hpar,hcons⟩,hl3,hcs⟩:=each_cells hd q
       obtain ⟨rfl,-,-⟩:=tup_inj e1
       obtain ⟨ac,cc,rfl⟩:=each_sl hcons
       have hlc:=each_len hcons
       obtain ⟨ap,cp,rfl⟩:=each_sl hpar
       have hln:=ln_cells hl3 (hcs.up m5 hnB (fun _ h=>h)).2
       rw [plD_at q] at hpl
       (try simp only [go_sem,simprocAttr,g2,g3,g4,g45,g46,g47,b1])
       (try simp only [go_sem,simprocAttr,zb4,zb6,p1,hln])
       refine e_al ?_
       intro w6 hb6 hm6 hs6
       (try simp only [go_sem,simprocAttr])
       refine e_sta (vs:=[.string p.datas[i].name,.slice ap p.datas[i].params.length cp,.slice ac p.datas[i].cons.length cc]) (cs:=[.string noStr,.slice none 0 0,.slice none 0 0]) rfl rfl hb6 rfl rfl (one_cons rfl (one_cons rfl (one_cons rfl one_nil))) ?_
       intro w7 hb7 hm7 hs7
       have m57:Mod (fun _=>False) w5 w7:=hm6.step hm7 (fun b hb hl=>by have e:b=w5.heap.size:=hb;omega)
       have m27:Mod (· = sm) w2 w7:=m25.trans (m57.weak (fun _ h=>h.elim))
       obtain ⟨hb37,hb47,m7⟩:=box m27
       have hM7:=hM5.mod m57 _root_.id (fun _ _ x=>x)
       cases hn:strEq p.datas[i].name t.name with
       | false=>
         have hne:p.datas[i].name≠t.name:=by have:=hn;rw [strEq_iff] at this;simpa using this
         rw [if_pos hne] at hpl
         rw [strEq] at hn
         (try simp only [go_sem,simprocAttr,cell_of hb7,cell_of hb47,hn,e3])
         exact ⟨_,by omega,i+1,s1,rfl,q,hpl,hM7,m27,rfl⟩
       | true=>
         have hne:p.datas[i].name=t.name:=by have:=hn;rw [strEq_iff] at this;simpa using this
         rw [if_neg (by simpa using hne)] at hpl
         rw [strEq] at hn
         cases hcall:plC (plF p.datas n) p.datas[i].cons s1 with
         | none=>rw [hcall] at hpl;cases hpl
         | some cs1=>
         obtain ⟨bc,sc⟩:=cs1
         rw [hcall] at hpl
         (try simp only [go_sem,simprocAttr,cell_of hb7,cell_of hb47,hn])
         refine ir_loop (fun z ρ w'=>∃ (k:Nat) (s2:Cnt),z=p.datas[i].cons.length - k∧k≤p.datas[i].cons.length∧plC (plF p.datas n) (p.datas[i].cons.drop k) s2=some (bc,sc)∧MapR w' sm RI s2∧Mod (· = sm) w2 w'∧ρ.get 2=some (.map (some sm))∧ρ.get 3=some (ptr b3)∧ρ.get 4=some (ptr b4)∧ρ.get 45=some (.slice (some ad1) p.datas.length cd)∧ρ.get 46=some (I p.datas.length)∧ρ.get 47=some (I i) ∧
           ρ.get 57=some (.slice ac p.datas[i].cons.length cc)∧ρ.get 58=some (I p.datas[i].cons.length)∧ρ.get 59=some (I k)) p.datas[i].cons.length ⟨0,s1,by omega,by omega,hcall,hM7,m27,rfl,rfl,rfl,rfl,rfl,rfl,rfl,rfl,rfl⟩ ?_
         rintro z ρ w8 ⟨k,s2,rfl,hk,hpc,hM8,m28,g2,g3,g4,g45,g46,g47,g57,g58,g59⟩
         obtain ⟨hb38,hb48,m8⟩:=box m28
         unfold ir34L3
         by_cases q2:k < p.datas[i].cons.length
         · have b2:decide ((k:Int) < p.datas[i].cons.length)=true:=by simpa using q2
           have p2:(0:Int)≤k∧(k:Int) < p.datas[i].cons.length:=by omega
           have e4:IntKind.i64.wrap ((k:Int)+1)=((k+1:Nat):Int):=by rw [wrap_in (by omega) (by omega)];omega
           obtain ⟨ad2,c2,r2,e2,⟨vf2,rfl,hfl,_⟩,hl2,hcs2⟩:=each_cells hcons q2
           obtain ⟨rfl,-,-⟩:=tup_inj e2
           obtain ⟨af,cf,rfl⟩:=each_sl hfl
           have hlf:=each_len hfl
           have hln2:=ln_cells hl2 (hcs2.up m8 hnB (fun _ h=>h)).2
           rw [plC_at q2] at hpc
           cases hfall:plL (plF p.datas n) p.datas[i].cons[k].fields s2 with
           | none=>rw [hfall] at hpc;cases hpc
           | some fs1=>
           obtain ⟨bf,sf⟩:=fs1
           rw [hfall] at hpc
           (try simp only [go_sem,simprocAttr,g2,g3,g4,g45,g46,g47,g57,g58,g59,b2])
           (try simp only [go_sem,simprocAttr,zb4,zb6,p2,hln2])
           refine e_al ?_
           intro w9 hb9 hm9 hs9
           (try simp only [go_sem,simprocAttr])
           refine e_sta (vs:=[.string p.datas[i].cons[k].name,.slice af p.datas[i].cons[k].fields.length cf]) (cs:=[.string noStr,.slice none 0 0]) rfl rfl hb9 rfl rfl (one_cons rfl (one_cons rfl one_nil)) ?_
           intro w10 hb10 hm10 hs10
           have m810:Mod (fun _=>False) w8 w10:=hm9.step hm10 (fun b hb hl=>by have e:b=w8.heap.size:=hb;omega)
           have m210:Mod (· = sm) w2 w10:=m28.trans (m810.weak (fun _ h=>h.elim))
           have hM10:=hM8.mod m810 _root_.id (fun _ _ x=>x)
           (try simp only [go_sem,simprocAttr,cell_of hb10])
           refine ir_loop (fun z ρ w'=>∃ (j:Nat) (s3:Cnt),z=p.datas[i].cons[k].fields.length - j∧j≤p.datas[i].cons[k].fields.length∧plL (plF p.datas n) (p.datas[i].cons[k].fields.drop j) s3=some (bf,sf)∧MapR w' sm RI s3∧Mod (· = sm) w2 w'∧ρ.get 2=some (.map (some sm))∧ρ.get 3=some (ptr b3)∧ρ.get 4=some (ptr b4)∧ρ.get 45=some (.slice (some ad1) p.datas.length cd)∧ρ.get 46=some (I p.datas.length)∧ρ.get 47=some (I i) ∧
             ρ.get 57=some (.slice (some ad2) p.datas[i].cons.length cc)∧ρ.get 58=some (I p.datas[i].cons.length)∧ρ.get 59=some (I k)∧ρ.get 64=some (.slice af p.datas[i].cons[k].fields.length cf)∧ρ.get 65=some (I p.datas[i].cons[k].fields.length)∧ρ.get 66=some (I j)) p.datas[i].cons[k].fields.length ⟨0,s2,by omega,by omega,hfall,hM10,m210,rfl,rfl,rfl,rfl,rfl,rfl,rfl,rfl,rfl,rfl,rfl,rfl⟩ ?_
           rintro z ρ w11 ⟨j,s3,rfl,hj,hpf,hM11,m211,g2,g3,g4,g45,g46,g47,g57,g58,g59,g64,g65,g66⟩
           obtain ⟨hb311,hb411,m11⟩:=box m211
           unfold ir34L2
           by_cases q3:j < p.datas[i].cons[k].fields.length
           · have b3':decide ((j:Int) < p.datas[i].cons[k].fields.length)=true:=by simpa using q3
             have p3:(0:Int)≤j∧(j:Int) < p.datas[i].cons[k].fields.length:=by omega
             have e5:IntKind.i64.wrap ((j:Int)+1)=((j+1:Nat):Int):=by rw [wrap_in (by omega) (by omega)];omega
             have hfl11:=hfl.mod m11 hnB (fun _ _ h=>h.mod m11 hnB)
             obtain ⟨ad3,c3,r3,e6,htr,hlr,hln3,_⟩:=each_at hfl11 q3
             obtain ⟨rfl,-,-⟩:=tup_inj e6
             rw [plL_at q3] at hpf
             cases hrec:plF p.datas n p.datas[i].cons[k].fields[j] s3 with
             | none=>rw [hrec] at hpf;cases hpf
             | some bs=>
             obtain ⟨b6,s6⟩:=bs
             rw [hrec] at hpf
             (try simp only [go_sem,simprocAttr,g2,g3,g4,g45,g46,g47,g57,g58,g59,g64,g65,g66,b3'])
             (try simp only [go_sem,simprocAttr,zb4,zb6,p3,hln3])
             refine e_al ?_
             intro w12 hb12 hm12 hs12
             have hr1:=htr.len
             (try simp only [go_sem,simprocAttr])
             refine e_sta (vs:=r3) (cs:=[I 0,.string noStr,.slice none 0 0]) rfl rfl hb12 hr1 rfl htr.one ?_
             intro w13 hb13 hm13 hs13
             have m1113:Mod (fun _=>False) w11 w13:=hm12.step hm13 (fun b hb hl=>by have e:b=w11.heap.size:=hb;omega)
             have m213:Mod (· = sm) w2 w13:=m211.trans (m1113.weak (fun _ h=>h.elim))
             obtain ⟨hb313,hb413,m13⟩:=box m213
             (try simp only [go_sem,simprocAttr,ln_blk (n:=2) (cs:=[.slice (some ad1) p.datas.length cd,vf]) hb313 rfl,ln_blk (n:=3) (cs:=r3) hb13 hr1])
             refine e_call (by rfl) ?_
             refine (f_plain p n p.datas[i].cons[k].fields[j] (hp0.mod m13 hnB) (htr.mod m1113 (fun _ _ h=>h)) (hM11.mod m1113 _root_.id (fun _ _ x=>x)) hB hrec).mono ?_
             rintro _ w14 ⟨rfl,hM14,hm14⟩
             have m214:=m213.trans hm14
             cases b6 with
             | false=>
               cases hpf
               cases hpc
               cases hpl
               (try simp only [go_sem,simprocAttr,rvs,RV.ev,one?])
               exact ⟨hM14,m2.trans m214⟩
             | true=>
               (try simp only [go_sem,simprocAttr,e5])
               exact ⟨_,by omega,j+1,s6,rfl,q3,hpf,hM14,m214,rfl⟩
           · have b3':decide ((j:Int) < p.datas[i].cons[k].fields.length)=false:=by simpa using q3
             rw [List.drop_eq_nil_of_le (by omega),plL] at hpf
             cases hpf
             (try simp only [go_sem,simprocAttr,g2,g3,g4,g45,g46,g47,g57,g58,g59,g64,g65,g66,b3',e4])
             exact ⟨_,by omega,k+1,_,rfl,q2,hpc,hM11,m211,rfl⟩
         · have b2:decide ((k:Int) < p.datas[i].cons.length)=false:=by simpa using q2
           rw [List.drop_eq_nil_of_le (by omega),plC] at hpc
           cases hpc
           (try simp only [go_sem,simprocAttr,g2,g3,g4,g45,g46,g47,g57,g58,g59,b2,e3])
           exact ⟨_,by omega,i+1,_,rfl,q,hpl,hM8,m28,rfl⟩
     · have b1:decide ((i:Int) < p.datas.length)=false:=by simpa using q
       rw [List.drop_eq_nil_of_le (by omega),plD] at hpl
       cases hpl
       (try simp only [go_sem,simprocAttr,g2,g3,g4,g45,g46,g47,b1,rvs,RV.ev,one?])
       exact ⟨hM5,m5⟩
end
section
open Go Go.W
def entT (d:Df):Ty×Bool:=if (d.type.kind == 3&&(match d.type.args with | a::_=>lioS a | []=>false))=true then (d.type.args.getD 1 default,true) else (d.type,false)
def entD (f:Ty→Option Bool) (n:ByteArray):List Df→Option (Bool×Bool)
 | []=>some (false,false)
 | d::l=>if d.name≠n then entD f n l else if 0 < d.params.length then some (false,false) else (f (entT d).1).map (fun b=>((entT d).2,b))
theorem entD_at {f:Ty→Option Bool} {n:ByteArray} {l:List Df} {i:Nat} (hi:i < l.length):entD f n (l.drop i)=if l[i].name≠n then entD f n (l.drop (i+1)) else if 0 < l[i].params.length then some (false,false) else (f (entT l[i]).1).map (fun b=>((entT l[i]).2,b)):=by rw [List.drop_eq_getElem_cons hi,entD]
def plainT (ds:List Dt) (n:Nat) (t:Ty):Option Bool:=(plF ds n t []).map (·.1)
def entryS (p:Pg) (n:Nat) (name:ByteArray):Option (Bool×Bool):=entD (plainT p.datas n) name p.defs
def TyOk (t:Ty):Prop:=(t.kind=3→t.args.length=2)∧∀ a,t.kind=3→t.args[0]? = some a→a.kind=4→a.name=listN→0 < a.args.length
theorem entT_fun (d:Df) (hk:d.type.kind=3) (h2:d.type.args.length=2):entT d=if lioS d.type.args[0]=true then (d.type.args[1],true) else (d.type,false):=by
 obtain ⟨x,y,hxy⟩:=two_of h2
 have e0:d.type.args[0]=x:=by simp [hxy]
 have e1:d.type.args[1]=y:=by simp [hxy]
 unfold entT
 rw [e0,e1,hk,hxy]
 rfl
theorem f_entryOf (p:Pg) {n:Nat} {name:ByteArray} {w:World} {cs:List Value} {res:Bool×Bool} (h:PgAt w (Out (fun _=>False) w) cs p) (hok:∀ d∈p.defs,TyOk d.type) (hres:entryS p n name=some res) :
   CallsR Tryz.prog 24 [.agg cs.toArray,.string name] w fun v w'=>v = .tuple #[.bool res.1,.bool res.2]∧Mod (fun _=>False) w w':=by
 have h0:=h
 obtain ⟨vd,vf,rfl,hd,hf⟩:=h
 obtain ⟨af,cf,rfl⟩:=each_sl hf
 have hlf:=each_len hf
 refine fit24.calls rfl ?_
 unfold ir24
 (try simp only [go_sem,simprocAttr])
 refine e_bx rfl ?_
 intro w1 hb1 hm1 hs1
 have z1:w1.heap.size=w.heap.size+1:=hs1
 (try simp only [go_sem,simprocAttr,cell_of hb1])
 refine ir_loop (fun z ρ w'=>∃ i:Nat,z=p.defs.length - i∧i≤p.defs.length∧entD (plainT p.datas n) name (p.defs.drop i)=some res∧Mod (fun _=>False) w1 w'∧ρ.get 1=some (.string name)∧ρ.get 2=some (ptr w.heap.size)∧ρ.get 11=some (.slice af p.defs.length cf)∧ρ.get 12=some (I p.defs.length)∧ρ.get 13=some (I i)) p.defs.length ⟨0,by omega,by omega,hres,.refl _ _,rfl,rfl,rfl,rfl,rfl⟩ ?_
 rintro z ρ w2 ⟨i,rfl,hi,he,hm2,g1,g2,g11,g12,g13⟩
 have hm02:=hm1.trans hm2
 have hb2:=hm2.at hb1 _root_.id
 unfold ir24L1
 by_cases q:i < p.defs.length
 · have b1:decide ((i:Int) < p.defs.length)=true:=by simpa using q
   have p1:(0:Int)≤i∧(i:Int) < p.defs.length:=by omega
   have e3:IntKind.i64.wrap ((i:Int)+1)=((i+1:Nat):Int):=by rw [wrap_in (by omega) (by omega)];omega
   obtain ⟨ad1,c1,r1,e1,hdf,hl12,hcs⟩:=each_cells hf q
   obtain ⟨rfl,-,-⟩:=tup_inj e1
   have hone:=hdf.one
   obtain ⟨vp,tc,bc,rfl,ltc,lbc,hpar,hty,hbody,_⟩:=hdf
   obtain ⟨ap,cp,rfl⟩:=each_sl hpar
   have hln:=ln_cells hl12 (hcs.up hm02 nof (fun _ h=>h)).2
   rw [entD_at q] at he
   (try simp only [go_sem,simprocAttr,g1,g2,g11,g12,g13,b1])
   (try simp only [go_sem,simprocAttr,zb4,zb6,p1,hln])
   refine e_al ?_
   intro w3 hb3 hm3 hs3
   (try simp only [go_sem,simprocAttr])
   refine e_sta (vs:=.string p.defs[i].name :: .slice ap p.defs[i].params.length cp::(tc++bc)) (cs:=[.string noStr,.slice none 0 0,I 0,.string noStr,.slice none 0 0,I 0,.string noStr,I 0,.slice none 0 0,.slice none 0 0,.slice none 0 0,.slice none 0 0]) rfl rfl hb3 hl12 rfl hone ?_
   intro w4 hb4 hm4 hs4
   have m24:Mod (fun _=>False) w2 w4:=hm3.step hm4 (fun b hb hl=>by have e:b=w2.heap.size:=hb;omega)
   have hm04:=hm02.trans m24
   cases hn:strEq p.defs[i].name name with
   | false=>
     have hne:p.defs[i].name≠name:=by have:=hn;rw [strEq_iff] at this;simpa using this
     rw [if_pos hne] at he
     rw [strEq] at hn
     (try simp only [go_sem,simprocAttr,cell_of hb4,hn,e3])
     exact ⟨_,by omega,i+1,rfl,q,he,hm2.trans m24,rfl⟩
   | true=>
     have hne:p.defs[i].name=name:=by have:=hn;rw [strEq_iff] at this;simpa using this
     rw [if_neg (by simpa using hne)] at he
     rw [strEq] at hn
     by_cases hp:0 < p.defs[i].params.length
     · rw [if_pos hp] at he
       cases he
       have b2:decide ((p.defs[i].params.length:Int) > 0)=true:=decide_eq_true (by omega)
       (try simp only [go_sem,simprocAttr,cell_of hb4,hn,b2,rvs,RV.ev,one?])
       exact hm04
     · rw [if_neg hp] at he
       have b2:decide ((p.defs[i].params.length:Int) > 0)=false:=decide_eq_false (by omega)
       have hokd:=hok _ (List.getElem_mem q)
       obtain ⟨vt,rfl,hta⟩:=hty.cells
       obtain ⟨at',ct,rfl⟩:=each_sl hta
       have hln2:vLN w4 3 (.pointer (some ⟨w2.heap.size,2,none⟩))=some (.agg [I p.defs[i].type.kind,.string p.defs[i].type.name,.slice at' p.defs[i].type.args.length ct].toArray):=by
         have:=ln_of (off:=2) (n:=3) hb4 (by simp)
         simpa using this
       cases hpt:plainT p.datas n (entT p.defs[i]).1 with
       | none=>rw [hpt] at he;cases he
       | some bp=>
       rw [hpt] at he
       have hres':res=((entT p.defs[i]).2,bp):=by cases he;rfl
       obtain ⟨ss,hpl⟩:∃ ss,plF p.datas n (entT p.defs[i]).1 []=some (bp,ss):=by
         unfold plainT at hpt
         obtain ⟨x,h1,rfl⟩:=Option.map_eq_some_iff.1 hpt
         exact ⟨x.2,h1⟩
       have z4:=hm04.size
       have callP:∀ {w9:World} {ct:List Value} {tt:Ty} {sm:Nat},Mod (fun _=>False) w w9→w.heap.size≤sm→MapR w9 sm RI []→TyAt w9 (Out (fun _=>False) w) ct tt→plF p.datas n tt []=some (bp,ss) →
           CallsR Tryz.prog 34 [.agg [vd,.slice (some ad1) p.defs.length cf].toArray,.agg ct.toArray,.map (some sm)] w9 fun v w10=>v = .bool bp∧Mod (fun _=>False) w w10:=fun {w9 ct tt sm} hm9 hsm hmap hty hpl=>by
         refine (f_plain p n tt (h0.mod hm9 nof) hty hmap (fun hb=>by have:=hb.1;omega) hpl).mono ?_
         rintro _ w10 ⟨rfl,_,hm10⟩
         exact ⟨rfl,hm9.step hm10 (fun b hb hl=>by have e:b=sm:=hb;omega)⟩
       (try simp only [go_sem,simprocAttr,cell_of hb4,hn,b2,hln2])
       refine e_al ?_
       intro w5 hb5 hm5 hs5
       (try simp only [go_sem,simprocAttr])
       refine e_sta (vs:=[I p.defs[i].type.kind,.string p.defs[i].type.name,.slice at' p.defs[i].type.args.length ct]) (cs:=[I 0,.string noStr,.slice none 0 0]) rfl rfl hb5 rfl rfl (one_cons rfl (one_cons rfl (one_cons rfl one_nil))) ?_
       intro w6 hb6 hm6 hs6
       have m46:Mod (fun _=>False) w4 w6:=hm5.step hm6 (fun b hb hl=>by have e:b=w4.heap.size:=hb;omega)
       have hm06:=hm04.trans m46
       have hb26:w6.heap[w.heap.size]? = some (.cells [vd,.slice (some ad1) p.defs.length cf].toArray 25 (0,0)):=(m24.trans m46).at hb2 _root_.id
       cases hk:p.defs[i].type.kind == 3 with
       | false=>
         have heT:entT p.defs[i]=(p.defs[i].type,false):=by unfold entT;rw [hk];try rfl
         rw [heT] at hpl hres'
         have lnp:=ln_blk (n:=2) (cs:=[vd,.slice (some ad1) p.defs.length cf]) hb26 rfl
         have lnt:=ln_blk (n:=3) (cs:=[I p.defs[i].type.kind,.string p.defs[i].type.name,.slice at' p.defs[i].type.args.length ct]) hb6 rfl
         have hmX:=hm06
         (try simp only [go_sem,simprocAttr,cell_of hb6,hk,lnp,lnt])
         refine e_mmR (α:=Int) RI ?_
         intro w9 hp9 hm9 hs9
         have hm09:=hmX.trans hm9
         (try simp only [go_sem,simprocAttr])
         refine e_call (by rfl) ?_
         refine (callP hm09 hmX.size hp9 (hty.mod hm09 nof) hpl).mono ?_
         rintro _ w10 ⟨rfl,hm10⟩
         (try simp only [go_sem,simprocAttr,rvs,RV.ev,one?])
         rw [hres']
         exact ⟨rfl,hm10⟩
       | true=>
         have hk':p.defs[i].type.kind=3:=by simpa using hk
         have hl2:=hokd.1 hk'
         have p0:(0:Int)≤0∧(0:Int) < p.defs[i].type.args.length:=by omega
         have p1':(0:Int)≤1∧(1:Int) < p.defs[i].type.args.length:=by omega
         have t1:Int.toNat 1=1:=rfl
         obtain ⟨ada,cta,ra,ea,hta0,hla0,hca0⟩:=each_cells hta (show 0 < p.defs[i].type.args.length by omega)
         obtain ⟨rfl,-,-⟩:=tup_inj ea
         obtain ⟨ada',cta',ra1,ea',hta1,hla1,hca1⟩:=each_cells hta (show 1 < p.defs[i].type.args.length by omega)
         obtain ⟨ea9,-,-⟩:=tup_inj ea'
         cases ea9
         have ha0:p.defs[i].type.args[0]? = some p.defs[i].type.args[0]:=List.getElem?_eq_getElem (by omega)
         have lna:=ln_cells hla0 (hca0.up hm06 nof (fun _ h=>h)).2
         rw [Nat.zero_mul,add_zero'] at lna
         have heT:=entT_fun p.defs[i] hk' hl2
         (try simp only [go_sem,simprocAttr,cell_of hb6,hk])
         (try simp only [go_sem,simprocAttr,zb4,zb6,p0,Nat.zero_mul,lna])
         refine e_call (by rfl) ?_
         refine (f_listOfInt _ (hta0.mod hm06 nof) (fun h1 h2=>hokd.2 _ hk' ha0 h1 h2)).mono ?_
         rintro _ w7 ⟨rfl,hm7⟩
         have hm07:=hm06.trans hm7
         have hb27:=hm7.at hb26 _root_.id
         have hb67:=hm7.at hb6 _root_.id
         have lnp:=ln_blk (n:=2) (cs:=[vd,.slice (some ad1) p.defs.length cf]) hb27 rfl
         have lnt:=ln_blk (n:=3) (cs:=[I p.defs[i].type.kind,.string p.defs[i].type.name,.slice (some ada) p.defs[i].type.args.length ct]) hb67 rfl
         cases hlio:lioS p.defs[i].type.args[0] with
         | false=>
           rw [hlio] at heT
           rw [heT,if_neg (by simp)] at hpl hres'
           have hmX:=hm07
           (try simp only [go_sem,simprocAttr,lnp,lnt])
           refine e_mmR (α:=Int) RI ?_
           intro w9 hp9 hm9 hs9
           have hm09:=hmX.trans hm9
           (try simp only [go_sem,simprocAttr])
           refine e_call (by rfl) ?_
           refine (callP hm09 hmX.size hp9 (hty.mod hm09 nof) hpl).mono ?_
           rintro _ w10 ⟨rfl,hm10⟩
           (try simp only [go_sem,simprocAttr,rvs,RV.ev,one?])
           rw [hres']
           exact ⟨rfl,hm10⟩
         | true=>
           rw [hlio] at heT
           rw [heT,if_pos rfl] at hpl hres'
           have lna1:=ln_cells hla1 (hca1.up hm07 nof (fun _ h=>h)).2
           have hr1:=hta1.len
           rw [Nat.one_mul,add_pos _ (by decide)] at lna1
           (try simp only [go_sem,simprocAttr,cell_of hb67])
           (try simp only [go_sem,simprocAttr,zb4,zb6,p1',t1,Nat.one_mul,lna1])
           refine e_sta (vs:=ra1) (cs:=[I p.defs[i].type.kind,.string p.defs[i].type.name,.slice (some ada) p.defs[i].type.args.length ct]) rfl rfl hb67 hr1 rfl hta1.one ?_
           intro w8 hb8 hm8 hs8
           have hmX:Mod (fun _=>False) w w8:=hm07.step hm8 (fun b hb hl=>by have e:b=w4.heap.size:=hb;have:=hm04.size;omega)
           have hlt4:w.heap.size < w4.heap.size:=by have:=hm2.size;have:=m24.size;omega
           have hb28:=hm8.at hb27 (fun e=>by have e':w.heap.size=w4.heap.size:=e;omega)
           have lnp:=ln_blk (n:=2) (cs:=[vd,.slice (some ad1) p.defs.length cf]) hb28 rfl
           have lnt:=ln_blk (n:=3) (cs:=ra1) hb8 hr1
           (try simp only [go_sem,simprocAttr,lnp,lnt])
           refine e_mmR (α:=Int) RI ?_
           intro w9 hp9 hm9 hs9
           have hm09:=hmX.trans hm9
           (try simp only [go_sem,simprocAttr])
           refine e_call (by rfl) ?_
           refine (callP hm09 hmX.size hp9 (hta1.mod hm09 nof) hpl).mono ?_
           rintro _ w10 ⟨rfl,hm10⟩
           (try simp only [go_sem,simprocAttr,rvs,RV.ev,one?])
           rw [hres']
           exact ⟨rfl,hm10⟩
 · have b1:decide ((i:Int) < p.defs.length)=false:=by simpa using q
   rw [List.drop_eq_nil_of_le (by omega),entD] at he
   cases he
   (try simp only [go_sem,simprocAttr,g1,g2,g11,g12,g13,b1,rvs,RV.ev,one?])
   exact hm02
end
section
open Go Go.W
abbrev bigN:Nat:=16777216
def globE (n:ByteArray):Ex:=.mk 3 n 0 [] [] [] []
def runM (p:Pg) (fuel:Int) (name:ByteArray) (takes:Bool) (input:List Int):Option Rn:=
 match goOnS (newX p fuel) bigN (.go (globE name) []) (newM p) with
 | none=>none
 | some (none,m)=>some m
 | some (some x,m)=>
   if takes=true then
     match applyS (newX p fuel) bigN x (m.ls input).cells.length ((m.ls input).new (listedS input m.cells).1) with
     | none=>none
     | some (none,m)=>some m
     | some (some y,m)=>tellS (newX p fuel) bigN y [] m
   else tellS (newX p fuel) bigN x [] m
def badIn (input:List Int):Bool:=input.any (fun n=>decide (n < -4611686018427387904)||decide (n > 4611686018427387903))
noncomputable def runS (p:Pg) (N:Nat) (name:ByteArray) (input:List Int) (fuel:Int):Option (Int×Option Rn):=
 if 10000 < input.length then some (2,none)
 else if badIn input=true then some (1,none)
 else if fuel < 0∨fuel > 1048576 then some (1,none)
 else if checkS p≠0 then some (checkS p,none)
 else match entryS p N name with
   | none=>none
   | some (_,false)=>some (100,none)
   | some (takes,true)=>(runM p fuel name takes input).map (fun m=>(0,some m))
theorem headS_ok {E E':Env} {d:Df} (h:headS E d = .ok E'):E'.datas=E.datas∧d.type.wf E=true:=by
 unfold headS at h
 split at h
 · cases h
 · split at h
   · cases h
   · split at h
     · cases h
     · rename_i hr
       cases h
       refine ⟨rfl,?_⟩
       have:=(right_good (by simpa using hr)).1
       rw [← wf_data (E:={ E with params:=parsL d.params []}) (E':=E) rfl]
       exact this
theorem headsS_ok:∀ (l:List Df) (E E':Env),headsS l E = .ok E'→E'.datas=E.datas∧∀ d∈l,d.type.wf E=true
 | [],E,E',h=>by rw [headsS] at h;cases h;exact ⟨rfl,fun d hd=>(by cases hd)⟩
 | d::l,E,E',h=>by
   rw [headsS] at h
   split at h
   · cases h
   · rename_i E1 h1
     obtain ⟨a1,a2⟩:=headS_ok h1
     obtain ⟨b1,b2⟩:=headsS_ok l E1 E' h
     refine ⟨b1.trans a1,fun x hx=>?_⟩
     rcases List.mem_cons.1 hx with rfl | hx
     · exact a2
     · rw [← wf_data a1];exact b2 x hx
theorem checkedS_ok {p:Pg} {E:Env} (h:checkedS p = .ok E):∃ E1,checkDatasS newE p.datas = .ok E1∧headsS p.defs E1 = .ok E∧bodiesS E p.defs=0:=by
 unfold checkedS at h
 split at h
 · cases h
 · split at h
   · cases h
   · split at h
     · cases h
     · rename_i E1 h1
       split at h
       · cases h
       · rename_i E2 h2
         split at h
         · cases h
         · rename_i h3
           cases h
           exact ⟨E1,h1,h2,by simpa using h3⟩
theorem checkS_ok {p:Pg} (h:checkS p=0):∃ E,checkedS p = .ok E:=by
 unfold checkS at h
 split at h
 · rename_i e he
   exfalso
   subst h
   have key:∀ (x:Except Int Env),checkedS p=x→(∀ e,x = .error e→e≠0):=by
     intro x hx e he0 h0
     subst he0 h0
     unfold checkedS at hx
     split at hx
     · cases hx
     · split at hx
       · cases hx
       · split at hx
         · rename_i e1 h1
           cases hx
           unfold checkDatasS at h1
           split at h1
           · rename_i e2 h2
             cases h1
             have hd:∀ (l:List Dt) (E:Env),datasS l E≠.error 0:=by
               intro l
               induction l with
               | nil=>intro E h;rw [datasS] at h;cases h
               | cons d l ih=>
                 intro E h
                 rw [datasS] at h
                 split at h
                 · rename_i hn
                   injection h with h
                   rw [h] at hn;simp at hn
                 · exact ih _ h
             exact hd _ _ h2
           · split at h1
             · cases h1
             · cases h1
         · split at hx
           · rename_i e1 h1
             cases hx
             have hd:∀ (l:List Df) (E:Env),headsS l E≠.error 0:=by
               intro l
               induction l with
               | nil=>intro E h;rw [headsS] at h;cases h
               | cons d l ih=>
                 intro E h
                 rw [headsS] at h
                 split at h
                 · rename_i e3 h3
                   cases h
                   unfold headS at h3
                   split at h3
                   · cases h3
                   · split at h3
                     · cases h3
                     · split at h3
                       · cases h3
                       · cases h3
                 · exact ih _ h
             exact hd _ _ h1
           · split at hx
             · rename_i hn
               injection hx with hx
               rw [hx] at hn;simp at hn
             · cases hx
   exact key _ he 0 rfl rfl
 · rename_i E hE
   exact ⟨E,hE⟩
theorem checked_list {l:List Dt} {E:Env} (h:checkDatasS newE l = .ok E):aget E.datas listN=some dList:=by
 unfold checkDatasS at h
 split at h
 · cases h
 · rename_i E' hE'
   split at h
   · cases h
     obtain ⟨_,hk⟩:=datasS_inv l newE E givenS newE_inv hE'
     exact hk _ _ newE_list
   · cases h
theorem tyOk_of {p:Pg} (h:checkS p=0):∀ d∈p.defs,TyOk d.type:=by
 obtain ⟨E,hE⟩:=checkS_ok h
 obtain ⟨E1,h1,h2,_⟩:=checkedS_ok hE
 obtain ⟨_,h3⟩:=headsS_ok _ _ _ h2
 intro d hd
 have hw:=h3 d hd
 refine ⟨fun hk=>fun_two hw hk,fun a hk ha hk4 hn=>?_⟩
 have hwa:a.wf E1=true:=wf_mem hw (List.mem_of_getElem? ha)
 rw [a.wf_eq,hk4,Bool.and_eq_true,Bool.and_eq_true] at hwa
 have hb:badData E1 a.name a.args.length=false:=by simpa using hwa.1.2
 unfold badData at hb
 rw [hn,checked_list h1] at hb
 have h5:(dList.params.length:Int)=a.args.length:=by simpa using hb
 have h6:dList.params.length=1:=rfl
 omega
end
section
open Go Go.W
structure TlR (X:Cx) (m m':Rn):Prop where
 told:∃ l,m'.told=m.told++l∧(l.length:Int)≤m'.steps - m.steps
 steps:m.steps≤m'.steps
 fuel:m.steps≤X.fuel→m'.steps≤X.fuel
 how:(m'.kind=2∧m'.stuck=m.stuck)∨(m'.kind=4∧m'.steps=X.fuel∧m'.stuck=m.stuck)∨m'.kind=3
theorem TlR.from {X:Cx} {m m1 m':Rn} (h:TlR X m1 m') {l:List (ByteArray×Int)} (h1:m1.told=m.told++l) (h2:(l.length:Int)≤m1.steps - m.steps) (h3:m.steps≤X.fuel→m1.steps≤X.fuel) (h4:m1.stuck=m.stuck):TlR X m m':=by
 obtain ⟨⟨l2,a1,a2⟩,b,c,d⟩:=h
 refine ⟨⟨l++l2,by rw [a1,h1,List.append_assoc],by rw [List.length_append];omega⟩,by omega,fun hh=>c (h3 hh),?_⟩
 rcases d with ⟨d1,d2⟩ | ⟨d1,d2,d3⟩ | d
 · exact .inl ⟨d1,d2.trans h4⟩
 · exact .inr (.inl ⟨d1,d2,d3.trans h4⟩)
 · exact .inr (.inr d)
theorem TlR.of_go {X:Cx} {m m':Rn} (h:GoR X m (none,m')):TlR X m m':=by
 have h1:m'.told=m.told:=h.told
 have h2:m.steps≤m'.steps:=h.steps
 refine ⟨⟨[],by rw [h1,List.append_nil],by simp;omega⟩,h2,h.fuel,?_⟩
 rcases h.stop rfl with ⟨a,b,c⟩ | a
 · exact .inr (.inl ⟨a,b,c⟩)
 · exact .inr (.inr a)
theorem item_len (x:Cl):(itemS x).length≤1:=by cases x<;>simp [itemS]
theorem tell_sm {X:Cx}:∀ (n:Nat) {x:Cl} {ws:List Nat} {m m':Rn},tellS X n x ws m=some m'→m.frames=[]→TlR X m m'
 | 0,x,ws,m,m',h,_=>by rw [tellS] at h;cases h
 | n+1,x,ws,m,m',h,hf=>by
   rw [tellS] at h
   have hil:=item_len x
   rcases step_cases X m with ⟨h1,h2⟩ | ⟨h1,h2⟩
   · rw [h2,if_pos rfl] at h
     cases h
     exact ⟨⟨[],by simp,by simp⟩,Int.le_refl _,fun h=>h,.inr (.inl ⟨rfl,h1,rfl⟩)⟩
   · rw [h2,if_neg (by simp)] at h
     simp only at h
     split at h
     · cases h
     · split at h
       · cases h
         exact ⟨⟨itemS x,rfl,by simp;omega⟩,by simp;omega,fun hh=>by simp only;omega,.inl ⟨rfl,rfl⟩⟩
       · split at h
         · cases h
         · rename_i c m3 hfo
           cases h
           have k:=TlR.of_go (force_sm hfo hf)
           exact k.from (m:=m) (l:=itemS x) rfl (by simp only;omega) (fun hh=>by simp only;omega) rfl
         · rename_i c y m3 hfo
           have g:=force_sm hfo hf
           obtain ⟨g1,g2,g3⟩:=g.val y rfl
           have gt:m3.told=m.told++itemS x:=g.told
           have gs:m.steps+1≤m3.steps:=g.steps
           have gf:m.steps+1≤X.fuel→m3.steps≤X.fuel:=g.fuel
           exact (tell_sm n h g3).from (l:=itemS x) gt (by omega) (fun hh=>gf (by omega)) g2
theorem apply_sm {X:Cx} {n c:Nat} {f:Cl} {m:Rn} {r:Option Cl×Rn} (h:applyS X n f c m=some r) (hf:m.frames=[]):GoR X m r:=by
 unfold applyS at h
 cases hg:givenR m f c with
 | none=>rw [hg] at h;cases h
 | some rr=>
 rw [hg] at h
 have k:=given_sm hg
 match rr,h,k,hg with
 | (none,m'),h,k,hg=>
   cases h
   have ks:m'.steps=m.steps:=k.steps
   exact ⟨k.told,by show m.steps≤m'.steps;omega,fun hh=>by show m'.steps≤_;omega,fun x hx=>by (cases hx),fun _=>.inr (k.stop rfl)⟩
 | (some (.val x),m'),h,k,hg=>
   cases h
   have:m'=m:=by
     unfold givenR at hg
     split at hg
     · split at hg<;>cases hg
     · split at hg
       · cases hg;rfl
       · cases hg
     · cases hg
   subst this
   exact ⟨rfl,Int.le_refl _,fun h=>h,fun _ _=>⟨rfl,rfl,hf⟩,fun hn=>by cases hn⟩
 | (some (.go e v),m'),h,k,hg=>
   have ks:m'.steps=m.steps:=k.steps
   exact (goOn_sm n h).from k.told (by omega) (fun hh=>by omega) (k.go _ rfl)
theorem runM_sm {p:Pg} {fuel:Int} {name:ByteArray} {takes:Bool} {input:List Int} {m:Rn} (h:runM p fuel name takes input=some m):TlR (newX p fuel) (newM p) m:=by
 unfold runM at h
 split at h
 · cases h
 · rename_i m1 hg
   cases h
   exact TlR.of_go (goOn_sm _ hg)
 · rename_i x m1 hg
   have k:=goOn_sm _ hg
   obtain ⟨k1,k2,k3⟩:=k.val x rfl
   have kt:m1.told=(newM p).told:=k.told
   have ks:(newM p).steps≤m1.steps:=k.steps
   have kf:(newM p).steps≤(newX p fuel).fuel→m1.steps≤(newX p fuel).fuel:=k.fuel
   split at h
   · split at h
     · cases h
     · rename_i m2 ha
       cases h
       exact (TlR.of_go (apply_sm ha (show m1.frames=[] from k3))).from (l:=[]) (by rw [List.append_nil];exact kt) (by simp;exact ks) kf k2
     · rename_i y m2 ha
       have g:=apply_sm ha (show m1.frames=[] from k3)
       obtain ⟨g1,g2,g3⟩:=g.val y rfl
       have gt:m2.told=m1.told:=g.told
       have gs:m1.steps≤m2.steps:=g.steps
       have gf:m1.steps≤(newX p fuel).fuel→m2.steps≤(newX p fuel).fuel:=g.fuel
       exact (tell_sm _ h g3).from (l:=[]) (by rw [gt,kt,List.append_nil]) (by simp;omega) (fun hh=>gf (kf hh)) (g2.trans k2)
   · exact (tell_sm _ h k3).from (l:=[]) (by rw [kt,List.append_nil]) (by simp;exact ks) kf k2
end
section
open Go Go.W
theorem seenC_ok {E:Env}:∀ (l:List Cn) (m:Cnt),seenC E l m=true→∀ k∈l,aget E.cons k.name=none∧k.fields.length≤8
 | [],m,_,k,hk=>by cases hk
 | c::l,m,h,k,hk=>by
   rw [seenC] at h
   split at h
   · cases h
   · rename_i hn
     simp only [Bool.or_eq_true,not_or,decide_eq_true_eq] at hn
     obtain ⟨⟨h1,h2⟩,h3⟩:=hn
     rcases List.mem_cons.1 hk with rfl | hk
     · refine ⟨?_,by omega⟩
       cases hx:aget E.cons k.name with
       | none=>rfl
       | some y=>rw [hx] at h1;simp at h1
     · exact seenC_ok l _ h k hk
theorem data_cons {E:Env} {d:Dt} (h:checkDataS E d=0):∀ k∈d.cons,aget E.cons k.name=none∧k.fields.length≤8:=by
 unfold checkDataS at h
 split at h
 · cases h
 · split at h
   · cases h
   · split at h
     · cases h
     · rename_i hs
       exact seenC_ok d.cons [] (by simpa using hs)
theorem enterC_spec {d:Dt}:∀ (ks:List Cn) (i:Nat) (m:List (ByteArray×(Dt×Nat))) (n:ByteArray),(∀ k∈ks,k.name≠n)→aget (enterC d ks i m) n=aget m n
 | [],_,m,n,_=>rfl
 | k::ks,i,m,n,h=>by
   rw [enterC,enterC_spec ks (i+1) _ n (fun c hc=>h c (by simp [hc])),aget_aput,if_neg (h k (by simp))]
theorem enter_both {d:Dt}:∀ (ks:List Cn) (i:Nat) (m:List (ByteArray×(Dt×Nat))) (f:List (ByteArray×Int)),d.cons.drop i=ks→(∀ n x,aget m n=some x→(aget f n).getD 0=(conFields x.1 x.2).length) →
   ∀ n x,aget (enterC d ks i m) n=some x→(aget (consF ks f) n).getD 0=(conFields x.1 x.2).length
 | [],_,m,f,_,h,n,x,hx=>h n x hx
 | k::ks,i,m,f,hd,h,n,x,hx=>by
   rw [enterC] at hx
   rw [consF]
   have hi:i < d.cons.length:=by
     apply Classical.byContradiction;intro hn
     rw [List.drop_eq_nil_of_le (by omega)] at hd;cases hd
   rw [List.drop_eq_getElem_cons hi] at hd
   injection hd with hk hd'
   refine enter_both ks (i+1) _ _ hd' (fun n x hx=>?_) n x hx
   rw [aget_aput] at hx ⊢
   by_cases hn:k.name=n
   · rw [if_pos hn] at hx ⊢
     cases hx
     have:conFields d i=k.fields:=by
       unfold conFields
       rw [List.getD_eq_getElem?_getD,List.getElem?_map,List.getElem?_eq_getElem hi,hk]
       rfl
     rw [this];try rfl
   · rw [if_neg hn] at hx ⊢
     exact h n x hx
theorem enter_len {d:Dt} (hl:∀ k∈d.cons,k.fields.length≤8) (i:Nat):(conFields d i).length≤8:=by
 unfold conFields
 rw [List.getD_eq_getElem?_getD,List.getElem?_map]
 cases hx:d.cons[i]? with
 | none=>simp
 | some k=>exact hl k (List.mem_of_getElem? hx)
theorem conFields_mem {d:Dt} {i:Nat} {F:Ty} (h:F∈conFields d i):∃ k∈d.cons,F∈k.fields:=by
 unfold conFields at h
 rw [List.getD_eq_getElem?_getD,List.getElem?_map] at h
 cases hx:d.cons[i]? with
 | none=>rw [hx] at h;cases h
 | some k=>rw [hx] at h;exact ⟨k,List.mem_of_getElem? hx,h⟩
structure CInv (E:Env) (fs:List (ByteArray×Int)) (l:List Dt):Prop where
 dinv:DInv E l
 fields:∀ n x,aget E.cons n=some x→(aget fs n).getD 0=(conFields x.1 x.2).length
 len:∀ n x,aget E.cons n=some x→(conFields x.1 x.2).length≤8
theorem datasS_cinv:∀ (l:List Dt) (E E':Env) (fs:List (ByteArray×Int)) (l0:List Dt),CInv E fs l0→datasS l E = .ok E'→CInv E' (datasF l fs) (l0++l)∧∀ n x,aget E.cons n=some x→aget E'.cons n=some x
 | [],E,E',fs,l0,h,hd=>by rw [datasS] at hd;cases hd;exact ⟨by rw [List.append_nil];exact h,fun _ _ h=>h⟩
 | d::l,E,E',fs,l0,h,hd=>by
   rw [datasS] at hd
   split at hd
   · cases hd
   · rename_i h0
     have h0:checkDataS E d=0:=by simpa using h0
     have hc:=data_cons h0
     have h1:CInv (enterE E d) (consF d.cons fs) (l0++[d]):=by
       refine ⟨h.dinv.enter (data_fresh h0) (fun x hx=>by simp [hx]) (by simp),fun n x hx=>?_,fun n x hx=>?_⟩
       · exact enter_both d.cons 0 E.cons fs (by simp) h.fields n x hx
       · rcases enterC_get _ _ _ _ _ hx with h2 | h2
         · exact h.len n x h2
         · rw [h2];exact enter_len (fun k hk=>(hc k hk).2) _
     obtain ⟨h2,h3⟩:=datasS_cinv l _ E' _ (l0++[d]) h1 hd
     refine ⟨by rw [List.append_assoc] at h2;exact h2,fun n x hx=>h3 n x ?_⟩
     show aget (enterC d d.cons 0 E.cons) n=some x
     rw [enterC_spec _ _ _ _ (fun k hk e=>by
       have:=(hc k hk).1
       rw [e,hx] at this;cases this)]
     exact hx
theorem newE_cons:newE.cons=[(falseN,(dBool,0)),(trueN,(dBool,1)),(⟨#[85,110,105,116]⟩,(dUnit,0)),(⟨#[78,105,108]⟩,(dList,0)),(consN,(dList,1)),(pairN,(dPair,0)),(tripleN,(dTriple,0))]:=by rfl
theorem newE_cinv:CInv newE fields0 givenS:=by
 refine ⟨newE_inv,fun n x hx=>?_,fun n x hx=>?_⟩
 · rw [newE_cons] at hx
   unfold fields0
   simp only [aget_cons,aget_nil] at hx ⊢
   by_cases h1:falseN=n
   · subst h1;cases hx;rfl
   by_cases h2:trueN=n
   · subst h2;cases hx;rfl
   by_cases h3:(⟨#[85,110,105,116]⟩:ByteArray)=n
   · subst h3;cases hx;rfl
   by_cases h4:(⟨#[78,105,108]⟩:ByteArray)=n
   · subst h4;cases hx;rfl
   by_cases h5:consN=n
   · subst h5;cases hx;rfl
   by_cases h6:pairN=n
   · subst h6;cases hx;rfl
   by_cases h7:tripleN=n
   · subst h7;cases hx;rfl
   rw [if_neg h1,if_neg h2,if_neg h3,if_neg h4,if_neg h5,if_neg h6,if_neg h7] at hx
   cases hx
 · rw [newE_cons] at hx
   have key:∀ p∈([(falseN,(dBool,0)),(trueN,(dBool,1)),(⟨#[85,110,105,116]⟩,(dUnit,0)),(⟨#[78,105,108]⟩,(dList,0)),(consN,(dList,1)),(pairN,(dPair,0)),(tripleN,(dTriple,0))]:List (ByteArray×(Dt×Nat))),(conFields p.2.1 p.2.2).length≤8:=by
     intro p hp
     simp only [List.mem_cons,List.not_mem_nil,or_false] at hp
     rcases hp with rfl | rfl | rfl | rfl | rfl | rfl | rfl<;>decide
   obtain ⟨p,hp,_,rfl⟩:=aget_mem hx
   exact key p hp
theorem given_inV:∀ d∈givenS,∀ k∈d.cons,∀ F∈k.fields,F.inV d.params=true:=by
 intro d hd k hk F hF
 simp only [givenS,List.mem_cons,List.not_mem_nil,or_false] at hd
 rcases hd with rfl | rfl | rfl | rfl | rfl<;>simp only [List.mem_cons,List.not_mem_nil,or_false] at hk
 · rcases hk with rfl | rfl<;>cases hF
 · subst hk;cases hF
 · rcases hk with rfl | rfl
   · cases hF
   · simp only [List.mem_cons,List.not_mem_nil,or_false] at hF
     rcases hF with rfl | rfl<;>rfl
 · subst hk
   simp only [List.mem_cons,List.not_mem_nil,or_false] at hF
   rcases hF with rfl | rfl<;>rfl
 · subst hk
   simp only [List.mem_cons,List.not_mem_nil,or_false] at hF
   rcases hF with rfl | rfl | rfl<;>rfl
theorem headS_defs {E E':Env} {d:Df} (h:headS E d = .ok E'):E'.cons=E.cons∧E'.defs=aput E.defs d.name d∧d.type.inV d.params=true:=by
 unfold headS at h
 split at h
 · cases h
 · split at h
   · cases h
   · split at h
     · cases h
     · rename_i hr
       cases h
       refine ⟨rfl,rfl,?_⟩
       have hr:rightS { E with params:=parsL d.params []} d.type=true:=by simpa using hr
       rw [rightS,Bool.and_eq_true] at hr
       refine fits_inV (fun n hn=>?_) d.type hr.2
       rcases has_parsL _ _ _ hn with h | h
       · exact h
       · cases h
theorem headsS_defs {all:List Df}:∀ (l:List Df) (i:Nat) (E E':Env) (ds:List (ByteArray×Nat)),all.drop i=l→headsS l E = .ok E'→(∀ n d,aget E.defs n=some d→d.type.inV d.params=true∧∃ c,aget ds n=some c∧all[c]? = some d) →
   E'.cons=E.cons∧∀ n d,aget E'.defs n=some d→d.type.inV d.params=true∧∃ c,aget (defsF l i ds) n=some c∧all[c]? = some d
 | [],i,E,E',ds,_,h,hd=>by rw [headsS] at h;cases h;exact ⟨rfl,hd⟩
 | d::l,i,E,E',ds,ha,h,hd=>by
   rw [headsS] at h
   split at h
   · cases h
   · rename_i E1 h1
     obtain ⟨a1,a2,a3⟩:=headS_defs h1
     have hi:i < all.length:=by
       apply Classical.byContradiction;intro hn
       rw [List.drop_eq_nil_of_le (by omega)] at ha;cases ha
     rw [List.drop_eq_getElem_cons hi] at ha
     injection ha with hk hd'
     obtain ⟨b1,b2⟩:=headsS_defs l (i+1) E1 E' (aput ds d.name i) hd' h (fun n e he=>by
       rw [a2,aget_aput] at he
       rw [aget_aput]
       by_cases hn:d.name=n
       · rw [if_pos hn] at he ⊢
         cases he
         exact ⟨a3,i,rfl,by rw [List.getElem?_eq_getElem hi,hk]⟩
       · rw [if_neg hn] at he ⊢
         exact hd n e he)
     exact ⟨b1.trans a1,b2⟩
structure Checked (p:Pg) (Q:Env):Prop where
 env:EnvT Q
 fields:∀ n x,aget Q.cons n=some x→(aget (datasF p.datas fields0) n).getD 0=(conFields x.1 x.2).length
 defs:∀ n d,aget Q.defs n=some d→∃ c,aget (defsF p.defs 0 []) n=some c∧p.defs[c]? = some d
 bodies:bodiesS Q p.defs=0
 given:∀ n x,aget newE.cons n=some x→aget Q.cons n=some x
 all:∀ d∈p.defs,aget Q.defs d.name=some d
theorem checked_of {p:Pg} {Q:Env} (h:checkedS p = .ok Q):∃ E1,checkDatasS newE p.datas = .ok E1∧headsS p.defs E1 = .ok Q∧EnvT Q∧(∀ n x,aget Q.cons n=some x→(aget (datasF p.datas fields0) n).getD 0=(conFields x.1 x.2).length)∧(∀ n d,aget Q.defs n=some d→∃ c,aget (defsF p.defs 0 []) n=some c∧p.defs[c]? = some d)∧(∀ n x,aget newE.cons n=some x→aget Q.cons n=some x):=by
 obtain ⟨E1,h1,h2,h3⟩:=checkedS_ok h
 obtain ⟨_,_,hdefs⟩:=good_datas h1
 obtain ⟨c1,c2⟩:=headsS_defs (all:=p.defs) p.defs 0 E1 Q [] (by simp) h2 (fun n d hd=>by rw [hdefs] at hd;cases hd)
 have h1':=h1
 unfold checkDatasS at h1'
 split at h1'
 · cases h1'
 · rename_i E' hE'
   split at h1'
   · rename_i hall
     cases h1'
     obtain ⟨hc,hk⟩:=datasS_cinv p.datas newE E1 fields0 givenS newE_cinv hE'
     have hinV:∀ n x,aget E1.cons n=some x→∀ F∈conFields x.1 x.2,F.inV x.1.params=true:=by
       intro n x hx F hF
       obtain ⟨k,hk1,hk2⟩:=conFields_mem hF
       rcases List.mem_append.1 (hc.dinv.mem _ _ (hc.dinv.con n x hx)) with hm | hm
       · exact given_inV _ hm k hk1 F hk2
       · unfold datas2S at hall
         rw [List.all_eq_true] at hall
         have:=hall _ hm
         unfold fieldsS at this
         rw [List.all_eq_true] at this
         have:=this k hk1
         rw [List.all_eq_true] at this
         have:=this F hk2
         rw [rightS,Bool.and_eq_true] at this
         refine fits_inV (fun n hn=>?_) F this.2
         rcases has_knowL _ _ _ hn with h | h
         · exact h
         · cases h
     refine ⟨E1,h1,h2,⟨fun ps=>(good_checked h1 h2 ps).1,fun ps=>(good_checked h1 h2 ps).2,fun n d hd=>(c2 n d hd).1,fun n x hx=>?_,?_,?_⟩,fun n x hx=>?_,fun n d hd=>(c2 n d hd).2,fun n x hx=>?_⟩
     · rw [c1] at hx
       exact ⟨hinV n x hx,hc.len n x hx⟩
     · rw [c1];exact hk _ _ (by rw [newE_cons];try rfl)
     · rw [c1];exact hk _ _ (by rw [newE_cons];try rfl)
     · rw [c1] at hx;exact hc.fields n x hx
     · rw [c1];exact hk n x hx
   · cases h1'
end
section
open Go Go.W
def N0 {α:Type} (x:Except Int α):Prop:=∀ k,x = .error k→k≠0
section
variable {α β:Type} {E:Env}
theorem n0_ok {a:α}:N0 (.ok a:Except Int α):=fun k h=>by cases h
theorem n0_er {k:Int} (h:k≠0):N0 (.error k:Except Int α):=fun k' h'=>by cases h';exact h
theorem n0_map {x:Except Int α} {f:α→β} (h:N0 x):N0 (x.map f):=fun k hk=>by
 cases x with
 | error e=>cases hk;exact h _ rfl
 | ok a=>cases hk
theorem n0_named {t:Ty} {ps:List ByteArray} {at':List Ty}:N0 (namedS E t ps at'):=by
 unfold namedS
 split
 · exact n0_er (by decide)
 · split
   · exact n0_er (by decide)
   · split
     · exact n0_ok
     · exact n0_er (by decide)
theorem n0_bind {b:Bd} {bd:Cnt}:N0 (bindS E b bd):=by
 unfold bindS
 split
 · exact n0_er (by decide)
 · split
   · exact n0_ok
   · exact n0_er (by decide)
theorem n0_binds:∀ (l:List Bd) (bd:Cnt),N0 (bindsS E l bd)
 | [],bd=>by rw [bindsS];exact n0_ok
 | b::l,bd=>by
   rw [bindsS]
   split
   · rename_i x hx
     exact n0_er (n0_bind _ hx)
   · exact n0_binds l _
theorem n0_vars:∀ (l:List ByteArray) (bd:Cnt),N0 (varsS l bd)
 | [],bd=>by rw [varsS];exact n0_ok
 | s::l,bd=>by
   rw [varsS]
   split
   · exact n0_er (by decide)
   · exact n0_vars l _
theorem n0_putVs {ps:List ByteArray} {bs:List Ty}:∀ (l:List ByteArray) (fs:List Ty) (lc:Loc),N0 (putVs ps bs l fs lc)
 | s::l,f::fs,lc=>by
   rw [putVs]
   split
   · exact n0_putVs l fs _
   · exact n0_er (by decide)
 | [],fs,lc=>by rw [putVs];exact n0_ok;simp
 | s::l,[],lc=>by rw [putVs];exact n0_ok;simp
theorem n0_app {l:List Ty}:N0 (appS E l):=by
 unfold appS
 split
 · split
   · exact n0_er (by decide)
   · split
     · split
       · exact n0_ok
       · exact n0_er (by decide)
     · exact n0_er (by decide)
 · exact n0_er (by decide)
theorem n0_op {n:ByteArray} {l:List Ty}:N0 (opS n l):=by
 unfold opS
 split
 · split
   · exact n0_er (by decide)
   · exact n0_ok
 · exact n0_er (by decide)
theorem n0_lam {b:Bd} {l:List Ty}:N0 (lamS b l):=by
 unfold lamS
 split
 · split
   · exact n0_er (by decide)
   · exact n0_ok
 · exact n0_er (by decide)
def NE (E:Env) (e:Ex):Prop:=∀ st,N0 (exprS E e st)
theorem n0_exprs:∀ (l:List Ex),(∀ u∈l,NE E u)→∀ st,N0 (exprsS E l st)
 | [],_,st=>by rw [exprsS];exact n0_ok
 | e::l,h,st=>by
   rw [exprsS]
   split
   · rename_i x hx;exact n0_er (h e (by simp) st _ hx)
   · split
     · rename_i x hx;exact n0_er (n0_exprs l (fun u hu=>h u (by simp [hu])) _ _ hx)
     · exact n0_ok
theorem n0_bds:∀ (l:List Bd),(∀ b∈l,NE E b.value)→∀ st,N0 (bdsS E l st)
 | [],_,st=>by rw [bdsS];exact n0_ok
 | b::l,h,st=>by
   rw [bdsS_cons]
   split
   · rename_i x hx;exact n0_er (h b (by simp) st _ hx)
   · split
     · exact n0_bds l (fun u hu=>h u (by simp [hu])) _
     · exact n0_er (by decide)
theorem n0_altR {of:Ty} {k:Int} {con:ByteArray} {vars:List ByteArray} {run:St→Except Int (Ty×St)} (hr:∀ st,N0 (run st)) (st:St):N0 (altR E of k con vars run st):=by
 unfold altR
 split
 · exact hr st
 · split
   · exact n0_er (by decide)
   · split
     · exact n0_er (by decide)
     · split
       · exact n0_er (by decide)
       · split
         · rename_i x hx;exact n0_er (n0_vars _ _ _ hx)
         · split
           · rename_i x hx;exact n0_er (n0_putVs _ _ _ _ hx)
           · split
             · rename_i x hx;exact n0_er (hr _ _ hx)
             · exact n0_ok
theorem n0_alts {all:List Al} {of:Ty}:∀ (l:List Al),(∀ a∈l,NE E a.body)→∀ i first st,N0 (altsS E all of l i first st)
 | [],_,i,first,st=>by rw [altsS];exact n0_ok
 | a::l,h,i,first,st=>by
   rw [altsS_cons]
   split
   · exact n0_er (by decide)
   · split
     · rename_i x hx;exact n0_er (n0_altR (h a (by simp)) st _ hx)
     · split
       · exact n0_alts l (fun u hu=>h u (by simp [hu])) _ _ _
       · split
         · exact n0_alts l (fun u hu=>h u (by simp [hu])) _ _ _
         · exact n0_er (by decide)
theorem n0_expr (e:Ex):NE E e:=by
 induction e using Ex.ind with
 | h e ih1 ih2 ih3=>
 intro st
 rw [exprS_eq]
 have hx:=n0_exprs e.args ih1
 by_cases hf:formedS e=false
 · rw [if_pos hf];exact n0_er (by decide)
 rw [if_neg hf]
 by_cases hk:e.kind=1
 · rw [if_pos hk]
   split
   · exact n0_er (by decide)
   · exact n0_ok
 rw [if_neg hk]
 by_cases hk:e.kind=2
 · rw [if_pos hk];exact n0_ok
 rw [if_neg hk]
 by_cases hk:e.kind=3
 · rw [if_pos hk]
   split
   · exact n0_er (by decide)
   · exact n0_map n0_named
 rw [if_neg hk]
 by_cases hk:e.kind=4
 · rw [if_pos hk]
   split
   · exact n0_er (by decide)
   · exact n0_map n0_named
 rw [if_neg hk]
 by_cases hk:e.kind=12
 · rw [if_pos hk]
   split
   · exact n0_er (by decide)
   · split
     · exact n0_ok
     · exact n0_er (by decide)
 rw [if_neg hk]
 by_cases hk:e.kind=5
 · rw [if_pos hk]
   split
   · rename_i x h;exact n0_er (hx _ _ h)
   · exact n0_map n0_app
 rw [if_neg hk]
 by_cases hk:e.kind=9
 · rw [if_pos hk]
   split
   · rename_i x h;exact n0_er (hx _ _ h)
   · exact n0_map n0_op
 rw [if_neg hk]
 by_cases hk:e.kind=10
 · rw [if_pos hk]
   split
   · rename_i x h;exact n0_er (hx _ _ h)
   · exact n0_ok
 rw [if_neg hk]
 by_cases hk:e.kind=6
 · rw [if_pos hk]
   split
   · exact n0_er (by decide)
   · split
     · rename_i x h;exact n0_er (n0_bind _ h)
     · split
       · rename_i x h;exact n0_er (hx _ _ h)
       · exact n0_map n0_lam
 rw [if_neg hk]
 by_cases hk:e.kind=7∨e.kind=11
 · rw [if_pos hk]
   split
   · rename_i x h;exact n0_er (n0_binds _ _ _ h)
   · split
     · rename_i x h;exact n0_er (n0_bds _ ih2 _ _ h)
     · split
       · rename_i x h;exact n0_er (hx _ _ h)
       · exact n0_ok
 rw [if_neg hk]
 split
 · rename_i x h;exact n0_er (hx _ _ h)
 · split
   · exact n0_er (by decide)
   · exact n0_alts _ ih3 _ _ _
end
theorem bodies_all {Q:Env}:∀ (l:List Df),bodiesS Q l=0→∀ d∈l,bodyS Q d=0
 | [],_,d,hd=>by cases hd
 | c::l,h,d,hd=>by
   rw [bodiesS] at h
   split at h
   · rename_i hn
     rw [h] at hn;simp at hn
   · rename_i hn
     rcases List.mem_cons.1 hd with rfl | hd
     · simpa using hn
     · exact bodies_all l h d hd
theorem body_chk {Q:Env} {d:Df} (h:bodyS Q d=0):Chk (knowE Q d.params) (fun _=>none) d.body d.type:=by
 unfold bodyS at h
 split at h
 · rename_i e he
   exact absurd h (n0_expr _ _ _ he)
 · rename_i y hy
   split at h
   · rename_i hs
     exact ⟨([],[]),y,⟨fun p hp=>(by cases hp),by simp [Uq],fun _ _=>rfl⟩,fun _=>rfl,hy,by simpa [sameT] using hs⟩
   · cases h
def S0 (p:Pg):Sg:=fun c D=>∃ d us,p.defs[c]? = some d∧D=d.type.sub (lk d.params us)
theorem start_T {p:Pg} {Q:Env} {fuel:Int} (h:checkedS p = .ok Q):EnvT Q∧StT Q (S0 p) (newM p).cells∧XT Q (newX p fuel) (S0 p):=by
 obtain ⟨E1,h1,h2,hQ,hf,hd,_⟩:=checked_of h
 obtain ⟨_,_,_,hb⟩:=checkedS_ok h
 refine ⟨hQ,⟨fun c x hx=>?_,fun c hc=>?_,fun c D hD=>?_⟩,⟨fun n d hn=>?_,hf⟩⟩
 · have hx:(p.defs.map (fun d=>Cl.wait d.body []))[c]? = some x:=hx
   rw [List.getElem?_map] at hx
   obtain ⟨d,hdc,rfl⟩:=Option.map_eq_some_iff.1 hx
   rintro D ⟨d',us,h3,rfl⟩
   rw [hdc] at h3
   cases h3
   exact ⟨d.params,_,lk d.params us,d.type,body_chk (bodies_all _ hb d (List.mem_of_getElem? hdc)),rfl,fun x U hx=>by cases hx⟩
 · have hc:c < (p.defs.map (fun d=>Cl.wait d.body [])).length:=hc
   rw [List.length_map] at hc
   exact ⟨_,p.defs[c],[],List.getElem?_eq_getElem hc,rfl⟩
 · obtain ⟨d,us,h3,_⟩:=hD
   show c < (p.defs.map (fun d=>Cl.wait d.body [])).length
   rw [List.length_map]
   exact (List.getElem?_eq_some_iff.1 h3).1
 · obtain ⟨c,h3,h4⟩:=hd n d hn
   exact ⟨c,h3,fun us=>⟨d,us,h4,rfl⟩⟩
end
section
open Go Go.W
mutual
def Ty.dep:Ty→Nat
 | .mk _ _ l=>tysDep l+1
def tysDep:List Ty→Nat
 | []=>0
 | t::l=>max t.dep (tysDep l)
end
theorem Ty.dep_eq (t:Ty):t.dep=tysDep t.args+1:=by cases t;rw [Ty.dep];try rfl
theorem dep_mem {l:List Ty} {t:Ty} (h:t∈l):t.dep≤tysDep l:=by
 induction l with
 | nil=>cases h
 | cons u l ih=>
   rw [tysDep]
   rcases List.mem_cons.1 h with rfl | h
   · omega
   · have:=ih h;omega
def dtsDep (ds:List Dt):Nat:=tysDep (ds.flatMap fun d=>d.cons.flatMap Cn.fields)
def unseen (ds:List Dt) (s:Cnt):Nat:=(ds.filter fun d=>!has s d.name).length
def SeenLe (s s':Cnt):Prop:=∀ n,has s n=true→has s' n=true
theorem filter_le {α:Type} {p q:α→Bool} (h:∀ a,q a=true→p a=true):∀ (l:List α),(l.filter q).length≤(l.filter p).length
 | []=>Nat.le_refl _
 | a::l=>by
   have ih:=filter_le h l
   rw [List.filter_cons,List.filter_cons]
   cases hq:q a with
   | true=>rw [h a hq];simpa using ih
   | false=>
     cases hp:p a with
     | true=>simp;omega
     | false=>simpa using ih
theorem filter_lt {α:Type} {p q:α→Bool} (h:∀ a,q a=true→p a=true):∀ (l:List α),(∃ a∈l,p a=true∧q a=false)→(l.filter q).length < (l.filter p).length
 | [],⟨a,ha,_⟩=>by cases ha
 | a::l,⟨b,hb,hpb,hqb⟩=>by
   have h1:=filter_le h l
   rw [List.filter_cons,List.filter_cons]
   rcases List.mem_cons.1 hb with rfl | hb
   · rw [hpb,hqb];simp;omega
   · have ih:=filter_lt h l ⟨b,hb,hpb,hqb⟩
     cases hq:q a with
     | true=>rw [h a hq];simpa using ih
     | false=>
       cases hp:p a with
       | true=>simp;omega
       | false=>simpa using ih
theorem unseen_le {ds:List Dt} {s s':Cnt} (h:SeenLe s s'):unseen ds s'≤unseen ds s:=filter_le (fun d hd=>by
 cases hh:has s d.name with
 | false=>rfl
 | true=>rw [h _ hh] at hd;cases hd) ds
theorem seen_put (s:Cnt) (n:ByteArray):SeenLe s (aput s n 1):=fun m hm=>by rw [has_put,hm,Bool.or_true]
def PlT (f:PlF) (P:Ty→Prop) (U:Cnt→Prop):Prop:=∀ t s,P t→U s→∃ b s',f t s=some (b,s')∧SeenLe s s'
theorem plL_tot {f:PlF} {P:Ty→Prop} {U:Cnt→Prop} (hf:PlT f P U) (hU:∀ s s',U s→SeenLe s s'→U s'):∀ (l:List Ty) (s:Cnt),(∀ t∈l,P t)→U s→∃ b s',plL f l s=some (b,s')∧SeenLe s s'
 | [],s,_,_=>⟨true,s,rfl,fun _ h=>h⟩
 | t::l,s,hl,hs=>by
   obtain ⟨b,s1,h1,h2⟩:=hf t s (hl t (by simp)) hs
   rw [plL,h1]
   cases b with
   | false=>exact ⟨false,s1,rfl,h2⟩
   | true=>
     obtain ⟨b,s2,h3,h4⟩:=plL_tot hf hU l s1 (fun u hu=>hl u (by simp [hu])) (hU _ _ hs h2)
     exact ⟨b,s2,h3,fun n hn=>h4 n (h2 n hn)⟩
theorem plC_tot {f:PlF} {P:Ty→Prop} {U:Cnt→Prop} (hf:PlT f P U) (hU:∀ s s',U s→SeenLe s s'→U s'):∀ (l:List Cn) (s:Cnt),(∀ k∈l,∀ t∈k.fields,P t)→U s→∃ b s',plC f l s=some (b,s')∧SeenLe s s'
 | [],s,_,_=>⟨true,s,rfl,fun _ h=>h⟩
 | k::l,s,hl,hs=>by
   obtain ⟨b,s1,h1,h2⟩:=plL_tot hf hU k.fields s (hl k (by simp)) hs
   rw [plC,h1]
   cases b with
   | false=>exact ⟨false,s1,rfl,h2⟩
   | true=>
     obtain ⟨b,s2,h3,h4⟩:=plC_tot hf hU l s1 (fun u hu=>hl u (by simp [hu])) (hU _ _ hs h2)
     exact ⟨b,s2,h3,fun n hn=>h4 n (h2 n hn)⟩
theorem plD_tot {f:PlF} {P:Ty→Prop} {U:Cnt→Prop} (hU:∀ s s',U s→SeenLe s s'→U s') (n:ByteArray):∀ (l:List Dt) (s:Cnt),((∃ d∈l,d.name=n)→PlT f P U∧U s)→(∀ d∈l,∀ k∈d.cons,∀ t∈k.fields,P t)→∃ b s',plD f n l s=some (b,s')∧SeenLe s s'
 | [],s,_,_=>⟨true,s,rfl,fun _ h=>h⟩
 | d::l,s,hs,hl=>by
   rw [plD]
   by_cases hn:d.name≠n
   · rw [if_pos hn]
     exact plD_tot hU n l s (fun ⟨e,he,hh⟩=>hs ⟨e,by simp [he],hh⟩) (fun e he=>hl e (by simp [he]))
   · rw [if_neg hn]
     obtain ⟨hf,hus⟩:=hs ⟨d,by simp,by simpa using hn⟩
     obtain ⟨b,s1,h1,h2⟩:=plC_tot hf hU d.cons s (hl d (by simp)) hus
     rw [h1]
     cases b with
     | false=>exact ⟨false,s1,rfl,h2⟩
     | true=>
       obtain ⟨b,s2,h3,h4⟩:=plD_tot hU n l s1 (fun _=>⟨hf,hU _ _ hus h2⟩) (fun e he=>hl e (by simp [he]))
       exact ⟨b,s2,h3,fun n hn=>h4 n (h2 n hn)⟩
theorem plF_tot (ds:List Dt):∀ (n u k:Nat),u*(dtsDep ds+1)+k≤n→PlT (plF ds n) (fun t=>t.dep≤k) (fun s=>unseen ds s≤u)
 | 0,u,k,hn=>fun t s ht _=>by
   have:=t.dep_eq
   omega
 | n+1,u,k,hn=>fun t s ht hs=>by
   show ∃ b s',(if t.kind=3 then some (false,s) else match plL (plF ds n) t.args s with
     | none=>none
     | some (false,s')=>some (false,s')
     | some (true,s')=>if t.kind≠4∨(aget s' t.name).getD 0 > 0 then some (true,s') else plD (plF ds n) t.name ds (aput s' t.name 1))=some (b,s')∧SeenLe s s'
   by_cases hk:t.kind=3
   · rw [if_pos hk];exact ⟨_,_,rfl,fun _ h=>h⟩
   rw [if_neg hk]
   have hd:=t.dep_eq
   have ih:=plF_tot ds n u (k - 1) (by omega)
   have hU:∀ s s',unseen ds s≤u→SeenLe s s'→unseen ds s'≤u:=fun s s' h1 h2=>Nat.le_trans (unseen_le h2) h1
   obtain ⟨b,s1,h1,h2⟩:=plL_tot ih hU t.args s (fun x hx=>by have:=dep_mem hx;omega) hs
   rw [h1]
   cases b with
   | false=>exact ⟨false,s1,rfl,h2⟩
   | true=>
     simp only
     by_cases hc:t.kind≠4∨(aget s1 t.name).getD 0 > 0
     · rw [if_pos hc];exact ⟨true,s1,rfl,h2⟩
     · rw [if_neg hc]
       have hns:has s1 t.name=false:=by
         unfold has
         simp only [not_or] at hc
         simpa using hc.2
       have hU':∀ s s',unseen ds s≤u - 1→SeenLe s s'→unseen ds s'≤u - 1:=fun s s' h1 h2=>Nat.le_trans (unseen_le h2) h1
       obtain ⟨b,s2,h3,h4⟩:=plD_tot (f:=plF ds n) (P:=fun t=>t.dep≤dtsDep ds) (U:=fun s=>unseen ds s≤u - 1) hU' t.name ds (aput s1 t.name 1) (fun ⟨d,hdm,hdn⟩=>by
         have hlt:unseen ds (aput s1 t.name 1) < unseen ds s1:=filter_lt (fun e he=>by
           rw [has_put] at he
           cases hh:has s1 e.name with
           | false=>rfl
           | true=>rw [hh,Bool.or_true] at he;cases he) ds ⟨d,hdm,by rw [hdn,hns];try rfl,by rw [has_put,hdn];simp⟩
         have h5:=unseen_le (ds:=ds) h2
         have hu:unseen ds (aput s1 t.name 1)≤u - 1:=by omega
         refine ⟨plF_tot ds n (u - 1) (dtsDep ds) ?_,hu⟩
         obtain ⟨u',rfl⟩:∃ u',u=u'+1:=⟨u - 1,by omega⟩
         rw [Nat.add_mul,Nat.one_mul] at hn
         rw [Nat.add_sub_cancel]
         omega) (fun d hdm k hk t ht=>dep_mem (List.mem_flatMap.2 ⟨d,hdm,List.mem_flatMap.2 ⟨k,hk,ht⟩⟩))
       exact ⟨b,s2,h3,fun n hn=>h4 n (seen_put s1 t.name n (h2 n hn))⟩
theorem plainT_tot (ds:List Dt) (t:Ty):∃ N,∀ n,N≤n→∃ b,plainT ds n t=some b:=by
 refine ⟨unseen ds []*(dtsDep ds+1)+t.dep,fun n hn=>?_⟩
 obtain ⟨b,s',h,_⟩:=plF_tot ds n (unseen ds []) t.dep hn t [] (Nat.le_refl _) (Nat.le_refl _)
 exact ⟨b,by unfold plainT;rw [h];try rfl⟩
end
section
open Go Go.W
def EndK (m:Rn):Prop:=m.kind=2∨m.kind=4∨(m.kind=3∧1≤m.stuck∧m.stuck≤4)
theorem endK_of {Q:Env} {X:Cx} {Z:Ts} {m:Rn} (h:EndT Q X Z (none,m)):EndK m:=.inr h
theorem fieldsOf_T {Q:Env} (hQ:EnvT Q) {S:Sg} {x:Cl} {D:Ty} (h:VT Q S x D):(fieldsOf x).length≤8∧∀ c∈fieldsOf x,∃ D,S c D:=by
 cases x with
 | con k cs=>
   obtain ⟨y,us,h1,_,h2⟩:=h
   have hl:=h2.at
   refine ⟨?_,fun c hc=>?_⟩
   · show cs.length≤8
     rw [hl.1];exact (hQ.cons _ _ h1).2
   · obtain ⟨i,hi,rfl⟩:=List.getElem_of_mem hc
     have hi:i < cs.length:=hi
     exact ⟨_,hl.2 i _ _ (List.getElem?_eq_getElem hi) (List.getElem?_eq_getElem (by rw [← hl.1];exact hi))⟩
 | _=>exact ⟨by simp [fieldsOf],fun c hc=>by simp [fieldsOf] at hc⟩
theorem force_tot {Q:Env} (hQ:EnvT Q) {X:Cx} {S:Sg} {n c:Nat} {m:Rn} (hst:StT Q S m.cells) (hx:XT Q X S) (hc:c < m.cells.length) (hf:m.frames=[]) (hs:m.steps≤X.fuel) (hn:3*(X.fuel - m.steps).toNat+2 < n):∃ r,forceS X n c m=some r∧EndT Q X (S c) r:=by
 obtain ⟨D,hD⟩:=hst.full c hc
 have ho:OutT Q X (S c) (enterCl m c):=enterT hst hx ⟨D,hD⟩ (fun _ h=>h) (by rw [hf];exact fun _ h=>h)
 have hsm:=enter_sm m c
 unfold forceS
 generalize enterCl m c=rr at ho hsm
 match rr,ho,hsm with
 | (none,m'),ho,hsm=>exact ⟨_,rfl,.inr ho⟩
 | (some (.val x),m'),⟨S',P,a1,a2,_,a3,a4⟩,hsm=>
   have hfr:m'.frames.length≤m.frames.length:=hsm.flv x rfl
   rw [hf] at hfr
   have hfr:m'.frames=[]:=List.eq_nil_of_length_eq_zero (by simpa using hfr)
   rw [hfr] at a4
   exact ⟨_,rfl,S',a1,a2,a3.1,fun D hD=>a3.2 D (a4 D hD)⟩
 | (some (.go e v),m'),⟨S',P,a1,a2,a0,a3,a4⟩,hsm=>
   have ks:m'.steps=m.steps:=hsm.steps
   have kf:m'.frames.length≤m.frames.length+1:=hsm.fl
   rw [hf] at kf
   have kf:m'.frames.length≤1:=by simpa using kf
   exact goOnT hQ n a1 a2 a0 a3 a4 (by omega) (by simp only [muG];omega)
theorem enter_cells (m:Rn) (c:Nat):m.cells.length≤(enterCl m c).2.cells.length:=by
 unfold enterCl
 cases m.cells[c]? with
 | none=>exact Nat.le_refl _
 | some x=>cases x<;>first | exact Nat.le_refl _ | (simp [Rn.push,Rn.put])
theorem choose_cells {m:Rn} {v:Nms} {x:Cl}:∀ (l:List Al) {r:R3},chooseS m v x l=some r→r.2.cells=m.cells
 | [],r,h=>by rw [chooseS] at h;cases h;rfl
 | a::l,r,h=>by
   rw [chooseS] at h
   split at h
   · cases h;rfl
   · split at h
     · split at h
       · obtain ⟨c,_,rfl⟩:=Option.map_eq_some_iff.1 h;rfl
       · exact choose_cells l h
     · exact choose_cells l h
theorem given_cells {m:Rn} {f:Cl} {c:Nat} {r:R3} (h:givenR m f c=some r):r.2.cells=m.cells:=by
 unfold givenR at h
 split at h
 · split at h<;>cases h;rfl
 · split at h<;>cases h;rfl
 · cases h;rfl
theorem begin_cells {X:Cx} {e:Ex} {v:Nms} {m:Rn} {r:R3} (h:beginS X e v m=some r):m.cells.length≤r.2.cells.length:=by
 unfold beginS at h
 by_cases k1:e.kind=1
 · rw [if_pos k1] at h
   obtain ⟨c,_,rfl⟩:=Option.map_eq_some_iff.1 h;exact enter_cells m c
 rw [if_neg k1] at h
 by_cases k3:e.kind=3
 · rw [if_pos k3] at h
   obtain ⟨c,_,rfl⟩:=Option.map_eq_some_iff.1 h;exact enter_cells m c
 rw [if_neg k3] at h
 by_cases k2:e.kind=2
 · rw [if_pos k2] at h;cases h;exact Nat.le_refl _
 rw [if_neg k2] at h
 by_cases k4:e.kind=4
 · rw [if_pos k4] at h;cases h;exact Nat.le_refl _
 rw [if_neg k4] at h
 by_cases k6:e.kind=6
 · rw [if_pos k6] at h;cases h;exact Nat.le_refl _
 rw [if_neg k6] at h
 by_cases k12:e.kind=12
 · rw [if_pos k12] at h;cases h;exact Nat.le_refl _
 rw [if_neg k12] at h
 by_cases k7:e.kind=7
 · rw [if_pos k7] at h
   split at h
   · cases h
   · cases h;simp
 rw [if_neg k7] at h
 by_cases k11:e.kind=11
 · rw [if_pos k11] at h
   split at h
   · cases h
   · cases h;exact Nat.le_refl _
 rw [if_neg k11] at h
 split at h
 · cases h
 · cases h
   by_cases k5:e.kind=5
   · rw [if_pos k5];exact Nat.le_refl _
   by_cases k8:e.kind=8
   · rw [if_neg k5,if_pos k8];exact Nat.le_refl _
   by_cases k9:e.kind=9
   · rw [if_neg k5,if_neg k8,if_pos k9];exact Nat.le_refl _
   by_cases k10:e.kind=10
   · rw [if_neg k5,if_neg k8,if_neg k9,if_pos k10];exact Nat.le_refl _
   · rw [if_neg k5,if_neg k8,if_neg k9,if_neg k10];exact Nat.le_refl _
theorem end_cells {f:Fm} {x:Cl} {m:Rn} {r:R3} (h:endS f x m=some r):m.cells.length≤r.2.cells.length:=by
 unfold endS at h
 split at h
 · cases h;simp [Rn.put]
 · split at h
   · rw [given_cells h];simp [Rn.new]
   · cases h
 · rw [choose_cells _ h];exact Nat.le_refl _
 · split at h<;>cases h;exact Nat.le_refl _
 · split at h<;>cases h<;>exact Nat.le_refl _
 · split at h<;>cases h;exact Nat.le_refl _
 · split at h<;>cases h;simp [Rn.new]
theorem goOn_cells {X:Cx}:∀ (n:Nat) {md:Md} {m:Rn} {r:Option Cl×Rn},goOnS X n md m=some r→m.cells.length≤r.2.cells.length
 | 0,md,m,r,h=>by cases md<;>(rw [goOnS] at h;cases h)
 | n+1,.go e v,m,r,h=>by
   rw [goOnS] at h
   rcases step_cases X m with ⟨h1,h2⟩ | ⟨h1,h2⟩
   · rw [h2] at h
     simp only [if_true] at h
     cases h;exact Nat.le_refl _
   · rw [h2] at h
     simp only [Bool.true_eq_false,if_false] at h
     split at h
     · cases h
     · rename_i m' hb;cases h;exact begin_cells hb
     · rename_i md' m' hb
       exact Nat.le_trans (show m.cells.length≤m'.cells.length from begin_cells hb) (goOn_cells n h)
 | n+1,.val x,m,r,h=>by
   rw [goOnS] at h
   split at h
   · cases h;exact Nat.le_refl _
   · split at h
     · cases h
     · rename_i m' hb;cases h;exact end_cells hb
     · rename_i md' m' hb
       exact Nat.le_trans (show m.cells.length≤m'.cells.length from end_cells hb) (goOn_cells n h)
theorem force_cells {X:Cx} {n c:Nat} {m:Rn} {r:Option Cl×Rn} (h:forceS X n c m=some r):m.cells.length≤r.2.cells.length:=by
 unfold forceS at h
 have k:=enter_cells m c
 generalize enterCl m c=rr at h k
 match rr,h,k with
 | (none,m'),h,k=>cases h;exact k
 | (some (.val x),m'),h,k=>cases h;exact k
 | (some (.go e v),m'),h,k=>exact Nat.le_trans k (goOn_cells n h)
theorem tell_tot {Q:Env} (hQ:EnvT Q) {X:Cx} (hX:X.fuel≤1048576):∀ (n:Nat) {S:Sg} {x:Cl} {D:Ty} {ws:List Nat} {m:Rn},StT Q S m.cells→XT Q X S→VT Q S x D→m.frames=[]→(∀ c∈ws,c < m.cells.length)→(ws.length:Int)≤8*m.steps→0≤m.steps→m.steps≤X.fuel→3*(X.fuel - m.steps).toNat+4≤n →
   ∃ m',tellS X n x ws m=some m'∧EndK m'
 | 0,S,x,D,ws,m,_,_,_,_,_,_,_,_,hn=>by omega
 | n+1,S,x,D,ws,m,hst,hx,hv,hf,hw,hwl,hs0,hs,hn=>by
   obtain ⟨hf8,hfd⟩:=fieldsOf_T hQ hv
   rw [tellS]
   rcases step_cases X m with ⟨h1,h2⟩ | ⟨h1,h2⟩
   · rw [h2,if_pos rfl];exact ⟨_,rfl,.inr (.inl rfl)⟩
   · rw [h2,if_neg (by simp)]
     simp only
     have hlen:(ws++(fieldsOf x).reverse).length≤ws.length+8:=by simp;omega
     rw [if_neg (by omega)]
     have hin:∀ c∈ws++(fieldsOf x).reverse,c < m.cells.length:=fun c hc=>by
       rcases List.mem_append.1 hc with h | h
       · exact hw c h
       · obtain ⟨D',hD'⟩:=hfd c (List.mem_reverse.1 h)
         exact hst.dom _ _ hD'
     generalize hws:ws++(fieldsOf x).reverse=ws2 at hlen hin
     cases hl:ws2.getLast? with
     | none=>exact ⟨_,rfl,.inl rfl⟩
     | some c=>
       have hcm:c∈ws2:=List.mem_of_getLast? hl
       have hpos:0 < ws2.length:=List.length_pos_of_mem hcm
       obtain ⟨r,hr,he⟩:=force_tot hQ (n:=n) (c:=c) (m:={ m with steps:=m.steps+1,told:=m.told++itemS x}) hst hx (hin c hcm) hf (show m.steps+1≤X.fuel by omega) (show 3*(X.fuel - (m.steps+1)).toNat+2 < n by omega)
       have hg:=force_sm hr hf
       have hcl:=force_cells hr
       simp only [hr]
       match r,he,hg,hcl with
       | (none,m'),he,hg,hcl=>exact ⟨_,rfl,endK_of he⟩
       | (some y,m'),⟨S',a1,a2,a3,a4⟩,hg,hcl=>
         obtain ⟨D',hD'⟩:=hst.full c (hin c hcm)
         have gs:m.steps+1≤m'.steps:=hg.steps
         have gf:m.steps+1≤X.fuel→m'.steps≤X.fuel:=hg.fuel
         obtain ⟨_,_,gfr⟩:=hg.val y rfl
         have hcl:m.cells.length≤m'.cells.length:=hcl
         exact tell_tot hQ hX n a1 a2 (a4 D' hD') gfr (fun d hd=>Nat.lt_of_lt_of_le (hin d ((List.dropLast_sublist _).subset hd)) hcl) (by rw [List.length_dropLast];omega) (by omega) (gf (by omega)) (by omega)
theorem headsS_all:∀ (l:List Df) (E E':Env),headsS l E = .ok E'→(∀ n d,aget E.defs n=some d→aget E'.defs n=some d)∧∀ d∈l,aget E'.defs d.name=some d
 | [],E,E',h=>by rw [headsS] at h;cases h;exact ⟨fun _ _ h=>h,fun d hd=>(by cases hd)⟩
 | d::l,E,E',h=>by
   rw [headsS] at h
   split at h
   · cases h
   · rename_i E1 h1
     obtain ⟨_,a2,_⟩:=headS_defs h1
     have hn:aget E.defs d.name=none:=by
       unfold headS at h1
       split at h1
       · cases h1
       · rename_i hc
         simp only [Bool.or_eq_true,not_or] at hc
         cases hx:aget E.defs d.name with
         | none=>rfl
         | some y=>rw [hx] at hc;simp at hc
     obtain ⟨b1,b2⟩:=headsS_all l E1 E' h
     refine ⟨fun n e he=>b1 n e ?_,fun e he=>?_⟩
     · rw [a2,aget_aput,if_neg (fun hh=>by rw [hh,he] at hn;cases hn)]
       exact he
     · rcases List.mem_cons.1 he with rfl | he
       · exact b1 _ _ (by rw [a2,aput_get])
       · exact b2 e he
theorem entD_some {f:Ty→Option Bool} {n:ByteArray} {takes:Bool}:∀ (l:List Df),entD f n l=some (takes,true)→∃ d∈l,d.name=n∧d.params=[]∧(entT d).2=takes
 | [],h=>by rw [entD] at h;cases h
 | d::l,h=>by
   rw [entD] at h
   split at h
   · obtain ⟨e,he,h1⟩:=entD_some l h
     exact ⟨e,by simp [he],h1⟩
   · rename_i hn
     split at h
     · cases h
     · rename_i hp
       obtain ⟨b,_,h2⟩:=Option.map_eq_some_iff.1 h
       cases h2
       exact ⟨d,by simp,by simpa using hn,List.eq_nil_of_length_eq_zero (by omega),rfl⟩
abbrev nilN:ByteArray:=⟨#[78,105,108]⟩
def listT (x:Ty):Ty:=.mk 4 listN [x]
theorem lk_list (x:Ty):lk dList.params [x] ⟨#[97]⟩=x:=lk_map dList.params (fun _=>x) (List.mem_singleton.2 rfl)
theorem sub_tvA (x:Ty):tvA.sub (lk dList.params [x])=x:=by rw [Ty.sub_eq,if_pos (show tvA.kind=2 from rfl)];exact lk_list x
theorem sub_tLA (x:Ty):tLA.sub (lk dList.params [x])=listT x:=by
 rw [Ty.sub_eq,if_neg (by decide)]
 show Ty.mk 4 listN [tvA.sub _]=_
 rw [sub_tvA];try rfl
theorem listed_T {Q:Env} {X:Cx} (hN:aget Q.cons nilN=some (dList,0)) (hC:aget Q.cons consN=some (dList,1)) {x:Ty} (hk:x.kind=1):∀ (l:List Int) {S:Sg} {cells:List Cl},StT Q S cells→XT Q X S→∃ S',StT Q S' (listedS l cells).2∧XT Q X S'∧(∀ c D,S c D→S' c D)∧VT Q S' (listedS l cells).1 (listT x)
 | [],S,cells,hst,hx=>⟨S,hst,hx,fun _ _ h=>h,(dList,0),[x],hN,(sub_tLA x).symm,trivial⟩
 | n::l,S,cells,hst,hx=>by
   obtain ⟨S1,h1,h2,h3,h4⟩:=listed_T hN hC hk l hst hx
   have h5:StT Q (moreS S1 (listedS l cells).2.length (fun i D=>(i=0∧D=x)∨(i=1∧D=listT x))) ((listedS l cells).2++[.num n,(listedS l cells).1]):=by
     refine h1.app (fun i y hy=>?_) (fun i hi=>?_) (fun i D hD=>?_)
     · match i,hy with
       | 0,hy=>
         cases hy
         intro D hD
         rcases hD with ⟨_,rfl⟩ | ⟨h,_⟩
         · exact hk
         · cases h
       | 1,hy=>
         have hy:(listedS l cells).1=y:=by simpa using hy
         subst hy
         obtain ⟨kn,kf,hcon⟩:=listed_con l cells
         have hD:∀ D,((1=0∧D=x)∨((1:Nat)=1∧D=listT x))→VT Q (moreS S1 (listedS l cells).2.length (fun i D=>(i=0∧D=x)∨(i=1∧D=listT x))) (listedS l cells).1 D:=fun D hD=>by
           rcases hD with ⟨h,_⟩ | ⟨_,rfl⟩
           · cases h
           · exact h4.mono more_ext.1
         rw [hcon] at hD ⊢
         exact hD
       | i+2,hy=>simp at hy
     · match i,hi with
       | 0,_=>exact ⟨x,.inl ⟨rfl,rfl⟩⟩
       | 1,_=>exact ⟨listT x,.inr ⟨rfl,rfl⟩⟩
       | i+2,hi=>have hi:i+2 < 2:=hi;omega
     · rcases hD with ⟨rfl,_⟩ | ⟨rfl,_⟩<;>simp
   refine ⟨_,h5,h2.mono more_ext.1,fun c D h=>more_ext.1 _ _ (h3 c D h),(dList,1),[x],hC,(sub_tLA x).symm,?_,?_,trivial⟩
   · exact .inr ⟨Nat.le_refl _,.inl ⟨by omega,sub_tvA x⟩⟩
   · exact .inr ⟨Nat.le_succ _,.inr ⟨by omega,sub_tLA x⟩⟩
end
section
open Go Go.W
theorem apply_tot {Q:Env} (hQ:EnvT Q) {X:Cx} {S:Sg} {n c:Nat} {m:Rn} {x:Cl} {F A D:Ty} (hst:StT Q S m.cells) (hx:XT Q X S) (hv:x.isV=true) (hF:VT Q S x F) (hk:F.kind=3) (ha:F.args=[A,D]) (hc:S c A) (hf:m.frames=[]) (hs:m.steps≤X.fuel) (hn:3*(X.fuel - m.steps).toNat+2 < n) :
   ∃ r,applyS X n x c m=some r∧EndT Q X (fun D'=>D'=D) r:=by
 obtain ⟨rr,hr,ho⟩:=givenT (Z:=fun D'=>D'=D) (P:=fun F'=>F'=F) (R:=fun D'=>D'=D) hQ hst hx hv (fun F' e=>by rw [e];exact hF) ⟨D,rfl⟩ (fun D' e=>⟨F,A,rfl,hk,by rw [e];exact ha,hc⟩) (by rw [hf];exact fun _ h=>h)
 have hsm:=given_sm hr
 unfold applyS
 rw [hr]
 match rr,ho,hsm with
 | (none,m'),ho,hsm=>exact ⟨_,rfl,.inr ho⟩
 | (some (.val x),m'),⟨S',P,a1,a2,_,a3,a4⟩,hsm=>
   have hfr:m'.frames.length≤m.frames.length:=hsm.flv x rfl
   rw [hf] at hfr
   have hfr:m'.frames=[]:=List.eq_nil_of_length_eq_zero (by simpa using hfr)
   rw [hfr] at a4
   exact ⟨_,rfl,S',a1,a2,a3.1,fun D hD=>a3.2 D (a4 D hD)⟩
 | (some (.go e v),m'),⟨S',P,a1,a2,a0,a3,a4⟩,hsm=>
   have ks:m'.steps=m.steps:=hsm.steps
   have kf:m'.frames.length≤m.frames.length+1:=hsm.fl
   rw [hf] at kf
   have kf:m'.frames.length≤1:=by simpa using kf
   exact goOnT hQ n a1 a2 a0 a3 a4 (by omega) (by simp only [muG];omega)
theorem run_tot {p:Pg} {Q:Env} {fuel:Int} {name:ByteArray} {takes:Bool} {f:Ty→Option Bool} (h:checkedS p = .ok Q) (he:entD f name p.defs=some (takes,true)) (hf:0≤fuel∧fuel≤1048576) (input:List Int) :
   ∃ m,runM p fuel name takes input=some m∧EndK m:=by
 obtain ⟨hQ,hst,hx⟩:=start_T (fuel:=fuel) h
 obtain ⟨E1,h1,h2,_,_,hdefs,hgiven⟩:=checked_of h
 obtain ⟨d,hd,hdn,hdp,hdt⟩:=entD_some p.defs he
 have hck:checkS p=0:=by unfold checkS;rw [h]
 have hok:=tyOk_of hck d hd
 have hQd:aget Q.defs name=some d:=by rw [← hdn];exact (headsS_all p.defs E1 Q h2).2 d hd
 obtain ⟨c,hc,hcm⟩:=hx.defs _ _ hQd
 have hT:=hcm []
 have hinV:d.type.inV []=true:=by have:=hQ.defs _ _ hQd;rwa [hdp] at this
 generalize hTT:d.type.sub (lk d.params [])=T at hT
 have hXf:(newX p fuel).fuel=fuel:=rfl
 have hgo:∃ r,goOnS (newX p fuel) bigN (.go (globE name) []) (newM p)=some r∧EndT Q (newX p fuel) (fun D=>D=T) r:=by
   show ∃ r,goOnS (newX p fuel) (16777215+1) (.go (globE name) []) (newM p)=some r∧_
   rw [goOnS]
   rcases step_cases (newX p fuel) (newM p) with ⟨q1,q2⟩ | ⟨q1,q2⟩
   · rw [q2,if_pos rfl];exact ⟨_,rfl,.inl rfl⟩
   · rw [q2,if_neg (by simp)]
     have hb:beginS (newX p fuel) (globE name) [] { newM p with steps:=(newM p).steps+1}=some (enterCl { newM p with steps:=(newM p).steps+1} c):=by
       unfold beginS
       rw [if_neg (show ¬ (globE name).kind=1 from (show ¬ (3:Int)=1 by decide)),if_pos (show (globE name).kind=3 from rfl)]
       show (aget (newX p fuel).defs name).map _=_
       rw [hc];try rfl
     simp only [hb]
     have ho:OutT Q (newX p fuel) (fun D=>D=T) (enterCl { newM p with steps:=(newM p).steps+1} c):=enterT (P:=fun D=>D=T) hst hx ⟨T,rfl⟩ (fun D e=>by rw [e];exact hT) (fun _ h=>h)
     have hsm:=enter_sm { newM p with steps:=(newM p).steps+1} c
     generalize enterCl { newM p with steps:=(newM p).steps+1} c=rr at ho hsm
     match rr,ho,hsm with
     | (none,m'),ho,hsm=>exact ⟨_,rfl,.inr ho⟩
     | (some md',m'),⟨S',P',a1,a2,a3,a4,a5⟩,hsm=>
       have ks:m'.steps=0+1:=hsm.steps
       have kf:m'.frames.length≤0+1:=hsm.fl
       have q1':(0:Int)≠fuel:=q1
       refine goOnT hQ _ a1 a2 a3 a4 a5 (by rw [hXf];omega) ?_
       cases md'<;>(simp only [muG,hXf];omega)
 obtain ⟨r,hr,hend⟩:=hgo
 have hg:=goOn_sm _ hr
 unfold runM
 rw [hr]
 match r,hend,hg with
 | (none,m),hend,hg=>exact ⟨_,rfl,endK_of hend⟩
 | (some x,m),⟨S,a1,a2,a3,a4⟩,hg=>
   have gs:(0:Int)≤m.steps:=hg.steps
   have gf:m.steps≤fuel:=hg.fuel (show (0:Int)≤fuel from hf.1)
   obtain ⟨_,_,gfr⟩:=hg.val x rfl
   cases takes with
   | false=>
     simp only [Bool.false_eq_true,if_false]
     exact tell_tot hQ (by rw [hXf];exact hf.2) bigN a1 a2 (a4 T rfl) gfr (fun c hc=>by cases hc) (by simp;omega) gs (by rw [hXf];exact gf) (show 3*(fuel - m.steps).toNat+4≤16777216 by omega)
   | true=>
     simp only [if_true]
     have hkind:d.type.kind=3:=by
       unfold entT at hdt
       by_cases hk:d.type.kind=3
       · exact hk
       · have:(d.type.kind == 3)=false:=by simpa using hk
         rw [this] at hdt;cases hdt
     have hl2:=hok.1 hkind
     rw [entT_fun d hkind hl2] at hdt
     obtain ⟨a,b,hab⟩:=two_of hl2
     have e0:d.type.args[0]=a:=by simp [hab]
     rw [e0] at hdt
     have hlio:lioS a=true:=by
       cases hq:lioS a with
       | true=>rfl
       | false=>rw [hq] at hdt;cases hdt
     have hTk:T.kind=3∧T.args=[a.sub (lk d.params []),b.sub (lk d.params [])]:=by
       obtain ⟨s1,s2,s3⟩:=sub_kind (lk d.params []) (t:=d.type) (by omega)
       rw [← hTT,s1,s3,hab]
       exact ⟨hkind,rfl⟩
     have hlist:∃ y,y.kind=1∧a.sub (lk d.params [])=listT y:=by
       unfold lioS at hlio
       simp only [Bool.and_eq_true,beq_iff_eq] at hlio
       obtain ⟨⟨k4,kn⟩,kx⟩:=hlio
       have kn':a.name=listN:=by rw [strEq_iff] at kn;simpa using kn
       have hwa:∃ E,a.wf E=true∧aget E.datas listN=some dList:=by
         obtain ⟨_,hw⟩:=headsS_ok _ _ _ h2
         exact ⟨E1,wf_mem (hw d hd) (by rw [hab];simp),checked_list h1⟩
       obtain ⟨E,hw,hL⟩:=hwa
       rw [a.wf_eq,k4,Bool.and_eq_true,Bool.and_eq_true] at hw
       have hbd:badData E a.name a.args.length=false:=by simpa using hw.1.2
       unfold badData at hbd
       rw [kn',hL] at hbd
       have hl1:(dList.params.length:Int)=a.args.length:=by simpa using hbd
       have hl1:a.args.length=1:=by have:dList.params.length=1:=rfl;omega
       obtain ⟨y,hy⟩:=one_of hl1
       rw [hy] at kx
       have ky:y.kind=1:=by simpa using kx
       refine ⟨y.sub (lk d.params []),by rw [(sub_kind _ (t:=y) (by omega)).1,ky],?_⟩
       rw [a.sub_eq,if_neg (by omega),hy,k4,kn']
       rfl
     obtain ⟨y,hyk,hal⟩:=hlist
     obtain ⟨S1,b1,b2,b3,b4⟩:=listed_T (hgiven _ _ (by rw [newE_cons];rfl)) (hgiven _ _ (by rw [newE_cons];try rfl)) hyk input a1 a2
     have b5:StT Q (moreS S1 (listedS input m.cells).2.length (fun i D=>i=0∧D=listT y)) ((listedS input m.cells).2++[(listedS input m.cells).1]):=by
       refine b1.app (fun i z hz=>?_) (fun i hi=>?_) (fun i D hD=>by rw [hD.1];simp)
       · match i,hz with
         | 0,hz=>
           have hz:(listedS input m.cells).1=z:=by simpa using hz
           subst hz
           obtain ⟨kn,kf,hcon⟩:=listed_con input m.cells
           have hD:∀ D,(0=0∧D=listT y)→VT Q (moreS S1 (listedS input m.cells).2.length (fun i D=>i=0∧D=listT y)) (listedS input m.cells).1 D:=fun D hD=>by
             rw [hD.2];exact b4.mono more_ext.1
           rw [hcon] at hD ⊢
           exact hD
         | i+1,hz=>simp at hz
       · have:i=0:=by simpa using hi
         exact ⟨listT y,this,rfl⟩
     have hmono:∀ c D,S c D→moreS S1 (listedS input m.cells).2.length (fun i D=>i=0∧D=listT y) c D:=fun c D h=>more_ext.1 _ _ (b3 c D h)
     obtain ⟨r2,hr2,hend2⟩:=apply_tot (c:=(m.ls input).cells.length) (m:=(m.ls input).new (listedS input m.cells).1) (n:=bigN) hQ b5 (b2.mono more_ext.1) a3 ((a4 T rfl).mono hmono) hTk.1 hTk.2 (.inr ⟨Nat.le_refl _,Nat.sub_self _,hal⟩) gfr (show m.steps≤fuel from gf) (show 3*(fuel - m.steps).toNat+2 < 16777216 by omega)
     have hg2:=apply_sm hr2 (show m.frames=[] from gfr)
     rw [hr2]
     match r2,hend2,hg2 with
     | (none,m2),hend2,hg2=>exact ⟨_,rfl,endK_of hend2⟩
     | (some y2,m2),⟨S2,c1,c2,c3,c4⟩,hg2=>
       have gs2:m.steps≤m2.steps:=hg2.steps
       have gf2:m2.steps≤fuel:=hg2.fuel (show m.steps≤fuel from gf)
       obtain ⟨_,_,gfr2⟩:=hg2.val y2 rfl
       exact tell_tot hQ (by rw [hXf];exact hf.2) bigN c1 c2 (c4 _ rfl) gfr2 (fun c hc=>by cases hc) (by simp;omega) (by omega) (by rw [hXf];exact gf2) (show 3*(fuel - m2.steps).toNat+4≤16777216 by omega)
theorem runS_tot (p:Pg) (name:ByteArray):∃ N0,∀ N,N0≤N→∀ input fuel,∃ res,runS p N name input fuel=some res∧(res.1=0→∃ m,res.2=some m∧EndK m)∧(res.1≠0→res.2=none):=by
 have hent:∀ (l:List Df),∃ N0,∀ N,N0≤N→∃ e,entD (plainT p.datas N) name l=some e:=by
   intro l
   induction l with
   | nil=>exact ⟨0,fun N _=>⟨_,rfl⟩⟩
   | cons d l ih=>
     obtain ⟨N1,h1⟩:=ih
     obtain ⟨N2,h2⟩:=plainT_tot p.datas (entT d).1
     refine ⟨max N1 N2,fun N hN=>?_⟩
     obtain ⟨e,he⟩:=h1 N (by omega)
     obtain ⟨b,hb⟩:=h2 N (by omega)
     rw [entD]
     split
     · exact ⟨e,he⟩
     · split
       · exact ⟨_,rfl⟩
       · rw [hb];exact ⟨_,rfl⟩
 obtain ⟨N0,hN0⟩:=hent p.defs
 refine ⟨N0,fun N hN input fuel=>?_⟩
 obtain ⟨e,he⟩:=hN0 N hN
 unfold runS
 by_cases c1:10000 < input.length
 · rw [if_pos c1];exact ⟨_,rfl,fun h=>absurd (show (2:Int)=0 from h) (by decide),fun _=>rfl⟩
 rw [if_neg c1]
 by_cases c2:badIn input=true
 · rw [if_pos c2];exact ⟨_,rfl,fun h=>absurd (show (1:Int)=0 from h) (by decide),fun _=>rfl⟩
 rw [if_neg c2]
 by_cases c3:fuel < 0∨fuel > 1048576
 · rw [if_pos c3];exact ⟨_,rfl,fun h=>absurd (show (1:Int)=0 from h) (by decide),fun _=>rfl⟩
 rw [if_neg c3]
 by_cases c4:checkS p≠0
 · rw [if_pos c4];exact ⟨_,rfl,fun h=>absurd h c4,fun _=>rfl⟩
 rw [if_neg c4]
 have he':entryS p N name=some e:=he
 rw [he']
 obtain ⟨takes,ok⟩:=e
 cases ok with
 | false=>exact ⟨_,rfl,fun h=>absurd (show (100:Int)=0 from h) (by decide),fun _=>rfl⟩
 | true=>
   obtain ⟨Q,hQ⟩:=checkS_ok (by simpa using c4)
   obtain ⟨m,hm,hk⟩:=run_tot hQ he (fuel:=fuel) (by omega) input
   simp only
   rw [hm]
   exact ⟨_,rfl,fun _=>⟨m,rfl,hk⟩,fun h=>absurd rfl h⟩
end
section
open Go Go.W
abbrev It2:=ByteArray×Int
def itEq (a b:It2):Bool:=decide (a.1=b.1)&&decide (a.2=b.2)
def begS:List It2→List It2→Bool
 | [],_=>true
 | _,[]=>true
 | a::l,b::m=>itEq a b&&begS l m
theorem begS_at {l m:List It2} {i:Nat} (h1:i < l.length) (h2:i < m.length):begS (l.drop i) (m.drop i)=(itEq l[i] m[i]&&begS (l.drop (i+1)) (m.drop (i+1))):=by
 rw [List.drop_eq_getElem_cons h1,List.drop_eq_getElem_cons h2];try rfl
theorem begS_end {l m:List It2} {i:Nat} (h:l.length≤i∨m.length≤i):begS (l.drop i) (m.drop i)=true:=by
 rcases h with h | h
 · rw [List.drop_eq_nil_of_le h];cases m.drop i<;>rfl
 · rw [List.drop_eq_nil_of_le h];cases l.drop i<;>rfl
abbrev ItsAt (w:World) (B:Nat→Prop) (v:Value) (l:List It2):Prop:=EachAt w v 2 B ItAt' l
abbrev ocells (k s n:Int) (v f1 f2 f3 f4:Value):List Value:=[I k,v,I s,I n,f1,f2,f3,f4]
theorem f_begins {w:World} {B B':Nat→Prop} {k1 s1 n1 k2 s2 n2:Int} {v1 v2 f1 f2 f3 f4 g1 g2 g3 g4:Value} {l1 l2:List It2} (h1:ItsAt w B v1 l1) (h2:ItsAt w B' v2 l2) :
   CallsR Tryz.prog 10 [.agg (ocells k1 s1 n1 v1 f1 f2 f3 f4).toArray,.agg (ocells k2 s2 n2 v2 g1 g2 g3 g4).toArray] w fun r w'=>r = .bool (begS l1 l2)∧Mod (fun _=>False) w w':=by
 obtain ⟨a1,c1,rfl⟩:=each_sl h1
 obtain ⟨a2,c2,rfl⟩:=each_sl h2
 have hl1:=each_len h1
 refine fit10.calls rfl ?_
 unfold ir10
 (try simp only [go_sem,simprocAttr])
 refine e_bx rfl ?_
 intro wa hba hma hsa
 (try simp only [go_sem,simprocAttr])
 refine e_bx rfl ?_
 intro wb hbb hmb hsb
 have hm0:=hma.trans hmb
 have hba:=hmb.at hba _root_.id
 (try simp only [go_sem,simprocAttr])
 refine ir_loop (fun z ρ w'=>∃ i:Nat,z=l1.length - i∧i≤l1.length∧Mod (fun _=>False) wb w'∧begS l1 l2=begS (l1.drop i) (l2.drop i) ∧
   ρ=[(2,ptr w.heap.size),(3,ptr wa.heap.size),(5,I i)]) l1.length ⟨0,rfl,by omega,.refl _ _,rfl,rfl⟩ ?_
 rintro z _ w2 ⟨i,rfl,hi,hm2,heq,rfl⟩
 have hb2:=hm2.at hba _root_.id
 have hb3:=hm2.at hbb _root_.id
 have hm02:=hm0.trans hm2
 unfold ir10L1
 (try simp only [go_sem,simprocAttr,cell_of hb2,Value.cells])
 by_cases q1:i < l1.length
 · have b1:decide ((i:Int) < l1.length)=true:=by simpa using q1
   (try simp only [go_sem,simprocAttr,b1,cell_of hb3,Value.cells])
   by_cases q2:i < l2.length
   · have b2:decide ((i:Int) < l2.length)=true:=by simpa using q2
     have hat:=begS_at q1 q2
     obtain ⟨ad1,c1',r1,e1,er1,_,hln1,_⟩:=each_at (h1.mod hm02 nof (fun _ _ h=>h)) q1
     obtain ⟨ad2,c2',r2,e2,er2,_,hln2,_⟩:=each_at (h2.mod hm02 nof (fun _ _ h=>h)) q2
     obtain ⟨rfl,-,-⟩:=tup_inj e1
     obtain ⟨rfl,-,-⟩:=tup_inj e2
     cases er1
     cases er2
     have p1:(0:Int)≤i∧(i:Int) < l1.length:=by omega
     have p2:(0:Int)≤i∧(i:Int) < l2.length:=by omega
     have e3:IntKind.i64.wrap ((i:Int)+1)=((i+1:Nat):Int):=by rw [wrap_in (by omega) (by omega)];omega
     (try simp only [go_sem,simprocAttr,b2])
     (try simp only [go_sem,simprocAttr,zb4,zb6,cell_of hb2,cell_of hb3,Value.cells,p1,p2,hln1,hln2,ba_leq])
     have e4:(decide (l1[i].1=l2[i].1)&&l1[i].2 == l2[i].2)=itEq l1[i] l2[i]:=by unfold itEq;congr 1
     rw [e4]
     have d2:Mod (fun _=>False) w2 w2.drew:=(Mod.refl _ _).drew
     cases hz:itEq l1[i] l2[i] with
     | false=>
       rw [hz,Bool.false_and] at hat
       (try simp only [go_sem,simprocAttr,rvs,RV.ev,one?])
       exact ⟨by rw [heq,hat],hm02.trans d2⟩
     | true=>
       rw [hz,Bool.true_and] at hat
       (try simp only [go_sem,simprocAttr,e3])
       exact ⟨_,by omega,i+1,rfl,q1,hm2.trans d2,by rw [heq,hat],rfl⟩
   · have b2:decide ((i:Int) < l2.length)=false:=by simpa using q2
     (try simp only [go_sem,simprocAttr,b2,rvs,RV.ev,one?])
     exact ⟨by rw [heq,begS_end (.inr (by omega))],hm02⟩
 · have b1:decide ((i:Int) < l1.length)=false:=by simpa using q1
   (try simp only [go_sem,simprocAttr,b1,rvs,RV.ev,one?])
   exact ⟨by rw [heq,begS_end (.inl (by omega))],hm02⟩
end
section
open Go Go.W
def sameTS (l m:List It2):Bool:=begS l m&&decide (l.length=m.length)
theorem f_sameTold {w:World} {B B':Nat→Prop} {k1 s1 n1 k2 s2 n2:Int} {v1 v2 f1 f2 f3 f4 g1 g2 g3 g4:Value} {l1 l2:List It2} (h1:ItsAt w B v1 l1) (h2:ItsAt w B' v2 l2) :
   CallsR Tryz.prog 30 [.agg (ocells k1 s1 n1 v1 f1 f2 f3 f4).toArray,.agg (ocells k2 s2 n2 v2 g1 g2 g3 g4).toArray] w fun r w'=>r = .bool (sameTS l1 l2)∧Mod (fun _=>False) w w':=by
 have h10:=h1
 have h20:=h2
 obtain ⟨a1,c1,rfl⟩:=each_sl h1
 obtain ⟨a2,c2,rfl⟩:=each_sl h2
 refine fit30.calls rfl ?_
 unfold ir30
 (try simp only [go_sem,simprocAttr])
 refine e_bx rfl ?_
 intro wa hba hma hsa
 (try simp only [go_sem,simprocAttr])
 refine e_bx rfl ?_
 intro wb hbb hmb hsb
 have hm0:=hma.trans hmb
 have hba:=hmb.at hba _root_.id
 (try simp only [go_sem,simprocAttr,ln_blk (n:=8) (cs:=ocells k1 s1 n1 (.slice a1 l1.length c1) f1 f2 f3 f4) hba rfl,ln_blk (n:=8) (cs:=ocells k2 s2 n2 (.slice a2 l2.length c2) g1 g2 g3 g4) hbb rfl])
 refine e_call (by rfl) ?_
 refine (f_begins (h10.mod hm0 nof (fun _ _ h=>h)) (h20.mod hm0 nof (fun _ _ h=>h))).mono ?_
 rintro _ w1 ⟨rfl,hm1⟩
 have hb2:=hm1.at hba _root_.id
 have hb3:=hm1.at hbb _root_.id
 have e:((l1.length:Int) == (l2.length:Int))=decide (l1.length=l2.length):=by
   by_cases q:l1.length=l2.length
   · simp [q]
   · have:¬ (l1.length:Int)=l2.length:=by omega
     simp [q,this]
 cases hb:begS l1 l2 with
 | false=>
   (try simp only [go_sem,simprocAttr,rvs,RV.ev,one?])
   exact ⟨congrArg _ (by rw [sameTS,hb];try rfl),hm0.trans hm1⟩
 | true=>
   (try simp only [go_sem,simprocAttr,cell_of hb2,cell_of hb3,Value.cells,e,rvs,RV.ev,one?])
   exact ⟨congrArg _ (by rw [sameTS,hb];try rfl),hm0.trans hm1⟩
end
section
open Go Go.W
abbrev oc0 (k s n:Int) (v:Value):List Value:=ocells k s n v (I 0) (I 0) (I 0) (.string noStr)
theorem f_same {w:World} {B B':Nat→Prop} {k1 s1 n1 k2 s2 n2:Int} {v1 v2:Value} {l1 l2:List It2} (h1:ItsAt w B v1 l1) (h2:ItsAt w B' v2 l2) :
   CallsR Tryz.prog 11 [.agg (oc0 k1 s1 n1 v1).toArray,.agg (oc0 k2 s2 n2 v2).toArray] w fun r w'=>r = .bool (((k1 == k2&&s1 == s2)&&n1 == n2)&&sameTS l1 l2)∧Mod (fun _=>False) w w':=by
 have h10:=h1
 have h20:=h2
 obtain ⟨a1,c1,rfl⟩:=each_sl h1
 obtain ⟨a2,c2,rfl⟩:=each_sl h2
 refine fit11.calls rfl ?_
 unfold ir11
 (try simp only [go_sem,simprocAttr])
 refine e_bx rfl ?_
 intro wa hba hma hsa
 (try simp only [go_sem,simprocAttr])
 refine e_bx rfl ?_
 intro wb hbb hmb hsb
 have hm0:=hma.trans hmb
 have hba:=hmb.at hba _root_.id
 (try simp only [go_sem,simprocAttr,ln_blk (n:=8) (cs:=oc0 k1 s1 n1 (.slice a1 l1.length c1)) hba rfl,ln_blk (n:=8) (cs:=oc0 k2 s2 n2 (.slice a2 l2.length c2)) hbb rfl])
 refine e_call (by rfl) ?_
 refine (f_sameTold (h10.mod hm0 nof (fun _ _ h=>h)) (h20.mod hm0 nof (fun _ _ h=>h))).mono ?_
 rintro _ w1 ⟨rfl,hm1⟩
 have hb2:=hm1.at hba _root_.id
 have hb3:=hm1.at hbb _root_.id
 have hm:=hm0.trans hm1
 have p4:=ln_of (off:=4) (n:=4) hb2 (by simp [Value.cells])
 have p5:=ln_of (off:=4) (n:=4) hb3 (by simp [Value.cells])
 have z0:((0:Int) == 0)=true:=rfl
 have zs:(noStr.toList == noStr.toList)=true:=by simp
 (try simp only [go_sem,simprocAttr,cell_of hb2,cell_of hb3,Value.cells])
 cases q1:k1 == k2 with
 | false=>(try simp only [go_sem,simprocAttr,rvs,RV.ev,one?]);exact ⟨rfl,hm⟩
 | true=>
   (try simp only [go_sem,simprocAttr,cell_of hb2,cell_of hb3,Value.cells])
   cases q2:s1 == s2 with
   | false=>(try simp only [go_sem,simprocAttr,rvs,RV.ev,one?]);exact ⟨rfl,hm⟩
   | true=>
     (try simp only [go_sem,simprocAttr,cell_of hb2,cell_of hb3,Value.cells])
     cases q3:n1 == n2 with
     | false=>(try simp only [go_sem,simprocAttr,rvs,RV.ev,one?]);exact ⟨rfl,hm⟩
     | true=>
       (try simp only [go_sem,simprocAttr,p4,p5,z0,zs,rvs,RV.ev,one?])
       exact hm
end
section
open Go Go.W
theorem f_integer {w:World}:CallsR Tryz.prog 13 [] w fun r w'=>r = .agg (leafC 1 noStr).toArray∧Mod (fun _=>False) w w':=by
 refine fit13.calls rfl ?_
 unfold ir13
 (try simp only [go_sem,simprocAttr])
 refine e_al ?_
 intro w1 hb1 hm1 hs1
 (try simp only [go_sem,simprocAttr])
 refine e_sta (vs:=leafC 1 noStr) (cs:=zTy) rfl rfl hb1 rfl rfl (leafC_one _ _) ?_
 intro w2 hb2 hm2 hs2
 (try simp only [go_sem,simprocAttr,rvs,RV.ev,ln_blk (n:=3) (cs:=leafC 1 noStr) hb2 rfl,one?])
 exact hm1.step hm2 (fun b hb hl=>by omega)
abbrev nilE:List Value:=[I 0,.string noStr,I 0,.slice none 0 0,.slice none 0 0,.slice none 0 0,.slice none 0 0]
abbrev numE (n:Int):List Value:=[I 2,.string noStr,I n,.slice none 0 0,.slice none 0 0,.slice none 0 0,.slice none 0 0]
theorem numE_one (n:Int):∀ u∈numE n,u.oneCell'=true:=one_cons rfl (one_cons rfl (one_cons rfl (one_cons rfl (one_cons rfl (one_cons rfl (one_cons rfl one_nil))))))
theorem f_number (n:Int) {w:World}:CallsR Tryz.prog 15 [I n] w fun r w'=>r = .agg (numE n).toArray∧Mod (fun _=>False) w w':=by
 refine fit15.calls rfl ?_
 unfold ir15
 (try simp only [go_sem,simprocAttr])
 refine e_al ?_
 intro w1 hb1 hm1 hs1
 (try simp only [go_sem,simprocAttr])
 refine e_sta (vs:=numE n) (cs:=nilE) rfl rfl hb1 rfl rfl (numE_one n) ?_
 intro w2 hb2 hm2 hs2
 (try simp only [go_sem,simprocAttr,rvs,RV.ev,ln_blk (n:=7) (cs:=numE n) hb2 rfl,one?])
 exact hm1.step hm2 (fun b hb hl=>by omega)
end
section
open Go Go.W
theorem ex_of {w:World} {B:Nat→Prop} {k m:Int} {n:ByteArray} {types:List Ty} {args:List Ex} {binds:List Bd} {alts:List Al} {vt va vb vl:Value} (ht:EachAt w vt 3 B (TyAt w B) types) (ha:EachAt w va 7 B (ExAt w B) args) (hb:EachAt w vb 11 B (BdAt w B) binds) (hl:EachAt w vl 11 B (AlAt w B) alts) (hc:CapOk vl) :
   ExAt w B [I k,.string n,I m,vt,va,vb,vl] (.mk k n m types args binds alts):=by
 obtain ⟨rt,ht1,ht2,ht3⟩:=ht
 obtain ⟨ra,ha1,ha2,ha3⟩:=ha
 obtain ⟨rb,hb1,hb2,hb3⟩:=hb
 obtain ⟨rl,hl1,hl2,hl3⟩:=hl
 refine .mk ht1 ht2 ht3 ha1 ha2 ha3 hb1 hb2 (fun i r b h1 h2=>?_) (fun i r b h1 h2=>?_) hl1 hl2 (fun i r a h1 h2=>?_) (fun i r a h1 h2=>?_) hc
 · obtain ⟨tc,ec,rfl,h3,h4,h5⟩:=hb3 i r b h1 h2
   have l3:=h3.len
   have l7:=h4.len
   refine ⟨⟨by simp [l3,l7],h5⟩,rfl,?_⟩
   simp only [List.drop_succ_cons,List.drop_zero]
   rw [List.take_append_of_le_length (by omega),List.take_of_length_le (by omega)]
   exact h3
 · obtain ⟨tc,ec,rfl,h3,h4,h5⟩:=hb3 i r b h1 h2
   have l3:=h3.len
   simp only [List.drop_succ_cons]
   rw [List.drop_append_of_le_length (by omega),List.drop_of_length_le (by omega),List.nil_append]
   exact h4
 · obtain ⟨vv,ec,rfl,h3,h4⟩:=hl3 i r a h1 h2
   exact ⟨vv,rfl,by simp [h4.len],h3⟩
 · obtain ⟨vv,ec,rfl,h3,h4⟩:=hl3 i r a h1 h2
   exact h4
def OcAt (w:World) (B:Nat→Prop) (oc:List Value):Option Rn→Prop
 | none=>oc=oc0 0 0 0 (.slice none 0 0)
 | some m=>∃ v,oc=oc0 m.kind m.stuck m.steps v∧ItsAt w B v m.told
theorem oc_one {k s n:Int} {v:Value} (h:v.oneCell'=true):∀ u∈oc0 k s n v,u.oneCell'=true:=one_cons rfl (one_cons h (one_cons rfl (one_cons rfl (one_cons rfl (one_cons rfl (one_cons rfl (one_cons rfl one_nil)))))))
theorem f_Run (p:Pg) {N:Nat} {name:ByteArray} {input:List Int} {fuel:Int} {v:Value} {w:World} {cs:List Value} {res:Int×Option Rn} (h:PgAt w (Out (fun _=>False) w) cs p) (hi:Ints w v input) (hres:runS p N name input fuel=some res) :
   CallsR Tryz.prog 9 [.agg cs.toArray,.string name,v,I fuel] w fun r w'=>(∃ oc,r = .tuple #[.agg oc.toArray,I res.1]∧OcAt w' (fun b=>w.heap.size≤b∧b < w'.heap.size) oc res.2)∧Mod (fun _=>False) w w':=by
 have h0:=h
 have hi0:=hi
 obtain ⟨vd,vf,rfl,hd,hf⟩:=h
 obtain ⟨av,cv,rfl,hle,hix⟩:=hi
 have hX:runS p N name input fuel=if 10000 < input.length then some (2,none)
   else if badIn input=true then some (1,none)
   else if fuel < 0∨fuel > 1048576 then some (1,none)
   else if checkS p≠0 then some (checkS p,none)
   else match entryS p N name with
   | none=>none
   | some (_,false)=>some (100,none)
   | some (takes,true)=>(runM p fuel name takes input).map (fun m=>(0,some m)):=rfl
 rw [hX] at hres
 refine fit9.calls rfl ?_
 unfold ir9
 refine ir_cut (fun ρ w2=>∃ b4 b8,w.heap.size≤b4∧b4 < b8∧w2.heap[b4]? = some (.cells [vd,vf].toArray 25 (0,0))∧w2.heap[b8]? = some (.cells (oc0 0 0 0 (.slice none 0 0)).toArray 34 (0,0))∧Mod (fun _=>False) w w2∧ρ=[(1,.string name),(2,.slice av input.length cv),(3,I fuel),(4,ptr b4),(8,ptr b8)]) ?_ ?_
 · (try simp only [go_sem,simprocAttr])
   refine e_bx rfl ?_
   intro w1 hb1 hm1 hs1
   (try simp only [go_sem,simprocAttr])
   refine e_al ?_
   intro w2 hb2 hm2 hs2
   have z1:w1.heap.size=w.heap.size+1:=hs1
   (try simp only [go_sem,simprocAttr])
   exact ⟨w.heap.size,w1.heap.size,Nat.le_refl _,by omega,hm2.at hb1 _root_.id,hb2,hm1.trans hm2,rfl⟩
 rintro _ w2 ⟨b4,b8,l4,l8,hb4,hb8,m02,rfl⟩
 by_cases c1:10000 < input.length
 · rw [if_pos c1] at hres
   cases hres
   have b1:decide ((input.length:Int) > 10000)=true:=decide_eq_true (by omega)
   (try simp only [go_sem,simprocAttr,b1])
   refine e_sta (vs:=oc0 0 0 0 (.slice none 0 0)) (cs:=oc0 0 0 0 (.slice none 0 0)) rfl rfl hb8 rfl rfl (oc_one rfl) ?_
   intro w9 hb9 hm9 hs9
   (try simp only [go_sem,simprocAttr,rvs,RV.ev,ln_blk (n:=8) (cs:=oc0 0 0 0 (.slice none 0 0)) hb9 rfl,one?])
   exact ⟨⟨_,rfl,rfl⟩,(m02).step hm9 (fun b hb hl=>by have e:b=b8:=hb;omega)⟩
 rw [if_neg c1] at hres
 have b1:decide ((input.length:Int) > 10000)=false:=decide_eq_false (by omega)
 refine ir_cut (fun ρ w'=>w2=w'∧ρ.get 1=some (.string name)∧ρ.get 2=some (.slice av input.length cv)∧ρ.get 3=some (I fuel)∧ρ.get 4=some (ptr b4)∧ρ.get 8=some (ptr b8)) ?_ ?_
 · (try simp only [go_sem,simprocAttr,b1])
 rintro ρ _ ⟨rfl,g1,g2,g3,g4,g8⟩
 refine ir_cut (fun ρ w'=>badIn input=false∧w2=w'∧ρ.get 1=some (.string name)∧ρ.get 2=some (.slice av input.length cv)∧ρ.get 3=some (I fuel)∧ρ.get 4=some (ptr b4)∧ρ.get 8=some (ptr b8)) ?_ ?_
 · (try simp only [go_sem,simprocAttr,g1,g2,g3,g4,g8])
   refine ir_loop (fun z ρ w'=>∃ i:Nat,z=input.length - i∧i≤input.length∧badIn input=badIn (input.drop i)∧w2=w'∧ρ.get 1=some (.string name)∧ρ.get 2=some (.slice av input.length cv)∧ρ.get 3=some (I fuel)∧ρ.get 4=some (ptr b4)∧ρ.get 8=some (ptr b8)∧ρ.get 21=some (.slice av input.length cv)∧ρ.get 22=some (I input.length)∧ρ.get 23=some (I i)) input.length ⟨0,by omega,by omega,rfl,rfl,rfl,rfl,rfl,rfl,rfl,rfl,rfl,rfl⟩ ?_
   rintro z ρ _ ⟨i,rfl,hil,hbad,rfl,g1,g2,g3,g4,g8,g21,g22,g23⟩
   unfold ir9L1
   by_cases q:i < input.length
   · have b2:decide ((i:Int) < input.length)=true:=by simpa using q
     have p1:(0:Int)≤i∧(i:Int) < input.length:=by omega
     have e3:IntKind.i64.wrap ((i:Int)+1)=((i+1:Nat):Int):=by rw [wrap_in (by omega) (by omega)];omega
     obtain ⟨ad,rfl,hc⟩:=hix i q
     have hc2:=m02.cell hc _root_.id
     have hbi:badIn (input.drop i)=((decide (input[i] < -4611686018427387904)||decide (input[i] > 4611686018427387903))||badIn (input.drop (i+1))):=any_at q
     rw [hbi] at hbad
     cases q1:decide (input[i] < -4611686018427387904) with
     | true=>
       rw [q1,Bool.true_or,Bool.true_or] at hbad
       rw [if_pos hbad] at hres
       cases hres
       (try simp only [go_sem,simprocAttr,g1,g2,g3,g4,g8,g21,g22,g23,b2])
       (try simp only [go_sem,simprocAttr,zb4,zb6,p1,hc2,q1])
       refine e_sta (vs:=oc0 0 0 0 (.slice none 0 0)) (cs:=oc0 0 0 0 (.slice none 0 0)) rfl rfl hb8 rfl rfl (oc_one rfl) ?_
       intro w9 hb9 hm9 hs9
       (try simp only [go_sem,simprocAttr,rvs,RV.ev,ln_blk (n:=8) (cs:=oc0 0 0 0 (.slice none 0 0)) hb9 rfl,one?])
       exact ⟨⟨_,rfl,rfl⟩,(m02).step hm9 (fun b hb hl=>by have e:b=b8:=hb;omega)⟩
     | false=>
       rw [q1,Bool.false_or] at hbad
       cases q2:decide (input[i] > 4611686018427387903) with
       | true=>
         rw [q2,Bool.true_or] at hbad
         rw [if_pos hbad] at hres
         cases hres
         (try simp only [go_sem,simprocAttr,g1,g2,g3,g4,g8,g21,g22,g23,b2])
         (try simp only [go_sem,simprocAttr,zb4,zb6,p1,hc2,q1,q2])
         refine e_sta (vs:=oc0 0 0 0 (.slice none 0 0)) (cs:=oc0 0 0 0 (.slice none 0 0)) rfl rfl hb8 rfl rfl (oc_one rfl) ?_
         intro w9 hb9 hm9 hs9
         (try simp only [go_sem,simprocAttr,rvs,RV.ev,ln_blk (n:=8) (cs:=oc0 0 0 0 (.slice none 0 0)) hb9 rfl,one?])
         exact ⟨⟨_,rfl,rfl⟩,(m02).step hm9 (fun b hb hl=>by have e:b=b8:=hb;omega)⟩
       | false=>
         rw [q2,Bool.false_or] at hbad
         (try simp only [go_sem,simprocAttr,g1,g2,g3,g4,g8,g21,g22,g23,b2])
         (try simp only [go_sem,simprocAttr,zb4,zb6,p1,hc2,q1,q2,e3])
         exact ⟨_,by omega,i+1,rfl,q,hbad,rfl⟩
   · have b2:decide ((i:Int) < input.length)=false:=by simpa using q
     rw [List.drop_eq_nil_of_le (by omega)] at hbad
     (try simp only [go_sem,simprocAttr,g1,g2,g3,g4,g8,g21,g22,g23,b2])
     exact hbad
 rintro ρ _ ⟨hbad,rfl,g1,g2,g3,g4,g8⟩
 rw [if_neg (by rw [hbad];simp)] at hres
 refine ir_cut (fun ρ w'=>(0≤fuel∧fuel≤1048576)∧w2=w'∧ρ.get 1=some (.string name)∧ρ.get 2=some (.slice av input.length cv)∧ρ.get 3=some (I fuel)∧ρ.get 4=some (ptr b4)∧ρ.get 8=some (ptr b8)) ?_ ?_
 · cases q1:decide (fuel < 0) with
   | true=>
     have q1':fuel < 0:=by simpa using q1
     rw [if_pos (.inl q1')] at hres
     cases hres
     (try simp only [go_sem,simprocAttr,g1,g2,g3,g4,g8,q1])
     refine e_sta (vs:=oc0 0 0 0 (.slice none 0 0)) (cs:=oc0 0 0 0 (.slice none 0 0)) rfl rfl hb8 rfl rfl (oc_one rfl) ?_
     intro w9 hb9 hm9 hs9
     (try simp only [go_sem,simprocAttr,rvs,RV.ev,ln_blk (n:=8) (cs:=oc0 0 0 0 (.slice none 0 0)) hb9 rfl,one?])
     exact ⟨⟨_,rfl,rfl⟩,(m02).step hm9 (fun b hb hl=>by have e:b=b8:=hb;omega)⟩
   | false=>
     have q1':¬ fuel < 0:=by simpa using q1
     cases q2:decide (fuel > 1048576) with
     | true=>
       have q2':fuel > 1048576:=by simpa using q2
       rw [if_pos (.inr q2')] at hres
       cases hres
       (try simp only [go_sem,simprocAttr,g1,g2,g3,g4,g8,q1,q2])
       refine e_sta (vs:=oc0 0 0 0 (.slice none 0 0)) (cs:=oc0 0 0 0 (.slice none 0 0)) rfl rfl hb8 rfl rfl (oc_one rfl) ?_
       intro w9 hb9 hm9 hs9
       (try simp only [go_sem,simprocAttr,rvs,RV.ev,ln_blk (n:=8) (cs:=oc0 0 0 0 (.slice none 0 0)) hb9 rfl,one?])
       exact ⟨⟨_,rfl,rfl⟩,(m02).step hm9 (fun b hb hl=>by have e:b=b8:=hb;omega)⟩
     | false=>
       have q2':¬ fuel > 1048576:=by simpa using q2
       (try simp only [go_sem,simprocAttr,g1,g2,g3,g4,g8,q1,q2])
       exact ⟨by omega,by omega⟩
 rintro ρ _ ⟨hfuel,rfl,g1,g2,g3,g4,g8⟩
 rw [if_neg (by omega)] at hres
 have hout:∀ {w':World},Mod (fun _=>False) w w'→∀ b,Out (fun _=>False) w b→Out (fun _=>False) w' b:=fun hm b hb=>⟨Nat.lt_of_lt_of_le hb.1 hm.size,hb.2⟩
 refine ir_cut (fun ρ w'=>checkS p=0∧Mod (fun _=>False) w2 w'∧ρ=[(1,.string name),(2,.slice av input.length cv),(3,I fuel),(4,ptr b4),(8,ptr b8),(12,I 0),(45,.bool false)]) ?_ ?_
 · (try simp only [go_sem,simprocAttr,g1,g2,g3,g4,g8,ln_blk (n:=2) (cs:=[vd,vf]) hb4 rfl])
   refine e_call (by rfl) ?_
   refine (f_Check p (h0.up m02 nof (hout m02))).mono ?_
   rintro _ w3 ⟨rfl,hm3⟩
   have m03:=m02.trans hm3
   by_cases hc:checkS p=0
   · (try simp only [go_sem,simprocAttr,hc,Int.reduceBNe])
     exact hm3
   · have b2:(checkS p != 0)=true:=by simpa using hc
     rw [if_pos hc] at hres
     cases hres
     (try simp only [go_sem,simprocAttr,b2])
     refine e_sta (vs:=oc0 0 0 0 (.slice none 0 0)) (cs:=oc0 0 0 0 (.slice none 0 0)) rfl rfl (hm3.at hb8 _root_.id) rfl rfl (oc_one rfl) ?_
     intro w9 hb9 hm9 hs9
     (try simp only [go_sem,simprocAttr,rvs,RV.ev,ln_blk (n:=8) (cs:=oc0 0 0 0 (.slice none 0 0)) hb9 rfl,one?])
     exact ⟨⟨_,rfl,rfl⟩,(m03).step hm9 (fun b hb hl=>by have e:b=b8:=hb;omega)⟩
 rintro _ w3 ⟨hck,hm3,rfl⟩
 rw [if_neg (by simpa using hck)] at hres
 have m03:=m02.trans hm3
 have hb43:=hm3.at hb4 _root_.id
 have hb83:=hm3.at hb8 _root_.id
 cases hent:entryS p N name with
 | none=>rw [hent] at hres;cases hres
 | some ee=>
 rw [hent] at hres
 (try simp only [go_sem,simprocAttr,ln_blk (n:=2) (cs:=[vd,vf]) hb43 rfl])
 refine e_call (by rfl) ?_
 refine (f_entryOf p (h0.up m03 nof (hout m03)) (tyOk_of hck) hent).mono ?_
 rintro _ w4 ⟨rfl,hm4⟩
 have m04:=m03.trans hm4
 have hb44:=hm4.at hb43 _root_.id
 have hb84:=hm4.at hb83 _root_.id
 obtain ⟨takes,ok⟩:=ee
 cases ok with
 | false=>
   cases hres
   (try simp only [go_sem,simprocAttr])
   refine e_sta (vs:=oc0 0 0 0 (.slice none 0 0)) (cs:=oc0 0 0 0 (.slice none 0 0)) rfl rfl hb84 rfl rfl (oc_one rfl) ?_
   intro w9 hb9 hm9 hs9
   (try simp only [go_sem,simprocAttr,rvs,RV.ev,ln_blk (n:=8) (cs:=oc0 0 0 0 (.slice none 0 0)) hb9 rfl,one?])
   exact ⟨⟨_,rfl,rfl⟩,(m04).step hm9 (fun b hb hl=>by have e:b=b8:=hb;omega)⟩
 | true=>
 have hres:(runM p fuel name takes input).map (fun m=>(0,some m))=some res:=hres
 obtain ⟨mF,hrun,rfl⟩:=Option.map_eq_some_iff.1 hres
 (try simp only [go_sem,simprocAttr,ln_blk (n:=2) (cs:=[vd,vf]) hb44 rfl])
 refine e_call (by rfl) ?_
 refine (f_newRun p (h0.up m04 nof (hout m04)) hfuel).mono ?_
 rintro _ w5 ⟨⟨r,md,mf,S5,bs5,rfl,hR5,hnew5⟩,hm5⟩
 have m05:=m04.trans hm5
 (try simp only [go_sem,simprocAttr])
 refine e_bx rfl ?_
 intro w6 hb6 hm6 hs6
 have z5:=hm5.size
 have m06:=m05.trans hm6
 have hR6:=hR5.keep hm6
 have hlt5:∀ b,S5 b→b < w5.heap.size:=by obtain ⟨_,_,_,_,_,_,hx⟩:=hR5;exact hx.lt
 have he6:EPtr w6 (Out S5 w6) (.pointer (some ⟨w5.heap.size,0,none⟩)) (globE name):=⟨_,[I 3,.string name,I 0,.slice none 0 0,.slice none 0 0,.slice none 0 0,.slice none 0 0],rfl,cells_new hb6 (fun hx=>by have:=hlt5 _ hx;omega),ex_of (each_nil _ _ _ _) (each_nil _ _ _ _) (each_nil _ _ _ _) (each_nil _ _ _ _) (Nat.le_refl 0)⟩
 have hsm:=runM_sm hrun
 have htold:mF.told.length≤1048576:=by
   obtain ⟨l,e1,e2⟩:=hsm.told
   have e1:mF.told=[]++l:=e1
   have e3:mF.steps≤fuel:=hsm.fuel (show (0:Int)≤fuel from hfuel.1)
   have e4:(l.length:Int)≤mF.steps - 0:=e2
   rw [e1,List.nil_append];omega
 have hb86:w6.heap[b8]? = some (.cells (oc0 0 0 0 (.slice none 0 0)).toArray 34 (0,0)):=(hm5.trans hm6).at hb84 _root_.id
 have hS5:∀ b,S5 b→w.heap.size≤b:=fun b hb=>by have:=hnew5 b hb;have:=m04.size;omega
 have n8:∀ {w7:World} {S7:Nat→Prop},Grew S5 S7 w6→¬ S7 b8:=fun hg hh=>by
   have l84:=lt_of_heap hb84
   have:=m04.size
   rcases hg.2 _ hh with h1 | h1
   · have:=hnew5 _ h1;omega
   · have:=hm6.size;omega
 have fin:∀ {w7:World} {S7:Nat→Prop} {bs7:List Nat},RnAt w7 S7 r md mf bs7 (newX p fuel) mF→Grew S5 S7 w6→Mod S5 w6 w7→∃ vt,vLN w7 8 (.pointer (some ⟨r,0,none⟩))=some (.agg (oc0 mF.kind mF.stuck mF.steps vt).toArray)∧vt.oneCell'=true∧w7.heap[b8]? = some (.cells (oc0 0 0 0 (.slice none 0 0)).toArray 34 (0,0))∧Mod (fun _=>False) w w7 ∧
     ∀ {w9:World},Mod (· = b8) w7 w9→OcAt w9 (fun b=>w.heap.size≤b∧b < w9.heap.size) (oc0 mF.kind mF.stuck mF.steps vt) (some mF):=fun {w7 S7 bs7} hR hg hm=>by
   obtain ⟨vt,vf',trows,frows,tfp,ffp,hh⟩:=hR
   have hln:=ln_of (off:=0) (n:=8) hh.box (by simp)
   obtain ⟨avt,cvt,rfl,_,_⟩:=hh.told.val
   refine ⟨_,hln,rfl,hm.at hb86 (fun hx=>n8 (w7:=w7) grew_refl hx),m06.step hm (fun b hb hl=>by have:=hS5 b hb;omega),fun {w9} hm9=>⟨_,rfl,trows,⟨?_,?_⟩,hh.items.at.1,hh.items.at.2⟩⟩
   · have ho:=hh.told.mod hm9 (fun b hb e=>by
       have e':b=b8:=e
       subst e'
       exact n8 (w7:=w7) hg (hh.inS _ (by simp [hb])))
     refine (own_rows ho (fun x hx=>?_)).mod (.refl (fun _=>False) w9) nof (fun y hy=>?_)
     · obtain ⟨i,hi,rfl⟩:=List.getElem_of_mem hx
       have:=hh.items.at.2 i _ _ (List.getElem?_eq_getElem hi) (List.getElem?_eq_getElem (by have:=hh.items.at.1;omega))
       rw [this];try rfl
     · have hs:S7 y:=hh.inS _ (by simp [hy])
       refine ⟨?_,ho.lt hy⟩
       rcases hg.2 _ hs with h1 | h1
       · exact hS5 _ h1
       · have:=m06.size;omega
   · have:=hh.items.at.1;omega
 have hrun':(match goOnS (newX p fuel) bigN (.go (globE name) []) (newM p) with
   | none=>none
   | some (none,m)=>some m
   | some (some x,m)=>
     if takes=true then
       match applyS (newX p fuel) bigN x (m.ls input).cells.length ((m.ls input).new (listedS input m.cells).1) with
       | none=>none
       | some (none,m)=>some m
       | some (some y,m)=>tellS (newX p fuel) bigN y [] m
     else tellS (newX p fuel) bigN x [] m)=some mF:=hrun
 cases hgo:goOnS (newX p fuel) bigN (.go (globE name) []) (newM p) with
 | none=>rw [hgo] at hrun';cases hrun'
 | some rr=>
 rw [hgo] at hrun'
 have hgs:=goOn_sm _ hgo
 refine e_call (by rfl) ?_
 refine (f_work hR6 he6 (show NmAt w6 (Out S5 w6) bs5 [] (.pointer none) from rfl) (show ((0:Nat):Int)≤0+1 by omega) hgo).mono ?_
 rintro v7 w7 ⟨⟨S7,bs7,hR7,hg7,hbs7,hval⟩,hm7⟩
 match rr,hrun',hgs,hR7,hval with
 | (none,m1),hrun',hgs,hR7,hval=>
   have hval:v7=_:=hval
   subst hval
   cases hrun'
   obtain ⟨vt,hln,h1,hb87,m07,hoc⟩:=fin hR7 hg7 hm7
   (try simp only [go_sem,simprocAttr,hln])
   refine e_sta (vs:=oc0 mF.kind mF.stuck mF.steps vt) (cs:=oc0 0 0 0 (.slice none 0 0)) rfl rfl hb87 rfl rfl (oc_one h1) ?_
   intro w9 hb9 hm9 hs9
   (try simp only [go_sem,simprocAttr,rvs,RV.ev,ln_blk (n:=8) (cs:=oc0 mF.kind mF.stuck mF.steps vt) hb9 rfl,one?])
   exact ⟨⟨_,rfl,hoc hm9⟩,m07.step hm9 (fun b hb hl=>by have e:b=b8:=hb;omega)⟩
 | (some x,m1),hrun',hgs,hR7,⟨u,e1,hu,hv⟩=>
   subst e1
   obtain ⟨_,_,hfr1⟩:=hgs.val x rfl
   have ht1:m1.told=[]:=hgs.told
   have hs1:(0:Int)≤m1.steps:=hgs.steps
   cases takes with
   | false=>
     have hrun':tellS (newX p fuel) bigN x [] m1=some mF:=hrun'
     (try simp only [go_sem,simprocAttr])
     refine e_call (by rfl) ?_
     refine (f_tell (X:=newX p fuel) hR7 hu hv hfr1 (by rw [ht1];simpa using hs1) hrun').mono ?_
     rintro _ w8 ⟨⟨S8,bs8,hR8,hg8⟩,hm8⟩
     obtain ⟨vt,hln,h1,hb87,m07,hoc⟩:=fin hR8 (grew_step hg7 hg8 hm7.size) (mod_grew hm7 hg7 hm8)
     (try simp only [go_sem,simprocAttr,hln])
     refine e_sta (vs:=oc0 mF.kind mF.stuck mF.steps vt) (cs:=oc0 0 0 0 (.slice none 0 0)) rfl rfl hb87 rfl rfl (oc_one h1) ?_
     intro w9 hb9 hm9 hs9
     (try simp only [go_sem,simprocAttr,rvs,RV.ev,ln_blk (n:=8) (cs:=oc0 mF.kind mF.stuck mF.steps vt) hb9 rfl,one?])
     exact ⟨⟨_,rfl,hoc hm9⟩,m07.step hm9 (fun b hb hl=>by have e:b=b8:=hb;omega)⟩
   | true=>
     have hrun':(match applyS (newX p fuel) bigN x (m1.ls input).cells.length ((m1.ls input).new (listedS input m1.cells).1) with
       | none=>none
       | some (none,m)=>some m
       | some (some y,m)=>tellS (newX p fuel) bigN y [] m)=some mF:=hrun'
     have m07:Mod (fun _=>False) w w7:=m06.step hm7 (fun b hb hl=>by have:=hS5 b hb;omega)
     (try simp only [go_sem,simprocAttr])
     refine e_call (by rfl) ?_
     refine (f_listed hR7 (hi0.mod m07 (fun _ _ h=>h))).mono ?_
     rintro u2 w8 ⟨⟨S8,bs8,hR8,hg8,hbs8,hu8⟩,hm8⟩
     obtain ⟨kn,kf,hcon⟩:=listed_con input m1.cells
     obtain ⟨T,z,hu0,_⟩:=cl_iface hu8 (by rw [hcon];try rfl)
     subst hu0
     (try simp only [go_sem,simprocAttr])
     refine e_bx rfl ?_
     intro w9 hb9 hm9 hs9
     have hR9:=hR8.new (x:=(listedS input m1.cells).1) (v:=.iface T z) hm9 hb9 (Nat.le_refl _) (hu8.up (mod0 hm9 (S:=S8)) out_not (out_ext (mod0 hm9) (and1_new (Nat.le_refl _))) app_get)
     have hg9:Grew S8 (And1 S8 w8.heap.size) w8:=⟨fun b hb=>.inl hb,fun b hb=>by
       rcases hb with h | h
       · exact .inl h
       · exact .inr (by omega)⟩
     have hg79:Grew S7 (And1 S8 w8.heap.size) w7:=grew_step hg8 hg9 hm8.size
     have hm79:Mod S7 w7 w9:=mod0 (hm8.trans hm9)
     have hu9:=hu.up hm79 out_not (grew_out hg79 hm79.size) (fun c b h=>app_get (b:=w8.heap.size) _ _ (hbs8 c b h))
     have hlen8:bs8.length=(m1.ls input).cells.length:=by obtain ⟨_,_,_,_,_,_,hx⟩:=hR8;exact hx.len
     have hcc:(bs8++[w8.heap.size])[(m1.ls input).cells.length]? = some w8.heap.size:=by rw [← hlen8,List.getElem?_append_right (Nat.le_refl _)];simp
     have hg69:=grew_step hg7 hg79 hm7.size
     have hm69:=mod_grew hm7 hg7 hm79
     cases hap:applyS (newX p fuel) bigN x (m1.ls input).cells.length ((m1.ls input).new (listedS input m1.cells).1) with
     | none=>rw [hap] at hrun';cases hrun'
     | some rr2=>
     rw [hap] at hrun'
     have hfr2:((m1.ls input).new (listedS input m1.cells).1).frames=[]:=hfr1
     have hgs2:=apply_sm hap hfr2
     (try simp only [go_sem,simprocAttr])
     refine e_call (by rfl) ?_
     refine (f_apply hR9 hcc hu9 hv (show (((m1.frames).length:Nat):Int)≤m1.steps by rw [hfr1];simpa using hs1) hap).mono ?_
     rintro v10 w10 ⟨⟨S10,bs10,hR10,hg10,hbs10,hval10⟩,hm10⟩
     have hg610:=grew_step hg69 hg10 hm69.size
     have hm610:=mod_grew hm69 hg69 hm10
     match rr2,hrun',hgs2,hR10,hval10 with
     | (none,m2),hrun',hgs2,hR10,hval10=>
       have hval10:v10=_:=hval10
       subst hval10
       cases hrun'
       obtain ⟨vt,hln,h1,hb87,m0F,hoc⟩:=fin hR10 hg610 hm610
       (try simp only [go_sem,simprocAttr,hln])
       refine e_sta (vs:=oc0 mF.kind mF.stuck mF.steps vt) (cs:=oc0 0 0 0 (.slice none 0 0)) rfl rfl hb87 rfl rfl (oc_one h1) ?_
       intro w19 hb19 hm19 hs19
       (try simp only [go_sem,simprocAttr,rvs,RV.ev,ln_blk (n:=8) (cs:=oc0 mF.kind mF.stuck mF.steps vt) hb19 rfl,one?])
       exact ⟨⟨_,rfl,hoc hm19⟩,m0F.step hm19 (fun b hb hl=>by have e:b=b8:=hb;omega)⟩
     | (some y,m2),hrun',hgs2,hR10,⟨u3,e3,hu3,hv3⟩=>
       subst e3
       obtain ⟨_,_,hfr3⟩:=hgs2.val y rfl
       have ht2:m2.told=m1.told:=hgs2.told
       have hs2:m1.steps≤m2.steps:=hgs2.steps
       have hrun':tellS (newX p fuel) bigN y [] m2=some mF:=hrun'
       (try simp only [go_sem,simprocAttr])
       refine e_call (by rfl) ?_
       refine (f_tell (X:=newX p fuel) hR10 hu3 hv3 hfr3 (by rw [ht2,ht1];simp;omega) hrun').mono ?_
       rintro _ w11 ⟨⟨S11,bs11,hR11,hg11⟩,hm11⟩
       obtain ⟨vt,hln,h1,hb87,m0F,hoc⟩:=fin hR11 (grew_step hg610 hg11 hm610.size) (mod_grew hm610 hg610 hm11)
       (try simp only [go_sem,simprocAttr,hln])
       refine e_sta (vs:=oc0 mF.kind mF.stuck mF.steps vt) (cs:=oc0 0 0 0 (.slice none 0 0)) rfl rfl hb87 rfl rfl (oc_one h1) ?_
       intro w19 hb19 hm19 hs19
       (try simp only [go_sem,simprocAttr,rvs,RV.ev,ln_blk (n:=8) (cs:=oc0 mF.kind mF.stuck mF.steps vt) hb19 rfl,one?])
       exact ⟨⟨_,rfl,hoc hm19⟩,m0F.step hm19 (fun b hb hl=>by have e:b=b8:=hb;omega)⟩
end
section
open Go Go.W
def opE (s:ByteArray) (x y:Ex):Ex:=.mk 9 s 0 [] [x,y] [] []
theorem f_op2 {s:ByteArray} {x y:Ex} {ca cb:List Value} {S:Nat→Prop} {w:World} (hS:∀ b,S b→b < w.heap.size) (ha:ExAt w (Out S w) ca x) (hb:ExAt w (Out S w) cb y) :
   CallsR Tryz.prog 14 [.string s,.agg ca.toArray,.agg cb.toArray] w fun r w'=>(∃ cs,r = .agg (cs:List Value).toArray∧ExAt w' (Out S w') cs (opE s x y))∧Mod (fun _=>False) w w':=by
 refine fit14.calls rfl ?_
 unfold ir14
 have la:=ha.len
 have lb:=hb.len
 (try simp only [go_sem,simprocAttr])
 refine e_bx rfl ?_
 intro w1 hb1 hm1 hs1
 (try simp only [go_sem,simprocAttr])
 refine e_bx rfl ?_
 intro w2 hb2 hm2 hs2
 (try simp only [go_sem,simprocAttr])
 refine e_al ?_
 intro w3 hb3 hm3 hs3
 have hb1:=(hm2.trans hm3).at hb1 _root_.id
 have hb2:=hm3.at hb2 _root_.id
 (try simp only [go_sem,simprocAttr,ln_blk (n:=7) (cs:=ca) hb1 la,ln_blk (n:=7) (cs:=cb) hb2 lb])
 refine e_bs (cs:=([ca,cb]:List (List Value)).flatten.toArray) (ps:=partsOf 7 0 [ca,cb]) (by (try simp only [go_sem,simprocAttr]);rfl) (fill_rows (sz:=7) [ca,cb] [] _ ⟨la,lb,trivial⟩ rfl) ?_
 intro w4 hb4 hm4 hs4
 have hb3:=hm4.at hb3 _root_.id
 (try simp only [go_sem,simprocAttr])
 refine e_sta (vs:=[I 9,.string s,I 0,.slice none 0 0,.slice (some ⟨w3.heap.size,0,none⟩) 2 2,.slice none 0 0,.slice none 0 0]) (cs:=nilE) rfl rfl hb3 rfl rfl (one_cons rfl (one_cons rfl (one_cons rfl (one_cons rfl (one_cons rfl (one_cons rfl (one_cons rfl one_nil))))))) ?_
 intro w5 hb5 hm5 hs5
 (try simp only [go_sem,simprocAttr,rvs,RV.ev,ln_blk (n:=7) hb5 rfl,one?])
 have hm05:Mod (fun _=>False) w w5:=(hm1.trans (hm2.trans (hm3.trans hm4))).step hm5 (fun x hx hl=>by omega)
 refine ⟨⟨_,rfl,ex_of (each_nil _ _ _ _) ?_ (each_nil _ _ _ _) (each_nil _ _ _ _) (Nat.le_refl _)⟩,hm05⟩
 refine each_new (rows:=[ca,cb]) (hm5.at hb4 (by omega)) ⟨by have:=hm5.size;have:=lt_of_heap (hm5.at hb4 (by omega));omega,fun h=>by have:=hS _ h;omega⟩ ⟨la,lb,trivial⟩ (by simp) ⟨ha.keep (mod0 hm05),hb.keep (mod0 hm05),trivial⟩
abbrev mName:ByteArray:=⟨#[109]⟩
def onePg (t:Ty) (e:Ex):Pg:=⟨[],[⟨mName,[],t,e⟩]⟩
theorem f_one {t:Ty} {e:Ex} {ct ce:List Value} {S:Nat→Prop} {w:World} (hS:∀ b,S b→b < w.heap.size) (ht:TyAt w (Out S w) ct t) (he:ExAt w (Out S w) ce e) :
   CallsR Tryz.prog 23 [.agg ct.toArray,.agg ce.toArray] w fun r w'=>(∃ cs,r = .agg (cs:List Value).toArray∧PgAt w' (Out S w') cs (onePg t e))∧Mod (fun _=>False) w w':=by
 refine fit23.calls rfl ?_
 unfold ir23
 have la:=ht.len
 have lb:=he.len
 obtain ⟨x1,ect,-⟩:=ht.cells
 obtain ⟨x2,x3,x4,x5,ece,-⟩:=he.cells
 subst ect ece
 (try simp only [go_sem,simprocAttr])
 refine e_bx rfl ?_
 intro w1 hb1 hm1 hs1
 (try simp only [go_sem,simprocAttr])
 refine e_bx rfl ?_
 intro w2 hb2 hm2 hs2
 (try simp only [go_sem,simprocAttr])
 refine e_al ?_
 intro w3 hb3 hm3 hs3
 have hb1:=(hm2.trans hm3).at hb1 _root_.id
 have hb2:=hm3.at hb2 _root_.id
 (try simp only [go_sem,simprocAttr,ln_blk (n:=3) hb1 la,ln_blk (n:=7) hb2 lb])
 refine e_bs (cs:=([[.string mName,.slice none 0 0,I t.kind,.string t.name,x1,I e.kind,.string e.name,I e.num,x2,x3,x4,x5]]:List (List Value)).flatten.toArray) (ps:=partsOf 12 0 [[.string mName,.slice none 0 0,I t.kind,.string t.name,x1,I e.kind,.string e.name,I e.num,x2,x3,x4,x5]]) (by (try simp only [go_sem,simprocAttr]);rfl) (fill_rows (sz:=12) [[.string mName,.slice none 0 0,I t.kind,.string t.name,x1,I e.kind,.string e.name,I e.num,x2,x3,x4,x5]] [] _ ⟨rfl,trivial⟩ rfl) ?_
 intro w4 hb4 hm4 hs4
 have hb3:=hm4.at hb3 _root_.id
 (try simp only [go_sem,simprocAttr])
 refine e_sta (vs:=[.slice none 0 0,.slice (some ⟨w3.heap.size,0,none⟩) 1 1]) (cs:=[.slice none 0 0,.slice none 0 0]) rfl rfl hb3 rfl rfl (one_cons rfl (one_cons rfl one_nil)) ?_
 intro w5 hb5 hm5 hs5
 (try simp only [go_sem,simprocAttr,rvs,RV.ev,ln_blk (n:=2) hb5 rfl,one?])
 have hm05:Mod (fun _=>False) w w5:=(hm1.trans (hm2.trans (hm3.trans hm4))).step hm5 (fun x hx hl=>by omega)
 refine ⟨⟨_,rfl,_,_,rfl,each_nil _ _ _ _,?_⟩,hm05⟩
 refine each_new (rows:=[[.string mName,.slice none 0 0,I t.kind,.string t.name,x1,I e.kind,.string e.name,I e.num,x2,x3,x4,x5]]) (hm5.at hb4 (by omega)) ⟨by have:=hm5.size;have:=lt_of_heap (hm5.at hb4 (by omega));omega,fun h=>by have:=hS _ h;omega⟩ ⟨rfl,trivial⟩ (by simp) ⟨⟨_,[I t.kind,.string t.name,x1],_,rfl,la,lb,each_nil _ _ _ _,ht.keep (mod0 hm05),he.keep (mod0 hm05),(show Nm mName by decide)⟩,trivial⟩
end
section
open Go Go.W
def numX (n:Int):Ex:=.mk 2 noStr n [] [] [] []
def intT:Ty:=.mk 1 noStr []
def boolT:Ty:=.mk 4 boolN []
def binP (t:Ty) (s:ByteArray) (a b:Int):Pg:=onePg t (opE s (numX a) (numX b))
theorem bin_deep (s:ByteArray) (a b:Int):(opE s (numX a) (numX b)).deep=2:=by rfl
theorem head_bin {t:Ty} (ht:t=intT∨t=boolT) (e:Ex):∃ E2,headS newE ⟨mName,[],t,e⟩ = .ok E2:=by
 unfold headS
 have h1:((aget newE.defs mName).isSome || !isNameS mName)=false:=by decide +kernel
 have h2:rightS { newE with params:=parsL [] []} t=true:=by
   rcases ht with rfl | rfl
   · decide +kernel
   · decide +kernel
 simp only [h1,Bool.false_eq_true,if_false,parsS]
 simp only [h2,reduceCtorEq,Bool.true_eq_false,if_false]
 exact ⟨_,rfl⟩
theorem body_bin (E:Env) {t:Ty} {s:ByteArray} {a b:Int} (hop:opsS s=some t) (ha : -4611686018427387904≤a∧a≤4611686018427387903) (hb : -4611686018427387904≤b∧b≤4611686018427387903):bodyS E ⟨mName,[],t,opE s (numX a) (numX b)⟩=0:=by
 have fa:formedS (numX a)=true:=by simp [formedS,formOk,numX,Ex.kind,Ex.num,Ex.name,cnt,Ex.types,Ex.args,Ex.binds,Ex.alts,formNamed,formNum,strEq,ha.1,ha.2]
 have fb:formedS (numX b)=true:=by simp [formedS,formOk,numX,Ex.kind,Ex.num,Ex.name,cnt,Ex.types,Ex.args,Ex.binds,Ex.alts,formNamed,formNum,strEq,hb.1,hb.2]
 have fo:formedS (opE s (numX a) (numX b))=true:=by simp [formedS,formOk,opE,Ex.kind,Ex.num,Ex.name,cnt,Ex.types,Ex.args,Ex.binds,Ex.alts,formNamed,formNum,strEq,hop]
 have ea:∀ st,exprS (knowE E []) (numX a) st = .ok (intT,st):=fun st=>by
   rw [show numX a = .mk 2 noStr a [] [] [] [] from rfl,exprS,if_neg (by rw [show Ex.mk 2 noStr a [] [] [] []=numX a from rfl,fa];simp),if_neg (by decide),if_pos rfl];try rfl
 have eb:∀ st,exprS (knowE E []) (numX b) st = .ok (intT,st):=fun st=>by
   rw [show numX b = .mk 2 noStr b [] [] [] [] from rfl,exprS,if_neg (by rw [show Ex.mk 2 noStr b [] [] [] []=numX b from rfl,fb];simp),if_neg (by decide),if_pos rfl];try rfl
 have eo:∀ st,exprS (knowE E []) (opE s (numX a) (numX b)) st = .ok (t,st):=fun st=>by
   rw [show opE s (numX a) (numX b) = .mk 9 s 0 [] [numX a,numX b] [] [] from rfl,exprS,if_neg (by rw [show Ex.mk 9 s 0 [] [numX a,numX b] [] []=opE s (numX a) (numX b) from rfl,fo];simp),if_neg (by decide),if_neg (by decide),if_neg (by decide),if_neg (by decide),if_neg (by decide),if_neg (by decide),if_pos rfl]
   simp [exprsS,ea,eb,opS,hop,intT,Ty.kind,Except.map]
 unfold bodyS
 simp only
 rw [eo]
 simp [sameT]
theorem check_bin {t:Ty} {s:ByteArray} {a b:Int} (ht:t=intT∨t=boolT) (hop:opsS s=some t) (ha : -4611686018427387904≤a∧a≤4611686018427387903) (hb : -4611686018427387904≤b∧b≤4611686018427387903):checkS (binP t s a b)=0:=by
 have hd:(binP t s a b).defs=[⟨mName,[],t,opE s (numX a) (numX b)⟩]:=rfl
 have hh:∃ E2,headsS (binP t s a b).defs newE = .ok E2:=by
   rw [hd]
   obtain ⟨E2,h⟩:=head_bin ht (opE s (numX a) (numX b))
   exact ⟨E2,by rw [headsS,h];try rfl⟩
 obtain ⟨E2,hh⟩:=hh
 have hz:(binP t s a b).size=5:=by rcases ht with rfl | rfl<;>rfl
 unfold checkS checkedS
 rw [hz,if_neg (by decide),hd]
 simp only [List.any_cons,List.any_nil,bin_deep]
 rw [if_neg (by decide),show checkDatasS newE (binP t s a b).datas = .ok newE from rfl]
 simp only
 rw [← hd,hh]
 simp only
 rw [hd]
 simp only [bodiesS,body_bin E2 hop ha hb]
 simp
end
section
open Go Go.W
abbrev wakeP:Pg:=binP intT ⟨#[43]⟩ 1 2
theorem wake_entry:entryS wakeP 100 mName=some (false,true):=by decide +kernel
theorem wake_runM:(runM wakeP 20 mName false []).map (fun m=>(m.kind,m.stuck,m.steps,m.told))=some (2,0,5,[(noStr,3)]):=by decide +kernel
theorem wake_run:∃ m,runS wakeP 100 mName [] 20=some (0,some m)∧m.kind=2∧m.stuck=0∧m.steps=5∧m.told=[(noStr,3)]:=by
 have h:=wake_runM
 match e:runM wakeP 20 mName false [],h with
 | some m,h=>
   simp only [Option.map_some,Option.some.injEq,Prod.mk.injEq] at h
   refine ⟨m,?_,h⟩
   unfold runS
   rw [if_neg (by decide),if_neg (by decide),if_neg (by decide),if_neg (by rw [check_bin (.inl rfl) (by rw [opsS,if_pos (by decide +kernel)];try rfl) (by decide) (by decide)];simp),wake_entry]
   simp only
   rw [e]
   rfl
end
section
open Go Go.W
theorem num_at {w:World} {B:Nat→Prop} (n:Int):ExAt w B (numE n) (numX n):=ex_of (each_nil _ _ _ _) (each_nil _ _ _ _) (each_nil _ _ _ _) (each_nil _ _ _ _) (Nat.le_refl _)
theorem ints_nil (w:World):Ints w (.slice none 0 0) []:=⟨none,0,rfl,by simp,fun i h=>absurd h (by simp)⟩
theorem f_awake {w:World}:CallsR Tryz.prog 8 [] w fun r w'=>r = .bool true∧Mod (fun _=>False) w w':=by
 have nolt:∀ {w:World} (b:Nat),(fun _=>False:Nat→Prop) b→b < w.heap.size:=fun b h=>h.elim
 refine fit8.calls rfl ?_
 unfold ir8
 (try simp only [go_sem,Nat.reduceAdd,Nat.reduceEqDiff,Nat.reduceLT,Nat.reduceLeDiff,Nat.reduceMul,reduceCtorEq,↓reduceIte])
 refine e_call (by rfl) ?_
 refine f_integer.mono ?_
 rintro _ w1 ⟨rfl,hm1⟩
 (try simp only [go_sem,Nat.reduceAdd,Nat.reduceEqDiff,Nat.reduceLT,Nat.reduceLeDiff,Nat.reduceMul,reduceCtorEq,↓reduceIte])
 refine e_call (by rfl) ?_
 refine (f_number 1).mono ?_
 rintro _ w2 ⟨rfl,hm2⟩
 (try simp only [go_sem,Nat.reduceAdd,Nat.reduceEqDiff,Nat.reduceLT,Nat.reduceLeDiff,Nat.reduceMul,reduceCtorEq,↓reduceIte])
 refine e_call (by rfl) ?_
 refine (f_number 2).mono ?_
 rintro _ w3 ⟨rfl,hm3⟩
 (try simp only [go_sem,Nat.reduceAdd,Nat.reduceEqDiff,Nat.reduceLT,Nat.reduceLeDiff,Nat.reduceMul,reduceCtorEq,↓reduceIte])
 refine e_call (by rfl) ?_
 refine (f_op2 (S:=fun _=>False) nolt (num_at 1) (num_at 2)).mono ?_
 rintro _ w4 ⟨⟨c4,rfl,h4⟩,hm4⟩
 (try simp only [go_sem,Nat.reduceAdd,Nat.reduceEqDiff,Nat.reduceLT,Nat.reduceLeDiff,Nat.reduceMul,reduceCtorEq,↓reduceIte])
 refine e_call (by rfl) ?_
 refine (f_one (S:=fun _=>False) nolt (leaf_at _ _ 1 noStr) h4).mono ?_
 rintro _ w5 ⟨⟨c5,rfl,h5⟩,hm5⟩
 obtain ⟨m,hm,e1,e2,e3,e4⟩:=wake_run
 (try simp only [go_sem,Nat.reduceAdd,Nat.reduceEqDiff,Nat.reduceLT,Nat.reduceLeDiff,Nat.reduceMul,reduceCtorEq,↓reduceIte])
 refine e_call (by rfl) ?_
 refine (f_Run wakeP h5 (ints_nil _) hm).mono ?_
 rintro _ w6 ⟨⟨oc,rfl,hoc⟩,hm6⟩
 obtain ⟨v,rfl,hv⟩:=hoc
 rw [e1,e2,e3]
 rw [e4] at hv
 have hm06:=hm1.trans (hm2.trans (hm3.trans (hm4.trans (hm5.trans hm6))))
 (try simp only [go_sem,Nat.reduceAdd,Nat.reduceEqDiff,Nat.reduceLT,Nat.reduceLeDiff,Nat.reduceMul,reduceCtorEq,↓reduceIte])
 refine e_al ?_
 intro w7 hb7 hm7 hs7
 (try simp only [go_sem,Nat.reduceAdd,Nat.reduceEqDiff,Nat.reduceLT,Nat.reduceLeDiff,Nat.reduceMul,reduceCtorEq,↓reduceIte])
 have hv1:=each_one hv
 refine e_sta (vs:=oc0 2 0 5 v) (cs:=oc0 0 0 0 (.slice none 0 0)) rfl rfl hb7 rfl rfl (oc_one hv1) ?_
 intro w8 hb8 hm8 hs8
 have hm68:Mod (fun _=>False) w6 w8:=hm7.step hm8 (fun b hb hl=>by omega)
 obtain ⟨a,c,r,rfl,hr,hrl,hln,hix⟩:=each_at (hv.mod hm68 nof (fun _ _ h=>h)) (i:=0) (by simp)
 have hr:r=[.string noStr,I 3]:=hr
 subst hr
 have z0:((0:Int) == 0)=true:=rfl
 have z2:((2:Int) == 2)=true:=rfl
 have z1:(((1:Nat):Int) == 1)=true:=rfl
 rw [Nat.zero_mul] at hln
 have z3:((3:Int) == 3)=true:=rfl
 have z5:((5:Int) == 5)=true:=rfl
 have zs:(noStr.toList == noStr.toList)=true:=by simp
 have p1:(0:Int)≤0∧(0:Int) < ((1:Nat):Int):=by decide
 have hln:vLN w8 2 (.pointer (some (a.add (Int.toNat 0*2))))=some (.agg #[.string noStr,I 3]):=by rw [show Int.toNat 0*2=0 from rfl];exact hln
 (try simp only [go_sem,Nat.reduceAdd,Nat.reduceEqDiff,Nat.reduceLT,Nat.reduceLeDiff,Nat.reduceMul,reduceCtorEq,↓reduceIte,cell_of hb8,Value.cells,z0,z2,z1,z3,z5,zs,p1,hln,rvs,RV.ev,one?])
 exact hm06.trans hm68
end
section
open Go Go.W
section
variable {X X':Cx} (hd:X'.defs=X.defs) (hf:X'.fields=X.fields) (hu:X.fuel≤X'.fuel)
include hd hf hu
theorem force_more {n c:Nat} {m:Rn} {r:Option Cl×Rn} (hs:m.steps≤X.fuel) (h:forceS X n c m=some r) (hno:¬ (r.1=none∧r.2.kind=4)):forceS X' n c m=some r:=by
 unfold forceS at h ⊢
 have k:=enter_sm m c
 match e:enterCl m c,h with
 | (none,m'),h=>exact h
 | (some (.val x),m'),h=>exact h
 | (some (.go e' v),m'),h=>
   rw [e] at k
   have ks:m'.steps=m.steps:=k.steps
   exact goOn_more hd hf hu n (by omega) h hno
theorem apply_more {n c:Nat} {f:Cl} {m:Rn} {r:Option Cl×Rn} (hs:m.steps≤X.fuel) (h:applyS X n f c m=some r) (hno:¬ (r.1=none∧r.2.kind=4)):applyS X' n f c m=some r:=by
 unfold applyS at h ⊢
 match e:givenR m f c,h with
 | some (none,m'),h=>exact h
 | some (some (.val x),m'),h=>exact h
 | some (some (.go e' v),m'),h=>
   have ks:m'.steps=m.steps:=(given_sm e).steps
   exact goOn_more hd hf hu n (by omega) h hno
abbrev Mor (a b:Rn):Prop:=(a.kind≠4→b=a)∧∃ l,b.told=a.told++l
theorem tell_more:∀ (n:Nat) {x:Cl} {ws:List Nat} {m a b:Rn},m.frames=[]→m.steps≤X.fuel→tellS X n x ws m=some a→tellS X' n x ws m=some b→Mor a b
 | 0,x,ws,m,a,b,_,_,h,_=>by rw [tellS] at h;cases h
 | n+1,x,ws,m,a,b,hfr,hs,h,h'=>by
   rcases step_cases X m with ⟨h1,h2⟩ | ⟨h1,h2⟩
   · obtain ⟨l,hl,-⟩:=(tell_sm _ h' hfr).told
     rw [tellS,h2,if_pos rfl] at h
     cases h
     exact ⟨fun hn=>absurd rfl hn,l,hl⟩
   · have h3:stepS X' m=(true,{ m with steps:=m.steps+1}):=by unfold stepS;rw [if_neg (by omega)]
     rw [tellS,h2,if_neg (by simp)] at h
     rw [tellS,h3,if_neg (by simp)] at h'
     simp only at h h'
     split at h
     · cases h
     · rename_i hw
       rw [if_neg hw] at h'
       split at h
       · rename_i hl
         rw [hl] at h'
         cases h;cases h'
         exact ⟨fun _=>rfl,[],by simp⟩
       · rename_i c hl
         rw [hl] at h'
         simp only at h'
         split at h
         · cases h
         · rename_i m3 hfo
           obtain rfl:m3=a:=Option.some.inj h
           by_cases k4:m3.kind=4
           · have g:=force_sm hfo hfr
             have gt:m3.told=m.told++itemS x:=g.told
             refine ⟨fun hn=>absurd k4 hn,?_⟩
             split at h'
             · cases h'
             · rename_i m4 hfo'
               obtain rfl:m4=b:=Option.some.inj h'
               have gt':m4.told=m.told++itemS x:=(force_sm hfo' hfr).told
               exact ⟨[],by rw [gt,gt',List.append_nil]⟩
             · rename_i y m4 hfo'
               have g':=force_sm hfo' hfr
               obtain ⟨-,-,g3⟩:=g'.val y rfl
               have gt':m4.told=m.told++itemS x:=g'.told
               obtain ⟨l,hl',-⟩:=(tell_sm _ h' g3).told
               exact ⟨l,by rw [hl',gt',gt]⟩
           · rw [force_more hd hf hu (by simp only;omega) hfo (fun hh=>k4 hh.2)] at h'
             cases h'
             exact ⟨fun _=>rfl,[],by simp⟩
         · rename_i y m3 hfo
           have g:=force_sm hfo hfr
           obtain ⟨-,-,g3⟩:=g.val y rfl
           have gf:m.steps+1≤X.fuel→m3.steps≤X.fuel:=g.fuel
           rw [force_more hd hf hu (by simp only;omega) hfo (fun hh=>by cases hh.1)] at h'
           exact tell_more n g3 (gf (by omega)) h h'
end
theorem runM_more {p:Pg} {f1 f2:Int} {name:ByteArray} {takes:Bool} {input:List Int} {a b:Rn} (h0:0≤f1) (hle:f1≤f2) (h:runM p f1 name takes input=some a) (h':runM p f2 name takes input=some b):Mor a b:=by
 obtain ⟨l0,hl0,-⟩:=(runM_sm h').told
 have hu:(newX p f1).fuel≤(newX p f2).fuel:=hle
 have hs0:(newM p).steps≤(newX p f1).fuel:=h0
 have told0:(newM p).told=[]:=rfl
 unfold runM at h h'
 split at h
 · cases h
 · rename_i m1 hg
   obtain rfl:m1=a:=Option.some.inj h
   by_cases k4:m1.kind=4
   · have gt:m1.told=(newM p).told:=(goOn_sm _ hg).told
     exact ⟨fun hn=>absurd k4 hn,l0,by rw [hl0,gt]⟩
   · rw [goOn_more (X:=newX p f1) (X':=newX p f2) rfl rfl hu _ hs0 hg (fun hh=>k4 hh.2)] at h'
     cases h'
     exact ⟨fun _=>rfl,[],by simp⟩
 · rename_i x m1 hg
   have k:=goOn_sm _ hg
   obtain ⟨k1,k2,k3⟩:=k.val x rfl
   have kt:m1.told=(newM p).told:=k.told
   have ks:m1.steps≤(newX p f1).fuel:=k.fuel hs0
   rw [goOn_more (X:=newX p f1) (X':=newX p f2) rfl rfl hu _ hs0 hg (fun hh=>by cases hh.1)] at h'
   simp only at h'
   by_cases ht:takes=true
   · rw [if_pos ht] at h h'
     split at h
     · cases h
     · rename_i m2 ha
       obtain rfl:m2=a:=Option.some.inj h
       by_cases k4:m2.kind=4
       · have gt:m2.told=m1.told:=(apply_sm ha (show m1.frames=[] from k3)).told
         exact ⟨fun hn=>absurd k4 hn,l0,by rw [hl0,gt,kt]⟩
       · rw [apply_more (X:=newX p f1) (X':=newX p f2) rfl rfl hu (m:=(m1.ls input).new (listedS input m1.cells).1) (show m1.steps≤_ from ks) ha (fun hh=>k4 hh.2)] at h'
         cases h'
         exact ⟨fun _=>rfl,[],by simp⟩
     · rename_i y m2 ha
       have g:=apply_sm ha (show m1.frames=[] from k3)
       obtain ⟨g1,g2,g3⟩:=g.val y rfl
       have gf:m1.steps≤(newX p f1).fuel→m2.steps≤(newX p f1).fuel:=g.fuel
       rw [apply_more (X:=newX p f1) (X':=newX p f2) rfl rfl hu (m:=(m1.ls input).new (listedS input m1.cells).1) (show m1.steps≤_ from ks) ha (fun hh=>by cases hh.1)] at h'
       exact tell_more (X:=newX p f1) (X':=newX p f2) rfl rfl hu _ g3 (gf ks) h h'
   · rw [if_neg ht] at h h'
     exact tell_more (X:=newX p f1) (X':=newX p f2) rfl rfl hu _ k3 ks h h'
end
section
open Go Go.W
theorem begS_app (l m:List It2):begS l (l++m)=true:=by
 induction l with
 | nil=>rfl
 | cons a l ih=>simp [begS,itEq,ih]
structure MoreR (f1 f2:Int) (a b:Rn):Prop where
 beg:begS a.told b.told=true
 len:(a.told.length:Int)≤b.told.length
 fa:a.steps≤f1
 fb:b.steps≤f2
 st:(a.told.length:Int)≤a.steps
 out:a.kind=4→a.steps=f1∧a.stuck=0
 same:a.kind≠4→b=a
 how:a.kind=4∨(a.kind=2∧a.stuck=0)∨(a.kind=3∧1≤a.stuck∧a.stuck≤4)
theorem runS_zero {p:Pg} {N:Nat} {name:ByteArray} {input:List Int} {fuel:Int} {r:Int×Option Rn} (h:runS p N name input fuel=some r) (h0:r.1=0):∃ takes a,r=(0,some a)∧entryS p N name=some (takes,true)∧(0≤fuel∧fuel≤1048576)∧runM p fuel name takes input=some a:=by
 unfold runS at h
 split at h
 · cases h;cases h0
 · split at h
   · cases h;cases h0
   · split at h
     · cases h;cases h0
     · rename_i hf
       split at h
       · rename_i hc;cases h;exact absurd h0 hc
       · split at h
         · cases h
         · cases h;cases h0
         · rename_i takes he
           obtain ⟨a,ha,rfl⟩:=Option.map_eq_some_iff.1 h
           exact ⟨takes,a,rfl,he,by omega,ha⟩
theorem more_law {p:Pg} {N:Nat} {name:ByteArray} {input:List Int} {f1 f2:Int} {r1 r2:Int×Option Rn} (hle:f1≤f2) (h1:runS p N name input f1=some r1) (h2:runS p N name input f2=some r2) (e1:r1.1=0) (e2:r2.1=0) (hk:∃ m,r1.2=some m∧EndK m):∃ a b,r1=(0,some a)∧r2=(0,some b)∧MoreR f1 f2 a b:=by
 obtain ⟨t1,a,rfl,g1,b1,m1⟩:=runS_zero h1 e1
 obtain ⟨t2,b,rfl,g2,b2,m2⟩:=runS_zero h2 e2
 rw [g1] at g2
 cases g2
 refine ⟨a,b,rfl,rfl,?_⟩
 obtain ⟨q1,l,q2⟩:=runM_more b1.1 hle m1 m2
 obtain ⟨m,hm,hend⟩:=hk
 cases hm
 have ka:=runM_sm m1
 have kb:=runM_sm m2
 have told0:(newM p).told=[]:=rfl
 have steps0:(newM p).steps=0:=rfl
 have stuck0:(newM p).stuck=0:=rfl
 obtain ⟨la,ha,hla⟩:=ka.told
 rw [told0,List.nil_append] at ha
 rw [steps0] at hla
 have hfa:a.steps≤f1:=ka.fuel b1.1
 have hfb:b.steps≤f2:=kb.fuel b2.1
 refine ⟨by rw [q2];exact begS_app _ _,by rw [q2,List.length_append];omega,hfa,hfb,by rw [ha];omega,fun h4=>?_,q1,?_⟩
 · rcases ka.how with ⟨x,y⟩ | ⟨x,y,z⟩ | x
   · omega
   · exact ⟨y,z⟩
   · omega
 · rcases hend with h | h | h
   · rcases ka.how with ⟨x,y⟩ | ⟨x,y,z⟩ | x
     · exact .inr (.inl ⟨x,y⟩)
     · omega
     · omega
   · exact .inl h
   · exact .inr (.inr h)
end
section
open Go Go.W
theorem oc_form {w:World} {B:Nat→Prop} {oc:List Value} {x:Option Rn} (h:OcAt w B oc x):∃ k s n v l,oc=oc0 k s n v∧ItsAt w B v l:=by
 match x,h with
 | none,h=>exact ⟨_,_,_,_,[],h,each_nil _ _ _ _⟩
 | some m,⟨v,h1,h2⟩=>exact ⟨_,_,_,_,_,h1,h2⟩
theorem OcAt.up {w w':World} {B B':Nat→Prop} {oc:List Value} {x:Option Rn} (h:OcAt w B oc x) (hm:Mod (fun _=>False) w w') (hB:∀ b,B b→B' b):OcAt w' B' oc x:=by
 match x,h with
 | none,h=>exact h
 | some m,⟨v,h1,h2⟩=>exact ⟨v,h1,EachAt.up h2 hm nof hB (fun _ _ h=>h)⟩
theorem f_More (p:Pg) {name:ByteArray} {input:List Int} {f1 f2:Int} {v:Value} {w:World} {cs:List Value} (h:PgAt w (Out (fun _=>False) w) cs p) (hi:Ints w v input) :
   CallsR Tryz.prog 3 [.agg cs.toArray,.string name,v,I f1,I f2] w fun r w'=>r = .bool true∧Mod (fun _=>False) w w':=by
 have h0:=h
 have hi0:=hi
 obtain ⟨N,hN⟩:=runS_tot p name
 have hN:=hN N (Nat.le_refl _)
 obtain ⟨vd,vf,rfl,hd,hf⟩:=h
 obtain ⟨av,cv,rfl,hle,hix⟩:=hi
 refine fit3.calls rfl ?_
 unfold ir3
 refine ir_cut (fun ρ w'=>Mod (fun _=>False) w w'∧w'.heap[w.heap.size]? = some (.cells [vd,vf].toArray 25 (0,0))∧ρ=[(1,.string name),(2,.slice av input.length cv),(3,I f1),(4,I f2),(5,ptr w.heap.size)]) ?_ ?_
 · (try simp only [go_sem,simprocAttr])
   refine e_bx rfl ?_
   intro w1 hb1 hm1 hs1
   (try simp only [go_sem,simprocAttr])
   exact ⟨hm1,hb1⟩
 rintro _ w1 ⟨m01,hb5,rfl⟩
 refine ir_cut (fun ρ w'=>∃ b,Mod (fun _=>False) w w'∧w'.heap[w.heap.size]? = some (.cells [vd,vf].toArray 25 (0,0))∧ρ=[(1,.string name),(2,.slice av input.length cv),(3,I f1),(4,I f2),(5,ptr w.heap.size),(11,.bool b)]) ?_ ?_
 · (try simp only [go_sem,simprocAttr,ln_blk (n:=2) hb5 rfl])
   refine e_call (by rfl) ?_
   refine (f_great p (h0.mod m01 nof)).mono ?_
   rintro _ w2 ⟨⟨b,rfl⟩,hm2⟩
   (try simp only [go_sem,simprocAttr])
   exact ⟨b,m01.trans hm2,hm2.at hb5 _root_.id,rfl⟩
 rintro _ w2 ⟨b,m02,hb5,rfl⟩
 refine ir_cut (fun ρ w'=>w2=w'∧ρ.get 1=some (.string name)∧ρ.get 2=some (.slice av input.length cv)∧ρ.get 3=some (I f1)∧ρ.get 4=some (I f2)∧ρ.get 5=some (ptr w.heap.size)) ?_ ?_
 · cases b with
   | true=>(try simp only [go_sem,simprocAttr,rvs,RV.ev,one?]);exact m02
   | false=>(try simp only [go_sem,simprocAttr])
 rintro ρ _ ⟨rfl,g1,g2,g3,g4,g5⟩
 refine ir_cut (fun ρ w'=>Mod (fun _=>False) w w'∧w'.heap[w.heap.size]? = some (.cells [vd,vf].toArray 25 (0,0))∧ρ.get 1=some (.string name)∧ρ.get 2=some (.slice av input.length cv)∧ρ.get 3=some (I f1)∧ρ.get 4=some (I f2)∧ρ.get 5=some (ptr w.heap.size)∧ρ.get 12=some (.bool true)) ?_ ?_
 · (try simp only [go_sem,simprocAttr,g1,g2,g3,g4,g5])
   refine e_call (by rfl) ?_
   refine f_awake.mono ?_
   rintro _ w3 ⟨rfl,hm3⟩
   (try simp only [go_sem,simprocAttr,g1,g2,g3,g4,g5])
   exact ⟨m02.trans hm3,hm3.at hb5 _root_.id⟩
 clear m02 hb5 g1 g2 g3 g4 g5
 rintro ρ w3 ⟨m03,hb5,g1,g2,g3,g4,g5,g12⟩
 refine ir_cut (fun ρ w'=>∃ x1 x2:Int,x1≤x2∧w3=w'∧ρ.get 1=some (.string name)∧ρ.get 2=some (.slice av input.length cv)∧ρ.get 3=some (I x1)∧ρ.get 4=some (I x2)∧ρ.get 5=some (ptr w.heap.size)∧ρ.get 12=some (.bool true)) ?_ ?_
 · cases q:decide (f1 > f2) with
   | true=>
     have q':f1 > f2:=by simpa using q
     (try simp only [go_sem,simprocAttr,g1,g2,g3,g4,g5,g12,q])
     exact ⟨_,_,by omega,rfl,rfl⟩
   | false=>
     have q':¬ f1 > f2:=by simpa using q
     (try simp only [go_sem,simprocAttr,g1,g2,g3,g4,g5,g12,q])
     exact ⟨_,_,by omega,rfl,rfl⟩
 clear g1 g2 g3 g4 g5 g12
 rintro ρ _ ⟨x1,x2,hx,rfl,g1,g2,g3,g4,g5,g12⟩
 obtain ⟨r1,hr1,ok1,no1⟩:=hN input x1
 obtain ⟨r2,hr2,ok2,no2⟩:=hN input x2
 refine ir_cut (fun ρ w'=>∃ b13 oc1,w.heap.size < b13∧OcAt w' (fun b=>w.heap.size≤b∧b < w'.heap.size) oc1 r1.2∧w'.heap[b13]? = some (.cells oc1.toArray 34 (0,0))∧Mod (fun _=>False) w w'∧w'.heap[w.heap.size]? = some (.cells [vd,vf].toArray 25 (0,0))∧ρ.get 1=some (.string name)∧ρ.get 2=some (.slice av input.length cv)∧ρ.get 3=some (I x1)∧ρ.get 4=some (I x2)∧ρ.get 5=some (ptr w.heap.size)∧ρ.get 12=some (.bool true)∧ρ.get 13=some (ptr b13)∧ρ.get 14=some (I r1.1)) ?_ ?_
 · (try simp only [go_sem,simprocAttr,g1,g2,g3,g4,g5,g12,ln_blk (n:=2) hb5 rfl])
   have hev:evs ((29,Value.agg #[vd,vf])::ρ) [.t 29,.t 1,.t 2,.t 3]=some [.agg #[vd,vf],.string name,.slice av input.length cv,I x1]:=by simp only [evs,O.ev,g1,g2,g3,go_sem];rfl
   refine e_call hev ?_
   refine (f_Run p (h0.up (S:=fun _=>False) m03 nof (fun b h=>⟨Nat.lt_of_lt_of_le h.1 m03.size,_root_.id⟩)) (hi0.mod m03 (fun _ _ h=>h)) hr1).mono ?_
   rintro _ w4 ⟨⟨oc,rfl,hoc⟩,hm4⟩
   obtain ⟨k,s',n',v',l',rfl,hits⟩:=oc_form hoc
   have ho:=each_one hits
   (try simp only [go_sem,simprocAttr,g1,g2,g3,g4,g5,g12])
   refine e_al ?_
   intro w5 hb13 hm5 hs5
   (try simp only [go_sem,simprocAttr,g1,g2,g3,g4,g5,g12])
   refine e_sta (vs:=oc0 k s' n' v') (cs:=oc0 0 0 0 (.slice none 0 0)) rfl rfl hb13 rfl rfl (oc_one ho) ?_
   intro w6 hb13 hm6 hs6
   have hm46:Mod (fun _=>False) w4 w6:=hm5.step hm6 (fun b hb hl=>by omega)
   have z4:=hm4.size
   have z3:=m03.size
   (try simp only [go_sem,simprocAttr,g1,g2,g3,g4,g5,g12])
   have hb5':=(hm4.trans hm46).at hb5 _root_.id
   have l5:=lt_of_heap hb5
   exact ⟨_,_,by omega,hoc.up hm46 (fun b h=>⟨by omega,by have:=hm46.size;omega⟩),hb13,m03.trans (hm4.trans hm46),hb5',rfl⟩
 clear g1 g2 g3 g4 g5 g12 hb5 m03
 rintro ρ w4 ⟨b13,oc1,l13,ho1,hb13,m04,hb5,g1,g2,g3,g4,g5,g12,g13,g14⟩
 refine ir_cut (fun ρ w'=>∃ b15 oc2,OcAt w' (fun b=>w.heap.size≤b∧b < w'.heap.size) oc1 r1.2∧OcAt w' (fun b=>w.heap.size≤b∧b < w'.heap.size) oc2 r2.2∧w'.heap[b13]? = some (.cells oc1.toArray 34 (0,0))∧w'.heap[b15]? = some (.cells oc2.toArray 34 (0,0))∧Mod (fun _=>False) w w'∧ρ.get 3=some (I x1)∧ρ.get 4=some (I x2)∧ρ.get 12=some (.bool true)∧ρ.get 13=some (ptr b13)∧ρ.get 14=some (I r1.1)∧ρ.get 15=some (ptr b15)∧ρ.get 16=some (I r2.1)) ?_ ?_
 · (try simp only [go_sem,simprocAttr,g1,g2,g3,g4,g5,g12,g13,g14,ln_blk (n:=2) hb5 rfl])
   have hev:evs ((37,Value.agg #[vd,vf])::ρ) [.t 37,.t 1,.t 2,.t 4]=some [.agg #[vd,vf],.string name,.slice av input.length cv,I x2]:=by simp only [evs,O.ev,g1,g2,g4,go_sem];rfl
   refine e_call hev ?_
   refine (f_Run p (h0.up (S:=fun _=>False) m04 nof (fun b h=>⟨Nat.lt_of_lt_of_le h.1 m04.size,_root_.id⟩)) (hi0.mod m04 (fun _ _ h=>h)) hr2).mono ?_
   rintro _ w5 ⟨⟨oc,rfl,hoc⟩,hm5⟩
   obtain ⟨k,s',n',v',l',rfl,hits⟩:=oc_form hoc
   have ho:=each_one hits
   (try simp only [go_sem,simprocAttr,g1,g2,g3,g4,g5,g12,g13,g14])
   refine e_al ?_
   intro w6 hb15 hm6 hs6
   (try simp only [go_sem,simprocAttr,g1,g2,g3,g4,g5,g12,g13,g14])
   refine e_sta (vs:=oc0 k s' n' v') (cs:=oc0 0 0 0 (.slice none 0 0)) rfl rfl hb15 rfl rfl (oc_one ho) ?_
   intro w7 hb15 hm7 hs7
   have hm57:Mod (fun _=>False) w5 w7:=hm6.step hm7 (fun b hb hl=>by omega)
   have hm47:=hm5.trans hm57
   have z4:=hm5.size
   have z3:=m04.size
   have z7:=hm57.size
   (try simp only [go_sem,simprocAttr,g1,g2,g3,g4,g5,g12,g13,g14])
   exact ⟨_,_,ho1.up hm47 (fun b h=>⟨h.1,by omega⟩),hoc.up hm57 (fun b h=>⟨by omega,by omega⟩),hm47.at hb13 _root_.id,hb15,m04.trans hm47,rfl⟩
 clear g1 g2 g3 g4 g5 g12 g13 g14 hb5 m04 ho1 hb13
 rintro ρ w5 ⟨b15,oc2,ho1,ho2,hb13,hb15,m05,g3,g4,g12,g13,g14,g15,g16⟩
 refine ir_cut (fun ρ w'=>(r1.1=0∧r2.1=0)∧w5=w'∧ρ.get 3=some (I x1)∧ρ.get 4=some (I x2)∧ρ.get 13=some (ptr b13)∧ρ.get 15=some (ptr b15)) ?_ ?_
 · cases q1:r1.1 != 0 with
   | true=>(try simp only [go_sem,simprocAttr,g3,g4,g12,g13,g14,g15,g16,q1,rvs,RV.ev,one?]);exact m05
   | false=>
     cases q2:r2.1 != 0 with
     | true=>(try simp only [go_sem,simprocAttr,g3,g4,g12,g13,g14,g15,g16,q1,q2,rvs,RV.ev,one?]);exact m05
     | false=>
       (try simp only [go_sem,simprocAttr,g3,g4,g12,g13,g14,g15,g16,q1,q2])
       exact ⟨by simpa using q1,by simpa using q2⟩
 clear g3 g4 g12 g13 g14 g15 g16
 rintro ρ _ ⟨⟨e1,e2⟩,rfl,g3,g4,g13,g15⟩
 obtain ⟨a,b,rfl,rfl,hM⟩:=more_law hx hr1 hr2 e1 e2 (ok1 e1)
 obtain ⟨va,rfl,ha⟩:=ho1
 obtain ⟨vb,rfl,hb⟩:=ho2
 have hm1:=each_sl ha
 have hm2:=each_sl hb
 obtain ⟨aa,ca,rfl⟩:=hm1
 obtain ⟨ab,cb,rfl⟩:=hm2
 refine ir_cut (fun ρ w'=>Mod (fun _=>False) w5 w'∧ρ.get 3=some (I x1)∧ρ.get 4=some (I x2)∧ρ.get 13=some (ptr b13)∧ρ.get 15=some (ptr b15)∧ρ.get 17=some (.bool true)) ?_ ?_
 · (try simp only [go_sem,simprocAttr,g3,g4,g13,g15,ln_blk (n:=8) hb13 rfl,ln_blk (n:=8) hb15 rfl])
   refine e_call (by rfl) ?_
   refine (f_begins ha hb).mono ?_
   rintro _ w6 ⟨rfl,hm6⟩
   rw [hM.beg]
   (try simp only [go_sem,simprocAttr,g3,g4,g13,g15])
   exact hm6
 clear g3 g4 g13 g15
 rintro ρ w6 ⟨m56,g3,g4,g13,g15,g17⟩
 have hb13:=m56.at hb13 _root_.id
 have hb15:=m56.at hb15 _root_.id
 have ha:=EachAt.mod ha m56 nof (fun _ _ h=>h)
 have hb:=EachAt.mod hb m56 nof (fun _ _ h=>h)
 have m06:=m05.trans m56
 have q1:decide ((a.told.length:Int) > b.told.length)=false:=decide_eq_false (by have:=hM.len;omega)
 have q2:decide (a.steps > x1)=false:=decide_eq_false (by have:=hM.fa;omega)
 have q3:decide (b.steps > x2)=false:=decide_eq_false (by have:=hM.fb;omega)
 have q4:decide ((a.told.length:Int) > a.steps)=false:=decide_eq_false (by have:=hM.st;omega)
 refine ir_cut (fun ρ w'=>w6=w'∧ρ.get 3=some (I x1)∧ρ.get 13=some (ptr b13)∧ρ.get 15=some (ptr b15)) ?_ ?_
 · (try simp only [go_sem,simprocAttr,g3,g4,g13,g15,g17,cell_of hb13,cell_of hb15,Value.cells,q1,q2,q3,q4])
 clear g3 g4 g13 g15 g17
 rintro ρ _ ⟨rfl,g3,g13,g15⟩
 refine ir_cut (fun ρ w'=>a.kind≠4∧w6=w'∧ρ.get 13=some (ptr b13)∧ρ.get 15=some (ptr b15)) ?_ ?_
 · cases q5:a.kind == 4 with
   | true=>
     obtain ⟨p1,p2⟩:=hM.out (by simpa using q5)
     have q6:(a.steps == x1)=true:=by simpa using p1
     have q7:(a.stuck == 0)=true:=by simpa using p2
     (try simp only [go_sem,simprocAttr,g3,g13,g15,cell_of hb13,cell_of hb15,Value.cells,q5,q6,q7,rvs,RV.ev,one?])
     exact m06
   | false=>
     (try simp only [go_sem,simprocAttr,g3,g13,g15,cell_of hb13,cell_of hb15,Value.cells,q5])
     simpa using q5
 clear g3 g13 g15
 rintro ρ _ ⟨k4,rfl,g13,g15⟩
 obtain rfl:=hM.same k4
 refine ir_cut (fun ρ w'=>Mod (fun _=>False) w6 w'∧ρ.get 13=some (ptr b13)∧ρ.get 18=some (.bool true)) ?_ ?_
 · (try simp only [go_sem,simprocAttr,g13,g15,ln_blk (n:=8) hb13 rfl,ln_blk (n:=8) hb15 rfl])
   refine e_call (by rfl) ?_
   refine (f_same ha hb).mono ?_
   rintro _ w7 ⟨rfl,hm7⟩
   have e:(((b.kind == b.kind&&b.stuck == b.stuck)&&b.steps == b.steps)&&sameTS b.told b.told)=true:=by
     have hb0:=begS_app b.told []
     rw [List.append_nil] at hb0
     simp [sameTS,hb0]
   rw [e]
   (try simp only [go_sem,simprocAttr,g13,g15])
   exact hm7
 clear g13 g15
 rintro ρ w7 ⟨m67,g13,g18⟩
 have hb13:=m67.at hb13 _root_.id
 have m07:=m06.trans m67
 rcases hM.how with h | ⟨h1,h2⟩ | ⟨h1,h2,h3⟩
 · exact absurd h k4
 · have p1:(b.kind == 2)=true:=by simpa using h1
   have p2:(b.stuck == 0)=true:=by simpa using h2
   (try simp only [go_sem,simprocAttr,g13,g18,cell_of hb13,Value.cells,p1,p2,rvs,RV.ev,one?])
   exact m07
 · have p1:(b.kind == 2)=false:=by rw [h1];try rfl
   have p2:(b.kind == 3)=true:=by rw [h1];try rfl
   have p3:decide (b.stuck≥1)=true:=decide_eq_true (by omega)
   have p4:decide (b.stuck≤4)=true:=decide_eq_true (by omega)
   (try simp only [go_sem,simprocAttr,g13,g18,cell_of hb13,Value.cells,p1,p2,p3,p4,rvs,RV.ev,one?])
   exact m07
end
section
open Go Go.W Go.ChangeShapes Go.WideShapes Go.ChangeAt Go.RowKit Go.Deep
theorem Tryz.cells3:Tryz.prog.cellsOf 3=1:=by kernel_rfl
theorem Tryz.cells9:Tryz.prog.cellsOf 9=1:=by kernel_rfl
theorem Tryz.cells22:Tryz.prog.cellsOf 22=1:=by kernel_rfl
theorem Tryz.cells23:Tryz.prog.cellsOf 23=1:=by kernel_rfl
theorem Tryz.cells25:Tryz.prog.cellsOf 25=2:=by kernel_rfl
theorem Tryz.cells39:Tryz.prog.cellsOf 39=1:=by kernel_rfl
theorem Tryz.cells40:Tryz.prog.cellsOf 40=1:=by kernel_rfl
theorem Tryz.cells42:Tryz.prog.cellsOf 42=3:=by kernel_rfl
theorem Tryz.cells43:Tryz.prog.cellsOf 43=1:=by kernel_rfl
theorem Tryz.cells44:Tryz.prog.cellsOf 44=1:=by kernel_rfl
theorem Tryz.cells45:Tryz.prog.cellsOf 45=1:=by kernel_rfl
theorem Tryz.cells47:Tryz.prog.cellsOf 47=7:=by kernel_rfl
theorem Tryz.cells49:Tryz.prog.cellsOf 49=12:=by kernel_rfl
theorem Tryz.cells61:Tryz.prog.cellsOf 61=1:=by kernel_rfl
theorem Tryz.cells63:Tryz.prog.cellsOf 63=3:=by kernel_rfl
theorem Tryz.cells66:Tryz.prog.cellsOf 66=2:=by kernel_rfl
theorem Tryz.cells95:Tryz.prog.cellsOf 95=11:=by kernel_rfl
theorem Tryz.cells97:Tryz.prog.cellsOf 97=11:=by kernel_rfl
theorem Tryz.own:ownKnob Tryz.prog.godebug=none:=by kernel_rfl
theorem Tryz.laidOut:laidOutB Tryz.prog=true:=by kernel_rfl
section
variable {H:Type} {enc:TypeId×Value→H} {P:Program}
theorem bulk_mem:∀ {l:List (DataW H)} {d:DataW H},d∈l→Rows.uptoBulk d≤Rows.uptoBulkAll l
 | y::l,d,h=>by
   rw [Rows.uptoBulkAll]
   rcases List.mem_cons.1 h with rfl | h
   · omega
   · have:=bulk_mem h;omega
theorem bulk_pos (d:DataW H):1≤Rows.uptoBulk d:=by
 cases d with
 | lit l=>cases l<;>simp [Rows.uptoBulk]
 | _=>simp [Rows.uptoBulk]
theorem bulk_len:∀ (l:List (DataW H)),l.length≤Rows.uptoBulkAll l
 | []=>Nat.le_refl _
 | d::l=>by
   rw [Rows.uptoBulkAll,List.length_cons]
   have:=bulk_pos d;have:=bulk_len l;omega
theorem cell_lt {w:World} {a:Addr} {v:Value} (h:w.cell? a=some v):a.block < w.heap.size:=by
 unfold World.cell? at h
 cases hb:w.heap[a.block]? with
 | none=>rw [hb] at h;cases h
 | some o=>exact lt_of_heap hb
theorem open_each {α:Type} {t e:TypeId} {k n b:Nat} (Pr:List Value→α→Prop) {w:World} {base:Nat} {held:Bool} {cs:List Value} {x:DataW H×List MemPlace}
   (ht:P.underlying t=some (.slice e)) (hk:P.cellsOf e=k) (hk0:0 < k)
   (each:∀ n cs y,DataW.trod enc P w base (fun _=>true) held n e cs=some y→Rows.uptoBulk y.1≤b→∃ o,Pr cs o)
   (h:DataW.trod enc P w base (fun _=>true) held n t cs=some x) (hb:Rows.uptoBulk x.1≤b+1) (hb2:b≤1048576) :
   ∃ (v:Value) (l:List α),cs=[v]∧EachAt w v k (· < w.heap.size) Pr l∧CapOk v:=by
 rcases open_slice ht h with ⟨rfl,rfl⟩ | ⟨a,len,cap,m,k',D,Pl,rfl,_,hl,_,hm,rfl,hel⟩
 · exact ⟨_,[],rfl,each_nil _ _ _ _,Nat.le_refl _⟩
 · simp only [if_true] at hm
   subst hm
   simp only [Rows.uptoBulk] at hb
   have hlen:=bulk_len ((List.range len).map D)
   rw [List.length_map,List.length_range] at hlen
   have all:∀ i,i < len→∃ oc:α×List Value,(∀ j,j < k→w.cell? ((a.add (i*k)).add j)=oc.2[j]?)∧oc.2.length=k∧Pr oc.2 oc.1:=by
     intro i hi
     obtain ⟨cs,h3,h4⟩:=hel i (by omega)
     have hmem:=bulk_mem (List.mem_map.2 ⟨i,List.mem_range.2 hi,rfl⟩:D i∈(List.range len).map D)
     obtain ⟨o,ho⟩:=each _ _ _ h4 (by show Rows.uptoBulk (D i)≤b;omega)
     obtain ⟨_,h6,h5⟩:=World.cells?_some h3
     rw [hk] at h5 h6
     exact ⟨(o,cs),fun j hj=>h5 j hj,h6,ho⟩
   rcases Nat.eq_zero_or_pos len with h0 | h0
   · subst h0
     refine ⟨_,[],rfl,⟨[],⟨⟨some a,m,rfl,fun h=>absurd h (by simp),fun i hi=>absurd hi (by simp)⟩,by simp⟩,rfl,fun i r a hr=>by simp at hr⟩,hl⟩
   haveI:Nonempty (α×List Value):=by obtain ⟨o,_⟩:=all 0 h0;exact ⟨o⟩
   haveI:Inhabited (α×List Value):=Classical.inhabited_of_nonempty this
   obtain ⟨f,hf⟩:=choose_lt (α:=α×List Value) (h:=all)
   refine ⟨_,(List.range len).map (fun i=>(f i).1),rfl,⟨(List.range len).map (fun i=>(f i).2),⟨⟨some a,m,by simp,fun h0' ad e=>?_,?_⟩,by simp;omega⟩,by simp,?_⟩,hl⟩
   · cases e
     have hc:=(hf 0 h0).1 0 hk0
     have e1:(f 0).2[0]? = some ((f 0).2[0]'(by rw [(hf 0 h0).2.1];exact hk0)):=List.getElem?_eq_getElem _
     rw [e1] at hc
     simp only [Nat.zero_mul,add_zero'] at hc
     exact cell_lt hc
   · intro i hi
     have hi':i < len:=by simpa using hi
     refine ⟨a,rfl,by simpa using (hf i hi').2.1,fun j hj=>?_⟩
     simp only [List.getElem_map,List.getElem_range] at hj ⊢
     rw [(hf i hi').1 j (by rw [(hf i hi').2.1] at hj;exact hj)]
     exact List.getElem?_eq_getElem _
   · intro i r o hr ho
     rw [List.getElem?_map] at hr ho
     rcases Nat.lt_or_ge i len with hi | hi
     · rw [List.getElem?_range hi] at hr ho
       cases hr;cases ho
       exact (hf i hi).2.2
     · rw [List.getElem?_eq_none (by simpa using hi)] at hr
       cases hr
variable {w:World} {base:Nat} {held:Bool}
theorem str_in {n:Nat} {c:Value} {y:DataW H×List MemPlace} (h:DataW.trod enc Tryz.prog w base (fun _=>true) held n 9 [c]=some y) (hb:Rows.uptoBulk y.1≤1048576):∃ s:ByteArray,c = .string s∧Nm s:=by
 obtain ⟨s,e,rfl,_⟩:=DataW.trod_string Tryz.underlying9 h
 cases e
 have h1:s.data.toList.length=s.size:=Array.length_toList
 simp only [Rows.uptoBulk] at hb
 exact ⟨s,rfl,by show s.size < _;omega⟩
theorem str_each {n:Nat} {cs:List Value} {y:DataW H×List MemPlace} (h:DataW.trod enc Tryz.prog w base (fun _=>true) held n 9 cs=some y) (hb:Rows.uptoBulk y.1≤1048576):∃ s:ByteArray,StrAt cs s:=by
 obtain ⟨s,rfl,_⟩:=DataW.trod_string Tryz.underlying9 h
 obtain ⟨s',e,hs⟩:=str_in h hb
 cases e
 exact ⟨_,rfl,hs⟩
theorem int_in {n:Nat} {c:Value} {y:DataW H×List MemPlace} (h:DataW.trod enc Tryz.prog w base (fun _=>true) held n 3 [c]=some y):∃ i:Int,c=I i:=by
 obtain ⟨i0,e0,rfl,_⟩:=DataW.trod_int Tryz.underlying3 h
 cases e0
 exact ⟨_,rfl⟩
theorem ty_in:∀ (b:Nat),b≤1048576→∀ n cs (y:DataW H×List MemPlace),DataW.trod enc Tryz.prog w base (fun _=>true) held n 42 cs=some y→Rows.uptoBulk y.1≤b→∃ t,TyAt w (· < w.heap.size) cs t
 | 0,_,n,cs,y,_,hb=>absurd (bulk_pos y.1) (by omega)
 | b+1,hbb,n,cs,y,h,hb=>by
   obtain ⟨xs,m,rfl,rfl,hl,hxs,hf⟩:=DataW.trod_struct Tryz.underlying42 h
   rw [Tryz.cells42] at hl
   match cs,hl,xs,hxs with
   | [c0,c1,c2],_,[x0,x1,x2],_=>
   have f0:=hf 0 _ rfl
   have f1:=hf 1 _ rfl
   have f2:=hf 2 _ rfl
   simp only [Tryz.cells3,Tryz.cells9,Tryz.cells40,List.drop_zero,List.drop_succ_cons,List.take_succ_cons,List.take_zero,List.getElem?_cons_zero,List.getElem?_cons_succ] at f0 f1 f2
   simp only [Rows.uptoBulk,Rows.uptoBulkAll,List.map_cons,List.map_nil] at hb
   obtain ⟨k,rfl⟩:=int_in f0
   obtain ⟨s,rfl,hs⟩:=str_in f1 (by omega)
   obtain ⟨v,l,e,hv,_⟩:=open_each (b:=b) (fun cs t=>TyAt w (· < w.heap.size) cs t) Tryz.underlying40 Tryz.cells42 (by decide) (fun n cs y h1 h2=>ty_in b (by omega) n cs y h1 h2) f2 (by omega) (by omega)
   cases e
   obtain ⟨rows,q1,q2,q3⟩:=hv
   exact ⟨.mk k s l,.mk q1 q2 q3⟩
end
end
section
open Go Go.W Go.ChangeShapes Go.WideShapes Go.ChangeAt Go.RowKit Go.Deep
section
variable {H:Type} {enc:TypeId×Value→H} {w:World} {base:Nat} {held:Bool}
theorem bd_in {b:Nat} (hbb:b≤1048576) (ih:∀ n cs (y:DataW H×List MemPlace),DataW.trod enc Tryz.prog w base (fun _=>true) held n 47 cs=some y→Rows.uptoBulk y.1≤b→∃ e,ExAt w (· < w.heap.size) cs e) (n:Nat) (cs:List Value) (y:DataW H×List MemPlace)
   (h:DataW.trod enc Tryz.prog w base (fun _=>true) held n 95 cs=some y) (hb:Rows.uptoBulk y.1≤b):∃ x,BdAt w (· < w.heap.size) cs x:=by
 obtain ⟨xs,m,rfl,rfl,hl,hxs,hf⟩:=DataW.trod_struct Tryz.underlying95 h
 rw [Tryz.cells95] at hl
 match cs,hl,xs,hxs with
 | [c0,c1,c2,c3,c4,c5,c6,c7,c8,c9,c10],_,[x0,x1,x2],_=>
 have f0:=hf 0 _ rfl
 have f1:=hf 1 _ rfl
 have f2:=hf 2 _ rfl
 simp only [Tryz.cells9,Tryz.cells42,Tryz.cells47,List.drop_zero,List.drop_succ_cons,List.take_succ_cons,List.take_zero,List.getElem?_cons_zero,List.getElem?_cons_succ] at f0 f1 f2
 simp only [Rows.uptoBulk,Rows.uptoBulkAll,List.map_cons,List.map_nil] at hb
 obtain ⟨s,rfl,hs⟩:=str_in f0 (by omega)
 obtain ⟨t,ht⟩:=ty_in b hbb _ _ _ f1 (by omega)
 obtain ⟨e,he⟩:=ih _ _ _ f2 (by omega)
 exact ⟨.mk s t e,_,_,rfl,ht,he,hs⟩
theorem al_in {b:Nat} (hbb:b≤1048576) (ih:∀ n cs (y:DataW H×List MemPlace),DataW.trod enc Tryz.prog w base (fun _=>true) held n 47 cs=some y→Rows.uptoBulk y.1≤b→∃ e,ExAt w (· < w.heap.size) cs e) (n:Nat) (cs:List Value) (y:DataW H×List MemPlace)
   (h:DataW.trod enc Tryz.prog w base (fun _=>true) held n 97 cs=some y) (hb:Rows.uptoBulk y.1≤b):∃ x,AlAt w (· < w.heap.size) cs x:=by
 obtain ⟨xs,m,rfl,rfl,hl,hxs,hf⟩:=DataW.trod_struct Tryz.underlying97 h
 rw [Tryz.cells97] at hl
 match cs,hl,xs,hxs with
 | [c0,c1,c2,c3,c4,c5,c6,c7,c8,c9,c10],_,[x0,x1,x2,x3,x4],_=>
 have f0:=hf 0 _ rfl
 have f1:=hf 1 _ rfl
 have f2:=hf 2 _ rfl
 have f3:=hf 3 _ rfl
 have f4:=hf 4 _ rfl
 simp only [Tryz.cells3,Tryz.cells9,Tryz.cells39,Tryz.cells47,List.drop_zero,List.drop_succ_cons,List.take_succ_cons,List.take_zero,List.getElem?_cons_zero,List.getElem?_cons_succ] at f0 f1 f2 f3 f4
 simp only [Rows.uptoBulk,Rows.uptoBulkAll,List.map_cons,List.map_nil] at hb
 obtain ⟨k,rfl⟩:=int_in f0
 obtain ⟨s,rfl,hs⟩:=str_in f1 (by omega)
 obtain ⟨m',rfl⟩:=int_in f2
 obtain ⟨v,l,e,hv,_⟩:=open_each (b:=b) StrAt Tryz.underlying39 Tryz.cells9 (by decide) (fun n cs y h1 h2=>str_each h1 (by omega)) f3 (by omega) (by omega)
 cases e
 obtain ⟨e,he⟩:=ih _ _ _ f4 (by omega)
 exact ⟨.mk k s m' l e,_,_,rfl,hv,he⟩
theorem ex_in:∀ (b:Nat),b≤1048576→∀ n cs (y:DataW H×List MemPlace),DataW.trod enc Tryz.prog w base (fun _=>true) held n 47 cs=some y→Rows.uptoBulk y.1≤b→∃ e,ExAt w (· < w.heap.size) cs e
 | 0,_,n,cs,y,_,hb=>absurd (bulk_pos y.1) (by omega)
 | b+1,hbb,n,cs,y,h,hb=>by
   have ih:=ex_in b (by omega)
   obtain ⟨xs,m,rfl,rfl,hl,hxs,hf⟩:=DataW.trod_struct Tryz.underlying47 h
   rw [Tryz.cells47] at hl
   match cs,hl,xs,hxs with
   | [c0,c1,c2,c3,c4,c5,c6],_,[x0,x1,x2,x3,x4,x5,x6],_=>
   have f0:=hf 0 _ rfl
   have f1:=hf 1 _ rfl
   have f2:=hf 2 _ rfl
   have f3:=hf 3 _ rfl
   have f4:=hf 4 _ rfl
   have f5:=hf 5 _ rfl
   have f6:=hf 6 _ rfl
   simp only [Tryz.cells3,Tryz.cells9,Tryz.cells40,Tryz.cells43,Tryz.cells44,Tryz.cells45,List.drop_zero,List.drop_succ_cons,List.take_succ_cons,List.take_zero,List.getElem?_cons_zero,List.getElem?_cons_succ] at f0 f1 f2 f3 f4 f5 f6
   simp only [Rows.uptoBulk,Rows.uptoBulkAll,List.map_cons,List.map_nil] at hb
   obtain ⟨k,rfl⟩:=int_in f0
   obtain ⟨s,rfl,hs⟩:=str_in f1 (by omega)
   obtain ⟨m',rfl⟩:=int_in f2
   obtain ⟨v3,l3,e,hv3,_⟩:=open_each (b:=b) (fun cs t=>TyAt w (· < w.heap.size) cs t) Tryz.underlying40 Tryz.cells42 (by decide) (fun n cs y h1 h2=>ty_in b (by omega) n cs y h1 h2) f3 (by omega) (by omega)
   cases e
   obtain ⟨v4,l4,e,hv4,_⟩:=open_each (b:=b) (fun cs t=>ExAt w (· < w.heap.size) cs t) Tryz.underlying43 Tryz.cells47 (by decide) ih f4 (by omega) (by omega)
   cases e
   obtain ⟨v5,l5,e,hv5,_⟩:=open_each (b:=b) (fun cs t=>BdAt w (· < w.heap.size) cs t) Tryz.underlying44 Tryz.cells95 (by decide) (bd_in (by omega) ih) f5 (by omega) (by omega)
   cases e
   obtain ⟨v6,l6,e,hv6,hc6⟩:=open_each (b:=b) (fun cs t=>AlAt w (· < w.heap.size) cs t) Tryz.underlying45 Tryz.cells97 (by decide) (al_in (by omega) ih) f6 (by omega) (by omega)
   cases e
   exact ⟨.mk k s m' l3 l4 l5 l6,ex_of hv3 hv4 hv5 hv6 hc6⟩
theorem cn_in {b:Nat} (hbb:b≤1048576) (n:Nat) (cs:List Value) (y:DataW H×List MemPlace)
   (h:DataW.trod enc Tryz.prog w base (fun _=>true) held n 66 cs=some y) (hb:Rows.uptoBulk y.1≤b):∃ x,CnAt w (· < w.heap.size) cs x:=by
 obtain ⟨xs,m,rfl,rfl,hl,hxs,hf⟩:=DataW.trod_struct Tryz.underlying66 h
 rw [Tryz.cells66] at hl
 match cs,hl,xs,hxs with
 | [c0,c1],_,[x0,x1],_=>
 have f0:=hf 0 _ rfl
 have f1:=hf 1 _ rfl
 simp only [Tryz.cells9,Tryz.cells40,List.drop_zero,List.drop_succ_cons,List.take_succ_cons,List.take_zero,List.getElem?_cons_zero,List.getElem?_cons_succ] at f0 f1
 simp only [Rows.uptoBulk,Rows.uptoBulkAll,List.map_cons,List.map_nil] at hb
 obtain ⟨s,rfl,hs⟩:=str_in f0 (by omega)
 obtain ⟨v,l,e,hv,_⟩:=open_each (b:=b) (fun cs t=>TyAt w (· < w.heap.size) cs t) Tryz.underlying40 Tryz.cells42 (by decide) (fun n cs y h1 h2=>ty_in b (by omega) n cs y h1 h2) f1 (by omega) (by omega)
 cases e
 exact ⟨⟨s,l⟩,_,rfl,hv,hs⟩
theorem dt_in {b:Nat} (hbb:b≤1048576) (n:Nat) (cs:List Value) (y:DataW H×List MemPlace)
   (h:DataW.trod enc Tryz.prog w base (fun _=>true) held n 63 cs=some y) (hb:Rows.uptoBulk y.1≤b):∃ x,DtAt w (· < w.heap.size) cs x:=by
 obtain ⟨xs,m,rfl,rfl,hl,hxs,hf⟩:=DataW.trod_struct Tryz.underlying63 h
 rw [Tryz.cells63] at hl
 match cs,hl,xs,hxs with
 | [c0,c1,c2],_,[x0,x1,x2],_=>
 have f0:=hf 0 _ rfl
 have f1:=hf 1 _ rfl
 have f2:=hf 2 _ rfl
 simp only [Tryz.cells9,Tryz.cells39,Tryz.cells61,List.drop_zero,List.drop_succ_cons,List.take_succ_cons,List.take_zero,List.getElem?_cons_zero,List.getElem?_cons_succ] at f0 f1 f2
 simp only [Rows.uptoBulk,Rows.uptoBulkAll,List.map_cons,List.map_nil] at hb
 obtain ⟨s,rfl,hs⟩:=str_in f0 (by omega)
 obtain ⟨v,l,e,hv,_⟩:=open_each (b:=b) StrAt Tryz.underlying39 Tryz.cells9 (by decide) (fun n cs y h1 h2=>str_each h1 (by omega)) f1 (by omega) (by omega)
 cases e
 obtain ⟨v2,l2,e,hv2,_⟩:=open_each (b:=b) (fun cs t=>CnAt w (· < w.heap.size) cs t) Tryz.underlying61 Tryz.cells66 (by decide) (cn_in (by omega)) f2 (by omega) (by omega)
 cases e
 exact ⟨⟨s,l,l2⟩,_,_,rfl,hv,hv2⟩
theorem df_in {b:Nat} (hbb:b≤1048576) (n:Nat) (cs:List Value) (y:DataW H×List MemPlace)
   (h:DataW.trod enc Tryz.prog w base (fun _=>true) held n 49 cs=some y) (hb:Rows.uptoBulk y.1≤b):∃ x,DfAt w (· < w.heap.size) cs x:=by
 obtain ⟨xs,m,rfl,rfl,hl,hxs,hf⟩:=DataW.trod_struct Tryz.underlying49 h
 rw [Tryz.cells49] at hl
 match cs,hl,xs,hxs with
 | [c0,c1,c2,c3,c4,c5,c6,c7,c8,c9,c10,c11],_,[x0,x1,x2,x3],_=>
 have f0:=hf 0 _ rfl
 have f1:=hf 1 _ rfl
 have f2:=hf 2 _ rfl
 have f3:=hf 3 _ rfl
 simp only [Tryz.cells9,Tryz.cells39,Tryz.cells42,Tryz.cells47,List.drop_zero,List.drop_succ_cons,List.take_succ_cons,List.take_zero,List.getElem?_cons_zero,List.getElem?_cons_succ] at f0 f1 f2 f3
 simp only [Rows.uptoBulk,Rows.uptoBulkAll,List.map_cons,List.map_nil] at hb
 obtain ⟨s,rfl,hs⟩:=str_in f0 (by omega)
 obtain ⟨v,l,e,hv,_⟩:=open_each (b:=b) StrAt Tryz.underlying39 Tryz.cells9 (by decide) (fun n cs y h1 h2=>str_each h1 (by omega)) f1 (by omega) (by omega)
 cases e
 obtain ⟨t,ht⟩:=ty_in b hbb _ _ _ f2 (by omega)
 obtain ⟨e,he⟩:=ex_in b hbb _ _ _ f3 (by omega)
 exact ⟨⟨s,l,t,e⟩,_,[c2,c3,c4],[c5,c6,c7,c8,c9,c10,c11],rfl,rfl,rfl,hv,ht,he,hs⟩
theorem pg_in {n:Nat} {cs:List Value} {y:DataW H×List MemPlace} (h:DataW.trod enc Tryz.prog w base (fun _=>true) held n 25 cs=some y) (hb:Rows.uptoBulk y.1≤1048576) :
   ∃ v0 v1 p,cs=[v0,v1]∧PgAt w (· < w.heap.size) cs p:=by
 obtain ⟨xs,m,rfl,rfl,hl,hxs,hf⟩:=DataW.trod_struct Tryz.underlying25 h
 rw [Tryz.cells25] at hl
 match cs,hl,xs,hxs with
 | [c0,c1],_,[x0,x1],_=>
 have f0:=hf 0 _ rfl
 have f1:=hf 1 _ rfl
 simp only [Tryz.cells22,Tryz.cells23,List.drop_zero,List.drop_succ_cons,List.take_succ_cons,List.take_zero,List.getElem?_cons_zero,List.getElem?_cons_succ] at f0 f1
 simp only [Rows.uptoBulk,Rows.uptoBulkAll,List.map_cons,List.map_nil] at hb
 obtain ⟨v,l,e,hv,_⟩:=open_each (b:=1048575) (fun cs t=>DtAt w (· < w.heap.size) cs t) Tryz.underlying22 Tryz.cells63 (by decide) (dt_in (by omega)) f0 (by omega) (by omega)
 cases e
 obtain ⟨v2,l2,e,hv2,_⟩:=open_each (b:=1048575) (fun cs t=>DfAt w (· < w.heap.size) cs t) Tryz.underlying23 Tryz.cells49 (by decide) (df_in (by omega)) f1 (by omega) (by omega)
 cases e
 exact ⟨_,_,⟨l,l2⟩,rfl,_,_,rfl,hv,hv2⟩
end
end
section
open Go Go.W Go.ChangeShapes Go.WideShapes Go.ChangeAt Go.RowKit Go.Deep
theorem all_app {p:Nat→Bool} {l m:List Nat} (h:(l++m).all p=true):l.all p=true∧m.all p=true:=by
 simpa using h
theorem Tryz.bytes3:Tryz.prog.bytesOf 3=8:=by kernel_rfl
section
variable {H:Type} {enc:TypeId×Value→H} {w:World} {ts:List TypeId} {args:List Value} {ds:List (DataW H)}
theorem lawIn_cons {P:Program} {t:TypeId} (h:LawIn enc P (t::ts) w args ds):∃ v args' d ds' base p,args=v::args'∧ds=d::ds'∧LawIn enc P ts w args' ds'∧Value.okWide P w .any base t v∧DataW.Trod enc P w 0 (fun _=>true) true t v d p∧(d.weights P t).all (·≤reachBytes)=true:=by
 obtain ⟨⟨base,hval⟩,⟨ps,hA⟩,hsz⟩:=h
 obtain ⟨v,vs,d,ds',p,q,rfl,rfl,rfl,hd,hrest⟩:=trodAll_cons hA
 rw [DataW.weightsEach] at hsz
 obtain ⟨h1,h2⟩:=all_app hsz
 exact ⟨v,vs,d,ds',base,p,rfl,rfl,⟨⟨base,fun j t' v' ht hv=>hval (j+1) t' v' ht hv⟩,⟨q,hrest⟩,h2⟩,hval 0 t v rfl rfl,hd,h1⟩
theorem lawIn_nil {P:Program} (h:LawIn enc P [] w args ds):args=[]∧ds=[]:=by
 obtain ⟨_,⟨ps,hA⟩,_⟩:=h
 obtain ⟨rfl,rfl,_⟩:=trodAll_nil hA
 exact ⟨rfl,rfl⟩
theorem in_int (h:LawIn enc Tryz.prog (3::ts) w args ds):∃ n args' d ds',args=I n::args'∧ds=d::ds'∧LawIn enc Tryz.prog ts w args' ds':=by
 obtain ⟨v,args',d,ds',base,p,rfl,rfl,h',hval,hd,_⟩:=lawIn_cons h
 obtain ⟨n,rfl,_⟩:=open_int Tryz.underlying3 hval hd
 exact ⟨n,args',d,ds',rfl,rfl,h'⟩
theorem in_str (h:LawIn enc Tryz.prog (9::ts) w args ds):∃ (s:ByteArray) (args':List Value) (d:DataW H) (ds':List (DataW H)),args = .string s::args'∧ds=d::ds'∧LawIn enc Tryz.prog ts w args' ds':=by
 obtain ⟨v,args',d,ds',base,p,rfl,rfl,h',hval,hd,hw⟩:=lawIn_cons h
 obtain ⟨s,rfl⟩:=okWide_string Tryz.underlying9 hval
 exact ⟨s,args',d,ds',rfl,rfl,h'⟩
theorem in_ints (h:LawIn enc Tryz.prog (26::ts) w args ds):∃ v input args' d ds',args=v::args'∧ds=d::ds'∧Ints w v input∧LawIn enc Tryz.prog ts w args' ds':=by
 obtain ⟨v,args',d,ds',base,p,rfl,rfl,h',hval,hd,hw⟩:=lawIn_cons h
 obtain ⟨a0,len,cap,rfl⟩:=okWide_slice Tryz.underlying26 hval
 obtain ⟨fuel,hf⟩:=hd
 obtain ⟨c,xs,e,h1,h2⟩:=tr_ints (x:=(d,p)) Tryz.underlying26 Tryz.underlying3 Tryz.cells3 Tryz.bytes3 hf hw
 cases e
 exact ⟨_,xs,args',d,ds',rfl,rfl,h1,h'⟩
theorem in_pg (h:LawIn enc Tryz.prog (25::ts) w args ds) (hb:Rows.uptoBulkAll ds≤1048576):∃ (cs:List Value) (p:Pg) (args':List Value) (d:DataW H) (ds':List (DataW H)),args = .agg cs.toArray::args'∧ds=d::ds'∧PgAt w (Out (fun _=>False) w) cs p∧LawIn enc Tryz.prog ts w args' ds':=by
 obtain ⟨v,args',d,ds',base,p,rfl,rfl,h',hval,hd,hw⟩:=lawIn_cons h
 obtain ⟨cs,rfl,_⟩:=okWide_struct Tryz.underlying25 hval
 obtain ⟨fuel,hf⟩:=hd
 rw [Rows.uptoBulkAll] at hb
 obtain ⟨v0,v1,pg,e,h1⟩:=pg_in (y:=(d,p)) (by simpa [Value.cells] using hf) (by show Rows.uptoBulk d≤_;omega)
 have e':cs = #[v0,v1]:=Array.ext' e
 subst e'
 exact ⟨[v0,v1],pg,args',d,ds',rfl,rfl,h1.up (.refl (fun _=>False) w) nof (fun b hb=>⟨hb,_root_.id⟩),h'⟩
end
theorem law_rowL {H:Type} {enc:TypeId×Value→H} {C:Go.Checked} {os:Os} {f:FuncId} {fn:Func} {s:ChangeSpec} {tb:TypeId} {F:Stop.Interp} {L:List (String×DataW Unit)} (own:ownKnob C.prog.godebug=none) (started:os.Started) (noInit:C.prog.inits.idxOf? f=none) (hfn:C.prog.funcs[f]? = some fn)
   (witness:∃ (w:World) (tape:Tape) (i:Input),w.os=os∧(w.forCall tape i).Shaped C.prog∧i.vars=[]∧Input.okWide C.prog (w.forCall tape i) .any w.heap.size f i ∧
     (Rows.OpenSpec.upto s).preRow enc C.prog fn [] false L (w.forCall tape i).memory i.args∧({}:Assume).holds C.prog (lone (Frame.enter C.prog f i.args .normal) [] (w.forCall tape i)))
   (laid:laidOutB C.prog=true) (hpar:fn.params.toList.all (fun t=>C.prog.readableRec t&&decide (t < C.prog.types.size))=true)
   (hres:fn.resultTypes = #[tb]) (hb:C.prog.underlying tb=some .bool) (hvars:s.vars=[])
   (hs:∀ ds:List (DataW H),ds.length=fn.params.toList.length→s.fn H ds = { results:=[.lit (.bool true)],args:=ds})
   (walk:∀ (W:World) (args:List Value) (ds:List (DataW H)),LawIn enc C.prog fn.params.toList W args ds→Rows.uptoBulkAll ds≤1048576→CallsR C.prog f args W fun q w'=>q = .bool true∧Mod (fun _=>False) W w') :
   ReturnsInHanded {} C os f .any ((Rows.OpenSpec.upto s).preRow enc C.prog fn [] false L) (((Rows.OpenSpec.upto s).at F).post enc C.prog fn false true false false):=by
 refine returnsInHanded_of_row (s:=Rows.OpenSpec.upto s) own started noInit hfn witness ?_
 intro W base args ds gs before hval hW _ hcond hsz _ _ _
 have hk:Rows.uptoSmall H (ds++gs)=true:=hcond _ rfl
 have hW:DataW.Whole enc C.prog fn.params.toList s.vars false W args.toList ds gs before:=hW
 have hW':=hW
 obtain ⟨p,q,hA,hV,rfl,_,_⟩:=hW
 rw [hvars] at hV
 obtain ⟨rfl,rfl⟩:=trodVars_none hV
 simp only [List.append_nil] at hW' hsz hk
 have hsz2:(DataW.weightsEach C.prog fn.params.toList ds).all (·≤reachBytes)=true:=by
   have e:(Rows.OpenSpec.upto s).bare.plain.varTypes C.prog=[]:=by
     show (s.plain).varTypes C.prog=[]
     simp [DataSpec.varTypes,ChangeSpec.plain,hvars]
   rw [e,List.append_nil] at hsz
   exact hsz
 have hk2:Rows.uptoBulkAll ds≤1048576:=of_decide_eq_true hk
 have key:=walk W args.toList ds ⟨⟨base,fun j t v ht hv=>hval j t v (by simpa using ht) (by simpa using hv)⟩,⟨p,hA⟩,hsz2⟩ hk2
 have e:args.toList.toArray=args:=by simp
 unfold CallsR at key
 rw [e] at key
 refine key.mono ?_
 rintro _ W' ⟨_,rfl,rfl,hm⟩
 have hbel:=mod_below hm
 have hlt:∀ x∈p,x.block < W.heap.size:=fun x hx=>by simpa using hW'.lt x hx
 have hf:=hs ds (trodAll_len hA)
 have hf':((Rows.OpenSpec.upto s).at F).fn H ds = { results:=[.lit (.bool true)],args:=ds}:=hf
 refine ⟨_,rfl,ds,[],_,[],p,[],hW',?_,?_,?_,hbel.frame _,fun h=>by cases h⟩
 · rw [List.append_nil,hf',hres]
   exact trodAll_mk1 (shut_bool hb true)
 · rw [List.append_nil,hf']
   exact trodAll_below laid hbel hpar hlt hA
 · have hv':((Rows.OpenSpec.upto s).at F).vars=[]:=hvars
   rw [List.append_nil,hf',hv']
   rfl
abbrev theL:List (String×DataW Unit):=[("math/bits.deBruijn32tab",Rows.laid_math_bits_deBruijn32tab),("math/bits.deBruijn64tab",Rows.laid_math_bits_deBruijn64tab),("internal/strconv.uint64pow10",Rows.laid_internal_strconv_uint64pow10),("unicode/utf8.acceptRanges",Rows.laid_unicode_utf8_acceptRanges),("unicode/utf8.first",Rows.laid_unicode_utf8_first)]
theorem laid_at (os:Os) (args:Array Value):laidMetH Tryz.prog theL ((World.laidAll Tryz.prog os theL).forCall (fun _ _=>0) ⟨#[],args,[]⟩).memory:=by
 rw [MakeChecks.laidMetH_plain _ _ _ (by kernel_rfl)]
 exact laidMet_laidAll _ (by kernel_rfl) (by kernel_rfl)
end
section
open Go Go.W Go.ChangeShapes Go.WideShapes Go.ChangeAt Go.RowKit Go.Deep
abbrev moreArgs:Array Value:=#[.agg #[.slice none 0 0,.slice none 0 0],.string ⟨#[]⟩,.slice none 0 0,.int .i64 0,.int .i64 0]
theorem more_reads (os:Os) {H:Type} (enc:TypeId×Value→H):∃ places,DataW.whole enc Tryz.prog ((World.laidAll Tryz.prog os theL).forCall (fun _ _=>0) ⟨#[],moreArgs,[]⟩).memory Tryz.f3.params.toList Rows.meaningMoreSpec.vars false moreArgs.toList 8=some ([.agg [.nil,.nil],.lit (.string []),.nil,.lit (.int .i64 0),.lit (.int .i64 0)],[],places):=
 ⟨[],by kernel_rfl⟩
theorem more_lifted (os:Os) (started:os.Started) (H:Type) (enc:TypeId×Value→H) (F:Stop.Interp) :
   ReturnsInHanded {} Tryz.checked os 3 .any ((Rows.OpenSpec.upto Rows.meaningMoreSpec).preRow enc Tryz.prog Tryz.f3 [] false theL) (((Rows.OpenSpec.upto Rows.meaningMoreSpec).at F).post enc Tryz.prog Tryz.f3 false true false false):=by
 obtain ⟨places,hx⟩:=more_reads os enc
 refine law_rowL (C:=Tryz.checked) Tryz.own started (by kernel_rfl) Tryz.func3
   (witness_row_at (enc:=enc) (C:=Tryz.checked) false (World.laidAll Tryz.prog os theL) moreArgs (World.laidAll_os _ _ _) (by kernel_rfl) (by kernel_rfl) (by kernel_rfl)
     (OpenSpec.preRow_of_cond 8 hx (by kernel_rfl) (fun k hk=>by cases hk;kernel_rfl) (by kernel_rfl) (laid_at os _)))
   Tryz.laidOut (by kernel_rfl) (tb:=4) (by kernel_rfl) Tryz.underlying4 rfl ?_ ?_
 · intro ds hd
   rw [Tryz.params3] at hd
   match ds,hd with
   | [_,_,_,_,_],_=>rfl
 · intro W args ds h hk
   rw [Tryz.params3] at h
   obtain ⟨cs,p,args1,d1,ds1,rfl,rfl,hp,h1⟩:=in_pg h hk
   obtain ⟨entry,args2,_,_,rfl,rfl,h2⟩:=in_str h1
   obtain ⟨vin,input,args3,_,_,rfl,rfl,hin,h3⟩:=in_ints h2
   obtain ⟨f1,args4,_,_,rfl,rfl,h4⟩:=in_int h3
   obtain ⟨f2,args5,_,_,rfl,rfl,h5⟩:=in_int h4
   obtain ⟨rfl,rfl⟩:=lawIn_nil h5
   exact f_More p hp hin
theorem more_row:Rows.MeaningMoreUptoSaid:=
 OpenClaim.holds_of_cond 3 Tryz.f3 rfl rfl rfl rfl rfl rfl rfl ⟨rfl,rfl,rfl,rfl,rfl⟩ rfl rfl rfl rfl rfl (by kernel_rfl) Tryz.func3 (by kernel_rfl)
   (of_decide_eq_true (by kernel_rfl)) (by unfold Func.isWrapper;first | (rw [if_pos (by decide +kernel)];kernel_rfl) | (rw [if_neg (by decide +kernel)];exact ⟨rfl,rfl⟩))
   (fun os started H enc _ F=>by rw [OpenClaim.pre_eq_preRow];exact more_lifted os started H enc F)
theorem more_plain (f:FuncId) (fn:Func) (hf:Tryz.pinned.checked.prog.funcNamed "sloth/slothlaw10.MeaningMore" = some f) (hfn:Tryz.pinned.checked.prog.funcs[f]? = some fn) :
   true=Tryz.pinned.checked.prog.looks []∧∀ (j:Nat) t,fn.params[j]? = some t→Tryz.pinned.checked.prog.wantsStandIn t=false:=by
 obtain rfl:f=3:=Option.some.inj ((show Tryz.prog.funcNamed "sloth/slothlaw10.MeaningMore" = some 3 by kernel_rfl).symm.trans hf) |>.symm
 obtain rfl:fn=Tryz.f3:=(Option.some.inj (Tryz.func3.symm.trans hfn)).symm
 refine ⟨by kernel_rfl,fun j t ht=>?_⟩
 rw [Tryz.params3] at ht
 have hm:t∈[25,9,26,3,3]:=by simpa using Array.mem_of_getElem? ht
 have hall:([25,9,26,3,3].all fun u=>!Tryz.prog.wantsStandIn u)=true:=by kernel_rfl
 exact (show Tryz.prog.wantsStandIn t=false by simpa using List.all_eq_true.1 hall t hm)
theorem meaningMore_holds:Rows.MeaningMoreUptoCardSaid:=
 Claim7.holds_tied_plain_at .later [] _ _ _ _ more_row (fun _ h=>by cases h) (by kernel_rfl) (fun _ h=>by cases h) meaningMoreUpto_row_tie rfl ⟨rfl,rfl⟩ (by kernel_rfl) rfl more_plain (by kernel_rfl)
#print axioms meaningMore_holds
end
end Go.Proofs.YtjfgeekjjlhbdaaGreatDoor