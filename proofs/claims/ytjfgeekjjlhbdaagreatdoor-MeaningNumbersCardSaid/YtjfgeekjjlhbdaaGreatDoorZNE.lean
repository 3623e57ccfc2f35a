/- Texts that the last file stands on: M4, M5, M6, M7, M8, M9, M10, M11, M12, M13, Q2, Q3, Q4, Q5, Q6, Q7, Q8, M14, M15, M16, M17, M18, M19, M20, M21, Q9, Q10, Q12, Q13, Q11, Q14, Q15, N1, N2, N3, N4, M22, N5, Q16, Q17. -/
import Derived.Test.YtjfgeekjjlhbdaaGreatDoorZND
import Derived.LaidEql
set_option linter.unusedSimpArgs false
set_option linter.unusedVariables false
set_option maxRecDepth 100000
namespace Go.Proofs.YtjfgeekjjlhbdaaGreatDoor
section
open Go Go.W
section
variable {w w':World} {S:Nat→Prop} {r md mf:Nat} {bs:List Nat} {X:Cx} {m:Rn} {vt vf:Value} {trows frows:List (List Value)} {tfp ffp:Option Nat}
theorem RnIn.keep (h:RnIn w S r md mf bs X m vt vf trows frows tfp ffp) (hm:Mod (fun _=>False) w w'):RnIn w' S r md mf bs X m vt vf trows frows tfp ffp:=by
 have hmS:Mod S w w':=mod0 hm;exact ⟨hm.at h.box _root_.id,h.told.mod hm (fun _ _ h=>h),h.items,h.frms.mod hm (fun _ _ h=>h),h.frames.imp (fun _ _ x=>x.up hmS out_not (out_up hmS) (fun _ _ h=>h)),h.blocks,h.inS,fun b hb=>Nat.lt_of_lt_of_le (h.lt b hb) hm.size,h.len,
   fun i b x hi hx=>by obtain ⟨v,h1,h2⟩:=h.cell i b x hi hx;exact ⟨v,hm.at h1 _root_.id,h2.up hmS out_not (out_up hmS) (fun _ _ h=>h)⟩,h.defs.mod hm _root_.id (fun _ _ x=>x),h.fields.mod hm _root_.id (fun _ _ x=>x),h.steps,fun p hp=>by obtain ⟨a1,a2,a3⟩:=h.kept p hp;exact ⟨hm.at a1 _root_.id,a2,a3⟩⟩
theorem RnAt.keep (h:RnAt w S r md mf bs X m) (hm:Mod (fun _=>False) w w'):RnAt w' S r md mf bs X m:=by
 obtain ⟨vt,vf,trows,frows,tfp,ffp,h⟩:=h;exact ⟨vt,vf,trows,frows,tfp,ffp,RnIn.keep h hm⟩
theorem RnIn.put (h:RnIn w S r md mf bs X m vt vf trows frows tfp ffp) {c b:Nat} {x:Cl} {v:Value} (hc:bs[c]? = some b) (hm:Mod (· = b) w w') (hb:w'.heap[b]? = some (.cells [v].toArray tCell (0,0))) (hv:ClAt w (Out S w) bs x v) :
   RnIn w' S r md mf bs X (m.put c x) vt vf trows frows tfp ffp:=by
 obtain ⟨n1,n2,n3,n4,n5,n6,n7,n8,n9⟩:=h.ne;have hmem:=List.mem_of_getElem? hc;obtain ⟨e1,e2,e3⟩:=n6 b hmem;have Sb:∀ y,y=b→S y:=fun y hy=>by rw [hy];exact h.inS _ (by simp [hmem])
 have hmS:=hm.weak Sb;have up:∀ {y:Cl} {u:Value},ClAt w (Out S w) bs y u→ClAt w' (Out S w') bs y u:=fun hx=>hx.up hmS out_not (out_up hmS) (fun _ _ h=>h)
 refine ⟨hm.at h.box e1,h.told.mod hm (fun y hy e=>n8 y hy (by rw [e];exact hmem)),h.items,h.frms.mod hm (fun y hy e=>n9 y hy (by rw [e];exact hmem)),h.frames.imp (fun _ _ x=>x.up hmS out_not (out_up hmS) (fun _ _ h=>h)),h.blocks,h.inS,fun y hy=>Nat.lt_of_lt_of_le (h.lt y hy) hm.size,by show bs.length=(m.cells.set c x).length;rw [List.length_set];exact h.len,?_,
   h.defs.mod hm e2 (fun _ _ x=>x),h.fields.mod hm e3 (fun _ _ x=>x),h.steps,fun p hp=>by
     obtain ⟨a1,a2,a3⟩:=h.kept p hp;exact ⟨hm.at a1 (fun e=>a3 (by rw [e];simp [hmem])),a2,a3⟩⟩
 intro i b' y hi hy;have hy:(m.cells.set c x)[i]? = some y:=hy;by_cases hic:c=i
 · subst hic;rw [hc] at hi;cases hi;have hlt:c < m.cells.length:=by
     rw [← h.len];exact (List.getElem?_eq_some_iff.1 hc).1
   rw [List.getElem?_set_self hlt] at hy;cases hy;exact ⟨v,hb,up hv⟩
 · rw [List.getElem?_set_ne hic] at hy;obtain ⟨u,h1,h2⟩:=h.cell i b' y hi hy;have hne:b'≠b:=fun e=>by
     subst e;obtain ⟨l1,q1⟩:=List.getElem?_eq_some_iff.1 hi;obtain ⟨l2,q2⟩:=List.getElem?_eq_some_iff.1 hc;exact hic (((List.getElem_inj h.bsn).1 (q2.trans q1.symm)))
   exact ⟨u,hm.at h1 hne,up h2⟩
end
def MdAt (w:World) (B:Nat→Prop) (bs:List Nat) (v:Value):Option Md→Prop
 | some (.go e nm)=>∃ ve vn,v = .tuple #[ve,vn,.nilIface,.bool true]∧EPtr w B ve e∧NmAt w B bs nm vn
 | some (.val x)=>∃ u,v = .tuple #[.pointer none,.pointer none,u,.bool true]∧ClAt w B bs x u∧x.isV=true
 | none=>v = .tuple #[.pointer none,.pointer none,.nilIface,.bool false]
def RetAt (w w':World) (S:Nat→Prop) (r md mf:Nat) (bs:List Nat) (X:Cx) (v:Value) (x:R3):Prop:=
 ∃ S' bs',RnAt w' S' r md mf bs' X x.2∧Grew S S' w∧(∀ (c b:Nat),bs[c]? = some b→bs'[c]? = some b)∧MdAt w' (Out S' w') bs' v x.1
theorem cl_iface {w:World} {B:Nat→Prop} {bs:List Nat} {x:Cl} {u:Value} (h:ClAt w B bs x u):x.isV=true→∃ T z,u = .iface T z∧∃ want ti,Tryz.prog.underlying 77=some (.interface want)∧Tryz.prog.info? T=some ti∧(Instr.missingMethod want ti.methods).isNone=true:=by
 intro hv;cases x with
 | num n=>cases h;exact ⟨_,_,rfl,val_num⟩
 | con n fs=>obtain ⟨a,vs,rfl,_⟩:=h;exact ⟨_,_,rfl,val_con⟩
 | lam e nm=>obtain ⟨a,ve,vn,rfl,_⟩:=h;exact ⟨_,_,rfl,val_lam⟩
 | par n l fs=>obtain ⟨a,vs,rfl,_⟩:=h;exact ⟨_,_,rfl,val_par⟩
 | wait e nm=>cases hv
 | busy=>cases hv
 | emp=>cases hv
theorem f_enterR {w:World} {S:Nat→Prop} {r md mf:Nat} {bs:List Nat} {X:Cx} {m:Rn} {c b:Nat} (h:RnAt w S r md mf bs X m) (hc:bs[c]? = some b) (hlen:m.frames.length≤2097152) :
   CallsR Tryz.prog 53 [ptr r,ptr b] w fun v w'=>RetAt w w' S r md mf bs X v (enterCl m c)∧Mod S w w':=by
 obtain ⟨vt,vf,trows,frows,tfp,ffp,h⟩:=h;have hci:c < m.cells.length:=by rw [← h.len];exact (List.getElem?_eq_some_iff.1 hc).1
 have hx:=List.getElem?_eq_getElem hci;obtain ⟨u,hb,hu⟩:=h.cell c b _ hc hx;generalize m.cells[c]=x at hx hu;have hE:enterCl m c=match some x with
   | some (.wait e v)=>(some (.go e v),(m.put c .busy).push (.upd c))
   | some (.num n)=>(some (.val (.num n)),m)
   | some (.con n fs)=>(some (.val (.con n fs)),m)
   | some (.lam e v)=>(some (.val (.lam e v)),m)
   | some (.par n l h)=>(some (.val (.par n l h)),m)
   | _=>(none,m.stop 4):=by unfold enterCl;rw [hx];try rfl
 refine fit53.calls rfl ?_;unfold ir53;(try simp only [go_sem,simprocAttr,cell_of hb]);cases hv:x.isV with
 | true=>
   obtain ⟨T,z,rfl,want,ti,q1,q2,q3⟩:=cl_iface hu hv;have hE':enterCl m c=(some (.val x),m):=by rw [hE];cases x<;>first | rfl | cases hv
   refine e_taI rfl q1 q2 q3 (Tryz.zeroValue77 _) (fun _=>?_) (fun h=>by cases h);(try simp only [go_sem,simprocAttr,rvs,RV.ev,one?]);rw [hE'];exact ⟨⟨S,bs,⟨_,_,_,_,_,_,h⟩,⟨fun _ h=>h,fun _ h=>.inl h⟩,fun _ _ h=>h,_,rfl,hu,hv⟩,.refl _ _⟩
 | false=>
   have stop:∀ (hE':enterCl m c=(none,m.stop 4)),CallsR Tryz.prog 52 [ptr r,I 4] w fun _ w'=>RetAt w w' S r md mf bs X (.tuple #[.pointer none,.pointer none,.nilIface,.bool false]) (enterCl m c)∧Mod S w w':=fun hE'=>by
     refine (f_stuck ⟨_,_,_,_,_,_,h⟩).mono ?_;rintro _ w1 ⟨hR,hm1⟩;rw [hE'];exact ⟨⟨S,bs,hR,⟨fun _ h=>h,fun _ h=>.inl h⟩,fun _ _ h=>h,rfl⟩,hm1.weak (fun y hy=>by rw [hy];exact h.inS _ (by simp))⟩
   cases x with
   | num n=>cases hv
   | con n fs=>cases hv
   | lam e nm=>cases hv
   | par n l fs=>cases hv
   | emp=>
     cases hu;obtain ⟨want,ti,q1,q2,q3⟩:=val_wait;refine e_taN rfl q1 (Tryz.zeroValue77 _) ?_;(try simp only [go_sem,simprocAttr]);refine e_taN (D:=.pointer 108) rfl rfl (Tryz.zeroValue105 _) ?_;(try simp only [go_sem,simprocAttr]);refine e_call (by rfl) ?_;refine (stop hE).mono ?_;rintro _ w1 hR;(try simp only [go_sem,simprocAttr,rvs,RV.ev,one?]);exact hR
   | busy=>
     cases hu;obtain ⟨want,ti,q1,q2,q3⟩:=val_busy;refine e_taI rfl q1 q2 q3 (Tryz.zeroValue77 _) (fun h=>by cases h) (fun _=>?_);(try simp only [go_sem,simprocAttr]);refine e_taC (D:=.pointer 108) rfl rfl rfl (Tryz.zeroValue105 _) (fun h=>absurd h (by decide)) (fun _=>?_);(try simp only [go_sem,simprocAttr]);refine e_call (by rfl) ?_;refine (stop hE).mono ?_;rintro _ w1 hR;(try simp only [go_sem,simprocAttr,rvs,RV.ev,one?]);exact hR
   | wait e nm=>
     obtain ⟨a,ve,vn,rfl,hcs,he,hn⟩:=hu;obtain ⟨want,ti,q1,q2,q3⟩:=val_wait;refine e_taI rfl q1 q2 q3 (Tryz.zeroValue77 _) (fun h=>by cases h) (fun _=>?_);(try simp only [go_sem,simprocAttr]);refine e_taC (D:=.pointer 108) rfl rfl rfl (Tryz.zeroValue105 _) (fun _=>?_) (fun h=>absurd rfl h);(try simp only [go_sem,simprocAttr]);refine e_st1 (b:=b) (off:=0) (v:=.iface 167 (.agg #[])) rfl rfl hb rfl (by simp) ?_;intro w1 hb1 hm1 hs1;have Sb:∀ y,y=b→S y:=fun y hy=>by rw [hy];exact h.inS _ (by simp [List.mem_of_getElem? hc])
     have h1:=h.put (x:=.busy) hc hm1 hb1 rfl;have hm1S:=hm1.weak Sb;(try simp only [go_sem,simprocAttr]);refine e_call (by rfl) ?_;refine (f_push (f:=.upd c) (cs:=[I 0,ptr b,.pointer none,.pointer none,I 0]) ⟨_,_,_,_,_,_,h1⟩ ⟨b,rfl,hc⟩ hlen).mono ?_;rintro _ w2 ⟨⟨S2,h2,hg2⟩,hm2⟩;have hm02:Mod S w w2:=hm1S.trans hm2;have hg:Grew S S2 w:=⟨hg2.1,fun y hy=>by
       rcases hg2.2 y hy with h | h
       · exact .inl h
       · right;omega⟩
     have hout:=grew_out hg hm02.size;have hcs2:=hcs.up hm02 out_not hout;have k0:w2.cell? a=some ve:=hcs2.c0 (by simp);have k1:w2.cell? ⟨a.block,a.off+1,none⟩=some vn:=hcs2.at (k:=1) (by simp);(try simp only [go_sem,simprocAttr,k0,k1,rvs,RV.ev,one?]);rw [hE];have d2:Mod (fun _=>False) w2 w2.drew:=(Mod.refl _ _).drew;have hm02d:Mod S w w2.drew:=hm02.trans (mod0 d2);have houtd:=grew_out hg hm02d.size;exact ⟨⟨S2,bs,RnAt.keep h2 d2,hg,fun _ _ h=>h,ve,vn,rfl,he.up hm02d out_not houtd,hn.up hm02d out_not houtd (fun _ _ h=>h)⟩,hm02d⟩
end
section
open Go Go.W
theorem cells_new {w:World} {S:Nat→Prop} {b T:Nat} {cs:List Value} (hb:w.heap[b]? = some (.cells cs.toArray T (0,0))) (hS:¬ S b):CellsAt w (Out S w) ⟨b,0,none⟩ cs:=
 ⟨⟨lt_of_heap hb,hS⟩,fun k hk=>by rw [add_at,cell_of hb];simp [List.getElem?_eq_getElem hk]⟩
theorem cells_of_new {w w':World} {S:Nat→Prop} {b T:Nat} {cs:List Value} (hb:w.heap[b]? = some (.cells cs.toArray T (0,0))) (hm:Mod (fun _=>False) w w') (hS:¬ S b):CellsAt w' (Out S w') ⟨b,0,none⟩ cs:=cells_new (hm.at hb _root_.id) hS
theorem nd_new {w:World} {S:Nat→Prop} {b T:Nat} {cs:List Value} (hb:w.heap[b]? = some (.cells cs.toArray T (0,0))) (hS:¬ S b):NdAt w (Out S w) ⟨b,0,none⟩ cs:=⟨cells_new hb hS,_,_,hb⟩
theorem f_grown {w:World} {S:Nat→Prop} {bs hv:List Nat} {n:ByteArray} {lacks:Int} {vs:Value} (hS:∀ b,S b→b < w.heap.size) (h:FsAt w (Out S w) bs hv vs) :
   CallsR Tryz.prog 51 [.string n,I lacks,vs] w fun v w'=>ClAt w' (Out S w') bs (growS n lacks hv) v∧(growS n lacks hv).isV=true∧Mod (fun _=>False) w w':=by
 obtain ⟨a,c,rfl⟩:=each_sl h;refine fit51.calls rfl ?_;unfold ir51;(try simp only [go_sem,simprocAttr]);cases hl:lacks == 0 with
 | true=>
   have hl':lacks=0:=by simpa using hl
   have hg:growS n lacks hv = .con n hv:=by unfold growS;rw [if_pos hl']
   (try simp only [go_sem,simprocAttr]);refine e_bx rfl ?_;intro w1 hb1 hm1 hs1;(try simp only [go_sem,simprocAttr,rvs,RV.ev,one?]);rw [hg];exact ⟨⟨_,_,rfl,cells_new (cs:=[.string n,.slice a hv.length c]) hb1 (fun hh=>by have:=hS _ hh;omega),h.up (mod0 hm1) out_not (out_up (mod0 hm1)) (fun _ _ h=>h)⟩,rfl,hm1⟩
 | false=>
   have hl':lacks≠0:=by simpa using hl
   have hg:growS n lacks hv = .par n lacks hv:=by unfold growS;rw [if_neg hl']
   (try simp only [go_sem,simprocAttr]);refine e_bx rfl ?_;intro w1 hb1 hm1 hs1;(try simp only [go_sem,simprocAttr,rvs,RV.ev,one?]);rw [hg];exact ⟨⟨_,_,rfl,cells_new (cs:=[.string n,I lacks,.slice a hv.length c]) hb1 (fun hh=>by have:=hS _ hh;omega),h.up (mod0 hm1) out_not (out_up (mod0 hm1)) (fun _ _ h=>h)⟩,rfl,hm1⟩
theorem f_wrapped (n:Int) {w:World}:CallsR Tryz.prog 92 [I n] w fun r w'=>r=I (W63 n)∧w=w':=by
 refine fit92.calls rfl ?_;unfold ir92;(try simp only [go_sem,Nat.reduceAdd,Nat.reduceEqDiff,Nat.reduceLT,Nat.reduceLeDiff,Nat.reduceMul,reduceCtorEq,↓reduceIte,rvs,RV.ev,one?]);exact ⟨_,rfl,_,rfl,rfl⟩
end
section
open Go Go.W
def OprR (w':World) (S:Nat→Prop) (r md mf:Nat) (bs:List Nat) (X:Cx) (m:Rn) (v:Value):Option Cl→Prop
 | some x=>(∃ u,v = .tuple #[u,.bool true]∧ClAt w' (Out S w') bs x u∧x.isV=true)∧RnAt w' S r md mf bs X m
 | none=>v = .tuple #[.nilIface,.bool false]∧RnAt w' S r md mf bs X (m.stop 3)
theorem f_opr {n:ByteArray} {a b:Int} {w:World} {S:Nat→Prop} {r md mf:Nat} {bs:List Nat} {X:Cx} {m:Rn} (h:RnAt w S r md mf bs X m) :
   CallsR Tryz.prog 75 [ptr r,.string n,I a,I b] w fun v w'=>OprR w' S r md mf bs X m v (oprS n a b)∧Mod S w w':=by
 have hO:oprS n a b=if strEq n ⟨#[43]⟩ then some (.num (W63 (Wr (a+b))))
   else if strEq n ⟨#[45]⟩ then some (.num (W63 (Wr (a - b))))
   else if strEq n ⟨#[42]⟩ then some (.num (W63 (Wr (a*b))))
   else if strEq n ⟨#[47]⟩||strEq n ⟨#[37]⟩ then (if b=0 then none else if strEq n ⟨#[47]⟩ then some (.num (W63 (Wr (a.tdiv b)))) else some (.num (a.tmod b)))
   else some (.con (if truthS n a b then trueN else falseN) []):=rfl
 have hnum:∀ (k:Int),OprR w S r md mf bs X m (.tuple #[.iface 115 (I k),.bool true]) (some (.num k)):=fun k=>⟨⟨_,rfl,rfl,rfl⟩,h⟩
 refine fit75.calls rfl ?_;unfold ir75;(try simp only [go_sem,simprocAttr]);refine ir_thenB (fun ρ w'=>w=w'∧oprS n a b=some (.con (if truthS n a b then trueN else falseN) [])∧ρ.get 10=some (.bool (truthS n a b))) ?_ ?_
 · cases h1:strEq n ⟨#[43]⟩ with
   | true=>
     rw [if_pos h1] at hO;rw [strEq] at h1;(try simp only [go_sem,simprocAttr,h1]);refine e_call (by rfl) ?_;refine (f_wrapped _).mono ?_;rintro _ _ ⟨rfl,rfl⟩;(try simp only [go_sem,simprocAttr,rvs,RV.ev,one?]);rw [hO];exact ⟨hnum _,.refl _ _⟩
   | false=>
   rw [if_neg (by rw [h1];simp)] at hO;rw [strEq] at h1;(try simp only [go_sem,simprocAttr,h1]);cases h2:strEq n ⟨#[45]⟩ with
   | true=>
     rw [if_pos h2] at hO;rw [strEq] at h2;(try simp only [go_sem,simprocAttr,h2]);refine e_call (by rfl) ?_;refine (f_wrapped _).mono ?_;rintro _ _ ⟨rfl,rfl⟩;(try simp only [go_sem,simprocAttr,rvs,RV.ev,one?]);rw [hO];exact ⟨hnum _,.refl _ _⟩
   | false=>
   rw [if_neg (by rw [h2];simp)] at hO;rw [strEq] at h2;(try simp only [go_sem,simprocAttr,h2]);cases h3:strEq n ⟨#[42]⟩ with
   | true=>
     rw [if_pos h3] at hO;rw [strEq] at h3;(try simp only [go_sem,simprocAttr,h3]);refine e_call (by rfl) ?_;refine (f_wrapped _).mono ?_;rintro _ _ ⟨rfl,rfl⟩;(try simp only [go_sem,simprocAttr,rvs,RV.ev,one?]);rw [hO];exact ⟨hnum _,.refl _ _⟩
   | false=>
   rw [if_neg (by rw [h3];simp)] at hO;rw [strEq] at h3;(try simp only [go_sem,simprocAttr,h3]);have Sr:∀ y,y=r→S y:=fun y hy=>by obtain ⟨_,_,_,_,_,_,hh⟩:=h;rw [hy];exact hh.inS _ (by simp)
   have zero:∀ (hO:oprS n a b=none),CallsR Tryz.prog 52 [ptr r,I 3] w fun _ w'=>OprR w' S r md mf bs X m (.tuple #[.nilIface,.bool false]) (oprS n a b)∧Mod S w w':=fun hO=>by
     refine (f_stuck h).mono ?_;rintro _ w1 ⟨hR,hm1⟩;rw [hO];exact ⟨⟨rfl,hR⟩,hm1.weak Sr⟩
   cases h4:strEq n ⟨#[47]⟩ with
   | true=>
     rw [if_pos (by rw [h4];try rfl),if_pos h4] at hO;rw [strEq] at h4;(try simp only [go_sem,simprocAttr,h4]);cases hb:b == 0 with
     | true=>
       rw [if_pos (by simpa using hb)] at hO;(try simp only [go_sem,simprocAttr]);refine e_call (by rfl) ?_;refine (zero hO).mono ?_;rintro _ w1 hR;(try simp only [go_sem,simprocAttr,rvs,RV.ev,one?]);exact hR
     | false=>
       have hb':b≠0:=by simpa using hb
       rw [if_neg hb'] at hO;(try simp only [go_sem,simprocAttr,h4,hb']);refine e_call (by rfl) ?_;refine (f_wrapped _).mono ?_;rintro _ _ ⟨rfl,rfl⟩;(try simp only [go_sem,simprocAttr,rvs,RV.ev,one?]);rw [hO];exact ⟨hnum _,.refl _ _⟩
   | false=>
   cases h5:strEq n ⟨#[37]⟩ with
   | true=>
     rw [if_pos (by rw [h5];simp),if_neg (show ¬ strEq n ⟨#[47]⟩=true by rw [h4];simp)] at hO;rw [strEq] at h4 h5;(try simp only [go_sem,simprocAttr,h4,h5]);cases hb:b == 0 with
     | true=>
       rw [if_pos (by simpa using hb)] at hO;(try simp only [go_sem,simprocAttr]);refine e_call (by rfl) ?_;refine (zero hO).mono ?_;rintro _ w1 hR;(try simp only [go_sem,simprocAttr,rvs,RV.ev,one?]);exact hR
     | false=>
       have hb':b≠0:=by simpa using hb
       rw [if_neg hb'] at hO;(try simp only [go_sem,simprocAttr,h4,hb',rvs,RV.ev,one?]);rw [hO];exact ⟨hnum _,.refl _ _⟩
   | false=>
   rw [if_neg (by rw [h4,h5];simp)] at hO;have hT:truthS n a b=if strEq n ⟨#[61,61]⟩ then a == b
     else if strEq n ⟨#[47,61]⟩ then a != b
     else if strEq n ⟨#[60]⟩ then decide (a < b)
     else if strEq n ⟨#[60,61]⟩ then decide (a≤b)
     else if strEq n ⟨#[62]⟩ then decide (a > b)
     else if strEq n ⟨#[62,61]⟩ then decide (a≥b)
     else false:=rfl
   rw [strEq] at h4 h5;(try simp only [go_sem,simprocAttr,h4,h5]);cases c1:strEq n ⟨#[61,61]⟩ with
   | true=>
     rw [if_pos c1] at hT;rw [strEq] at c1;(try simp only [go_sem,simprocAttr,c1]);exact ⟨hO,congrArg _ hT.symm⟩
   | false=>
   rw [if_neg (by rw [c1];simp)] at hT;rw [strEq] at c1;(try simp only [go_sem,simprocAttr,c1]);cases c2:strEq n ⟨#[47,61]⟩ with
   | true=>
     rw [if_pos c2] at hT;rw [strEq] at c2;(try simp only [go_sem,simprocAttr,c2]);exact ⟨hO,congrArg _ hT.symm⟩
   | false=>
   rw [if_neg (by rw [c2];simp)] at hT;rw [strEq] at c2;(try simp only [go_sem,simprocAttr,c2]);cases c3:strEq n ⟨#[60]⟩ with
   | true=>
     rw [if_pos c3] at hT;rw [strEq] at c3;(try simp only [go_sem,simprocAttr,c3]);exact ⟨hO,congrArg _ hT.symm⟩
   | false=>
   rw [if_neg (by rw [c3];simp)] at hT;rw [strEq] at c3;(try simp only [go_sem,simprocAttr,c3]);cases c4:strEq n ⟨#[60,61]⟩ with
   | true=>
     rw [if_pos c4] at hT;rw [strEq] at c4;(try simp only [go_sem,simprocAttr,c4]);exact ⟨hO,congrArg _ hT.symm⟩
   | false=>
   rw [if_neg (by rw [c4];simp)] at hT;rw [strEq] at c4;(try simp only [go_sem,simprocAttr,c4]);cases c5:strEq n ⟨#[62]⟩ with
   | true=>
     rw [if_pos c5] at hT;rw [strEq] at c5;(try simp only [go_sem,simprocAttr,c5]);exact ⟨hO,congrArg _ hT.symm⟩
   | false=>
   rw [if_neg (by rw [c5];simp)] at hT;rw [strEq] at c5;(try simp only [go_sem,simprocAttr,c5]);cases c6:strEq n ⟨#[62,61]⟩ with
   | true=>
     rw [if_pos c6] at hT;rw [strEq] at c6;(try simp only [go_sem,simprocAttr,c6]);exact ⟨hO,congrArg _ hT.symm⟩
   | false=>
   rw [if_neg (by rw [c6];simp)] at hT;rw [strEq] at c6;(try simp only [go_sem,simprocAttr,c6]);exact ⟨hO,congrArg _ hT.symm⟩
 · rintro ρ _ ⟨rfl,hc,g10⟩;have hS:=h;obtain ⟨_,_,_,_,_,_,hh⟩:=hS;cases ht:truthS n a b with
   | true=>
     rw [ht] at g10 hc;(try simp only [go_sem,simprocAttr,g10]);refine e_bx rfl ?_;intro w1 hb1 hm1 hs1;(try simp only [go_sem,simprocAttr,rvs,RV.ev,one?]);rw [hc];exact ⟨⟨⟨_,rfl,⟨_,_,rfl,cells_new (cs:=[.string trueN,.slice none 0 0]) hb1 (fun hx=>by have:=hh.lt _ hx;omega),each_nil _ _ _ _⟩,rfl⟩,h.keep hm1⟩,mod0 hm1⟩
   | false=>
     rw [ht] at g10 hc;(try simp only [go_sem,simprocAttr,g10]);refine e_bx rfl ?_;intro w1 hb1 hm1 hs1;(try simp only [go_sem,simprocAttr,rvs,RV.ev,one?]);rw [hc];exact ⟨⟨⟨_,rfl,⟨_,_,rfl,cells_new (cs:=[.string falseN,.slice none 0 0]) hb1 (fun hx=>by have:=hh.lt _ hx;omega),each_nil _ _ _ _⟩,rfl⟩,h.keep hm1⟩,mod0 hm1⟩
end
section
open Go Go.W
theorem f_givenR {w:World} {S:Nat→Prop} {r md mf:Nat} {bs:List Nat} {X:Cx} {m:Rn} {c b:Nat} {f:Cl} {u:Value} {res:R3} (h:RnAt w S r md mf bs X m) (hc:bs[c]? = some b) (hu:ClAt w (Out S w) bs f u) (hv:f.isV=true) (hres:givenR m f c=some res) :
   CallsR Tryz.prog 36 [ptr r,u,ptr b] w fun v w'=>RetAt w w' S r md mf bs X v res∧Mod S w w':=by
 have hS:=h;obtain ⟨_,_,_,_,_,_,hh⟩:=hS;have Sr:∀ y,y=r→S y:=fun y hy=>by rw [hy];exact hh.inS _ (by simp)
 have stop:∀ (hE':res=(none,m.stop 5)),CallsR Tryz.prog 52 [ptr r,I 5] w fun _ w'=>RetAt w w' S r md mf bs X (.tuple #[.pointer none,.pointer none,.nilIface,.bool false]) res∧Mod S w w':=fun hE'=>by
   refine (f_stuck h).mono ?_;rintro _ w1 ⟨hR,hm1⟩;rw [hE'];exact ⟨⟨S,bs,hR,⟨fun _ h=>h,fun _ h=>.inl h⟩,fun _ _ h=>h,rfl⟩,hm1.weak Sr⟩
 refine fit36.calls rfl ?_;unfold ir36;(try simp only [go_sem,simprocAttr]);cases f with
 | wait e nm=>cases hv
 | busy=>cases hv
 | emp=>cases hv
 | num n=>
   cases hu;cases hres;refine e_taC (D:=.pointer 139) rfl rfl rfl (Tryz.zeroValue138 _) (fun h=>absurd h (by decide)) (fun _=>?_);(try simp only [go_sem,simprocAttr]);refine e_taC (D:=.pointer 144) rfl rfl rfl (Tryz.zeroValue142 _) (fun h=>absurd h (by decide)) (fun _=>?_);(try simp only [go_sem,simprocAttr]);refine e_call (by rfl) ?_;refine (stop rfl).mono ?_;rintro _ w1 hR;(try simp only [go_sem,simprocAttr,rvs,RV.ev,one?]);exact hR
 | con n fs=>
   obtain ⟨a,vs,rfl,_⟩:=hu;cases hres;refine e_taC (D:=.pointer 139) rfl rfl rfl (Tryz.zeroValue138 _) (fun h=>absurd h (by decide)) (fun _=>?_);(try simp only [go_sem,simprocAttr]);refine e_taC (D:=.pointer 144) rfl rfl rfl (Tryz.zeroValue142 _) (fun h=>absurd h (by decide)) (fun _=>?_);(try simp only [go_sem,simprocAttr]);refine e_call (by rfl) ?_;refine (stop rfl).mono ?_;rintro _ w1 hR;(try simp only [go_sem,simprocAttr,rvs,RV.ev,one?]);exact hR
 | lam e nm=>
   obtain ⟨a,ve,vn,rfl,hcs,⟨ae,ecs,rfl,hecs,hex⟩,hn⟩:=hu;obtain ⟨vt,va,vb,vl,rfl,ht,ha,hb,hl⟩:=hex.parts;obtain ⟨aa,ca,rfl⟩:=each_sl ha;obtain ⟨ab,cb,rfl⟩:=each_sl hb;have hres:(match e.args,e.binds with
     | x::_,b::_=>some (some (Md.go x ((b.name,c)::nm)),m)
     | _,_=>none)=some res:=hres
   cases hargs:e.args with
   | nil=>rw [hargs] at hres;cases hres
   | cons x xs=>
   cases hbinds:e.binds with
   | nil=>rw [hargs,hbinds] at hres;cases hres
   | cons bd bds=>
   rw [hargs,hbinds] at hres;cases hres;have lx:0 < e.args.length:=by rw [hargs];simp
   have lb:0 < e.binds.length:=by rw [hbinds];simp
   obtain ⟨ada,ca2,ra,ea,hxa,hl7,hca⟩:=each_cells ha lx;obtain ⟨rfl,-,-⟩:=tup_inj ea;obtain ⟨adb,cb2,rb,eb,hxb,hl11,hcb⟩:=each_cells hb lb;obtain ⟨rfl,-,-⟩:=tup_inj eb;have hx0:e.args[0]=x:=by simp [hargs]
   have hb0:e.binds[0]=bd:=by simp [hbinds]
   rw [hx0] at hxa;rw [hb0] at hxb;rw [Nat.zero_mul,add_zero'] at hca hcb;obtain ⟨tc,bc,rfl,_,_,_⟩:=hxb;have k0:w.cell? a=some (.pointer (some ae)):=hcs.c0 (by simp);have k1:w.cell? ⟨a.block,a.off+1,none⟩=some vn:=hcs.at (k:=1) (by simp);have k4:w.cell? ⟨ae.block,ae.off+4,none⟩=some (.slice (some ada) e.args.length ca):=hecs.at (k:=4) (by simp);have k5:w.cell? ⟨ae.block,ae.off+5,none⟩=some (.slice (some adb) e.binds.length cb):=hecs.at (k:=5) (by simp);have kb:w.cell? adb=some (.string bd.name):=hcb.c0 (by simp);have b1:(0:Int)≤0∧(0:Int) < e.args.length:=by omega
   have b2:(0:Int)≤0∧(0:Int) < e.binds.length:=by omega
   refine e_taC (D:=.pointer 139) rfl rfl rfl (Tryz.zeroValue138 _) (fun _=>?_) (fun h=>absurd rfl h);have hvn:Go.W.One vn:=by
     cases nm with
     | nil=>cases hn;rfl
     | cons p l=>obtain ⟨_,_,_,rfl,_⟩:=hn;rfl
   (try simp only [go_sem,simprocAttr,zb4,zb6,k0,k1,k4,k5,b1,b2,Nat.zero_mul,kb,hvn]);refine e_bx rfl ?_;intro w1 hb1 hm1' hs1;have hm1:Mod (fun _=>False) w w1:=hm1'.of_drew;have lta:=cell_lt k0;have lte:=cell_lt k4;(try simp only [go_sem,simprocAttr,rvs,RV.ev,one?]);refine ⟨⟨hm1.old _ lte _root_.id,hm1.old _ lta _root_.id⟩,⟨S,bs,h.keep hm1,⟨fun _ h=>h,fun _ h=>.inl h⟩,fun _ _ h=>h,_,_,rfl,⟨ada,ra,rfl,hca.up (mod0 hm1) out_not (out_up (mod0 hm1)),hxa.up (mod0 hm1) out_not (out_up (mod0 hm1))⟩,?_⟩,mod0 hm1⟩;exact ⟨_,b,vn,rfl,hc,nd_new (cs:=[.string bd.name,ptr b,vn]) hb1 (fun hx=>by have:=hh.lt _ hx;have e:w.drew.heap.size=w.heap.size:=rfl;omega),hn.up (mod0 hm1) out_not (out_up (mod0 hm1)) (fun _ _ h=>h)⟩
 | par n l fs=>
   obtain ⟨a,vs,rfl,hcs,hfs⟩:=hu;obtain ⟨ah,ch,rfl⟩:=each_sl hfs;have hres:(if fs.length < 1099511627776 then some (some (Md.val (growS n (Wr (l - 1)) (fs++[c]))),m) else none)=some res:=hres;have hlen:fs.length < 1099511627776:=by
     apply Classical.byContradiction;intro h;rw [if_neg h] at hres;cases hres
   rw [if_pos hlen] at hres;cases hres;have k0:w.cell? a=some (.string n):=hcs.c0 (by simp);have k1:w.cell? ⟨a.block,a.off+1,none⟩=some (I l):=hcs.at (k:=1) (by simp);have k2:w.cell? ⟨a.block,a.off+2,none⟩=some (.slice ah fs.length ch):=hcs.at (k:=2) (by simp);have hfs0:=hfs;obtain ⟨rows,hrows,hrl,hrr⟩:=hfs0;obtain ⟨hn1,hrd,hno⟩:=rows_rd hrows.1 (by decide);have hone:∀ y∈rows.flatMap id,y.oneCell'=true:=fun y hy=>by
     rw [List.mem_flatMap] at hy;obtain ⟨row,hrow,hy⟩:=hy;obtain ⟨i,hi,rfl⟩:=List.getElem_of_mem hrow;obtain ⟨b',e,_⟩:=hrr i _ _ (List.getElem?_eq_getElem hi) (List.getElem?_eq_getElem (by omega));have hy:y∈rows[i]:=hy;rw [e] at hy;simp only [List.mem_cons,List.not_mem_nil,or_false] at hy;subst hy;rfl
   refine e_taC (D:=.pointer 139) rfl rfl rfl (Tryz.zeroValue138 _) (fun h=>absurd h (by decide)) (fun _=>?_);(try simp only [go_sem,simprocAttr]);refine e_taC (D:=.pointer 144) rfl rfl rfl (Tryz.zeroValue142 _) (fun _=>?_) (fun h=>absurd rfl h);(try simp only [go_sem,simprocAttr,k2]);refine e_ap (m:=fs.length) (news:=rows.flatMap id) rfl (OwnS.nil w 82 1) rfl hno hrd hone rfl (by omega) (by omega) ?_;intro v1 w1 fp1 ho1 hm1 hf1;have hm1:Mod (fun _=>False) w w1:=hm1.weak (fun y hy=>by cases hy);(try simp only [go_sem,simprocAttr]);refine e_bs (cs:=#[ptr b]) rfl rfl ?_;intro w2 hb2 hm2 hs2;have hm02:=hm1.trans hm2;have hrd2:=rd_block (xs:=[ptr b]) hb2;(try simp only [go_sem,simprocAttr]);refine e_ap (m:=1) (news:=[ptr b]) rfl (ho1.mod hm2 (fun _ _ h=>h)) rfl (fun h=>by cases h) hrd2 (one_cons rfl one_nil) rfl (by omega) (by omega) ?_;intro v3 w3 fp3 ho3 hm3 hf3;have z02:=hm02.size;have new1:∀ y,fp1=some y→w.heap.size≤y:=fun y hy=>by
     rcases hf1 y hy with h | ⟨h,_⟩
     · cases h
     · omega
   have hm03:Mod (fun _=>False) w w3:=hm02.step hm3 (fun y hy hl=>by have:=new1 y hy;omega);have new3:∀ y,fp3=some y→Out S w3 y:=fun y hy=>by
     have hlt:=ho3.lt hy;refine ⟨hlt,fun hs=>?_⟩;have:=hh.lt y hs;rcases hf3 y hy with h | ⟨h,_⟩
     · have:=new1 y h;omega
     · omega
   have hr1:∀ r∈rows++[[ptr b]],r.length=1:=fun row hrow=>by
     rcases List.mem_append.1 hrow with hrow | hrow
     · obtain ⟨i,hi,rfl⟩:=List.getElem_of_mem hrow;obtain ⟨b',e,_⟩:=hrr i _ _ (List.getElem?_eq_getElem hi) (List.getElem?_eq_getElem (by omega));rw [e];try rfl
     · rw [List.mem_singleton.1 hrow];try rfl
   have ho3':OwnS w3 82 1 v3 ((rows++[[ptr b]]).flatMap id) (rows++[[ptr b]]).length fp3:=by
     have e:(rows++[[ptr b]]).length=0+fs.length+1:=by simp [hrl]
     rw [flat_snoc,e];exact ho3
   have hFs:FsAt w3 (Out S w3) bs (fs++[c]) v3:=by
     refine ⟨rows++[[ptr b]],⟨(own_rows ho3' hr1).mod (.refl (fun _=>False) w3) nof (fun y hy=>new3 y hy),by rw [List.length_append];simp;omega⟩,by simp [hrl],fun i row x h1 h2=>?_⟩;rcases Nat.lt_or_ge i rows.length with hi | hi
     · rw [List.getElem?_append_left hi] at h1;rw [List.getElem?_append_left (by omega)] at h2;exact hrr i row x h1 h2
     · rw [List.getElem?_append_right hi] at h1;rw [List.getElem?_append_right (by omega)] at h2;have e0:i - rows.length=0:=by
         rcases Nat.eq_zero_or_pos (i - rows.length) with e | e
         · exact e
         · rw [List.getElem?_eq_none (by simp;omega)] at h1;cases h1
       have e1:i - fs.length=0:=by omega
       rw [e0] at h1;rw [e1] at h2;simp only [List.getElem?_cons_zero,Option.some.injEq] at h1 h2;subst h1 h2;exact ⟨b,rfl,hc⟩
   have hcs3:=hcs.up (mod0 hm03 (S:=S)) out_not (out_up (mod0 hm03));have k03:w3.cell? a=some (.string n):=hcs3.c0 (by simp);have k13:w3.cell? ⟨a.block,a.off+1,none⟩=some (I l):=hcs3.at (k:=1) (by simp);have d3:Mod (fun _=>False) w3 w3.drew:=(Mod.refl _ _).drew;have hm03d:=hm03.trans d3;(try simp only [go_sem,simprocAttr,k03,k13]);refine e_call (by rfl) ?_;refine (f_grown (S:=S) (bs:=bs) (hv:=fs++[c]) (n:=n) (lacks:=Wr (l - 1)) (fun y hy=>by have:=hh.lt y hy;have:=hm03d.size;omega) (hFs.up (mod0 d3) out_not (out_up (mod0 d3)) (fun _ _ h=>h))).mono ?_;rintro u5 w5 ⟨hcl,hvv,hm5⟩;have hm05:=hm03d.trans hm5;(try simp only [go_sem,simprocAttr,rvs,RV.ev,one?]);exact ⟨⟨S,bs,h.keep hm05,⟨fun _ h=>h,fun _ h=>.inl h⟩,fun _ _ h=>h,u5,rfl,hcl,hvv⟩,mod0 hm05⟩
end
section
open Go Go.W
theorem bindF_at {l:List ByteArray} {fs:List Nat} {i:Nat} (hi:i < l.length) (v:Nms):bindF (l.drop i) (fs.drop i) v=if h:i < fs.length then bindF (l.drop (i+1)) (fs.drop (i+1)) ((l[i],fs[i])::v) else none:=by
 rw [List.drop_eq_getElem_cons hi]
 split
 · rename_i h;rw [List.drop_eq_getElem_cons h,bindF]
 · rename_i h;rw [List.drop_eq_nil_of_le (show fs.length≤i by omega),bindF]
theorem chooseS_at {m:Rn} {v:Nms} {x:Cl} {l:List Al} {i:Nat} (hi:i < l.length):chooseS m v x (l.drop i) =
   if (l[i].kind == 3||(l[i].kind == 2&&(conOf x).isNone&&l[i].num == numOf x))=true then some (some (.go l[i].body v),m)
   else match conOf x with
     | some k=>if (l[i].kind == 1&&strEq l[i].con k.1)=true then (bindF l[i].vars k.2 v).map (fun v'=>(some (.go l[i].body v'),m)) else chooseS m v x (l.drop (i+1))
     | none=>chooseS m v x (l.drop (i+1)):=by
 rw [List.drop_eq_getElem_cons hi,chooseS];try rfl
theorem alt_row {w:World} {B:Nat→Prop} {v:Value} {l:List Al} (hl:EachAt w v 11 B (AlAt w B) l) {i:Nat} (hi:i < l.length) :
   ∃ ad c vv ec,v = .slice (some ad) l.length c∧CellsAt w B (ad.add (i*11)) (I l[i].kind :: .string l[i].con::I l[i].num::vv::ec)∧EachAt w vv 1 B StrAt l[i].vars∧ExAt w B ec l[i].body∧ec.length=7:=by
 obtain ⟨ad,c,r,e,⟨vv,ec,rfl,hvv,hex⟩,_,hcs⟩:=each_cells hl hi;exact ⟨ad,c,vv,ec,e,hcs,hvv,hex,hex.len⟩
theorem CellsAt.part {w:World} {B:Nat→Prop} {a:Addr} {cs ds:List Value} {k:Nat} (h:CellsAt w B a cs) (hd:∀ i (hi:i < ds.length),cs[k+i]? = some ds[i]) (hk:k≠0):CellsAt w B ⟨a.block,a.off+k,none⟩ ds:=by
 refine ⟨h.1,fun i hi=>?_⟩;have h1:=hd i hi;obtain ⟨hlt,h2⟩:=List.getElem?_eq_some_iff.1 h1;have h3:=h.2 (k+i) hlt;rw [h2,add_pos _ (by omega)] at h3;rw [add_at,Nat.add_assoc];exact h3
end
section
open Go Go.W
abbrev listN:ByteArray:=⟨#[76,105,115,116]⟩
def lioS (t:Ty):Bool:=(t.kind == 4&&strEq t.name listN)&&(match t.args with | a::_=>a.kind == 1 | []=>false)
theorem f_listOfInt (t:Ty) {w:World} {B:Nat→Prop} {cs:List Value} (h:TyAt w B cs t) (ha:t.kind=4→t.name=listN→0 < t.args.length) :
   CallsR Tryz.prog 33 [.agg cs.toArray] w fun r w'=>r = .bool (lioS t)∧Mod (fun _=>False) w w':=by
 obtain ⟨v,rfl,hl⟩:=h.cells;obtain ⟨a,c,rfl⟩:=each_sl hl;refine fit33.calls rfl ?_;unfold ir33;(try simp only [go_sem,simprocAttr]);refine e_bx rfl ?_;intro w1 hb1 hm1 hs1;(try simp only [go_sem,simprocAttr,cell_of hb1,Value.cells]);cases h1:t.kind == 4 with
 | false=>
   (try simp only [go_sem,simprocAttr,rvs,RV.ev,one?]);exact ⟨congrArg _ (by rw [lioS,h1];try rfl),hm1⟩
 | true=>
   (try simp only [go_sem,simprocAttr,cell_of hb1,Value.cells]);cases h2:strEq t.name listN with
   | false=>
     have h2':=h2;rw [strEq] at h2';(try simp only [go_sem,simprocAttr,h2',rvs,RV.ev,one?]);exact ⟨congrArg _ (by rw [lioS,h1,h2];try rfl),hm1⟩
   | true=>
     have h2':=h2;rw [strEq] at h2';have hlt:=ha (by simpa using h1) (by have:=h2;rw [strEq_iff] at this;simpa using this);obtain ⟨ad,c2,r,e,hr,hl3,hcs⟩:=each_cells (hl.mod hm1 nof (fun _ _ h=>h.mod hm1 nof)) hlt;obtain ⟨rfl,-,-⟩:=tup_inj e;obtain ⟨vu,rfl,_⟩:=hr.cells;rw [Nat.zero_mul,add_zero'] at hcs;have k0:w1.cell? ad=some (I t.args[0].kind):=hcs.c0 (by simp);have b1:(0:Int)≤0∧(0:Int) < t.args.length:=by omega
     have hk:(match t.args with | a::_=>a.kind == 1 | []=>false)=(t.args[0].kind == 1):=by
       cases t with
       | mk k n l=>cases l with
         | nil=>simp [Ty.args] at hlt
         | cons x l=>rfl
     (try simp only [go_sem,simprocAttr,h2',cell_of hb1,Value.cells]);(try simp only [go_sem,simprocAttr,zb4,zb6,b1,Nat.zero_mul,k0,rvs,RV.ev,one?]);exact ⟨congrArg _ (by rw [lioS,h1,h2,hk];try rfl),hm1⟩
end
section
open Go Go.W
theorem app_get {bs:List Nat} {b:Nat}:∀ (c d:Nat),bs[c]? = some d→(bs++[b])[c]? = some d:=fun c d h=>by
 rw [List.getElem?_append_left (List.getElem?_eq_some_iff.1 h).1];exact h
theorem RnAt.new {w0 w:World} {S:Nat→Prop} {r md mf b:Nat} {bs:List Nat} {X:Cx} {m:Rn} {x:Cl} {v:Value} (h:RnAt w0 S r md mf bs X m) (hm:Mod (fun _=>False) w0 w) (hb:w.heap[b]? = some (.cells [v].toArray tCell (0,0))) (hnew:w0.heap.size≤b) (hv:ClAt w (Out (And1 S b) w) (bs++[b]) x v) :
   RnAt w (And1 S b) r md mf (bs++[b]) X (m.new x):=by
 obtain ⟨vt,vf,trows,frows,tfp,ffp,h⟩:=h;obtain ⟨n1,n2,n3,n4,n5,n6,n7,n8,n9⟩:=h.ne;have hmS:Mod S w0 w:=mod0 hm;have hout:=out_ext hmS (and1_new (S:=S) hnew);have ltl:∀ y∈rnList r md mf bs tfp ffp,y < w0.heap.size:=fun y hy=>h.lt y (h.inS y hy)
 have hlb:=lt_of_heap hb;refine ⟨vt,vf,trows,frows,tfp,ffp,hm.at h.box _root_.id,h.told.mod hm (fun _ _ h=>h),h.items,h.frms.mod hm (fun _ _ h=>h),h.frames.imp (fun _ _ x=>x.up hmS out_not hout app_get),?_,?_,?_,?_,?_,
   h.defs.mod hm _root_.id (fun _ _ x=>by obtain ⟨y,e,h⟩:=x;exact ⟨y,e,app_get _ _ h⟩),h.fields.mod hm _root_.id (fun _ _ x=>x),h.steps,fun p hp=>by
     obtain ⟨a1,a2,a3⟩:=h.kept p hp;have a4:=lt_of_heap a1;simp only [rnList,List.mem_cons,List.mem_append,Option.mem_toList,not_or] at a3 ⊢;obtain ⟨c1,c2,c3,⟨c4,c5⟩,c6⟩:=a3;exact ⟨hm.at a1 _root_.id,.inl a2,c1,c2,c3,⟨c4,c5⟩,c6,fun e=>by omega,by simp⟩⟩
 · refine rn_nodup ?_ ⟨n1,n2,n3⟩ n4 n5 (fun y hy=>?_) n7 (fun a ha hmem=>?_) (fun a ha hmem=>?_)
   · rw [List.nodup_append];exact ⟨h.bsn,by simp,fun a ha c hc e=>by
       rw [List.mem_singleton.1 hc] at e;have:=ltl a (by simp [ha]);omega⟩
   · rcases List.mem_append.1 hy with hy | hy
     · exact n6 y hy
     · rw [List.mem_singleton.1 hy];have:=ltl r (by simp);have:=ltl md (by simp);have:=ltl mf (by simp);exact ⟨by omega,by omega,by omega⟩
   · rcases List.mem_append.1 hmem with hy | hy
     · exact n8 a ha hy
     · have:=ltl a (by simp [ha]);have:=List.mem_singleton.1 hy;omega
   · rcases List.mem_append.1 hmem with hy | hy
     · exact n9 a ha hy
     · have:=ltl a (by simp [ha]);have:=List.mem_singleton.1 hy;omega
 · intro y hy;simp only [rnList,List.mem_cons,List.mem_append,Option.mem_toList,List.not_mem_nil,or_false] at hy;rcases hy with rfl | rfl | rfl | (h1 | h1) | (h1 | h1)
   · exact .inl (h.inS _ (by simp))
   · exact .inl (h.inS _ (by simp))
   · exact .inl (h.inS _ (by simp))
   · exact .inl (h.inS _ (by simp [h1]))
   · exact .inl (h.inS _ (by simp [h1]))
   · exact .inl (h.inS _ (by simp [h1]))
   · exact .inr h1
 · intro y hy;rcases hy with h1 | h1
   · exact Nat.lt_of_lt_of_le (h.lt y h1) hm.size
   · omega
 · show (bs++[b]).length=(m.cells++[x]).length;rw [List.length_append,List.length_append,h.len];try rfl
 · intro i y z hi hz;have hz:(m.cells++[x])[i]? = some z:=hz;rcases Nat.lt_or_ge i bs.length with hlt | hge
   · rw [List.getElem?_append_left hlt] at hi;rw [List.getElem?_append_left (by rw [← h.len];exact hlt)] at hz;obtain ⟨u,h1,h2⟩:=h.cell i y z hi hz;exact ⟨u,hm.at h1 _root_.id,h2.up hmS out_not hout app_get⟩
   · rw [List.getElem?_append_right hge] at hi;rw [List.getElem?_append_right (by rw [← h.len];exact hge)] at hz;have e0:i - bs.length=0:=by
       rcases Nat.eq_zero_or_pos (i - bs.length) with e | e
       · exact e
       · rw [List.getElem?_eq_none (by simp;omega)] at hi;cases hi
     rw [e0] at hi;rw [← h.len,e0] at hz;simp only [List.getElem?_cons_zero,Option.some.injEq] at hi hz;subst hi hz;exact ⟨v,hb,hv⟩
end
section
open Go Go.W
theorem NmAt.one {w:World} {B:Nat→Prop} {bs:List Nat} {nm:Nms} {v:Value} (h:NmAt w B bs nm v):Go.W.One v:=by
 cases nm with
 | nil=>cases h;rfl
 | cons p l=>obtain ⟨_,_,_,rfl,_⟩:=h;rfl
theorem f_chooseR {w:World} {S:Nat→Prop} {r md mf:Nat} {bs:List Nat} {X:Cx} {m:Rn} {e:Ex} {nm:Nms} {x:Cl} {u:Value} {cs:List Value} {res:R3} (h:RnAt w S r md mf bs X m) (hf:EvAt w (Out S w) bs 2 e nm cs) (hu:ClAt w (Out S w) bs x u) (hv:x.isV=true) (hres:chooseS m nm x e.alts=some res) :
   CallsR Tryz.prog 74 [ptr r,.agg cs.toArray,u] w fun v w'=>RetAt w w' S r md mf bs X v res∧Mod S w w':=by
 obtain ⟨ve,vn,rfl,⟨ae,ecs,rfl,hecs,hex⟩,hn⟩:=hf;obtain ⟨vt,va,vb,vl,rfl,ht,ha,hb,hl⟩:=hex.parts;obtain ⟨al,cl,rfl⟩:=each_sl hl;have hll:=each_len hl;have hS:=h;obtain ⟨_,_,_,_,_,_,hh⟩:=hS;have Sr:∀ y,y=r→S y:=fun y hy=>by rw [hy];exact hh.inS _ (by simp)
 obtain ⟨T,z,rfl,_⟩:=cl_iface hu hv;refine fit74.calls rfl ?_;unfold ir74;refine ir_cut (fun ρ w1=>ρ=[(0,ptr r),(2,.iface T z),(4,ptr w.heap.size)]∧w1.heap[w.heap.size]? = some (.cells [I 2,.pointer none,.pointer (some ae),vn,I 0].toArray 136 (0,0))∧Mod (fun _=>False) w w1) ?_ ?_
 · (try simp only [go_sem,simprocAttr]);refine e_bx rfl ?_;intro w1 hb1 hm1 hs1;(try simp only [go_sem,simprocAttr]);exact ⟨hb1,hm1⟩
 rintro _ w1 ⟨rfl,hb1,hm1⟩;refine ir_cut (fun ρ w'=>w1=w'∧∃ t10,ρ=[(0,ptr r),(2,.iface T z),(4,ptr w.heap.size),(10,t10),(11,.bool (conOf x).isSome)]∧∀ k,conOf x=some k→∃ a vs,t10 = .pointer (some a)∧CellsAt w (Out S w) a [.string k.1,vs]∧FsAt w (Out S w) bs k.2 vs) ?_ ?_
 · (try simp only [go_sem,simprocAttr]);refine e_taC (D:=.pointer 114) rfl rfl rfl (Tryz.zeroValue111 _) (fun hT=>?_) (fun hT=>?_)
   · (try simp only [go_sem,simprocAttr]);refine ⟨z,?_,?_⟩
     · cases x with
       | con k fs=>rfl
       | num n=>cases hu;cases hT
       | lam e' nm'=>obtain ⟨a,_,_,e,_⟩:=hu;cases e;cases hT
       | par n l fs=>obtain ⟨a,_,e,_⟩:=hu;cases e;cases hT
       | wait e' nm'=>cases hv
       | busy=>cases hv
       | emp=>cases hv
     · intro k hk;cases x with
       | con k' fs=>cases hk;obtain ⟨a,vs,e,h1,h2⟩:=hu;cases e;exact ⟨a,vs,rfl,h1,h2⟩
       | _=>cases hk
   · (try simp only [go_sem,simprocAttr]);have hnone:conOf x=none:=by
       cases x with
       | con k fs=>obtain ⟨a,_,e,_⟩:=hu;cases e;exact absurd rfl hT
       | _=>rfl
     rw [hnone];exact ⟨_,rfl,fun k hk=>by cases hk⟩
 rintro _ _ ⟨rfl,t10,rfl,h10⟩;refine ir_cut (fun ρ w'=>w1=w'∧ρ=[(0,ptr r),(4,ptr w.heap.size),(10,t10),(11,.bool (conOf x).isSome),(12,I (numOf x))]) ?_ ?_
 · (try simp only [go_sem,simprocAttr]);refine e_taC (D:=.int .i64) rfl rfl rfl (Tryz.zeroValue115 _) (fun hT=>?_) (fun hT=>?_)
   · (try simp only [go_sem,simprocAttr]);cases x with
     | num n=>cases hu;rfl
     | con k fs=>obtain ⟨a,_,e,_⟩:=hu;cases e;cases hT
     | lam e' nm'=>obtain ⟨a,_,_,e,_⟩:=hu;cases e;cases hT
     | par n l fs=>obtain ⟨a,_,e,_⟩:=hu;cases e;cases hT
     | wait e' nm'=>cases hv
     | busy=>cases hv
     | emp=>cases hv
   · (try simp only [go_sem,simprocAttr]);cases x with
     | num n=>cases hu;exact absurd rfl hT
     | _=>rfl
 rintro _ _ ⟨rfl,rfl⟩;have k2:w1.cell? ⟨w.heap.size,2,none⟩=some (.pointer (some ae)):=by rw [cell_of hb1];try rfl
 have k3:w1.cell? ⟨w.heap.size,3,none⟩=some vn:=by rw [cell_of hb1];try rfl
 have hecs1:=hecs.up (mod0 hm1 (S:=S)) out_not (out_up (mod0 hm1));have k6:w1.cell? ⟨ae.block,ae.off+6,none⟩=some (.slice al e.alts.length cl):=hecs1.at (k:=6) (by simp);(try simp only [go_sem,simprocAttr,k2,k6]);refine ir_loop (fun z' ρ w'=>Mod (fun _=>False) w1 w'∧∃ i:Nat,z'=e.alts.length - i∧i≤e.alts.length∧chooseS m nm x (e.alts.drop i)=some res ∧
   ρ=[(0,ptr r),(4,ptr w.heap.size),(10,t10),(11,.bool (conOf x).isSome),(12,I (numOf x)),(34,I e.alts.length),(35,I i)]) e.alts.length ⟨.refl _ _,0,by omega,by omega,hres,rfl⟩ ?_
 rintro z' _ w2 ⟨hm2,i,rfl,hi,hres,rfl⟩;have hm02:Mod (fun _=>False) w w2:=hm1.trans hm2;unfold ir74L2;by_cases q:i < e.alts.length
 · have b1:decide ((i:Int) < e.alts.length)=true:=by simpa using q
   have k2:w2.cell? ⟨w.heap.size,2,none⟩=some (.pointer (some ae)):=by rw [cell_of (hm2.at hb1 _root_.id)];try rfl
   have k3:w2.cell? ⟨w.heap.size,3,none⟩=some vn:=by rw [cell_of (hm2.at hb1 _root_.id)];try rfl
   have up2:=hecs.up (mod0 hm02 (S:=S)) out_not (out_up (mod0 hm02));have k6:w2.cell? ⟨ae.block,ae.off+6,none⟩=some (.slice al e.alts.length cl):=up2.at (k:=6) (by simp);have hl2:=hl.up (mod0 hm02 (S:=S)) out_not (out_up (mod0 hm02)) (fun _ _ h=>h.up (mod0 hm02 (S:=S)) out_not (out_up (mod0 hm02)));obtain ⟨ad,c,vv,ec,e1,hcs,hvv,hbx,hec⟩:=alt_row hl2 q;obtain ⟨rfl,-,-⟩:=tup_inj e1;have hat:=chooseS_at (m:=m) (v:=nm) (x:=x) q;have p1:(0:Int)≤i∧(i:Int) < e.alts.length:=by omega
   have n0:w2.cell? (ad.add (i*11))=some (I e.alts[i].kind):=hcs.c0 (by simp);have n1:w2.cell? ⟨(ad.add (i*11)).block,(ad.add (i*11)).off+1,none⟩=some (.string e.alts[i].con):=hcs.at (k:=1) (by simp);have n2:w2.cell? ⟨(ad.add (i*11)).block,(ad.add (i*11)).off+2,none⟩=some (I e.alts[i].num):=hcs.at (k:=2) (by simp);have n3:w2.cell? ⟨(ad.add (i*11)).block,(ad.add (i*11)).off+3,none⟩=some vv:=hcs.at (k:=3) (by simp);have hone:=hn.one;have body:EPtr w2 (Out S w2) (.pointer (some ⟨(ad.add (i*11)).block,(ad.add (i*11)).off+4,none⟩)) e.alts[i].body:=⟨_,ec,rfl,hcs.part (fun j hj=>by rw [show 4+j=j+1+1+1+1 by omega];simp only [List.getElem?_cons_succ];exact List.getElem?_eq_getElem hj) (by decide),hbx⟩;have hR2:=h.keep hm02;have hn2:=hn.up (mod0 hm02 (S:=S)) out_not (out_up (mod0 hm02)) (fun _ _ h=>h);have here:chooseS m nm x (e.alts.drop i)=some (some (.go e.alts[i].body nm),m)→RetAt w w2.drew S r md mf bs X (.tuple #[.pointer (some ⟨(ad.add (i*11)).block,(ad.add (i*11)).off+4,none⟩),vn,.nilIface,.bool true]) res∧Mod S w w2.drew:=fun hc=>by
     rw [hc] at hres;cases hres;have d2:Mod (fun _=>False) w2 w2.drew:=(Mod.refl _ _).drew;exact ⟨⟨S,bs,hR2.keep d2,⟨fun _ h=>h,fun _ h=>.inl h⟩,fun _ _ h=>h,_,_,rfl,body.up (mod0 d2 (S:=S)) out_not (out_up (mod0 d2)),hn2.up (mod0 d2 (S:=S)) out_not (out_up (mod0 d2)) (fun _ _ h=>h)⟩,mod0 (hm02.trans d2)⟩
   (try simp only [go_sem,simprocAttr,b1,k2,k6]);(try simp only [go_sem,simprocAttr,zb4,zb6,p1,n0]);refine ir_then (fun ρ w'=>w2=w'∧ρ=[(0,ptr r),(4,ptr w.heap.size),(10,t10),(11,.bool (conOf x).isSome),(12,I (numOf x)),(15,.pointer (some (ad.add (i*11)))),(34,I e.alts.length),(35,I i),(45,.bool (e.alts[i].kind == 3||(e.alts[i].kind == 2&&(conOf x).isNone&&e.alts[i].num == numOf x)))]) ?_ ?_
   · cases h3:e.alts[i].kind == 3 with
     | true=>(try simp only [go_sem,simprocAttr,Bool.true_or])
     | false=>
       cases h2:e.alts[i].kind == 2 with
       | false=>(try simp only [go_sem,simprocAttr,n0,h2,Bool.false_or,Bool.false_and])
       | true=>
         cases hx:conOf x with
         | some k=>(try simp only [go_sem,simprocAttr,n0,h2,hx,Option.isSome_some,Option.isNone_some,Bool.false_or,Bool.and_false,Bool.false_and,Bool.not_true])
         | none=>(try simp only [go_sem,simprocAttr,n0,n2,h2,hx,Option.isSome_none,Option.isNone_none,Bool.false_or,Bool.not_false])
   rintro _ _ ⟨rfl,rfl⟩;cases hc:(e.alts[i].kind == 3||(e.alts[i].kind == 2&&(conOf x).isNone&&e.alts[i].num == numOf x)) with
   | true=>
     rw [if_pos hc] at hat;(try simp only [go_sem,simprocAttr,k3,rvs,RV.ev,one?]);exact here hat
   | false=>
     rw [if_neg (by rw [hc];simp)] at hat;have next:chooseS m nm x (e.alts.drop i)=chooseS m nm x (e.alts.drop (i+1))→∃ y:Nat,y < e.alts.length - i∧Mod (fun _=>False) w1 w2.drew∧∃ i':Nat,y=e.alts.length - i'∧i'≤e.alts.length∧chooseS m nm x (e.alts.drop i')=some res ∧
         [(0,ptr r),(4,ptr w.heap.size),(10,t10),(11,Value.bool (conOf x).isSome),(12,I (numOf x)),(34,I e.alts.length),(35,I (IntKind.i64.wrap ((i:Int)+1)))]=[(0,ptr r),(4,ptr w.heap.size),(10,t10),(11,.bool (conOf x).isSome),(12,I (numOf x)),(34,I e.alts.length),(35,I i')]:=fun hn=>by
       have e3:IntKind.i64.wrap ((i:Int)+1)=((i+1:Nat):Int):=by rw [wrap_in (by omega) (by omega)];omega
       exact ⟨_,by omega,hm2.drew,i+1,rfl,q,by rw [← hn];exact hres,by rw [e3]⟩
     (try simp only [go_sem,simprocAttr,n0]);cases h1:e.alts[i].kind == 1 with
     | false=>
       have hn:chooseS m nm x (e.alts.drop i)=chooseS m nm x (e.alts.drop (i+1)):=by
         rw [hat,h1];cases conOf x<;>rfl
       (try simp only [go_sem,simprocAttr]);exact next hn
     | true=>
       cases hx:conOf x with
       | none=>
         have hn:chooseS m nm x (e.alts.drop i)=chooseS m nm x (e.alts.drop (i+1)):=by rw [hat,hx]
         (try simp only [go_sem,simprocAttr,hx,Option.isSome_none]);have:=next hn;rw [hx] at this;exact this
       | some k=>
         obtain ⟨a,vs,rfl,hac,hfs⟩:=h10 k hx;have acu:=hac.up (mod0 hm02 (S:=S)) out_not (out_up (mod0 hm02));have a0:w2.cell? a=some (.string k.1):=acu.c0 (by simp);rw [hx] at hat;cases hs:strEq e.alts[i].con k.1 with
         | false=>
           have hn:chooseS m nm x (e.alts.drop i)=chooseS m nm x (e.alts.drop (i+1)):=by
             rw [hat];simp only [hs,Bool.and_false,Bool.false_eq_true,if_false]
           have hs':=hs;rw [strEq] at hs';(try simp only [go_sem,simprocAttr,hx,Option.isSome_some,n1,a0,hs']);have:=next hn;rw [hx] at this;exact this
         | true=>
           have hs':=hs;rw [strEq] at hs';obtain ⟨av,cv,rfl⟩:=each_sl hvv;have hlv:=each_len hvv;have hat:chooseS m nm x (e.alts.drop i)=(bindF e.alts[i].vars k.2 nm).map (fun v'=>(some (.go e.alts[i].body v'),m)):=by
             rw [hat];simp only [h1,hs,Bool.and_self,if_true]
           rw [hat] at hres;obtain ⟨nmF,hbF,rfl⟩:=Option.map_eq_some_iff.1 hres;have d2:Mod (fun _=>False) w2 w2.drew:=(Mod.refl _ _).drew;(try simp only [go_sem,simprocAttr,hx,Option.isSome_some,n1,n3,k3,a0,hs']);refine ir_loop (fun z' ρ w'=>Mod (fun _=>False) w2 w'∧∃ (j:Nat) (nm':Nms) (v':Value),z'=e.alts[i].vars.length - j∧j≤e.alts[i].vars.length∧NmAt w' (Out S w') bs nm' v'∧bindF (e.alts[i].vars.drop j) (k.2.drop j) nm'=some nmF ∧
             ρ=[(10,.pointer (some a)),(15,.pointer (some (ad.add (i*11)))),(16,v'),(98,.slice av e.alts[i].vars.length cv),(99,I e.alts[i].vars.length),(100,I j)]) e.alts[i].vars.length ⟨d2,0,nm,vn,by omega,by omega,hn2.up (mod0 d2 (S:=S)) out_not (out_up (mod0 d2)) (fun _ _ h=>h),hbF,rfl⟩ ?_
           rintro z'' _ w3 ⟨hm3,j,nm',v',rfl,hj,hn3,hbj,rfl⟩;have hm03:Mod (fun _=>False) w w3:=hm02.trans hm3;unfold ir74L1;by_cases qj:j < e.alts[i].vars.length
           · have b2:decide ((j:Int) < e.alts[i].vars.length)=true:=by simpa using qj
             rw [bindF_at qj] at hbj;have hjf:j < k.2.length:=by
               apply Classical.byContradiction;intro hn;rw [dif_neg hn] at hbj;cases hbj
             rw [dif_pos hjf] at hbj;have hv3:=hvv.up (mod0 hm3 (S:=S)) out_not (out_up (mod0 hm3)) (fun _ _ h=>h);have hf3:=hfs.up (mod0 hm03 (S:=S)) out_not (out_up (mod0 hm03)) (fun _ _ h=>h);have ac3:=hac.up (mod0 hm03 (S:=S)) out_not (out_up (mod0 hm03));obtain ⟨ad1,c1,e1,_,hcv⟩:=str_at hv3 qj;obtain ⟨rfl,-,-⟩:=tup_inj e1;obtain ⟨ad2,c2,r2,rfl,⟨b,rfl,hbb⟩,_,hcf⟩:=each_cells hf3 hjf;have f0:w3.cell? (ad2.add j)=some (ptr b):=by have:=hcf.c0 (by simp);rwa [Nat.mul_one] at this
             have a1:w3.cell? ⟨a.block,a.off+1,none⟩=some (.slice (some ad2) k.2.length c2):=ac3.at (k:=1) (by simp);have p2:(0:Int)≤j∧(j:Int) < e.alts[i].vars.length:=by omega
             have p3:(0:Int)≤j∧(j:Int) < k.2.length:=by omega
             have hone3:=hn3.one;(try simp only [go_sem,simprocAttr,b2]);(try simp only [go_sem,simprocAttr,zb4,zb6,p2,hcv,a1,p3,f0,hone3]);refine e_bx rfl ?_;intro w4 hb4 hm4 hs4;have e3:IntKind.i64.wrap ((j:Int)+1)=((j+1:Nat):Int):=by rw [wrap_in (by omega) (by omega)];omega
             (try simp only [go_sem,simprocAttr,e3]);refine ⟨_,by omega,hm3.trans hm4,j+1,_,_,rfl,qj,?_,hbj,rfl⟩;refine ⟨_,b,v',rfl,hbb,nd_new (cs:=[.string e.alts[i].vars[j],ptr b,v']) hb4 (fun hx=>by have:=hh.lt _ hx;have:=hm03.size;omega),hn3.up (mod0 hm4 (S:=S)) out_not (out_up (mod0 hm4)) (fun _ _ h=>h)⟩
           · have b2:decide ((j:Int) < e.alts[i].vars.length)=false:=by simpa using qj
             rw [List.drop_eq_nil_of_le (by omega),bindF] at hbj;cases hbj;(try simp only [go_sem,simprocAttr,b2,rvs,RV.ev,one?]);have up3:=body.up (mod0 hm3 (S:=S)) out_not (out_up (mod0 hm3));exact ⟨⟨S,bs,h.keep hm03,⟨fun _ h=>h,fun _ h=>.inl h⟩,fun _ _ h=>h,_,_,rfl,up3,hn3⟩,mod0 hm03⟩
 · have b1:decide ((i:Int) < e.alts.length)=false:=by simpa using q
   rw [List.drop_eq_nil_of_le (by omega),chooseS] at hres;cases hres;(try simp only [go_sem,simprocAttr,b1]);refine e_call (by rfl) ?_;refine (f_stuck (h.keep hm02)).mono ?_;rintro _ w3 ⟨hR,hm3⟩;(try simp only [go_sem,simprocAttr,rvs,RV.ev,one?]);have hmm:Mod S w w3:=(mod0 hm02).trans (hm3.weak Sr);exact ⟨⟨S,bs,hR,⟨fun _ h=>h,fun _ h=>.inl h⟩,fun _ _ h=>h,rfl⟩,hmm⟩
end
section
open Go Go.W
theorem MdAt.tup {w:World} {B:Nat→Prop} {bs:List Nat} {v:Value} {x:Option Md} (h:MdAt w B bs v x):∃ a b c d,v = .tuple #[a,b,c,d]:=by
 match x,h with
 | some (.go e nm),⟨ve,vn,e1,_⟩=>exact ⟨_,_,_,_,e1⟩
 | some (.val x),⟨u,e1,_⟩=>exact ⟨_,_,_,_,e1⟩
 | none,e1=>exact ⟨_,_,_,_,e1⟩
theorem RetAt.tup {w w':World} {S:Nat→Prop} {r md mf:Nat} {bs:List Nat} {X:Cx} {v:Value} {x:R3} (h:RetAt w w' S r md mf bs X v x):∃ a b c d,v = .tuple #[a,b,c,d]:=by
 obtain ⟨S',bs',_,_,_,h⟩:=h;exact h.tup
theorem e_lkP {P:Program} {w:World} {ρ:Go.W.Env} {K:Value→World→Prop} {α:Type} {R:Value→α→Prop} {l:List (ByteArray×α)} {a:α} {t kt et:TypeId} {m x:Operand} {b:Nat} {k:ByteArray} {z:Value} {d:Option Nat} {ty:TypeId} {pos:String} {af:Array Edge} (hm:(toO m).ev ρ=some (.map (some b))) (hx:(toO x).ev ρ=some (.string k)) (ht:P.underlying t=some (.map kt et)) (hkt:P.underlying kt=some .string)
   (hz:(zeroValue et).run P w = .ok z w) (h:MapR w b R l) (ha:aget l k=some a) (hk:∀ v,R v a→K v w):Go.W.E.wp P w ρ K (.raw ⟨d,.lookup t m x false,ty,pos,af,none⟩):=by
 obtain ⟨lv,hv,hp⟩:=h;refine e_l1V hm hx ht hkt hz hv ?_;rcases hp.get k with ⟨e1,e2⟩ | ⟨v,a',e1,e2,hr⟩
 · rw [ha] at e2;cases e2
 · rw [ha] at e2;cases e2;rw [e1];exact hk _ hr
section
variable {w w':World} {S S':Nat→Prop} {r md mf:Nat} {bs:List Nat} {X:Cx} {m:Rn} {x:Option Md} {v:Value}
theorem ret_keep (h:RnAt w S r md mf bs X m) (hm:Mod (fun _=>False) w w') (hmd:MdAt w' (Out S w') bs v x):RetAt w w' S r md mf bs X v (x,m)∧Mod S w w':=
 ⟨⟨S,bs,h.keep hm,⟨fun _ h=>h,fun _ h=>.inl h⟩,fun _ _ h=>h,hmd⟩,mod0 hm⟩
theorem ret_grew (h:RnAt w' S' r md mf bs X m) (hg:Grew S S' w) (hm:Mod S w w') (hmd:MdAt w' (Out S' w') bs v x):RetAt w w' S r md mf bs X v (x,m)∧Mod S w w':=
 ⟨⟨S',bs,h,hg,fun _ _ h=>h,hmd⟩,hm⟩
theorem grew_refl:Grew S S w:=⟨fun _ h=>h,fun _ h=>.inl h⟩
end
theorem arg_ptr {w:World} {B:Nat→Prop} {v:Value} {l:List Ex} (h:EachAt w v 7 B (ExAt w B) l) {i:Nat} (hi:i < l.length):∃ ad c,v = .slice (some ad) l.length c∧EPtr w B (.pointer (some (ad.add (i*7)))) l[i]:=by
 obtain ⟨ad,c,r,e,hx,_,hcs⟩:=each_cells h hi;exact ⟨ad,c,e,_,r,rfl,hcs,hx⟩
theorem bind_ptr {w:World} {B:Nat→Prop} {v:Value} {l:List Bd} (h:EachAt w v 11 B (BdAt w B) l) {i:Nat} (hi:i < l.length):∃ ad c,v = .slice (some ad) l.length c∧w.cell? (ad.add (i*11))=some (.string l[i].name)∧(ad.add (i*11)).block < w.heap.size∧EPtr w B (.pointer (some ⟨(ad.add (i*11)).block,(ad.add (i*11)).off+4,none⟩)) l[i].value:=by
 obtain ⟨ad,c,r,e,⟨tc,ec,rfl,hrt,hre,_⟩,_,hcs⟩:=each_cells h hi;have k0:=hcs.c0 (by simp);refine ⟨ad,c,e,k0,cell_lt k0,_,ec,rfl,hcs.part (fun j hj=>?_) (by decide),hre⟩;have hl:=hrt.len;rw [show 4+j=(j+3)+1 by omega,List.getElem?_cons_succ,List.getElem?_append_right (by omega),hl,Nat.add_sub_cancel];exact List.getElem?_eq_getElem hj
def Ch (w:World) (B:Nat→Prop) (bs:List Nat) (lo:Nat) (vn:Value) (l:List Bd) (n:Nat):Nat→Value→Prop
 | 0,v=>v=vn
 | k+1,v=>∃ a b nx s,v = .pointer (some a)∧lo≤a.block∧NdAt w B a [.string s,ptr b,nx]∧bs[n+k]? = some b∧l[k]?.map Bd.name=some s∧Ch w B bs lo vn l n k nx
theorem Ch.up {w w':World} {B B' S:Nat→Prop} {bs bs':List Nat} {lo:Nat} {vn:Value} {l:List Bd} {n:Nat}:∀ {k:Nat} {v:Value},Ch w B bs lo vn l n k v→Mod S w w'→(∀ b,B b→¬ S b)→(∀ b,B b→B' b)→(∀ (c b:Nat),bs[c]? = some b→bs'[c]? = some b)→Ch w' B' bs' lo vn l n k v
 | 0,v,h,_,_,_,_=>h
 | k+1,v,h,hm,hd,hB,hb=>by
   obtain ⟨a,b,nx,s,e,h0,h1,h2,h3,h4⟩:=h;exact ⟨a,b,nx,s,e,h0,h1.up hm hd hB,hb _ _ h2,h3,Ch.up h4 hm hd hB hb⟩
theorem letN_snoc:∀ (l:List Bd) (b:Bd) (i:Nat) (v:Nms),letN (l++[b]) i v=(b.name,i+l.length)::letN l i v
 | [],b,i,v=>rfl
 | c::l,b,i,v=>by
   rw [List.cons_append,letN,letN_snoc l b (i+1),letN];simp only [List.length_cons];rw [show i+1+l.length=i+(l.length+1) by omega]
theorem Ch.nm {w:World} {B:Nat→Prop} {bs:List Nat} {lo:Nat} {vn:Value} {l:List Bd} {n:Nat} {nm:Nms} (hn:NmAt w B bs nm vn):∀ {k:Nat} {v:Value},Ch w B bs lo vn l n k v→k≤l.length→NmAt w B bs (letN (l.take k) n nm) v
 | 0,v,h,_=>by
   have h:v=vn:=h;rw [h];exact hn
 | k+1,v,h,hk=>by
   obtain ⟨a,b,nx,s,e,h0,h1,h2,h3,h4⟩:=h;have hlt:k < l.length:=by omega
   have e1:l[k].name=s:=by
     rw [List.getElem?_eq_getElem hlt] at h3
     simpa using h3
   rw [List.take_succ_eq_append_getElem hlt,letN_snoc,List.length_take,Nat.min_eq_left (by omega),e1];exact ⟨a,b,nx,e,h2,h1,Ch.nm hn h4 (by omega)⟩
def Rn.emps (m:Rn) (k:Nat) (l:List Cl):Rn:={ m with cells:=m.cells++(List.replicate k .emp++l)}
theorem emps_zero (m:Rn):m.emps 0 []=m:=by unfold Rn.emps;simp
theorem emps_new (m:Rn) (k:Nat):(m.emps k []).new .emp=m.emps (k+1) []:=by
 unfold Rn.emps Rn.new;simp [List.replicate_succ']
theorem emps_put (m:Rn) (k:Nat) (l:List Cl) (x:Cl):(m.emps (k+1) l).put (m.cells.length+k) x=m.emps k (x::l):=by
 unfold Rn.emps Rn.put;simp [List.replicate_succ',List.set_append]
theorem e_neP {P:Program} {w:World} {ρ:Go.W.Env} {K:Value→World→Prop} {t te:TypeId} {j:TypeInfo} {x y:Operand} {u v:Option Addr} {d:Option Nat} {ty:TypeId} {pos:String} {c:TypeId} {af:Array Edge} (hx:(toO x).ev ρ=some (.pointer u)) (hy:(toO y).ev ρ=some (.pointer v)) (hp:P.underlying t=some (.pointer te)) (hj:P.info? te=some j) (hsz:j.size≠0)
   (hu:∀ a,u=some a→Pl w a.block) (hv:∀ a,v=some a→Pl w a.block) {q:Bool} (hq:(!decide (u=v))=q) (hk:K (.bool q) w):Go.W.E.wp P w ρ K (.raw ⟨d,.binOp .neq t x y c,ty,pos,af,none⟩):=by
 have he:(Op.equal t (.pointer u) (.pointer v)).run P w = .ok (decide (u=v)) w:=by
   unfold Op.equal Op.maxDepth Op.equalIn;cases u with
   | none=>cases v<;>simp [run_underlying hp]
   | some a=>
     cases v with
     | none=>simp [run_underlying hp]
     | some b=>
       by_cases hab:a=b
       · subst hab;simp [run_underlying hp,sizeOf,typeInfo,hj,hsz,run_sameAddr_same]
       · obtain ⟨ca,ta,ha⟩:=hu a rfl;obtain ⟨cb,tb,hb⟩:=hv b rfl;simp [run_underlying hp,sizeOf,typeInfo,hj,hsz,run_sameAddr_other w hab ha hb,hab]
 rw [← hq] at hk;refine opWp_of_run fun act ha=>⟨_,w,?_,hk⟩
 simp only [execOp,ha x _ hx,ha y _ hy];have hg:(eqGuard .neq t x y (.pointer u) (.pointer v)).run P w = .ok () w:=rfl;simp only [Sem.run_bind,hg,Result.andThen_ok];simp only [binOp,Sem.run_bind,he,Result.andThen_ok,Sem.run_pure]
theorem NmAt.ptr {w:World} {B:Nat→Prop} {bs:List Nat} {nm:Nms} {v:Value} (h:NmAt w B bs nm v):∃ u,v = .pointer u∧∀ a,u=some a→Pl w a.block∧B a.block:=by
 cases nm with
 | nil=>cases h;exact ⟨none,rfl,fun a e=>by cases e⟩
 | cons p l=>obtain ⟨a,b,nx,rfl,_,h,_⟩:=h;exact ⟨some a,rfl,fun a e=>by cases e;exact ⟨h.2,h.1.1⟩⟩
theorem f_beginR {w:World} {S:Nat→Prop} {r md mf:Nat} {bs:List Nat} {X:Cx} {m:Rn} {e:Ex} {nm:Nms} {ve vn:Value} {res:R3} (h:RnAt w S r md mf bs X m) (he:EPtr w (Out S w) ve e) (hn:NmAt w (Out S w) bs nm vn) (hlen:m.frames.length≤2097152) (hres:beginS X e nm m=some res) :
   CallsR Tryz.prog 49 [ptr r,ve,vn] w fun v w'=>RetAt w w' S r md mf bs X v res∧Mod S w w':=by
 have he0:=he;obtain ⟨ae,ecs,rfl,hecs,hex⟩:=he;obtain ⟨vt,va,vb,vl,rfl,ht,ha,hb,hl⟩:=hex.parts;obtain ⟨aa,ca,rfl⟩:=each_sl ha;obtain ⟨ab,cb,rfl⟩:=each_sl hb;have hlb:=each_len hb;have hS:=h;obtain ⟨_,_,_,_,_,_,hh⟩:=hS;have Sr:∀ y,y=r→S y:=fun y hy=>by rw [hy];exact hh.inS _ (by simp)
 have k0:w.cell? ae=some (I e.kind):=hecs.c0 (by simp);have k1:w.cell? ⟨ae.block,ae.off+1,none⟩=some (.string e.name):=hecs.at (k:=1) (by simp);have k2:w.cell? ⟨ae.block,ae.off+2,none⟩=some (I e.num):=hecs.at (k:=2) (by simp);have k4:w.cell? ⟨ae.block,ae.off+4,none⟩=some (.slice aa e.args.length ca):=hecs.at (k:=4) (by simp);have k5:w.cell? ⟨ae.block,ae.off+5,none⟩=some (.slice ab e.binds.length cb):=hecs.at (k:=5) (by simp);have hone:=hn.one;have d2:Mod (fun _=>False) w w.drew:=(Mod.refl _ _).drew;have up:∀ {w':World} {S':Nat→Prop},Mod S w w'→Grew S S' w→CellsAt w' (Out S' w') ae [I e.kind,.string e.name,I e.num,vt,.slice aa e.args.length ca,.slice ab e.binds.length cb,vl]∧ExAt w' (Out S' w') [I e.kind,.string e.name,I e.num,vt,.slice aa e.args.length ca,.slice ab e.binds.length cb,vl] e∧NmAt w' (Out S' w') bs nm vn:=fun hm hg=>by
   have hout:=grew_out hg hm.size;exact ⟨hecs.up hm out_not hout,hex.up hm out_not hout,hn.up hm out_not hout (fun _ _ h=>h)⟩
 refine fit49.calls rfl ?_;unfold ir49;unfold beginS at hres;(try simp only [go_sem,simprocAttr,k0]);cases h1:e.kind == 1 with
 | true=>
   rw [if_pos (by simpa using h1)] at hres;obtain ⟨c,hc,rfl⟩:=Option.map_eq_some_iff.1 hres;(try simp only [go_sem,simprocAttr,k1]);refine e_call (by rfl) ?_;refine (f_find nm hn hc).mono ?_;rintro _ _ ⟨⟨b,rfl,hbb⟩,rfl⟩;(try simp only [go_sem,simprocAttr]);refine e_call (by rfl) ?_;refine (f_enterR h hbb hlen).mono ?_;rintro v w' hR;obtain ⟨_,_,_,_,rfl⟩:=hR.1.tup;(try simp only [go_sem,simprocAttr,rvs,RV.ev,one?]);exact hR
 | false=>
 rw [if_neg (by simpa using h1)] at hres;(try simp only [go_sem,simprocAttr]);cases h3:e.kind == 3 with
 | true=>
   rw [if_pos (by simpa using h3)] at hres;obtain ⟨c,hc,rfl⟩:=Option.map_eq_some_iff.1 hres;(try simp only [go_sem,simprocAttr,k1,cell_of hh.box]);refine e_lkP (R:=RCell bs) (l:=X.defs) (b:=md) (kt:=9) (et:=82) rfl rfl rfl rfl (Tryz.zeroValue82 _) hh.defs hc ?_;rintro _ ⟨b,rfl,hbb⟩;(try simp only [go_sem,simprocAttr]);refine e_call (by rfl) ?_;refine (f_enterR (h.keep d2) hbb hlen).mono ?_;rintro v w' hR;obtain ⟨_,_,_,_,rfl⟩:=hR.1.tup;(try simp only [go_sem,simprocAttr,rvs,RV.ev,one?]);refine ⟨?_,(mod0 d2).trans hR.2⟩;obtain ⟨S',bs',q1,q2,q3⟩:=hR.1;exact ⟨S',bs',q1,q2,q3⟩
 | false=>
 rw [if_neg (by simpa using h3)] at hres;(try simp only [go_sem,simprocAttr]);cases h2:e.kind == 2 with
 | true=>
   rw [if_pos (by simpa using h2)] at hres;cases hres;(try simp only [go_sem,simprocAttr,k2,rvs,RV.ev,one?]);exact ret_keep h d2 ⟨_,rfl,rfl,rfl⟩
 | false=>
 rw [if_neg (by simpa using h2)] at hres;(try simp only [go_sem,simprocAttr]);cases h4:e.kind == 4 with
 | true=>
   rw [if_pos (by simpa using h4)] at hres;cases hres;(try simp only [go_sem,simprocAttr,k1,cell_of hh.box]);refine e_lkI (b:=mf) (kt:=9) (et:=3) rfl rfl rfl rfl (zI _) hh.fields ?_;(try simp only [go_sem,simprocAttr]);refine e_call (by rfl) ?_;refine (f_grown (w:=w.drew) (S:=S) (bs:=bs) (hv:=[]) (n:=e.name) (lacks:=(aget X.fields e.name).getD 0) (fun y hy=>hh.lt y hy) (each_nil _ _ _ _)).mono ?_;rintro v w' ⟨hcl,hvv,hm⟩;(try simp only [go_sem,simprocAttr,rvs,RV.ev,one?]);exact ret_keep h (d2.trans hm) ⟨_,rfl,hcl,hvv⟩
 | false=>
 rw [if_neg (by simpa using h4)] at hres;(try simp only [go_sem,simprocAttr]);cases h6:e.kind == 6 with
 | true=>
   rw [if_pos (by simpa using h6)] at hres;cases hres;(try simp only [go_sem,simprocAttr,hone]);refine e_bx rfl ?_;intro w1 hb1 hm1 hs1;(try simp only [go_sem,simprocAttr,rvs,RV.ev,one?]);exact ret_keep h hm1 ⟨_,rfl,⟨_,_,_,rfl,cells_new (cs:=[.pointer (some ae),vn]) hb1 (fun hx=>by have:=hh.lt _ hx;omega),he0.up (mod0 hm1) out_not (out_up (mod0 hm1)),hn.up (mod0 hm1) out_not (out_up (mod0 hm1)) (fun _ _ h=>h)⟩,rfl⟩
 | false=>
 rw [if_neg (by simpa using h6)] at hres;(try simp only [go_sem,simprocAttr]);cases h12:e.kind == 12 with
 | true=>
   rw [if_pos (by simpa using h12)] at hres;cases hres;(try simp only [go_sem,simprocAttr,k2]);refine e_call (by rfl) ?_;refine (f_stuck h).mono ?_;rintro _ w1 ⟨hR,hm1⟩;(try simp only [go_sem,simprocAttr,rvs,RV.ev,one?]);exact ret_grew hR grew_refl (hm1.weak Sr) rfl
 | false=>
 rw [if_neg (by simpa using h12)] at hres;(try simp only [go_sem,simprocAttr]);cases h7:e.kind == 7 with
 | true=>
   rw [if_pos (by simpa using h7)] at hres;cases hargs:e.args with
   | nil=>rw [hargs] at hres;cases hres
   | cons y yl=>
   rw [hargs] at hres;cases hres;(try simp only [go_sem,simprocAttr,k5]);have ltn:∀ {a:Addr},vn = .pointer (some a)→a.block < w.heap.size:=fun {a} e=>by
     cases nm with
     | nil=>cases hn;cases e
     | cons p l=>obtain ⟨_,_,_,rfl,_,h,_⟩:=hn;cases e;exact h.1.1.1
   refine ir_loop (fun z' ρ w'=>Mod (fun _=>False) w w'∧∃ (j:Nat) (S':Nat→Prop) (bs':List Nat) (v':Value),z'=e.binds.length - j∧j≤e.binds.length∧RnAt w' S' r md mf bs' X (m.emps j [])∧Grew S S' w∧(∀ (c b:Nat),bs[c]? = some b→bs'[c]? = some b)∧Ch w' (Out S' w') bs' w.heap.size vn e.binds m.cells.length j v' ∧
     ρ=[(1,.pointer (some ae)),(2,v'),(10,vn),(94,I e.binds.length),(95,I j)]) e.binds.length ⟨.refl _ _,0,S,bs,vn,by omega,by omega,(by rw [emps_zero];exact h),grew_refl,fun _ _ h=>h,rfl,rfl⟩ ?_
   rintro z' _ w1 ⟨hm1,j,S1,bs1,v1,rfl,hj,hR1,hg1,hbs1,hch1,rfl⟩;unfold ir49L1;have hout1:=grew_out hg1 hm1.size;have ecs1:=hecs.up (mod0 hm1 (S:=S)) out_not hout1;have ex1:=hex.up (mod0 hm1 (S:=S)) out_not hout1;have hn1:NmAt w1 (Out S1 w1) bs1 nm vn:=hn.up (mod0 hm1 (S:=S)) out_not hout1 hbs1;have k5':w1.cell? ⟨ae.block,ae.off+5,none⟩=some (.slice ab e.binds.length cb):=ecs1.at (k:=5) (by simp);have k4':w1.cell? ⟨ae.block,ae.off+4,none⟩=some (.slice aa e.args.length ca):=ecs1.at (k:=4) (by simp);have ub:EachAt w1 (.slice ab e.binds.length cb) 11 (Out S1 w1) (BdAt w1 (Out S1 w1)) e.binds:=hb.up (mod0 hm1 (S:=S)) out_not hout1 (fun _ _ h=>h.up (mod0 hm1 (S:=S)) out_not hout1);have hone1:=(Ch.nm hn1 hch1 hj).one;by_cases q:j < e.binds.length
   · have b1:decide ((j:Int) < e.binds.length)=true:=by simpa using q
     have p1:(0:Int)≤j∧(j:Int) < e.binds.length:=by omega
     obtain ⟨ad,c,e6,hbn,hbl,hp⟩:=bind_ptr ub q;obtain ⟨rfl,-,-⟩:=tup_inj e6;have e3:IntKind.i64.wrap ((j:Int)+1)=((j+1:Nat):Int):=by rw [wrap_in (by omega) (by omega)];omega
     (try simp only [go_sem,simprocAttr,b1]);(try simp only [go_sem,simprocAttr,zb4,zb6,k5',p1,hbn]);refine e_bx rfl ?_;intro w2 hb2 hm2 hs2;(try simp only [go_sem,simprocAttr,hone1]);refine e_bx rfl ?_;intro w3 hb3 hm3 hs3;(try simp only [go_sem,simprocAttr,e3]);have hR2:=hR1.new (x:=.emp) hm2 hb2 (Nat.le_refl _) rfl;rw [emps_new] at hR2;have hm23:=hm2.trans hm3;have hg3:Grew S (And1 S1 w1.heap.size) w:=⟨fun b hb=>.inl (hg1.1 b hb),fun b hb=>by
       rcases hb with h | h
       · exact hg1.2 b h
       · right;have:=hm1.size;omega⟩
     refine ⟨_,by omega,hm1.trans hm23,j+1,_,_,_,rfl,q,hR2.keep hm3,hg3,fun c b hc=>app_get _ _ (hbs1 c b hc),?_,rfl⟩;have lenb:bs1.length=m.cells.length+j:=by
       obtain ⟨_,_,_,_,_,_,hx⟩:=hR1;rw [hx.len];simp [Rn.emps]
     have hout3:∀ b,Out S1 w1 b→Out (And1 S1 w1.heap.size) w3 b:=out_ext (mod0 hm23) (and1_new (Nat.le_refl _));refine ⟨_,w1.heap.size,v1,e.binds[j].name,rfl,?_,nd_new (cs:=[.string e.binds[j].name,ptr w1.heap.size,v1]) hb3 ?_,?_,?_,hch1.up (mod0 hm23 (S:=S1)) out_not hout3 app_get⟩
     · have:=hm1.size;have:=hm2.size;show w.heap.size≤w2.heap.size;omega
     · rintro (hx | hx)
       · obtain ⟨_,_,_,_,_,_,hx'⟩:=hR1;have:=hx'.lt _ hx;omega
       · omega
     · rw [List.getElem?_append_right (by omega),lenb];simp
     · rw [List.getElem?_eq_getElem q];try rfl
   · have b1:decide ((j:Int) < e.binds.length)=false:=by simpa using q
     have hj2:j=e.binds.length:=by omega
     subst hj2;have lb:IntKind.i64.wrap ((e.binds.length:Int) - 1)=(e.binds.length:Int) - 1:=wrap_in (by omega) (by omega);(try simp only [go_sem,simprocAttr,b1,k5',lb]);have hnF:NmAt w1 (Out S1 w1) bs1 (letN e.binds m.cells.length nm) v1:=by
       have:=Ch.nm hn1 hch1 (Nat.le_refl _)
       rwa [List.take_length] at this
     refine ir_loop (fun z' ρ w'=>Mod S1 w1 w'∧∃ vk:Value,z'≤e.binds.length∧RnAt w' S1 r md mf bs1 X (m.emps z' ((e.binds.drop z').map (fun b=>Cl.wait b.value (letN e.binds m.cells.length nm))))∧Ch w' (Out S1 w') bs1 w.heap.size vn e.binds m.cells.length z' vk ∧
       ρ=[(1,.pointer (some ae)),(2,v1),(10,vn),(12,vk),(13,I ((z':Int) - 1))]) e.binds.length ⟨.refl _ _,v1,Nat.le_refl _,by rw [List.drop_length];exact hR1,hch1,rfl⟩ ?_
     rintro k _ w2 ⟨hm2,vk,hk,hR2,hch2,rfl⟩;unfold ir49L2;have ecs2:=ecs1.up hm2 out_not (out_up hm2);have ex2:=ex1.up hm2 out_not (out_up hm2);have hnF2:=hnF.up hm2 out_not (out_up hm2) (fun _ _ h=>h);have k5':w2.cell? ⟨ae.block,ae.off+5,none⟩=some (.slice ab e.binds.length cb):=ecs2.at (k:=5) (by simp);have k4':w2.cell? ⟨ae.block,ae.off+4,none⟩=some (.slice aa e.args.length ca):=ecs2.at (k:=4) (by simp);have ub:EachAt w2 (.slice ab e.binds.length cb) 11 (Out S1 w2) (BdAt w2 (Out S1 w2)) e.binds:=hb.up ((mod0 hm1).trans hm2) (fun b hb=>out_not b (hout1 b hb)) (fun b hb=>out_up hm2 b (hout1 b hb)) (fun _ _ h=>h.up ((mod0 hm1).trans hm2) (fun b hb=>out_not b (hout1 b hb)) (fun b hb=>out_up hm2 b (hout1 b hb)));have ua:EachAt w2 (.slice aa e.args.length ca) 7 (Out S1 w2) (ExAt w2 (Out S1 w2)) e.args:=ha.up ((mod0 hm1).trans hm2) (fun b hb=>out_not b (hout1 b hb)) (fun b hb=>out_up hm2 b (hout1 b hb)) (fun _ _ h=>h.up ((mod0 hm1).trans hm2) (fun b hb=>out_not b (hout1 b hb)) (fun b hb=>out_up hm2 b (hout1 b hb)));obtain ⟨u0,hu0,hpl0⟩:=(hn.up ((mod0 hm1).trans hm2) (fun b hb=>out_not b (hout1 b hb)) (fun b hb=>out_up hm2 b (hout1 b hb)) hbs1).ptr;subst hu0
     match k,vk,hch2,hk,hR2 with
     | 0,vk,hch2,hk,hR2=>
       have hch2:vk = .pointer u0:=hch2;subst hch2;(try simp only [go_sem,simprocAttr]);refine e_neP (te:=141) rfl rfl rfl rfl (by decide) (fun a e=>(hpl0 a e).1) (fun a e=>(hpl0 a e).1) (q:=false) (by simp) ?_;have la:0 < e.args.length:=by rw [hargs];simp
       have ha0:e.args[0]=y:=by simp [hargs]
       have b2:(0:Int)≤0∧(0:Int) < e.args.length:=by omega
       obtain ⟨ad,c,e6,hp⟩:=arg_ptr ua la;obtain ⟨rfl,-,-⟩:=tup_inj e6;rw [ha0,Nat.zero_mul,add_zero'] at hp;(try simp only [go_sem,simprocAttr]);(try simp only [go_sem,simprocAttr,zb4,zb6,k4',b2,Nat.zero_mul,add_zero',rvs,RV.ev,one?]);have hm02:Mod S w w2:=(mod0 hm1).step hm2 (fun b hb hl=>by
         rcases hg1.2 b hb with h | h
         · exact h
         · omega)
       exact ⟨⟨S1,bs1,hR2,hg1,hbs1,_,_,rfl,hp,hnF2⟩,hm02⟩
     | k+1,vk,hch2,hk,hR2=>
       obtain ⟨a,b,nx,s,rfl,h0,hcs,hbb,hs,hch2⟩:=hch2;(try simp only [go_sem,simprocAttr]);refine e_neP (te:=141) rfl rfl rfl rfl (by decide) (fun a e=>by cases e;exact hcs.2) (fun a e=>(hpl0 a e).1) (q:=true) (by
         have:some a≠u0:=fun e=>by
           have:=ltn (a:=a) (by rw [e]);omega
         simp [this]) ?_
       (try simp only [go_sem,simprocAttr]);have e2:((k+1:Nat):Int) - 1=(k:Int):=by omega
       have e3:IntKind.i64.wrap ((k:Int) - 1)=(k:Int) - 1:=wrap_in (by omega) (by omega);have q:k < e.binds.length:=by omega
       have p1:(0:Int)≤k∧(k:Int) < e.binds.length:=by omega
       obtain ⟨ad,c,e6,hbn,hbl,hp⟩:=bind_ptr ub q;obtain ⟨rfl,-,-⟩:=tup_inj e6;have a1:w2.cell? ⟨a.block,a.off+1,none⟩=some (ptr b):=hcs.at (k:=1) (by simp);have hone2:=hnF2.one;(try simp only [go_sem,simprocAttr,e2]);(try simp only [go_sem,simprocAttr,zb4,zb6,a1,k5',p1,hone2]);refine e_bx rfl ?_;intro w3 hb3 hm3 hs3;have hm3:Mod (fun _=>False) w2 w3:=hm3.of_drew;obtain ⟨_,_,_,_,_,_,hx2⟩:=hR2.keep hm3;have hbb1:bs1[m.cells.length+k]? = some b:=hbb;have hget:(m.emps (k+1) ((e.binds.drop (k+1)).map (fun b=>Cl.wait b.value (letN e.binds m.cells.length nm)))).cells[m.cells.length+k]? = some .emp:=by
         unfold Rn.emps;rw [List.getElem?_append_right (by omega),List.getElem?_append_left (by simp),show m.cells.length+k - m.cells.length=k by omega,List.getElem?_replicate,if_pos (by omega)]
       obtain ⟨v0,hb0,_⟩:=hx2.cell _ b _ hbb1 hget;have lta:=cell_lt a1;refine ⟨hm3.old _ lta _root_.id,?_⟩;(try simp only [go_sem,simprocAttr]);refine e_st1 (b:=b) (off:=0) (v:=.iface 105 (ptr w2.heap.size)) rfl rfl hb0 rfl (by simp) ?_;intro w4 hb4 hm4 hs4;have Sb:∀ y,y=b→S1 y:=fun y hy=>by rw [hy];exact hx2.inS _ (by simp [List.mem_of_getElem? hbb1])
       have hm24:Mod S1 w2 w4:=(mod0 hm3).trans (hm4.weak Sb);have a2:w4.cell? ⟨a.block,a.off+2,none⟩=some nx:=(hcs.up hm24 out_not (out_up hm24)).at (k:=2) (by simp);have up3:∀ {x:Cl} {v:Value},ClAt w3 (Out S1 w3) bs1 x v→ClAt w4 (Out S1 w4) bs1 x v:=fun h=>h.up (hm4.weak Sb) out_not (out_up (hm4.weak Sb)) (fun _ _ h=>h)
       have hR4:=hx2.put (x:=.wait e.binds[k].value (letN e.binds m.cells.length nm)) (v:=.iface 105 (ptr w2.heap.size)) hbb1 hm4 hb4 ⟨_,_,_,rfl,cells_new (cs:=[.pointer (some ⟨(ad.add (k*11)).block,(ad.add (k*11)).off+4,none⟩),v1]) hb3 (fun hx=>by
         have:=hx2.lt _ hx;have hl:∀ b,S1 b→b < w2.heap.size:=by obtain ⟨_,_,_,_,_,_,hx'⟩:=hR2;exact hx'.lt
         have:=hl _ hx;omega),hp.up (mod0 hm3 (S:=S1)) out_not (out_up (mod0 hm3)),hnF2.up (mod0 hm3 (S:=S1)) out_not (out_up (mod0 hm3)) (fun _ _ h=>h)⟩
       rw [emps_put] at hR4;have e5:e.binds.drop k=e.binds[k]::e.binds.drop (k+1):=List.drop_eq_getElem_cons q;(try simp only [go_sem,simprocAttr,a2,e3]);refine ⟨k,Nat.lt_succ_self k,hm2.trans hm24,nx,by omega,?_,hch2.up hm24 out_not (out_up hm24) (fun _ _ h=>h),rfl⟩;rw [e5,List.map_cons];exact ⟨_,_,_,_,_,_,hR4⟩
 | false=>
 rw [if_neg (by simpa using h7)] at hres;(try simp only [go_sem,simprocAttr]);cases h11:e.kind == 11 with
 | true=>
   rw [if_pos (by simpa using h11)] at hres;(try simp only [go_sem,simprocAttr,hone]);cases hbinds:e.binds with
   | nil=>rw [hbinds] at hres;cases hres
   | cons b bl=>
   rw [hbinds] at hres;cases hres;refine e_call (by rfl) ?_;refine (f_push (f:=.hard e nm) h ⟨_,_,rfl,he0,hn⟩ hlen).mono ?_;rintro _ w1 ⟨⟨S',hR,hg⟩,hm1⟩;obtain ⟨u1,u2,u3⟩:=up hm1 hg;obtain ⟨vt',va',vb',vl',e1,_,_,ub,_⟩:=u2.parts;have e5:vb' = .slice ab e.binds.length cb:=by
     have:=congrArg (fun l=>l[5]?) e1
     simpa using this.symm
   subst e5;have lb:0 < e.binds.length:=by rw [hbinds];simp
   obtain ⟨ad,c,e6,_,_,hp⟩:=bind_ptr ub lb;obtain ⟨rfl,-,-⟩:=tup_inj e6;have k5':w1.cell? ⟨ae.block,ae.off+5,none⟩=some (.slice (some ad) e.binds.length cb):=u1.at (k:=5) (by simp);have b2:(0:Int)≤0∧(0:Int) < e.binds.length:=by omega
   have hb0:e.binds[0]=b:=by simp [hbinds]
   rw [hb0,Nat.zero_mul,add_zero'] at hp;(try simp only [go_sem,simprocAttr,zb4,zb6,k5',b2,Nat.zero_mul,add_zero',rvs,RV.ev,one?]);exact ret_grew hR hg hm1 ⟨_,_,rfl,hp,u3⟩
 | false=>
 rw [if_neg (by simpa using h11)] at hres;cases hargs:e.args with
 | nil=>rw [hargs] at hres;cases hres
 | cons y yl=>
 rw [hargs] at hres;have la:0 < e.args.length:=by rw [hargs];simp
 have ha0:e.args[0]=y:=by simp [hargs]
 have b2:(0:Int)≤0∧(0:Int) < e.args.length:=by omega
 have fst:∀ {w':World} {S':Nat→Prop},Mod S w w'→Grew S S' w→∃ ad,aa=some ad∧w'.cell? ⟨ae.block,ae.off+4,none⟩=some (.slice (some ad) e.args.length ca)∧EPtr w' (Out S' w') (.pointer (some ad)) y∧NmAt w' (Out S' w') bs nm vn:=fun hm hg=>by
   obtain ⟨u1,u2,u3⟩:=up hm hg;obtain ⟨vt',va',vb',vl',e1,_,ua,_,_⟩:=u2.parts;have e5:va' = .slice aa e.args.length ca:=by
     have:=congrArg (fun l=>l[4]?) e1
     simpa using this.symm
   subst e5;obtain ⟨ad,c,e6,hp⟩:=arg_ptr ua la;obtain ⟨rfl,-,-⟩:=tup_inj e6;rw [ha0,Nat.zero_mul,add_zero'] at hp;exact ⟨ad,rfl,u1.at (k:=4) (by simp),hp,u3⟩
 (try simp only [go_sem,simprocAttr]);cases h5:e.kind == 5 with
 | true=>
   rw [if_pos (by simpa using h5)] at hres;cases hres;(try simp only [go_sem,simprocAttr,hone]);refine e_call (by rfl) ?_;refine (f_push (f:=.app e nm) h ⟨_,_,rfl,he0,hn⟩ hlen).mono ?_;rintro _ w1 ⟨⟨S',hR,hg⟩,hm1⟩;obtain ⟨ad,rfl,k4',hp,u3⟩:=fst hm1 hg;(try simp only [go_sem,simprocAttr,zb4,zb6,k4',b2,Nat.zero_mul,add_zero',rvs,RV.ev,one?]);exact ret_grew hR hg hm1 ⟨_,_,rfl,hp,u3⟩
 | false=>
 rw [if_neg (by simpa using h5)] at hres;(try simp only [go_sem,simprocAttr]);cases h8:e.kind == 8 with
 | true=>
   rw [if_pos (by simpa using h8)] at hres;cases hres;(try simp only [go_sem,simprocAttr,hone]);refine e_call (by rfl) ?_;refine (f_push (f:=.cas e nm) h ⟨_,_,rfl,he0,hn⟩ hlen).mono ?_;rintro _ w1 ⟨⟨S',hR,hg⟩,hm1⟩;obtain ⟨ad,rfl,k4',hp,u3⟩:=fst hm1 hg;(try simp only [go_sem,simprocAttr,zb4,zb6,k4',b2,Nat.zero_mul,add_zero',rvs,RV.ev,one?]);exact ret_grew hR hg hm1 ⟨_,_,rfl,hp,u3⟩
 | false=>
 rw [if_neg (by simpa using h8)] at hres;(try simp only [go_sem,simprocAttr]);cases h9:e.kind == 9 with
 | true=>
   rw [if_pos (by simpa using h9)] at hres;cases hres;(try simp only [go_sem,simprocAttr,hone]);refine e_call (by rfl) ?_;refine (f_push (f:=.fst e nm) h ⟨_,_,rfl,he0,hn⟩ hlen).mono ?_;rintro _ w1 ⟨⟨S',hR,hg⟩,hm1⟩;obtain ⟨ad,rfl,k4',hp,u3⟩:=fst hm1 hg;(try simp only [go_sem,simprocAttr,zb4,zb6,k4',b2,Nat.zero_mul,add_zero',rvs,RV.ev,one?]);exact ret_grew hR hg hm1 ⟨_,_,rfl,hp,u3⟩
 | false=>
 rw [if_neg (by simpa using h9)] at hres;(try simp only [go_sem,simprocAttr]);cases h10:e.kind == 10 with
 | true=>
   rw [if_pos (by simpa using h10)] at hres;cases hres;(try simp only [go_sem,simprocAttr,hone]);refine e_call (by rfl) ?_;refine (f_push (f:=.seq e nm) h ⟨_,_,rfl,he0,hn⟩ hlen).mono ?_;rintro _ w1 ⟨⟨S',hR,hg⟩,hm1⟩;obtain ⟨ad,rfl,k4',hp,u3⟩:=fst hm1 hg;(try simp only [go_sem,simprocAttr,zb4,zb6,k4',b2,Nat.zero_mul,add_zero',rvs,RV.ev,one?]);exact ret_grew hR hg hm1 ⟨_,_,rfl,hp,u3⟩
 | false=>
 rw [if_neg (by simpa using h10)] at hres;cases hres;obtain ⟨ad,rfl,k4',hp,u3⟩:=fst (.refl S w) grew_refl;(try simp only [go_sem,simprocAttr,zb4,zb6,k4',b2,Nat.zero_mul,add_zero',rvs,RV.ev,one?]);exact ret_grew h grew_refl (.refl S w) ⟨_,_,rfl,hp,u3⟩
end
section
open Go Go.W
theorem val_num2 {w:World} {B:Nat→Prop} {bs:List Nat} {x:Cl} {T:Nat} {z:Value} (hu:ClAt w B bs x (.iface T z)) (hv:x.isV=true):(T=115→z=I (numOf x))∧(T≠115→numOf x=0):=by
 cases x with
 | num n=>cases hu;exact ⟨fun _=>rfl,fun h=>absurd rfl h⟩
 | con k fs=>obtain ⟨a,_,e,_⟩:=hu;cases e;exact ⟨fun h=>(by cases h),fun _=>rfl⟩
 | lam e' nm'=>obtain ⟨a,_,_,e,_⟩:=hu;cases e;exact ⟨fun h=>(by cases h),fun _=>rfl⟩
 | par n l fs=>obtain ⟨a,_,e,_⟩:=hu;cases e;exact ⟨fun h=>(by cases h),fun _=>rfl⟩
 | wait e' nm'=>cases hv
 | busy=>cases hv
 | emp=>cases hv
theorem grew_step {w w':World} {S S' S'':Nat→Prop} (h:Grew S S' w) (k:Grew S' S'' w') (hz:w.heap.size≤w'.heap.size):Grew S S'' w:=⟨fun b hb=>k.1 b (h.1 b hb),fun b hb=>by
 rcases k.2 b hb with h1 | h1
 · exact h.2 b h1
 · exact .inr (Nat.le_trans hz h1)⟩
theorem mod_grew {w w' w'':World} {S S':Nat→Prop} (hm:Mod S w w') (h:Grew S S' w) (k:Mod S' w' w''):Mod S w w'':=hm.step k (fun b hb hl=>by
 rcases h.2 b hb with h1 | h1
 · exact h1
 · omega)
theorem ret_trans {w w' w'':World} {S S':Nat→Prop} {r md mf:Nat} {bs bs':List Nat} {X:Cx} {v:Value} {x:R3} (hg:Grew S S' w) (hb:∀ (c b:Nat),bs[c]? = some b→bs'[c]? = some b) (hm:Mod S w w') (h:RetAt w' w'' S' r md mf bs' X v x∧Mod S' w' w''):RetAt w w'' S r md mf bs X v x∧Mod S w w'':=by
 obtain ⟨⟨S2,bs2,h1,h2,h3,h4⟩,h5⟩:=h;exact ⟨⟨S2,bs2,h1,grew_step hg h2 hm.size,fun c b hc=>h3 c b (hb c b hc),h4⟩,mod_grew hm hg h5⟩
theorem f_endR {w:World} {S:Nat→Prop} {r md mf:Nat} {bs:List Nat} {X:Cx} {m:Rn} {f:Fm} {x:Cl} {u:Value} {cs:List Value} {res:R3} (h:RnAt w S r md mf bs X m) (hf:FmAt w (Out S w) bs cs f) (hu:ClAt w (Out S w) bs x u) (hv:x.isV=true) (hlen:m.frames.length≤2097152) (hres:endS f x m=some res) :
   CallsR Tryz.prog 50 [ptr r,.agg cs.toArray,u] w fun v w'=>RetAt w w' S r md mf bs X v res∧Mod S w w':=by
 obtain ⟨T,z,rfl,_⟩:=cl_iface hu hv;have hS:=h;obtain ⟨_,_,_,_,_,_,hh⟩:=hS;have d2:Mod (fun _=>False) w w.drew:=(Mod.refl _ _).drew;cases f with
 | upd c=>
   obtain ⟨b,rfl,hb⟩:=hf;cases hres;have hci:c < m.cells.length:=by rw [← hh.len];exact (List.getElem?_eq_some_iff.1 hb).1
   obtain ⟨v0,hb0,_⟩:=hh.cell c b _ hb (List.getElem?_eq_getElem hci);have Sb:∀ y,y=b→S y:=fun y hy=>by rw [hy];exact hh.inS _ (by simp [List.mem_of_getElem? hb])
   refine fit50.calls rfl ?_;unfold ir50;(try simp only [go_sem,simprocAttr]);refine e_bx rfl ?_;intro w1 hb1 hm1 hs1;have hb01:=hm1.at hb0 _root_.id;(try simp only [go_sem,simprocAttr,cell_of hb1,Int.reduceBEq]);refine e_st1 (b:=b) (off:=0) (v:=.iface T z) rfl rfl hb01 rfl (by simp) ?_;intro w2 hb2 hm2 hs2;(try simp only [go_sem,simprocAttr,rvs,RV.ev,one?]);obtain ⟨_,_,_,_,_,_,hh1⟩:=h.keep hm1;have hu1:=hu.up (mod0 hm1 (S:=S)) out_not (out_up (mod0 hm1)) (fun _ _ h=>h);have hR:=hh1.put (x:=x) hb hm2 hb2 hu1;have hm02:Mod S w w2:=(mod0 hm1).trans (hm2.weak Sb);exact ret_grew ⟨_,_,_,_,_,_,hR⟩ grew_refl hm02 ⟨_,rfl,hu1.up (hm2.weak Sb) out_not (out_up (hm2.weak Sb)) (fun _ _ h=>h),hv⟩
 | app e nm=>
   obtain ⟨ve,vn,rfl,⟨ae,ecs,rfl,hecs,hex⟩,hn⟩:=hf;obtain ⟨vt,va,vb,vl,rfl,ht,ha,hb,hl⟩:=hex.parts;obtain ⟨aa,ca,rfl⟩:=each_sl ha;unfold endS at hres;simp only at hres;refine fit50.calls rfl ?_;unfold ir50;(try simp only [go_sem,simprocAttr]);refine e_bx rfl ?_;intro w1 hb1 hm1 hs1
   match hargs:e.args,hres with
   | _::y::rest,hres=>
   have hlt:1 < e.args.length:=by rw [hargs];simp
   have ha1:e.args[1]=y:=by simp [hargs]
   have b2:(0:Int)≤1∧(1:Int) < e.args.length:=by omega
   have ecs1:=hecs.up (mod0 hm1 (S:=S)) out_not (out_up (mod0 hm1));have k4:w1.cell? ⟨ae.block,ae.off+4,none⟩=some (.slice aa e.args.length ca):=ecs1.at (k:=4) (by simp);have ua:=ha.up (mod0 hm1 (S:=S)) out_not (out_up (mod0 hm1)) (fun _ _ h=>h.up (mod0 hm1 (S:=S)) out_not (out_up (mod0 hm1)));have hn1:=hn.up (mod0 hm1 (S:=S)) out_not (out_up (mod0 hm1)) (fun _ _ h=>h);have hone:=hn1.one;obtain ⟨ad,c,e6,hp⟩:=arg_ptr ua hlt;obtain ⟨rfl,-,-⟩:=tup_inj e6;rw [ha1,add_pos _ (by decide)] at hp;(try simp only [go_sem,simprocAttr,cell_of hb1,Int.reduceBEq]);have t1:Int.toNat 1=1:=rfl;(try simp only [go_sem,simprocAttr,zb4,zb6,Int.reduceBEq,cell_of hb1,k4,b2,hone,t1,Nat.one_mul]);refine e_bx rfl ?_;intro w2 hb2 hm2' hs2;have hm2:Mod (fun _=>False) w1 w2:=hm2'.of_drew;(try simp only [go_sem,simprocAttr]);refine e_bx rfl ?_;intro w3 hb3 hm3 hs3;have hm23:=hm2.trans hm3;have hm03:=hm1.trans hm23;have hR3:=(h.keep (hm1.trans hm2)).new (x:=.wait y nm) (v:=.iface 105 (ptr w1.heap.size)) hm3 hb3 (Nat.le_refl _) ⟨_,_,_,rfl,cells_of_new hb2 hm3 (S:=And1 S w2.heap.size) (by
     rintro (hx | hx)
     · have:=hh.lt _ hx;have:=hm1.size;omega
     · have e:w1.drew.heap.size=w1.heap.size:=rfl;omega),hp.up (mod0 hm23 (S:=S)) out_not (out_ext (mod0 hm23) (and1_new (by have:=hm2.size;omega))),hn1.up (mod0 hm23 (S:=S)) out_not (out_ext (mod0 hm23) (and1_new (by have:=hm2.size;omega))) app_get⟩
   have hg3:Grew S (And1 S w2.heap.size) w:=⟨fun b hb=>.inl hb,fun b hb=>by
     rcases hb with h | h
     · exact .inl h
     · right;have:=(hm1.trans hm2).size;omega⟩
   have hu3:=hu.up (mod0 hm03 (S:=S)) out_not (out_ext (mod0 hm03) (and1_new (by have:=(hm1.trans hm2).size;omega))) (app_get (b:=w2.heap.size));have hcc:(bs++[w2.heap.size])[m.cells.length]? = some w2.heap.size:=by
     rw [← hh.len,List.getElem?_append_right (Nat.le_refl _)];simp
   (try simp only [go_sem,simprocAttr]);refine e_call (by rfl) ?_;refine (f_givenR hR3 hcc hu3 hv hres).mono ?_;rintro v w4 hR;obtain ⟨_,_,_,_,rfl⟩:=hR.1.tup;(try simp only [go_sem,simprocAttr,rvs,RV.ev,one?]);exact ret_trans hg3 app_get (mod0 hm03) hR
 | cas e nm=>
   have hf0:=hf;obtain ⟨ve,vn,rfl,he,hn⟩:=hf;refine fit50.calls rfl ?_;unfold ir50;(try simp only [go_sem,simprocAttr]);refine e_bx rfl ?_;intro w1 hb1 hm1 hs1;have hf1:EvAt w (Out S w) bs 2 e nm [I 2,.pointer none,ve,vn,I 0]:=hf0;have hf1:=hf1.up (mod0 hm1 (S:=S)) out_not (out_up (mod0 hm1)) (fun _ _ h=>h);have hu1:=hu.up (mod0 hm1 (S:=S)) out_not (out_up (mod0 hm1)) (fun _ _ h=>h);(try simp only [go_sem,simprocAttr,cell_of hb1,Int.reduceBEq,ln_blk (n:=5) (cs:=[I 2,.pointer none,ve,vn,I 0]) hb1 rfl]);refine e_call (by rfl) ?_;refine (f_chooseR (h.keep hm1) hf1 hu1 hv hres).mono ?_;rintro v w4 hR;obtain ⟨_,_,_,_,rfl⟩:=hR.1.tup;(try simp only [go_sem,simprocAttr,rvs,RV.ev,one?]);exact ret_trans grew_refl (fun _ _ h=>h) (mod0 hm1) hR
 | fst e nm=>
   obtain ⟨ve,vn,rfl,he,hn⟩:=hf;have he0:=he;obtain ⟨ae,ecs,rfl,hecs,hex⟩:=he;obtain ⟨vt,va,vb,vl,rfl,ht,ha,hb,hl⟩:=hex.parts;obtain ⟨aa,ca,rfl⟩:=each_sl ha;unfold endS at hres;simp only at hres
   match hargs:e.args,hres with
   | _::y::rest,hres=>
   cases hres;have hlt:1 < e.args.length:=by rw [hargs];simp
   have ha1:e.args[1]=y:=by simp [hargs]
   have b2:(0:Int)≤1∧(1:Int) < e.args.length:=by omega
   have t1:Int.toNat 1=1:=rfl;refine fit50.calls rfl ?_;unfold ir50;(try simp only [go_sem,simprocAttr]);refine e_bx rfl ?_;intro w1 hb1 hm1 hs1;obtain ⟨hT1,hT2⟩:=val_num2 hu hv;have tail:∀ {w2:World} {S':Nat→Prop},RnAt w2 S' r md mf bs X (m.push (.snd e (numOf x)))→Grew S S' w1→Mod S w1 w2→∃ ad,aa=some ad∧w2.heap[w.heap.size]? = some (.cells [I 3,.pointer none,.pointer (some ae),vn,I 0].toArray 136 (0,0))∧w2.cell? ⟨ae.block,ae.off+4,none⟩=some (.slice (some ad) e.args.length ca)∧(RetAt w w2.drew S r md mf bs X (.tuple #[.pointer (some ⟨ad.block,ad.off+7,none⟩),vn,.nilIface,.bool true]) (some (.go y nm),m.push (.snd e (numOf x)))∧Mod S w w2.drew):=fun {w2 S'} hR hg hm=>by
     have d2':Mod (fun _=>False) w2 w2.drew:=(Mod.refl _ _).drew;have hg0:Grew S S' w:=grew_step grew_refl hg hm1.size;have hm02:Mod S w w2:=(mod0 hm1).trans hm;have hout:=grew_out hg0 hm02.size;have ua:=ha.up hm02 out_not hout (fun _ _ h=>h.up hm02 out_not hout);obtain ⟨ad,c,e6,hp⟩:=arg_ptr ua hlt;obtain ⟨rfl,-,-⟩:=tup_inj e6;rw [ha1,add_pos _ (by decide)] at hp;refine ⟨ad,rfl,hm.at hb1 (fun hx=>by have:=hh.lt _ hx;omega),(hecs.up hm02 out_not hout).at (k:=4) (by simp),?_⟩;have hmd:=hm02.trans (mod0 d2' (S:=S));have hout2:=grew_out hg0 hmd.size;exact ret_grew (hR.keep d2') hg0 hmd ⟨_,_,rfl,hp.up (mod0 d2' (S:=S')) out_not (out_up (mod0 d2')),hn.up hmd out_not hout2 (fun _ _ h=>h)⟩
   have hone:=hn.one;have he1:=he0.up (mod0 hm1 (S:=S)) out_not (out_up (mod0 hm1));(try simp only [go_sem,simprocAttr,cell_of hb1,Int.reduceBEq]);refine e_taC (D:=.int .i64) rfl rfl rfl (Tryz.zeroValue115 _) (fun hT=>?_) (fun hT=>?_)
   · have hz:=hT1 hT;subst hz;(try simp only [go_sem,simprocAttr,cell_of hb1]);refine e_call (by rfl) ?_;refine (f_push (f:=.snd e (numOf x)) (h.keep hm1) ⟨_,rfl,he1⟩ hlen).mono ?_;rintro _ w2 ⟨⟨S',hR,hg⟩,hm2⟩;obtain ⟨ad,rfl,hb2,k4,hfin⟩:=tail hR hg hm2;(try simp only [go_sem,simprocAttr,cell_of hb2]);(try simp only [go_sem,simprocAttr,zb4,zb6,cell_of hb2,k4,b2,t1,Nat.one_mul,rvs,RV.ev,one?]);exact hfin
   · have hz:=hT2 hT;(try simp only [go_sem,simprocAttr,cell_of hb1]);refine e_call (by rfl) ?_;refine (f_push (f:=.snd e (numOf x)) (cs:=[I 4,.pointer none,.pointer (some ae),.pointer none,I 0]) (h.keep hm1) ⟨_,by rw [hz],he1⟩ hlen).mono ?_;rintro _ w2 ⟨⟨S',hR,hg⟩,hm2⟩;obtain ⟨ad,rfl,hb2,k4,hfin⟩:=tail hR hg hm2;(try simp only [go_sem,simprocAttr,cell_of hb2]);(try simp only [go_sem,simprocAttr,zb4,zb6,cell_of hb2,k4,b2,t1,Nat.one_mul,rvs,RV.ev,one?]);exact hfin
 | snd e n=>
   obtain ⟨ve,rfl,⟨ae,ecs,rfl,hecs,hex⟩⟩:=hf;obtain ⟨vt,va,vb,vl,rfl,ht,ha,hb,hl⟩:=hex.parts;refine fit50.calls rfl ?_;unfold ir50;(try simp only [go_sem,simprocAttr]);refine e_bx rfl ?_;intro w1 hb1 hm1 hs1;obtain ⟨hT1,hT2⟩:=val_num2 hu hv;have d1:Mod (fun _=>False) w1 w1.drew:=(Mod.refl _ _).drew;have hm1d:=hm1.trans d1;have k1:w1.cell? ⟨ae.block,ae.off+1,none⟩=some (.string e.name):=(hecs.up (mod0 hm1 (S:=S)) out_not (out_up (mod0 hm1))).at (k:=1) (by simp);have fin:∀ {w2:World} {v:Value},OprR w2 S r md mf bs X m v (oprS e.name n (numOf x))∧Mod S w1.drew w2→∃ a b,v = .tuple #[a,b]∧(RetAt w w2 S r md mf bs X (.tuple #[.pointer none,.pointer none,a,b]) res∧Mod S w w2):=fun {w2 v} ⟨hO,hm2⟩=>by
     have hm02:Mod S w w2:=(mod0 hm1d).trans hm2;unfold endS at hres;simp only at hres;cases ho:oprS e.name n (numOf x) with
     | none=>
       rw [ho] at hO hres;cases hres;obtain ⟨rfl,hR⟩:=hO;exact ⟨_,_,rfl,ret_grew hR grew_refl hm02 rfl⟩
     | some y=>
       rw [ho] at hO hres;cases hres;obtain ⟨⟨u,rfl,q1,q2⟩,hR⟩:=hO;exact ⟨_,_,rfl,ret_grew hR grew_refl hm02 ⟨_,rfl,q1,q2⟩⟩
   (try simp only [go_sem,simprocAttr,cell_of hb1,Int.reduceBEq]);refine e_taC (D:=.int .i64) rfl rfl rfl (Tryz.zeroValue115 _) (fun hT=>?_) (fun hT=>?_)
   · have hz:=hT1 hT;subst hz;(try simp only [go_sem,simprocAttr,cell_of hb1,k1]);refine e_call (by rfl) ?_;refine (f_opr (h.keep hm1d)).mono ?_;rintro v w2 hO;obtain ⟨a,b,rfl,hfin⟩:=fin hO;(try simp only [go_sem,simprocAttr,rvs,RV.ev,one?]);exact hfin
   · have hz:=hT2 hT;rw [hz] at fin;(try simp only [go_sem,simprocAttr,cell_of hb1,k1]);refine e_call (by rfl) ?_;refine (f_opr (h.keep hm1d)).mono ?_;rintro v w2 hO;obtain ⟨a,b,rfl,hfin⟩:=fin hO;(try simp only [go_sem,simprocAttr,rvs,RV.ev,one?]);exact hfin
 | seq e nm=>
   obtain ⟨ve,vn,rfl,⟨ae,ecs,rfl,hecs,hex⟩,hn⟩:=hf;obtain ⟨vt,va,vb,vl,rfl,ht,ha,hb,hl⟩:=hex.parts;obtain ⟨aa,ca,rfl⟩:=each_sl ha;unfold endS at hres;simp only at hres
   match hargs:e.args,hres with
   | _::y::rest,hres=>
   cases hres;have hlt:1 < e.args.length:=by rw [hargs];simp
   have ha1:e.args[1]=y:=by simp [hargs]
   have b2:(0:Int)≤1∧(1:Int) < e.args.length:=by omega
   have t1:Int.toNat 1=1:=rfl;refine fit50.calls rfl ?_;unfold ir50;(try simp only [go_sem,simprocAttr]);refine e_bx rfl ?_;intro w1 hb1 hm1 hs1;have d1:Mod (fun _=>False) w1 w1.drew:=(Mod.refl _ _).drew;have hm1d:=hm1.trans d1;have ua:=ha.up (mod0 hm1 (S:=S)) out_not (out_up (mod0 hm1)) (fun _ _ h=>h.up (mod0 hm1 (S:=S)) out_not (out_up (mod0 hm1)));obtain ⟨ad,c,e6,hp⟩:=arg_ptr ua hlt;obtain ⟨rfl,-,-⟩:=tup_inj e6;rw [ha1,add_pos _ (by decide)] at hp;have k4:w1.cell? ⟨ae.block,ae.off+4,none⟩=some (.slice (some ad) e.args.length ca):=(hecs.up (mod0 hm1 (S:=S)) out_not (out_up (mod0 hm1))).at (k:=4) (by simp);(try simp only [go_sem,simprocAttr,cell_of hb1,Int.reduceBEq]);(try simp only [go_sem,simprocAttr,zb4,zb6,cell_of hb1,k4,b2,t1,Nat.one_mul,Int.reduceBEq,rvs,RV.ev,one?]);exact ret_keep h hm1d ⟨_,_,rfl,hp.up (mod0 d1 (S:=S)) out_not (out_up (mod0 d1)),hn.up (mod0 hm1d (S:=S)) out_not (out_up (mod0 hm1d)) (fun _ _ h=>h)⟩
 | hard e nm=>
   obtain ⟨ve,vn,rfl,⟨ae,ecs,rfl,hecs,hex⟩,hn⟩:=hf;obtain ⟨vt,va,vb,vl,rfl,ht,ha,hb,hl⟩:=hex.parts;obtain ⟨aa,ca,rfl⟩:=each_sl ha;obtain ⟨ab,cb,rfl⟩:=each_sl hb;unfold endS at hres;simp only at hres
   match hargs:e.args,hbinds:e.binds,hres with
   | y::rest,bd::bl,hres=>
   cases hres;have la:0 < e.args.length:=by rw [hargs];simp
   have lb:0 < e.binds.length:=by rw [hbinds];simp
   have ha0:e.args[0]=y:=by simp [hargs]
   have hb0:e.binds[0]=bd:=by simp [hbinds]
   have b1:(0:Int)≤0∧(0:Int) < e.args.length:=by omega
   have b2:(0:Int)≤0∧(0:Int) < e.binds.length:=by omega
   refine fit50.calls rfl ?_;unfold ir50;(try simp only [go_sem,simprocAttr]);refine e_bx rfl ?_;intro w1 hb1 hm1 hs1;have ecs1:=hecs.up (mod0 hm1 (S:=S)) out_not (out_up (mod0 hm1));have ua:=ha.up (mod0 hm1 (S:=S)) out_not (out_up (mod0 hm1)) (fun _ _ h=>h.up (mod0 hm1 (S:=S)) out_not (out_up (mod0 hm1)));have ub:=hb.up (mod0 hm1 (S:=S)) out_not (out_up (mod0 hm1)) (fun _ _ h=>h.up (mod0 hm1 (S:=S)) out_not (out_up (mod0 hm1)));obtain ⟨ad,c,e6,hp⟩:=arg_ptr ua la;obtain ⟨rfl,-,-⟩:=tup_inj e6;obtain ⟨adb,c,e6,hbn,hbl,_⟩:=bind_ptr ub lb;obtain ⟨rfl,-,-⟩:=tup_inj e6;rw [ha0,Nat.zero_mul,add_zero'] at hp;rw [hb0,Nat.zero_mul,add_zero'] at hbn;have k4:w1.cell? ⟨ae.block,ae.off+4,none⟩=some (.slice (some ad) e.args.length ca):=ecs1.at (k:=4) (by simp);have k5:w1.cell? ⟨ae.block,ae.off+5,none⟩=some (.slice (some adb) e.binds.length cb):=ecs1.at (k:=5) (by simp);have hn1:=hn.up (mod0 hm1 (S:=S)) out_not (out_up (mod0 hm1)) (fun _ _ h=>h);have hone:=hn1.one;(try simp only [go_sem,simprocAttr,cell_of hb1,Int.reduceBEq]);(try simp only [go_sem,simprocAttr,zb4,zb6,cell_of hb1,k4,k5,hbn,b1,b2,Nat.zero_mul,add_zero',Int.reduceBEq,hone]);have l4:(⟨ae.block,ae.off+4,none⟩:Addr).block < w1.heap.size:=cell_lt k4;have l5:adb.block < w1.heap.size:=cell_lt hbn;have l1:=lt_of_heap hb1;refine e_bx rfl ?_;intro w2 hb2 hm2' hs2;have hm2:Mod (fun _=>False) w1 w2:=hm2'.of_drew;refine ⟨⟨hm2.old _ l1 _root_.id,hm2.old _ l5 _root_.id,hm2.old _ l4 _root_.id,hm2.old _ l1 _root_.id,hm2.old _ l4 _root_.id,hm2.old _ l1 _root_.id⟩,?_⟩;(try simp only [go_sem,simprocAttr,hone]);refine e_bx rfl ?_;intro w3 hb3 hm3 hs3;have l4:ae.block < w1.heap.size:=l4;have z12:=hm2.size;have z2:w2.heap.size=w1.heap.size+1:=hs2;refine ⟨⟨hm3.old _ (by omega) _root_.id,hm3.old _ (by omega) _root_.id⟩,?_⟩;have hm02:=hm1.trans hm2;have hm23:=hm2.trans hm3;have hm03:=hm1.trans hm23;have hnew:∀ b,b < w.heap.size→And1 S w1.heap.size b→S b:=and1_new (by have:=hm1.size;omega);have hnew1:∀ b,b < w1.heap.size→And1 S w1.heap.size b→S b:=and1_new (Nat.le_refl _);have hR2:=(h.keep hm1).new (x:=x) (v:=.iface T z) hm2 hb2 (Nat.le_refl _) (hu.up (mod0 hm02 (S:=S)) out_not (out_ext (mod0 hm02) hnew) app_get);have hg:Grew S (And1 S w1.heap.size) w:=⟨fun b hb=>.inl hb,fun b hb=>by
     rcases hb with h | h
     · exact .inl h
     · right;have:=hm1.size;omega⟩
   refine ret_trans hg (app_get (b:=w1.heap.size)) (mod0 hm02) (w':=w2) ?_;refine ret_keep hR2 hm3 ⟨_,_,rfl,hp.up (mod0 hm23 (S:=S)) out_not (out_ext (mod0 hm23) hnew1),⟨_,w1.heap.size,vn,rfl,?_,nd_new (cs:=[.string bd.name,ptr w1.heap.size,vn]) hb3 ?_,hn1.up (mod0 hm23 (S:=S)) out_not (out_ext (mod0 hm23) hnew1) app_get⟩⟩
   · rw [← hh.len,List.getElem?_append_right (Nat.le_refl _)];simp
   · rintro (hx | hx)
     · have:=hh.lt _ hx;have:=hm1.size;omega
     · omega
end
section
open Go Go.W
section
variable {α:Type}
abbrev Uq (l:List (ByteArray×α)):Prop:=(l.map (·.1)).Nodup
end
structure StOk (E:Env) (st:St):Prop where
 good:GoodL E st.2
 uq:Uq st.2
 bound:∀ x,has st.1 x=false→aget st.2 x=none
structure Kp (E:Env) (st st':St):Prop where
 ok:StOk E st'
 same:∀ x,aget st'.2 x=aget st.2 x
 more:∀ x,has st'.1 x=false→has st.1 x=false
abbrev Gm:=ByteArray→Option Ty
section
variable {E:Env}
end
end
section
open Go Go.W
section
variable {E:Env}
variable {Γ:Gm} {e:Ex} {T:Ty}
theorem two_of {α:Type} {l:List α} (h:l.length=2):∃ a b,l=[a,b]:=by
 match l,h with
 | [a,b],_=>exact ⟨a,b,rfl⟩
variable (hE:GoodE E) (hb:badData E boolN 0=false)
include hE hb
omit hE hb in
omit hE hb in
omit hE hb in
end
end
section
open Go Go.W
abbrev Sb:=ByteArray→Ty
mutual
def Ty.sub (σ:Sb):Ty→Ty
 | .mk k n l=>if k=2 then σ n else .mk k n (tysSub σ l)
def tysSub (σ:Sb):List Ty→List Ty
 | []=>[]
 | t::l=>t.sub σ::tysSub σ l
end
def lk (ps:List ByteArray) (us:List Ty):Sb:=fun n=>us.getD ((strIdx ps n).getD us.length) default
section
variable {E:Env} {ps:List ByteArray} {bs:List Ty}
end
end
section
open Go Go.W
abbrev Sg:=Nat→Ty→Prop
abbrev Ts:=Ty→Prop
section
variable {Q:Env} {S S':Sg}
theorem all2_imp {α β:Type} {P P':α→β→Prop} (hpq:∀ a b,P a b→P' a b):∀ {l:List α} {m:List β},All2 P l m→All2 P' l m
 | [],[],_=>trivial
 | a::l,b::m,h=>⟨hpq _ _ h.1,all2_imp hpq h.2⟩
 | [],_::_,h=>h.elim
 | _::_,[],h=>h.elim
end
end
section
open Go Go.W
section
variable {Q:Env} {S:Sg} {X:Cx} {Z:Ts}
end
end
section
open Go Go.W
section
variable {Q:Env} {S:Sg} {X:Cx} {Z:Ts}
end
end
section
open Go Go.W
structure SmR (m:Rn) (r:R3):Prop where
 told:r.2.told=m.told
 steps:r.2.steps=m.steps
 fl:r.2.frames.length≤m.frames.length+1
 flv:∀ x,r.1=some (.val x)→r.2.frames.length≤m.frames.length
 go:∀ md,r.1=some md→r.2.kind=m.kind∧r.2.stuck=m.stuck
 stop:r.1=none→r.2.kind=3
theorem sm_same {m:Rn} {md:Md}:SmR m (some md,m):=⟨rfl,rfl,Nat.le_succ _,fun _ _=>Nat.le_refl _,fun _ _=>⟨rfl,rfl⟩,fun h=>by cases h⟩
theorem sm_stop {m:Rn} {k:Int}:SmR m (none,m.stop k):=⟨rfl,rfl,Nat.le_succ _,fun _ _=>Nat.le_refl _,fun _ h=>by (cases h),fun _=>rfl⟩
theorem sm_push {m:Rn} {e:Ex} {v:Nms} {f:Fm}:SmR m (some (.go e v),m.push f):=⟨rfl,rfl,by simp [Rn.push],fun _ h=>(by cases h),fun _ _=>⟨rfl,rfl⟩,fun h=>by cases h⟩
theorem enter_sm (m:Rn) (c:Nat):SmR m (enterCl m c):=by
 unfold enterCl;cases m.cells[c]? with
 | none=>exact sm_stop
 | some x=>cases x<;>first | exact sm_same | exact sm_stop | exact ⟨rfl,rfl,by simp [Rn.push,Rn.put],fun _ h=>(by cases h),fun _ _=>⟨rfl,rfl⟩,fun h=>by cases h⟩
theorem begin_sm {X:Cx} {e:Ex} {v:Nms} {m:Rn} {r:R3} (h:beginS X e v m=some r):SmR m r:=by
 unfold beginS at h;by_cases k1:e.kind=1
 · rw [if_pos k1] at h;obtain ⟨c,_,rfl⟩:=Option.map_eq_some_iff.1 h;exact enter_sm m c
 rw [if_neg k1] at h;by_cases k3:e.kind=3
 · rw [if_pos k3] at h;obtain ⟨c,_,rfl⟩:=Option.map_eq_some_iff.1 h;exact enter_sm m c
 rw [if_neg k3] at h;by_cases k2:e.kind=2
 · rw [if_pos k2] at h;cases h;exact sm_same
 rw [if_neg k2] at h;by_cases k4:e.kind=4
 · rw [if_pos k4] at h;cases h;exact sm_same
 rw [if_neg k4] at h;by_cases k6:e.kind=6
 · rw [if_pos k6] at h;cases h;exact sm_same
 rw [if_neg k6] at h;by_cases k12:e.kind=12
 · rw [if_pos k12] at h;cases h;exact sm_stop
 rw [if_neg k12] at h;by_cases k7:e.kind=7
 · rw [if_pos k7] at h
   split at h
   · cases h
   · cases h;exact ⟨rfl,rfl,Nat.le_succ _,fun _ _=>Nat.le_refl _,fun _ _=>⟨rfl,rfl⟩,fun h=>by cases h⟩
 rw [if_neg k7] at h;by_cases k11:e.kind=11
 · rw [if_pos k11] at h
   split at h
   · cases h
   · cases h;exact sm_push
 rw [if_neg k11] at h
 split at h
 · cases h
 · cases h;by_cases k5:e.kind=5
   · rw [if_pos k5];exact sm_push
   by_cases k8:e.kind=8
   · rw [if_neg k5,if_pos k8];exact sm_push
   by_cases k9:e.kind=9
   · rw [if_neg k5,if_neg k8,if_pos k9];exact sm_push
   by_cases k10:e.kind=10
   · rw [if_neg k5,if_neg k8,if_neg k9,if_pos k10];exact sm_push
   · rw [if_neg k5,if_neg k8,if_neg k9,if_neg k10];exact sm_same
theorem given_sm {m:Rn} {f:Cl} {c:Nat} {r:R3} (h:givenR m f c=some r):SmR m r:=by
 unfold givenR at h
 split at h
 · split at h
   · cases h;exact sm_same
   · cases h
 · split at h
   · cases h;exact sm_same
   · cases h
 · cases h;exact sm_stop
theorem choose_sm {m:Rn} {v:Nms} {x:Cl}:∀ (l:List Al) {r:R3},chooseS m v x l=some r→SmR m r
 | [],r,h=>by rw [chooseS] at h;cases h;exact sm_stop
 | a::l,r,h=>by
   rw [chooseS] at h
   split at h
   · cases h;exact sm_same
   · split at h
     · split at h
       · obtain ⟨c,_,rfl⟩:=Option.map_eq_some_iff.1 h;exact sm_same
       · exact choose_sm l h
     · exact choose_sm l h
theorem end_sm {f:Fm} {x:Cl} {m:Rn} {r:R3} (h:endS f x m=some r):SmR m r:=by
 unfold endS at h
 split at h
 · cases h;exact ⟨rfl,rfl,Nat.le_succ _,fun _ _=>Nat.le_refl _,fun _ _=>⟨rfl,rfl⟩,fun h=>by cases h⟩
 · split at h
   · have k:=given_sm h;exact ⟨k.told,k.steps,k.fl,k.flv,k.go,k.stop⟩
   · cases h
 · exact choose_sm _ h
 · split at h
   · cases h;exact sm_push
   · cases h
 · split at h
   · cases h;exact sm_same
   · cases h;exact sm_stop
 · split at h
   · cases h;exact sm_same
   · cases h
 · split at h
   · cases h;exact ⟨rfl,rfl,Nat.le_succ _,fun _ _=>Nat.le_refl _,fun _ _=>⟨rfl,rfl⟩,fun h=>by cases h⟩
   · cases h
theorem step_cases (X:Cx) (m:Rn):(m.steps=X.fuel∧stepS X m=(false,{ m with kind:=4}))∨(m.steps≠X.fuel∧stepS X m=(true,{ m with steps:=m.steps+1})):=by
 unfold stepS
 split
 · exact .inl ⟨by assumption,rfl⟩
 · exact .inr ⟨by assumption,rfl⟩
structure GoR (X:Cx) (m:Rn) (r:Option Cl×Rn):Prop where
 told:r.2.told=m.told
 steps:m.steps≤r.2.steps
 fuel:m.steps≤X.fuel→r.2.steps≤X.fuel
 val:∀ x,r.1=some x→r.2.kind=m.kind∧r.2.stuck=m.stuck∧r.2.frames=[]
 stop:r.1=none→(r.2.kind=4∧r.2.steps=X.fuel∧r.2.stuck=m.stuck)∨r.2.kind=3
theorem GoR.from {X:Cx} {m m':Rn} {r:Option Cl×Rn} (h:GoR X m' r) (h1:m'.told=m.told) (h2:m.steps≤m'.steps) (h3:m.steps≤X.fuel→m'.steps≤X.fuel) (h4:m'.kind=m.kind∧m'.stuck=m.stuck):GoR X m r:=
 ⟨h.told.trans h1,Int.le_trans h2 h.steps,fun hh=>h.fuel (h3 hh),fun x hx=>by obtain ⟨a,b,c⟩:=h.val x hx;exact ⟨a.trans h4.1,b.trans h4.2,c⟩,fun hn=>by
   rcases h.stop hn with ⟨a,b,c⟩ | a
   · exact .inl ⟨a,b,c.trans h4.2⟩
   · exact .inr a⟩
theorem goOn_sm {X:Cx}:∀ (n:Nat) {md:Md} {m:Rn} {r:Option Cl×Rn},goOnS X n md m=some r→GoR X m r
 | 0,md,m,r,h=>by cases md<;>(rw [goOnS] at h;cases h)
 | n+1,.go e v,m,r,h=>by
   rw [goOnS] at h;rcases step_cases X m with ⟨h1,h2⟩ | ⟨h1,h2⟩
   · rw [h2] at h;simp only [if_true] at h;cases h;exact ⟨rfl,Int.le_refl _,fun h=>h,fun x hx=>by (cases hx),fun _=>.inl ⟨rfl,h1,rfl⟩⟩
   · rw [h2] at h;simp only [Bool.true_eq_false,if_false] at h
     split at h
     · cases h
     · rename_i m' hb;cases h;have k:=begin_sm hb;have ks:m'.steps=m.steps+1:=k.steps;exact ⟨k.told,by show m.steps≤m'.steps;omega,fun hh=>by show m'.steps≤_;omega,fun x hx=>by (cases hx),fun _=>.inr (k.stop rfl)⟩
     · rename_i md' m' hb;have k:=begin_sm hb;have ks:m'.steps=m.steps+1:=k.steps;exact (goOn_sm n h).from k.told (by omega) (fun hh=>by omega) (k.go _ rfl)
 | n+1,.val x,m,r,h=>by
   rw [goOnS] at h
   split at h
   · rename_i hl;cases h;exact ⟨rfl,Int.le_refl _,fun h=>h,fun x hx=>⟨rfl,rfl,List.getLast?_eq_none_iff.1 hl⟩,fun hn=>by cases hn⟩
   · split at h
     · cases h
     · rename_i m' hb;cases h;have k:=end_sm hb;have ks:m'.steps=m.steps:=k.steps;exact ⟨k.told,by show m.steps≤m'.steps;omega,fun hh=>by show m'.steps≤_;omega,fun x hx=>by (cases hx),fun _=>.inr (k.stop rfl)⟩
     · rename_i md' m' hb;have k:=end_sm hb;have ks:m'.steps=m.steps:=k.steps;exact (goOn_sm n h).from k.told (by omega) (fun hh=>by omega) (k.go _ rfl)
end
section
open Go Go.W
theorem sl_same (a:Option Addr) (c:Nat):(if c=0 then a else Option.map (fun x=>x) a)=a:=by
 split
 · rfl
 · cases a<;>rfl
theorem own_pre {w:World} {T sz n c:Nat} {a:Option Addr} {xs:List Value} {fp:Option Nat} (h:OwnS w T sz (.slice a n c) xs n fp) {k:Nat} (hk:k≤n):OwnS w T sz (.slice a k c) (xs.take (k*sz)) k fp:=by
 obtain ⟨h1,h2⟩:=h;refine ⟨by rw [List.length_take,h1];exact Nat.min_eq_left (Nat.mul_le_mul_right _ hk),?_⟩;rcases h2 with ⟨e,rfl,rfl⟩ | ⟨b,c',sp,e,rfl,h3,h4,h5⟩
 · cases e;obtain rfl:k=0:=by omega
   exact .inl ⟨rfl,rfl,rfl⟩
 · cases e;refine .inr ⟨b,c,xs.drop (k*sz)++sp,rfl,rfl,?_,?_,by omega⟩
   · rw [← List.append_assoc,List.take_append_drop];exact h3
   · rw [← List.append_assoc,List.take_append_drop];exact h4
def ValAt (w:World) (B:Nat→Prop) (bs:List Nat) (v:Value):Option Cl→Prop
 | some x=>∃ u,v = .tuple #[u,.bool true]∧ClAt w B bs x u∧x.isV=true
 | none=>v = .tuple #[.nilIface,.bool false]
def RvAt (w w':World) (S:Nat→Prop) (r md mf:Nat) (bs:List Nat) (X:Cx) (v:Value) (x:Option Cl×Rn):Prop:=
 ∃ S' bs',RnAt w' S' r md mf bs' X x.2∧Grew S S' w∧(∀ (c b:Nat),bs[c]? = some b→bs'[c]? = some b)∧ValAt w' (Out S' w') bs' v x.1
theorem RvAt.tup {w w':World} {S:Nat→Prop} {r md mf:Nat} {bs:List Nat} {X:Cx} {v:Value} {x:Option Cl×Rn} (h:RvAt w w' S r md mf bs X v x):∃ a b,v = .tuple #[a,b]:=by
 obtain ⟨S',bs',_,_,_,h⟩:=h
 match x,h with
 | (some x,m),⟨u,e,_⟩=>exact ⟨_,_,e⟩
 | (none,m),e=>exact ⟨_,_,e⟩
theorem rv_trans {w w' w'':World} {S S':Nat→Prop} {r md mf:Nat} {bs bs':List Nat} {X:Cx} {v:Value} {x:Option Cl×Rn} (hg:Grew S S' w) (hb:∀ (c b:Nat),bs[c]? = some b→bs'[c]? = some b) (hm:Mod S w w') (h:RvAt w' w'' S' r md mf bs' X v x∧Mod S' w' w''):RvAt w w'' S r md mf bs X v x∧Mod S w w'':=by
 obtain ⟨⟨S2,bs2,h1,h2,h3,h4⟩,h5⟩:=h;exact ⟨⟨S2,bs2,h1,grew_step hg h2 hm.size,fun c b hc=>h3 c b (hb c b hc),h4⟩,mod_grew hm hg h5⟩
theorem RnAt.pop {w w':World} {S:Nat→Prop} {r md mf:Nat} {bs:List Nat} {X:Cx} {m:Rn} {vt:Value} {af:Option Addr} {cf:Nat} {trows frows:List (List Value)} {tfp ffp:Option Nat} (h:RnIn w S r md mf bs X m vt (.slice af frows.length cf) trows frows tfp ffp) (hm:Mod (· = r) w w')
   (hb:w'.heap[r]? = some (.cells (rnCells X m md mf vt (.slice af (frows.length - 1) cf)).toArray tRun (0,0))):RnAt w' S r md mf bs X { m with frames:=m.frames.dropLast}:=by
 obtain ⟨n1,n2,n3,n4,n5,n6,n7,n8,n9⟩:=h.ne;have Sr:∀ b,b=r→S b:=fun b hb=>by rw [hb];exact h.inS _ (by simp)
 have hmS:=hm.weak Sr;have hlen:=h.frames.at.1;have hrow:∀ x∈frows,x.length=5:=fun x hx=>by
   obtain ⟨i,hi,rfl⟩:=List.getElem_of_mem hx;exact (h.frames.at.2 i _ _ (List.getElem?_eq_getElem hi) (List.getElem?_eq_getElem (by omega))).len
 have htake:∀ (l:List (List Value)) (k:Nat),(∀ x∈l,x.length=5)→(l.flatMap id).take (k*5)=(l.take k).flatMap id:=by
   intro l
   induction l with
   | nil=>intro k _;simp
   | cons x l ih=>
     intro k hx;cases k with
     | zero=>simp
     | succ k=>
       have hxl:=hx x (by simp);rw [List.flatMap_cons,List.take_succ_cons,List.flatMap_cons,← ih k (fun y hy=>hx y (by simp [hy])),Nat.add_mul,Nat.one_mul];rw [List.take_append,show (id x).length=5 from hxl,Nat.add_sub_cancel,List.take_of_length_le (by rw [show (id x).length=5 from hxl];omega)]
 have hown:=own_pre (h.frms.mod hm (fun b hb e=>(n5 b hb).1 e.symm)) (k:=frows.length - 1) (by omega);rw [htake frows _ hrow] at hown;have hl2:(frows.take (frows.length - 1)).length=frows.length - 1:=by rw [List.length_take];omega
 have hdl:m.frames.dropLast=m.frames.take (m.frames.length - 1):=List.dropLast_eq_take;have hframes:All2 (FmAt w' (Out S w') bs) (frows.take (frows.length - 1)) m.frames.dropLast:=by
   rw [hdl,← hlen];have key:∀ (l:List (List Value)) (fs:List Fm) (k:Nat),All2 (FmAt w (Out S w) bs) l fs→All2 (FmAt w' (Out S w') bs) (l.take k) (fs.take k):=by
     intro l
     induction l with
     | nil => intro fs k ha; cases fs with
              | nil=>simp;trivial
              | cons _ _=>exact ha.elim
     | cons x l ih=>
       intro fs k ha;cases fs with
       | nil=>exact ha.elim
       | cons f fs=>
         cases k with
         | zero=>trivial
         | succ k=>exact ⟨ha.1.up hmS out_not (out_up hmS) (fun _ _ h=>h),ih fs k ha.2⟩
   exact key _ _ _ h.frames
 refine ⟨vt,.slice af (frows.length - 1) cf,trows,frows.take (frows.length - 1),tfp,ffp,hb,h.told.mod hm (fun b hb e=>(n4 b hb).1 e.symm),h.items,by rw [hl2];exact hown,hframes,h.blocks,h.inS,fun b hb=>Nat.lt_of_lt_of_le (h.lt b hb) hm.size,h.len,?_,
   h.defs.mod hm (fun e=>n1 e.symm) (fun _ _ x=>x),h.fields.mod hm (fun e=>n2 e.symm) (fun _ _ x=>x),h.steps,fun p hp=>by
     obtain ⟨a1,a2,a3⟩:=h.kept p hp;exact ⟨hm.at a1 (fun e=>a3 (by rw [e];simp)),a2,a3⟩⟩
 intro i b x hi hx;obtain ⟨v,h1,h2⟩:=h.cell i b x hi hx;exact ⟨v,hm.at h1 (fun e=>(n6 b (List.mem_of_getElem? hi)).1 e.symm),h2.up hmS out_not (out_up hmS) (fun _ _ h=>h)⟩
theorem f_goOn {n:Nat} {w:World} {S:Nat→Prop} {r md mf:Nat} {bs:List Nat} {X:Cx} {m:Rn} {e:Ex} {nm:Nms} {ve vn:Value} {res:Option Cl×Rn} (h:RnAt w S r md mf bs X m) (he:EPtr w (Out S w) ve e) (hn:NmAt w (Out S w) bs nm vn) (hlen:(m.frames.length:Int)≤m.steps+1) (hres:goOnS X n (.go e nm) m=some res) :
   CallsR Tryz.prog 35 [ptr r,ve,vn] w fun v w'=>RvAt w w' S r md mf bs X v res∧Mod S w w':=by
 refine fit35.calls rfl ?_;unfold ir35;(try simp only [go_sem,simprocAttr]);refine ir_loop (fun z ρ w'=>Mod S w w'∧∃ (S':Nat→Prop) (bs':List Nat) (m':Rn) (d:Md) (v1 v2 v8:Value),RnAt w' S' r md mf bs' X m'∧Grew S S' w∧(∀ (c b:Nat),bs[c]? = some b→bs'[c]? = some b)∧MdAt w' (Out S' w') bs' (.tuple #[v1,v2,v8,.bool true]) (some d)∧(m'.frames.length:Int)≤m'.steps+1∧goOnS X z d m'=some res ∧
   ρ.get 0=some (ptr r)∧ρ.get 1=some v1∧ρ.get 2=some v2∧ρ.get 8=some v8) n ⟨.refl _ _,S,bs,m,.go e nm,ve,vn,.nilIface,h,grew_refl,fun _ _ h=>h,⟨ve,vn,rfl,he,hn⟩,hlen,hres,rfl,rfl,rfl,rfl⟩ ?_
 rintro z ρ w1 ⟨hm1,S1,bs1,m1,d,v1,v2,v8,hR1,hg1,hbs1,hmd,hl1,hgo,g0,g1,g2,g8⟩;have hst1:m1.steps≤1048576∧0≤m1.steps:=by
   obtain ⟨_,_,_,_,_,_,hh⟩:=hR1;have:=hh.steps;omega
 unfold ir35L1
 match z,d,hmd,hgo with
 | 0,.go _ _,_,hgo=>rw [goOnS] at hgo;cases hgo
 | 0,.val _,_,hgo=>rw [goOnS] at hgo;cases hgo
 | z+1,.go e nm,⟨ve,vn,ee,he,hn⟩,hgo=>
   obtain ⟨rfl,rfl,rfl⟩:v1=ve∧v2=vn∧v8 = .nilIface:=by
     simp only [Value.tuple.injEq,Array.mk.injEq,List.cons.injEq] at ee;exact ⟨ee.1,ee.2.1,ee.2.2.1⟩
   have hp:∃ a,v1 = .pointer (some a):=by obtain ⟨a,_,rfl,_⟩:=he;exact ⟨a,rfl⟩
   obtain ⟨ap,rfl⟩:=hp;rw [goOnS] at hgo;(try simp only [go_sem,simprocAttr,g0,g1,g2,g8]);refine e_call (by rfl) ?_;refine (f_step hR1).mono ?_;rintro _ w2 ⟨rfl,hR2,hm2⟩;have Sr:∀ y,y=r→S1 y:=fun y hy=>by obtain ⟨_,_,_,_,_,_,hx⟩:=hR1;rw [hy];exact hx.inS _ (by simp)
   have hm2S:=hm2.weak Sr;have hm02:=mod_grew hm1 hg1 hm2S;rcases step_cases X m1 with ⟨q1,q2⟩ | ⟨q1,q2⟩
   · rw [q2,if_pos rfl] at hgo;rw [q2] at hR2 ⊢;cases hgo;(try simp only [go_sem,simprocAttr,rvs,RV.ev,one?]);exact ⟨⟨S1,bs1,hR2,hg1,hbs1,rfl⟩,hm02⟩
   · rw [q2,if_neg (by simp)] at hgo;rw [q2] at hR2 ⊢;simp only at hgo;have he2:=he.up hm2S out_not (out_up hm2S) (B':=Out S1 w2);have hn2:=hn.up hm2S out_not (out_up hm2S) (fun _ _ h=>h);cases hb:beginS X e nm { m1 with steps:=m1.steps+1} with
     | none=>rw [hb] at hgo;cases hgo
     | some rr=>
     rw [hb] at hgo;have hsm:=begin_sm hb;(try simp only [go_sem,simprocAttr]);refine e_call (by rfl) ?_;refine (f_beginR hR2 he2 hn2 (show m1.frames.length≤2097152 by omega) hb).mono ?_;rintro v w3 ⟨⟨S3,bs3,hR3,hg3,hbs3,hmd3⟩,hm3⟩;have hg03:=grew_step hg1 hg3 hm02.size;have hm03:=mod_grew hm02 hg1 hm3;have hbs03:∀ (c b:Nat),bs[c]? = some b→bs3[c]? = some b:=fun c b h=>hbs3 c b (hbs1 c b h)
     match rr,hgo,hmd3,hsm,hR3 with
     | (none,m'),hgo,hmd3,hsm,hR3=>
       have hmd3:v=_:=hmd3;subst hmd3;cases hgo;(try simp only [go_sem,simprocAttr,rvs,RV.ev,one?]);exact ⟨⟨S3,bs3,hR3,hg03,hbs03,rfl⟩,hm03⟩
     | (some md',m'),hgo,hmd3,hsm,hR3=>
       obtain ⟨a,b,c,d,rfl⟩:=hmd3.tup;have hd:d = .bool true:=by
         match md',hmd3 with
         | .go _ _,⟨_,_,e1,_⟩=>cases e1;rfl
         | .val _,⟨_,e1,_⟩=>cases e1;rfl
       subst hd;have ks:m'.steps=m1.steps+1:=hsm.steps;have kf:m'.frames.length≤m1.frames.length+1:=hsm.fl;(try simp only [go_sem,simprocAttr]);exact ⟨_,Nat.lt_succ_self z,hm03,S3,bs3,m',md',a,b,c,hR3,hg03,hbs03,hmd3,by omega,hgo,rfl,rfl,rfl⟩
 | z+1,.val x,⟨u,ee,hu,hv⟩,hgo=>
   obtain ⟨rfl,rfl,rfl⟩:v1 = .pointer none∧v2 = .pointer none∧v8=u:=by
     simp only [Value.tuple.injEq,Array.mk.injEq,List.cons.injEq] at ee;exact ⟨ee.1,ee.2.1,ee.2.2.1⟩
   rw [goOnS] at hgo;obtain ⟨vt,vf,trows,frows,tfp,ffp,hh⟩:=hR1;have hlf:=hh.frames.at.1;cases hl:m1.frames.getLast? with
   | none=>
     rw [hl] at hgo;cases hgo;have h0:=List.getLast?_eq_none_iff.1 hl;have b0:((frows.length:Int) == 0)=true:=by rw [hlf,h0];try rfl
     obtain ⟨af,cf,rfl,hcf,_⟩:=hh.frms.val;(try simp only [go_sem,simprocAttr,Option.isNone_none,Bool.not_true,g0,g1,g2,g8,cell_of hh.box,b0,rvs,RV.ev,one?]);exact ⟨⟨S1,bs1,⟨_,_,_,_,_,_,hh⟩,hg1,hbs1,(show ValAt w1 (Out S1 w1) bs1 _ (some x) from ⟨_,rfl,hu,hv⟩)⟩,hm1⟩
   | some f=>
     rw [hl] at hgo;simp only at hgo;have hne:m1.frames≠[]:=fun e=>by rw [e] at hl;cases hl
     have hpos:0 < frows.length:=by rw [hlf];exact List.length_pos_iff.2 hne
     have b0:((frows.length:Int) == 0)=false:=by
       have:¬ (frows.length:Int)=0:=by omega
       simpa using this
     have e1:IntKind.i64.wrap ((frows.length:Int) - 1)=((frows.length - 1:Nat):Int):=by rw [wrap_in (by omega) (by omega)];omega
     have b1:(0:Int)≤((frows.length - 1:Nat):Int)∧((frows.length - 1:Nat):Int) < frows.length:=by omega
     obtain ⟨bF,cf,sp,rfl,hfp,hbF,hcf,_⟩:=hh.frms.pos hpos;have b3:(0:Int)≤((frows.length - 1:Nat):Int)∧((frows.length - 1:Nat):Int)≤cf:=by omega
     have hrow:∀ x∈frows,x.length=5:=fun x hx=>by
       obtain ⟨i,hi,rfl⟩:=List.getElem_of_mem hx;exact (hh.frames.at.2 i _ _ (List.getElem?_eq_getElem hi) (List.getElem?_eq_getElem (by omega))).len
     have hk:frows.length - 1 < frows.length:=by omega
     have hfl:(frows.flatMap id).length=frows.length*5:=hh.frms.1;have hln:vLN w1 5 (.pointer (some ⟨bF,(frows.length - 1)*5,none⟩))=some (.agg (frows[frows.length - 1]).toArray):=by
       rw [ln_of hbF (by rw [List.length_append,hfl];omega),List.drop_append_of_le_length (by rw [hfl];omega),List.take_append_of_le_length (by rw [List.length_drop,hfl];omega),flat_take hrow hk]
     have hfm:FmAt w1 (Out S1 w1) bs1 frows[frows.length - 1] f:=hh.frames.at.2 _ _ _ (List.getElem?_eq_getElem hk) (by rw [hlf,← List.getLast?_eq_getElem?];exact hl);generalize frows[frows.length - 1]=row at hln hfm;(try simp only [go_sem,simprocAttr,Option.isNone_none,Bool.not_true,g0,g1,g2,g8,cell_of hh.box,b0,e1]);(try simp only [go_sem,simprocAttr,zb4,zb6,b1,add_at,Nat.zero_add,hln]);have lrow:=hfm.len;have hlr:=lt_of_heap hh.box;have hlF:=lt_of_heap hbF;refine e_al ?_;intro w2 hb2 hm2 hs2;have hm2:Mod (fun _=>False) w1 w2:=hm2.of_drew;refine ⟨⟨hm2.old _ hlF _root_.id,hm2.old _ hlr _root_.id⟩,?_⟩;have hb2:w2.heap[w1.heap.size]? = some (.cells [I 0,.pointer none,.pointer none,.pointer none,I 0].toArray 136 (0,0)):=hb2;refine e_sta (vs:=row) (cs:=[I 0,.pointer none,.pointer none,.pointer none,I 0]) rfl rfl hb2 lrow rfl hfm.one ?_;intro w3 hb3 hm3 hs3;have hm13:Mod (fun _=>False) w1 w3:=hm2.step hm3 (fun b hb hl=>by have e:b=w1.heap.size:=hb;omega);have hbox3:=hm13.at hh.box _root_.id;(try simp only [go_sem,simprocAttr,cell_of hbox3,e1]);(try simp only [go_sem,simprocAttr,zb4,zb6,cell_of hbox3,e1,b3,sl_same,ite_self]);have hbox3d:w3.drew.heap[r]? = _:=hbox3;refine e_st1 (b:=r) (off:=11) (v:=.slice (some ⟨bF,0,none⟩) (frows.length - 1) cf) rfl rfl hbox3d rfl (by simp) ?_;intro w4 hb4 hm4 hs4;have hm4:Mod (· = r) w3 w4:=hm4.of_drew;have hR4:=RnAt.pop (hh.keep hm13) hm4 hb4;have Sr:∀ y,y=r→S1 y:=fun y hy=>by rw [hy];exact hh.inS _ (by simp)
     have hm14:Mod S1 w1 w4:=(mod0 hm13).trans (hm4.weak Sr);have hb34:w4.heap[w1.heap.size]? = some (.cells row.toArray 136 (0,0)):=hm4.at hb3 (fun e=>by have:=hlr;omega);have hfm4:=hfm.up hm14 out_not (out_up hm14) (fun _ _ h=>h);have hu4:=hu.up hm14 out_not (out_up hm14) (fun _ _ h=>h);cases hb:endS f x { m1 with frames:=m1.frames.dropLast} with
     | none=>rw [hb] at hgo;cases hgo
     | some rr=>
     rw [hb] at hgo;have hsm:=end_sm hb;have hdl:m1.frames.dropLast.length=m1.frames.length - 1:=List.length_dropLast;(try simp only [go_sem,simprocAttr,ln_blk (n:=5) (cs:=row) hb34 lrow]);refine e_call (by rfl) ?_;refine (f_endR hR4 hfm4 hu4 hv (show m1.frames.dropLast.length≤2097152 by omega) hb).mono ?_;rintro v w5 ⟨⟨S3,bs3,hR3,hg3,hbs3,hmd3⟩,hm5⟩;have hm04:=mod_grew hm1 hg1 hm14;have hg03:=grew_step hg1 hg3 hm04.size;have hm05:=mod_grew hm04 hg1 hm5;have hbs03:∀ (c b:Nat),bs[c]? = some b→bs3[c]? = some b:=fun c b h=>hbs3 c b (hbs1 c b h)
     match rr,hgo,hmd3,hsm,hR3 with
     | (none,m'),hgo,hmd3,hsm,hR3=>
       have hmd3:v=_:=hmd3;subst hmd3;cases hgo;(try simp only [go_sem,simprocAttr,rvs,RV.ev,one?]);exact ⟨⟨S3,bs3,hR3,hg03,hbs03,rfl⟩,hm05⟩
     | (some md',m'),hgo,hmd3,hsm,hR3=>
       obtain ⟨a,b,c,d,rfl⟩:=hmd3.tup;have hd:d = .bool true:=by
         match md',hmd3 with
         | .go _ _,⟨_,_,e1,_⟩=>cases e1;rfl
         | .val _,⟨_,e1,_⟩=>cases e1;rfl
       subst hd;have ks:m'.steps=m1.steps:=hsm.steps;have kf:m'.frames.length≤m1.frames.dropLast.length+1:=hsm.fl;(try simp only [go_sem,simprocAttr]);exact ⟨_,Nat.lt_succ_self z,hm05,S3,bs3,m',md',a,b,c,hR3,hg03,hbs03,hmd3,by omega,hgo,rfl,rfl,rfl⟩
theorem f_work {n:Nat} {w:World} {S:Nat→Prop} {r md mf:Nat} {bs:List Nat} {X:Cx} {m:Rn} {e:Ex} {nm:Nms} {ve vn:Value} {res:Option Cl×Rn} (h:RnAt w S r md mf bs X m) (he:EPtr w (Out S w) ve e) (hn:NmAt w (Out S w) bs nm vn) (hlen:(m.frames.length:Int)≤m.steps+1) (hres:goOnS X n (.go e nm) m=some res) :
   CallsR Tryz.prog 26 [ptr r,ve,vn] w fun v w'=>RvAt w w' S r md mf bs X v res∧Mod S w w':=by
 refine fit26.calls rfl ?_;unfold ir26;(try simp only [go_sem,simprocAttr]);refine e_call (by rfl) ?_;refine (f_goOn h he hn hlen hres).mono ?_;rintro v w1 hR;obtain ⟨a,b,rfl⟩:=hR.1.tup;(try simp only [go_sem,simprocAttr,rvs,RV.ev,one?]);exact hR
theorem f_force {n c b:Nat} {w:World} {S:Nat→Prop} {r md mf:Nat} {bs:List Nat} {X:Cx} {m:Rn} {res:Option Cl×Rn} (h:RnAt w S r md mf bs X m) (hc:bs[c]? = some b) (hlen:(m.frames.length:Int)≤m.steps) (hres:forceS X n c m=some res) :
   CallsR Tryz.prog 38 [ptr r,ptr b] w fun v w'=>RvAt w w' S r md mf bs X v res∧Mod S w w':=by
 have hst:m.steps≤1048576:=by obtain ⟨_,_,_,_,_,_,hh⟩:=h;have:=hh.steps;omega
 have hsm:=enter_sm m c;unfold forceS at hres;refine fit38.calls rfl ?_;unfold ir38;(try simp only [go_sem,simprocAttr]);refine e_call (by rfl) ?_;refine (f_enterR h hc (by omega)).mono ?_;rintro v w1 ⟨⟨S1,bs1,hR1,hg1,hbs1,hmd1⟩,hm1⟩;generalize enterCl m c=rr at hres hsm hR1 hmd1
 match rr,hres,hsm,hR1,hmd1 with
 | (none,m'),hres,hsm,hR1,hmd1=>
   have hmd1:v=_:=hmd1;subst hmd1;cases hres;(try simp only [go_sem,simprocAttr,rvs,RV.ev,one?]);exact ⟨⟨S1,bs1,hR1,hg1,hbs1,rfl⟩,hm1⟩
 | (some (.val x),m'),hres,hsm,hR1,⟨u,e1,hu,hv⟩=>
   subst e1;cases hres;(try simp only [go_sem,simprocAttr,Option.isNone_none,rvs,RV.ev,one?]);exact ⟨⟨S1,bs1,hR1,hg1,hbs1,(show ValAt w1 (Out S1 w1) bs1 _ (some x) from ⟨_,rfl,hu,hv⟩)⟩,hm1⟩
 | (some (.go e nm),m'),hres,hsm,hR1,⟨ve,vn,e1,he,hn⟩=>
   subst e1;have hp:∃ a,ve = .pointer (some a):=by obtain ⟨a,_,rfl,_⟩:=he;exact ⟨a,rfl⟩
   obtain ⟨ap,rfl⟩:=hp;have ks:m'.steps=m.steps:=hsm.steps;have kf:m'.frames.length≤m.frames.length+1:=hsm.fl;(try simp only [go_sem,simprocAttr]);refine e_call (by rfl) ?_;refine (f_goOn hR1 he hn (show (m'.frames.length:Int)≤m'.steps+1 by omega) hres).mono ?_;rintro v w2 hR;obtain ⟨a,b,rfl⟩:=hR.1.tup;(try simp only [go_sem,simprocAttr,rvs,RV.ev,one?]);exact rv_trans hg1 hbs1 hm1 hR
theorem f_apply {n c b:Nat} {w:World} {S:Nat→Prop} {r md mf:Nat} {bs:List Nat} {X:Cx} {m:Rn} {f:Cl} {u:Value} {res:Option Cl×Rn} (h:RnAt w S r md mf bs X m) (hc:bs[c]? = some b) (hu:ClAt w (Out S w) bs f u) (hv:f.isV=true) (hlen:(m.frames.length:Int)≤m.steps) (hres:applyS X n f c m=some res) :
   CallsR Tryz.prog 27 [ptr r,u,ptr b] w fun v w'=>RvAt w w' S r md mf bs X v res∧Mod S w w':=by
 unfold applyS at hres;cases hg:givenR m f c with
 | none=>rw [hg] at hres;cases hres
 | some rr=>
 rw [hg] at hres;have hsm:=given_sm hg;refine fit27.calls rfl ?_;unfold ir27;(try simp only [go_sem,simprocAttr]);refine e_call (by rfl) ?_;refine (f_givenR h hc hu hv hg).mono ?_;rintro v w1 ⟨⟨S1,bs1,hR1,hg1,hbs1,hmd1⟩,hm1⟩
 match rr,hres,hsm,hR1,hmd1 with
 | (none,m'),hres,hsm,hR1,hmd1=>
   have hmd1:v=_:=hmd1;subst hmd1;cases hres;(try simp only [go_sem,simprocAttr,rvs,RV.ev,one?]);exact ⟨⟨S1,bs1,hR1,hg1,hbs1,rfl⟩,hm1⟩
 | (some (.val x),m'),hres,hsm,hR1,⟨u,e1,hu,hv⟩=>
   subst e1;cases hres;(try simp only [go_sem,simprocAttr,Option.isNone_none,rvs,RV.ev,one?]);exact ⟨⟨S1,bs1,hR1,hg1,hbs1,(show ValAt w1 (Out S1 w1) bs1 _ (some x) from ⟨_,rfl,hu,hv⟩)⟩,hm1⟩
 | (some (.go e nm),m'),hres,hsm,hR1,⟨ve,vn,e1,he,hn⟩=>
   subst e1;have hp:∃ a,ve = .pointer (some a):=by obtain ⟨a,_,rfl,_⟩:=he;exact ⟨a,rfl⟩
   obtain ⟨ap,rfl⟩:=hp;have ks:m'.steps=m.steps:=hsm.steps;have kf:m'.frames.length≤m.frames.length+1:=hsm.fl;(try simp only [go_sem,simprocAttr]);refine e_call (by rfl) ?_;refine (f_goOn hR1 he hn (show (m'.frames.length:Int)≤m'.steps+1 by omega) hres).mono ?_;rintro v w2 hR;obtain ⟨a,b,rfl⟩:=hR.1.tup;(try simp only [go_sem,simprocAttr,rvs,RV.ev,one?]);exact rv_trans hg1 hbs1 hm1 hR
end
section
open Go Go.W
theorem RnIn.tell {w w3 w4:World} {S:Nat→Prop} {r md mf:Nat} {bs:List Nat} {X:Cx} {m:Rn} {vt vf v3:Value} {trows frows:List (List Value)} {tfp ffp fp3:Option Nat} {row:List Value} {it:ByteArray×Int} (h:RnIn w S r md mf bs X m vt vf trows frows tfp ffp) (hm3:Mod (fun b=>tfp=some b) w w3)
   (ho3:OwnS w3 71 2 v3 (trows.flatMap id++row) (trows.length+1) fp3) (hf3:∀ b,fp3=some b→tfp=some b∨w.heap.size≤b) (hit:ItAt' row it) (hm4:Mod (· = r) w3 w4) (hb4:w4.heap[r]? = some (.cells (rnCells X m md mf v3 vf).toArray tRun (0,0))) :
   ∃ S',RnAt w4 S' r md mf bs X { m with told:=m.told++[it]}∧Grew S S' w∧Mod S w w4:=by
 obtain ⟨n1,n2,n3,n4,n5,n6,n7,n8,n9⟩:=h.ne;have Sr:∀ b,b=r→S b:=fun b hb=>by rw [hb];exact h.inS _ (by simp)
 have St:∀ b,tfp=some b→S b:=fun b hb=>h.inS _ (by simp [hb])
 have hmS:Mod S w w4:=(hm3.weak St).trans (hm4.weak Sr);have z3:=hm3.size;have z4:=hm4.size;have hg:Grew S (fun b=>S b∨fp3=some b) w:=⟨fun b hb=>.inl hb,fun b hb=>by
   rcases hb with h | h
   · exact .inl h
   · rcases hf3 b h with h | h
     · exact .inl (St b h)
     · exact .inr h⟩
 have hout:=grew_out hg hmS.size;have ltl:∀ b∈rnList r md mf bs tfp ffp,b < w.heap.size:=fun b hb=>h.lt b (h.inS b hb)
 have lr:=ltl r (by simp);have ld:=ltl md (by simp);have lmf:=ltl mf (by simp);have lf':∀ b,ffp=some b→b < w.heap.size:=fun b hb=>ltl b (by simp [hb])
 have lb:∀ b∈bs,b < w.heap.size:=fun b hb=>ltl b (by simp [hb])
 refine ⟨fun b=>S b∨fp3=some b,⟨v3,vf,trows++[row],frows,fp3,ffp,?_⟩,hg,hmS⟩;refine ⟨hb4,?_,h.items.snoc hit,?_,?_,?_,?_,?_,h.len,?_,?_,?_,h.steps,fun p hp=>?_⟩
 rotate_left 9
 · obtain ⟨a1,a2,a3⟩:=h.kept p hp;have a4:=lt_of_heap a1;simp only [rnList,List.mem_cons,List.mem_append,Option.mem_toList,not_or] at a3 ⊢;obtain ⟨c1,c2,c3,⟨c4,c5⟩,c6⟩:=a3;exact ⟨hm4.at (hm3.at a1 (fun e=>c4 (by rw [e]))) c1,.inl a2,c1,c2,c3,⟨fun e=>by
     rcases hf3 _ e with h | h
     · exact c4 h
     · omega,c5⟩,c6⟩
 · have ho4:=ho3.mod hm4 (fun b hb e=>by
     rcases hf3 b hb with h | h
     · exact (n4 b h).1 e.symm
     · omega)
   rw [flat_snoc,List.length_append];exact ho4
 · exact (h.frms.mod hm3 (fun b hb e=>n7 b b e hb rfl)).mod hm4 (fun b hb e=>(n5 b hb).1 e.symm)
 · exact h.frames.imp (fun _ _ x=>x.up hmS out_not hout (fun _ _ h=>h))
 · refine rn_nodup h.bsn ⟨n1,n2,n3⟩ (fun b hb=>?_) n5 n6 (fun a b ha hb=>?_) (fun a ha hmem=>?_) n9
   · rcases hf3 b hb with h | h
     · exact n4 b h
     · exact ⟨by omega,by omega,by omega⟩
   · rcases hf3 a ha with h | h
     · exact n7 a b h hb
     · have:=lf' b hb;omega
   · rcases hf3 a ha with h | h
     · exact n8 a h hmem
     · have:=lb a hmem;omega
 · intro b hb;simp only [rnList,List.mem_cons,List.mem_append,Option.mem_toList] at hb;rcases hb with rfl | rfl | rfl | (h1 | h1) | h1
   · exact .inl (h.inS _ (by simp))
   · exact .inl (h.inS _ (by simp))
   · exact .inl (h.inS _ (by simp))
   · exact .inr h1
   · exact .inl (h.inS _ (by simp [h1]))
   · exact .inl (h.inS _ (by simp [h1]))
 · intro b hb;rcases hb with h1 | h1
   · have:=h.lt b h1;omega
   · have:=ho3.lt h1;omega
 · intro i b x hi hx;obtain ⟨v,h1,h2⟩:=h.cell i b x hi hx;have hmem:=List.mem_of_getElem? hi;exact ⟨v,hm4.at (hm3.at h1 (fun e=>n8 b e hmem)) (fun e=>(n6 b hmem).1 e.symm),h2.up hmS out_not hout (fun _ _ h=>h)⟩
 · exact (h.defs.mod hm3 (fun e=>(n4 md e).2.1 rfl) (fun _ _ x=>x)).mod hm4 (fun e=>n1 e.symm) (fun _ _ x=>x)
 · exact (h.fields.mod hm3 (fun e=>(n4 mf e).2.2 rfl) (fun _ _ x=>x)).mod hm4 (fun e=>n2 e.symm) (fun _ _ x=>x)
end
section
open Go Go.W
def Cx.kp (X:Cx) (l:List (Nat×Obj)):Cx:={ X with keep:=l}
theorem step_kp (X:Cx) (l:List (Nat×Obj)) (m:Rn):stepS (X.kp l) m=stepS X m:=rfl
theorem begin_kp (X:Cx) (l:List (Nat×Obj)) (e:Ex) (v:Nms) (m:Rn):beginS (X.kp l) e v m=beginS X e v m:=rfl
theorem goOn_kp (X:Cx) (l:List (Nat×Obj)):∀ (n:Nat) (md:Md) (m:Rn),goOnS (X.kp l) n md m=goOnS X n md m
 | 0,md,m=>by cases md<;>rw [goOnS,goOnS]
 | n+1,.go e v,m=>by
   rw [goOnS,goOnS];simp only [step_kp,begin_kp,goOn_kp X l n]
 | n+1,.val x,m=>by
   rw [goOnS,goOnS];simp only [goOn_kp X l n]
theorem force_kp (X:Cx) (l:List (Nat×Obj)) (n c:Nat) (m:Rn):forceS (X.kp l) n c m=forceS X n c m:=by
 unfold forceS;simp only [goOn_kp]
theorem RnIn.rekeep {w w':World} {S:Nat→Prop} {r md mf:Nat} {bs:List Nat} {X:Cx} {m:Rn} {vt vf:Value} {trows frows:List (List Value)} {tfp ffp fp fp':Option Nat} {K K':List (Nat×Obj)} (h:RnIn w S r md mf bs (X.kp K) m vt vf trows frows tfp ffp) (hK:∀ b,fp=some b→∃ o,(b,o)∈K)
   (hm:Mod (fun b=>fp=some b) w w') (hnew:∀ b,fp'=some b→fp=some b∨w.heap.size≤b) (hlt:∀ b,fp'=some b→b < w'.heap.size) (hK':∀ p∈K',fp'=some p.1∧w'.heap[p.1]? = some p.2) :
   RnIn w' (fun b=>S b∨fp'=some b) r md mf bs (X.kp K') m vt vf trows frows tfp ffp:=by
 have inK:∀ b,fp=some b→S b∧b∉rnList r md mf bs tfp ffp:=fun b hb=>by
   obtain ⟨o,ho⟩:=hK b hb;exact ⟨(h.kept _ ho).2.1,(h.kept _ ho).2.2⟩
 have ne:∀ b∈rnList r md mf bs tfp ffp,¬ fp=some b:=fun b hb e=>(inK b e).2 hb
 have ne':∀ b∈rnList r md mf bs tfp ffp,¬ fp'=some b:=fun b hb e=>by
   rcases hnew b e with h1 | h1
   · exact ne b hb h1
   · have:=h.lt b (h.inS b hb);omega
 have hmS:Mod S w w':=hm.weak (fun b hb=>(inK b hb).1);have hout:∀ b,Out S w b→Out (fun b=>S b∨fp'=some b) w' b:=fun b hb=>⟨Nat.lt_of_lt_of_le hb.1 hm.size,fun hh=>by
   rcases hh with h1 | h1
   · exact hb.2 h1
   · rcases hnew b h1 with h2 | h2
     · exact hb.2 (inK b h2).1
     · have:=hb.1;omega⟩
 refine ⟨hm.at h.box (ne r (by simp)),h.told.mod hm (fun b hb=>ne b (by simp [hb])),h.items,h.frms.mod hm (fun b hb=>ne b (by simp [hb])),h.frames.imp (fun _ _ x=>x.up hmS out_not hout (fun _ _ h=>h)),h.blocks,fun b hb=>.inl (h.inS b hb),?_,h.len,?_,
   h.defs.mod hm (ne md (by simp)) (fun _ _ x=>x),h.fields.mod hm (ne mf (by simp)) (fun _ _ x=>x),h.steps,fun p hp=>?_⟩
 · rintro b (hb | hb)
   · exact Nat.lt_of_lt_of_le (h.lt b hb) hm.size
   · exact hlt b hb
 · intro i b x hi hx;obtain ⟨v,h1,h2⟩:=h.cell i b x hi hx;exact ⟨v,hm.at h1 (ne b (by simp [List.mem_of_getElem? hi])),h2.up hmS out_not hout (fun _ _ h=>h)⟩
 · obtain ⟨h1,h2⟩:=hK' p hp;exact ⟨h2,.inr h1,fun hh=>ne' _ hh h1⟩
theorem RnAt.drop {w:World} {S:Nat→Prop} {r md mf:Nat} {bs:List Nat} {X:Cx} {m:Rn} {K:List (Nat×Obj)} (h:RnAt w S r md mf bs (X.kp K) m):RnAt w S r md mf bs (X.kp []) m:=by
 obtain ⟨vt,vf,trows,frows,tfp,ffp,h⟩:=h;exact ⟨vt,vf,trows,frows,tfp,ffp,h.box,h.told,h.items,h.frms,h.frames,h.blocks,h.inS,h.lt,h.len,h.cell,h.defs,h.fields,h.steps,fun p hp=>by cases hp⟩
abbrev tCp:Nat:=82
structure WsAt (w w0:World) (bs:List Nat) (v:Value) (ws:List Nat) (rows:List Value) (fp:Option Nat) (K:List (Nat×Obj)):Prop where
 own:OwnS w tCp 1 v rows ws.length fp
 all:All2 (RCell bs) rows ws
 new:∀ b,fp=some b→w0.heap.size≤b
 k1:∀ b,fp=some b→∃ o,(b,o)∈K
theorem WsAt.up {w w' w0:World} {S S':Nat→Prop} {r md mf:Nat} {bs bs0 bs' bs0':List Nat} {X:Cx} {m m':Rn} {v:Value} {ws:List Nat} {rows:List Value} {fp:Option Nat} {K:List (Nat×Obj)} (h:WsAt w w0 bs v ws rows fp K) (hR:RnAt w S r md mf bs0 (X.kp K) m) (hR':RnAt w' S' r md mf bs0' (X.kp K) m') (hb:∀ (c b:Nat),bs[c]? = some b→bs'[c]? = some b):WsAt w' w0 bs' v ws rows fp K:=by
 refine ⟨⟨h.own.1,?_⟩,all2_imp (fun _ _ x=>by obtain ⟨y,e,h⟩:=x;exact ⟨y,e,hb _ _ h⟩) h.all,h.new,h.k1⟩;rcases h.own.2 with h1 | ⟨b,c,sp,h1,h2,h3,h4⟩
 · exact .inl h1
 · refine .inr ⟨b,c,sp,h1,h2,?_,h4⟩;obtain ⟨o,ho⟩:=h.k1 b h2;obtain ⟨_,_,_,_,_,_,hh⟩:=hR;obtain ⟨_,_,_,_,_,_,hh'⟩:=hR';have e1:=(hh.kept _ ho).1;have e2:=(hh'.kept _ ho).1;simp only at e1 e2;rw [h3] at e1;rw [e2,← e1]
theorem WsAt.push {w w' w'' w0:World} {S:Nat→Prop} {r md mf:Nat} {bs:List Nat} {X:Cx} {m:Rn} {v v':Value} {ws:List Nat} {rows:List Value} {fp fp':Option Nat} {K:List (Nat×Obj)} {c b:Nat} (h:WsAt w w0 bs v ws rows fp K) (hR:RnAt w S r md mf bs (X.kp K) m) (hc:bs[c]? = some b) (hm0:Mod (fun _=>False) w w') (hz:w0.heap.size≤w.heap.size)
   (ho:OwnS w'' tCp 1 v' (rows++[ptr b]) (ws.length+1) fp') (hm:Mod (fun b=>fp=some b) w' w'') (hf:∀ b,fp'=some b→fp=some b∨b=w'.heap.size∧b < w''.heap.size) :
   ∃ S' K',RnAt w'' S' r md mf bs (X.kp K') m∧Grew S S' w∧Mod S w w''∧WsAt w'' w0 bs v' (ws++[c]) (rows++[ptr b]) fp' K':=by
 obtain ⟨vt,vf,trows,frows,tfp,ffp,hh⟩:=hR.keep hm0;have hfS:∀ b,fp=some b→S b:=fun b hb=>by
   obtain ⟨o,ho⟩:=h.k1 b hb;exact (hh.kept _ ho).2.1
 have z0:=hm0.size;have hnew:∀ b,fp'=some b→fp=some b∨w'.heap.size≤b:=fun b hb=>by
   rcases hf b hb with h1 | ⟨h1,_⟩
   · exact .inl h1
   · exact .inr (by omega)
 have hlt:∀ b,fp'=some b→b < w''.heap.size:=fun b hb=>ho.lt hb
 have all':All2 (RCell bs) (rows++[ptr b]) (ws++[c]):=h.all.snoc ⟨b,rfl,hc⟩;have own':OwnS w'' tCp 1 v' (rows++[ptr b]) (ws++[c]).length fp':=by rw [List.length_append];exact ho
 have new':∀ b,fp'=some b→w0.heap.size≤b:=fun b hb=>by
   rcases hnew b hb with h1 | h1
   · exact h.new b h1
   · omega
 have hg:Grew S (fun b=>S b∨fp'=some b) w:=⟨fun b hb=>.inl hb,fun b hb=>by
   rcases hb with h1 | h1
   · exact .inl h1
   · rcases hnew b h1 with h2 | h2
     · exact .inl (hfS b h2)
     · exact .inr (by omega)⟩
 obtain ⟨b',cap,sp,e1,e2,e3,_⟩:=ho.pos (by omega);refine ⟨_,[(b',.cells (rows++[ptr b]++sp).toArray tCp (0,0))],⟨vt,vf,trows,frows,tfp,ffp,hh.rekeep (K':=[(b',.cells (rows++[ptr b]++sp).toArray tCp (0,0))]) h.k1 hm hnew hlt (fun p hp=>by rw [List.mem_singleton.1 hp];exact ⟨e2,e3⟩)⟩,hg,(mod0 hm0).trans (hm.weak hfS),own',all',new',fun b hb=>?_⟩;rw [e2] at hb;cases hb;exact ⟨_,List.mem_singleton.2 rfl⟩
end
section
open Go Go.W
theorem ir_blk {P:Program} {N id:Nat} {a:IR} {Q:Post} {ρ:Go.W.Env} {w:World} (h:irwp P N a (blkQ id Q) ρ w):irwp P N (.block id a) Q ρ w:=h
theorem enter_val {m m':Rn} {c:Nat} {x:Cl} (h:enterCl m c=(some (.val x),m')):m'=m∧x.isV=true:=by
 unfold enterCl at h;cases hx:m.cells[c]? with
 | none=>rw [hx] at h;cases h
 | some y=>
   rw [hx] at h;cases y<;>first | (cases h;exact ⟨rfl,rfl⟩) | cases h
theorem force_sm {X:Cx} {n c:Nat} {m:Rn} {r:Option Cl×Rn} (h:forceS X n c m=some r) (hf:m.frames=[]):GoR X m r:=by
 unfold forceS at h;have k:=enter_sm m c;have kv:∀ x m',enterCl m c=(some (.val x),m')→m'=m∧x.isV=true:=fun x m'=>enter_val
 generalize enterCl m c=rr at h k kv
 match rr,h,k,kv with
 | (none,m'),h,k,kv=>
   cases h;have ks:m'.steps=m.steps:=k.steps;exact ⟨k.told,by show m.steps≤m'.steps;omega,fun hh=>by show m'.steps≤_;omega,fun x hx=>by (cases hx),fun _=>.inr (k.stop rfl)⟩
 | (some (.val x),m'),h,k,kv=>
   cases h;obtain ⟨rfl,_⟩:=kv x m' rfl;exact ⟨rfl,Int.le_refl _,fun h=>h,fun _ _=>⟨rfl,rfl,hf⟩,fun hn=>by cases hn⟩
 | (some (.go e v),m'),h,k,kv=>
   have ks:m'.steps=m.steps:=k.steps;exact (goOn_sm n h).from k.told (by omega) (fun hh=>by omega) (k.go _ rfl)
theorem all2_take {α β:Type} {P:α→β→Prop}:∀ {l:List α} {m:List β} (k:Nat),All2 P l m→All2 P (l.take k) (m.take k)
 | _,_,0,_=>trivial
 | [],[],k+1,_=>trivial
 | a::l,b::m,k+1,h=>⟨h.1,all2_take k h.2⟩
 | [],_::_,k+1,h=>h.elim
 | _::_,[],k+1,h=>h.elim
theorem f_tell {n:Nat} {w:World} {S:Nat→Prop} {r md mf:Nat} {bs:List Nat} {X:Cx} {m mF:Rn} {x:Cl} {u:Value} (h:RnAt w S r md mf bs (X.kp []) m) (hu:ClAt w (Out S w) bs x u) (hv:x.isV=true) (hfr:m.frames=[]) (htl:(m.told.length:Int)≤m.steps) (hres:tellS X n x [] m=some mF) :
   CallsR Tryz.prog 29 [ptr r,u] w fun _ w'=>(∃ S' bs',RnAt w' S' r md mf bs' (X.kp []) mF∧Grew S S' w)∧Mod S w w':=by
 refine fit29.calls rfl ?_;unfold ir29;(try simp only [go_sem,Nat.reduceAdd,Nat.reduceEqDiff,Nat.reduceLT,Nat.reduceLeDiff,Nat.reduceMul,reduceCtorEq,↓reduceIte]);refine ir_loop (fun z ρ w'=>Mod S w w'∧∃ (S':Nat→Prop) (bs':List Nat) (m':Rn) (x:Cl) (u:Value) (ws:List Nat) (vw:Value) (rows:List Value) (fp:Option Nat) (K:List (Nat×Obj)),RnAt w' S' r md mf bs' (X.kp K) m'∧Grew S S' w∧ClAt w' (Out S' w') bs' x u∧x.isV=true∧WsAt w' w bs' vw ws rows fp K∧m'.frames=[]∧(m'.told.length:Int)≤m'.steps∧tellS X z x ws m'=some mF ∧
   ρ.get 0=some (ptr r)∧ρ.get 1=some u∧ρ.get 4=some vw) n ⟨.refl _ _,S,bs,m,x,u,[],.slice none 0 0,[],none,[],h,grew_refl,hu,hv,⟨OwnS.nil _ _ _,trivial,fun b hb=>(by cases hb),fun b hb=>(by cases hb)⟩,hfr,htl,hres,rfl,rfl,rfl⟩ ?_
 rintro z ρ w1 ⟨hm1,S1,bs1,m1,x,u,ws,vw,rows,fp,K,hR1,hg1,hu1,hv1,hw1,hfr1,htl1,hte,g0,g1,g4⟩;clear h hu hv hfr htl hres;have hst1:m1.steps≤1048576∧0≤m1.steps:=by
   obtain ⟨_,_,_,_,_,_,hh⟩:=hR1;have:=hh.steps;omega
 have Sr:∀ y,y=r→S1 y:=fun y hy=>by obtain ⟨_,_,_,_,_,_,hx⟩:=hR1;rw [hy];exact hx.inS _ (by simp)
 match z,hte with
 | 0,hte=>rw [tellS] at hte;cases hte
 | z+1,hte=>
 rw [tellS] at hte;unfold ir29L2;obtain ⟨T,zz,rfl,_⟩:=cl_iface hu1 hv1;have hev:evs ρ [.t 0]=some [ptr r]:=by simp only [evs,O.ev,g0]
 refine ir_blk (ir_cut (fun ρ w2=>RnAt w2 S1 r md mf bs1 (X.kp K) { m1 with steps:=m1.steps+1}∧Mod (· = r) w1 w2∧m1.steps≠X.fuel∧ρ.get 0=some (ptr r)∧ρ.get 1=some (.iface T zz)∧ρ.get 4=some vw) ?_ ?_)
 · (try simp only [go_sem,Nat.reduceAdd,Nat.reduceEqDiff,Nat.reduceLT,Nat.reduceLeDiff,Nat.reduceMul,reduceCtorEq,↓reduceIte,g0,g1,g4]);refine e_call hev ?_;refine (f_step hR1).mono ?_;rintro _ w2 ⟨rfl,hR2,hm2⟩;have hm2S:=hm2.weak Sr;have hm02:=mod_grew hm1 hg1 hm2S;rw [step_kp] at hR2 ⊢;rcases step_cases X m1 with ⟨q1,q2⟩ | ⟨q1,q2⟩
   · rw [q2,if_pos rfl] at hte;rw [q2] at hR2 ⊢;cases hte;(try simp only [go_sem,Nat.reduceAdd,Nat.reduceEqDiff,Nat.reduceLT,Nat.reduceLeDiff,Nat.reduceMul,reduceCtorEq,↓reduceIte,g0,g1,g4,rvs,RV.ev,one?]);exact ⟨⟨S1,bs1,hR2.drop,hg1⟩,hm02⟩
   · rw [q2] at hR2 ⊢;(try simp only [go_sem,Nat.reduceAdd,Nat.reduceEqDiff,Nat.reduceLT,Nat.reduceLeDiff,Nat.reduceMul,reduceCtorEq,↓reduceIte,g0,g1,g4]);exact ⟨hR2,hm2,q1⟩
 rintro ρ w2 ⟨hR2,hm2,q1,g0,g1,g4⟩;have hm2S:=hm2.weak Sr;have hm02:=mod_grew hm1 hg1 hm2S;have q2:stepS X m1=(true,{ m1 with steps:=m1.steps+1}):=by unfold stepS;rw [if_neg q1]
 rw [q2,if_neg (by simp)] at hte;simp only at hte;have hu2:=hu1.up hm2S out_not (out_up hm2S) (fun _ _ h=>h);have hw2:WsAt w2 w bs1 vw ws rows fp K:=hw1.up hR1 hR2 (fun _ _ h=>h);refine ir_cut (fun ρ w3=>∃ (S3:Nat→Prop) (m3:Rn) (ws3:List Nat) (vw3:Value) (rows3:List Value) (fp3:Option Nat) (K3:List (Nat×Obj)),RnAt w3 S3 r md mf bs1 (X.kp K3) m3∧Grew S S3 w∧Mod S w w3∧WsAt w3 w bs1 vw3 ws3 rows3 fp3 K3∧m3.frames=[]∧(m3.told.length:Int)≤m3.steps∧m3.steps=m1.steps+1∧ρ.get 0=some (ptr r)∧ρ.get 4=some vw3 ∧
   (if 16777216 < ws3.length then none else match ws3.getLast? with
     | none=>some { m3 with kind:=2}
     | some c=>match forceS X z c m3 with
       | none=>none
       | some (none,m3)=>some m3
       | some (some y,m3)=>tellS X z y ws3.dropLast m3)=some mF) ?_ ?_
 · have hmid : ∀ {w3 : World} {S3 : Nat → Prop} {vw3 : Value} {ws3 : List Nat} {rows3 : List Value} {fp3 : Option Nat} {K3 : List (Nat × Obj)} {m3 : Rn}, RnAt w3 S3 r md mf bs1 (X.kp K3) m3 → Grew S S3 w → Mod S w w3 → WsAt w3 w bs1 vw3 ws3 rows3 fp3 K3 → m3 = { m1 with steps := m1.steps + 1, told := m1.told ++ itemS x } → ws3 = ws ++ (fieldsOf x).reverse →
       (∃ (S3:Nat→Prop) (m3:Rn) (ws3:List Nat) (vw3':Value) (rows3:List Value) (fp3:Option Nat) (K3:List (Nat×Obj)),RnAt w3 S3 r md mf bs1 (X.kp K3) m3∧Grew S S3 w∧Mod S w w3∧WsAt w3 w bs1 vw3' ws3 rows3 fp3 K3∧m3.frames=[]∧(m3.told.length:Int)≤m3.steps∧m3.steps=m1.steps+1∧vw3=vw3' ∧
         (if 16777216 < ws3.length then none else match ws3.getLast? with
           | none=>some { m3 with kind:=2}
           | some c=>match forceS X z c m3 with
             | none=>none
             | some (none,m3)=>some m3
             | some (some y,m3)=>tellS X z y ws3.dropLast m3)=some mF):=fun {w3 S3 vw3 ws3 rows3 fp3 K3 m3} a1 a2 a3 a4 a5 a6=>by
     subst a5 a6;have hil:(itemS x).length≤1:=by cases x<;>simp [itemS]
     exact ⟨S3,_,_,vw3,rows3,fp3,K3,a1,a2,a3,a4,hfr1,by simp;omega,rfl,rfl,hte⟩
   obtain ⟨vt,vf,trows,frows,tfp,ffp,hh⟩:=hR2;have htl:trows.length=m1.told.length:=hh.items.at.1;obtain ⟨avt,cvt,rfl,_,_⟩:=hh.told.val;have hbs:∀ {w3:World} {row:List Value},Mod (fun _=>False) w2 w3→True:=fun _=>trivial
   cases x with
   | num n=>
     cases hu2;(try simp only [go_sem,Nat.reduceAdd,Nat.reduceEqDiff,Nat.reduceLT,Nat.reduceLeDiff,Nat.reduceMul,reduceCtorEq,↓reduceIte,g0,g1,g4]);refine e_taC (D:=.int .i64) rfl rfl rfl (Tryz.zeroValue115 _) (fun _=>?_) (fun h=>absurd rfl h);(try simp only [go_sem,Nat.reduceAdd,Nat.reduceEqDiff,Nat.reduceLT,Nat.reduceLeDiff,Nat.reduceMul,reduceCtorEq,↓reduceIte,cell_of hh.box]);refine e_bs (cs:=#[.string noStr,I n]) rfl rfl ?_;intro w3 hb3 hm3 hs3;have hbox3:=hm3.at hh.box _root_.id;(try simp only [go_sem,Nat.reduceAdd,Nat.reduceEqDiff,Nat.reduceLT,Nat.reduceLeDiff,Nat.reduceMul,reduceCtorEq,↓reduceIte]);refine e_ap (m:=1) (news:=[.string noStr,I n]) rfl (hh.told.mod hm3 (fun _ _ h=>h)) rfl (fun h=>by cases h) (rd_block (xs:=[.string noStr,I n]) hb3) (one_cons rfl (one_cons rfl one_nil)) rfl (by omega) (by omega) ?_;intro v4 w4 fp4 ho4 hm4 hf4;obtain ⟨n1,n2,n3,n4,n5,n6,n7,n8,n9⟩:=hh.ne;have hbox4:=hm4.at hbox3 (fun e=>(n4 r e).1 rfl);obtain ⟨av4,cv4,rfl,_,_⟩:=ho4.val;(try simp only [go_sem,Nat.reduceAdd,Nat.reduceEqDiff,Nat.reduceLT,Nat.reduceLeDiff,Nat.reduceMul,reduceCtorEq,↓reduceIte]);refine e_st1 (b:=r) (off:=1) (v:=.slice av4 (trows.length+1) cv4) rfl rfl hbox4 rfl (by simp) ?_;intro w5 hb5 hm5 hs5;obtain ⟨S5,hR5,hg5,hm25⟩:=(hh.keep hm3).tell (it:=(noStr,n)) (row:=[.string noStr,I n]) hm4 ho4 (fun b hb=>by
       rcases hf4 b hb with h | ⟨h,_⟩
       · exact .inl h
       · exact .inr (by rw [h];exact Nat.le_refl _)) rfl hm5 hb5
     have hm25':Mod S1 w2 w5:=(mod0 hm3).trans hm25;have hg25:Grew S1 S5 w2:=grew_step grew_refl hg5 hm3.size;(try simp only [go_sem,Nat.reduceAdd,Nat.reduceEqDiff,Nat.reduceLT,Nat.reduceLeDiff,Nat.reduceMul,reduceCtorEq,↓reduceIte]);exact hmid hR5 (grew_step hg1 hg25 hm02.size) (mod_grew hm02 hg1 hm25') (hw2.up ⟨_,_,_,_,_,_,hh⟩ hR5 (fun _ _ h=>h)) rfl (by simp [fieldsOf])
   | con k fs=>
     obtain ⟨a,vs,e1,hcs,hfs⟩:=hu2;cases e1;obtain ⟨af,cf,rfl⟩:=each_sl hfs;have hlf:=each_len hfs;have k0:w2.cell? a=some (.string k):=hcs.c0 (by simp);have hlr:=lt_of_heap hh.box;(try simp only [go_sem,Nat.reduceAdd,Nat.reduceEqDiff,Nat.reduceLT,Nat.reduceLeDiff,Nat.reduceMul,reduceCtorEq,↓reduceIte,g0,g1,g4]);refine e_taC (D:=.int .i64) rfl rfl rfl (Tryz.zeroValue115 _) (fun h=>by cases h) (fun _=>?_);(try simp only [go_sem,Nat.reduceAdd,Nat.reduceEqDiff,Nat.reduceLT,Nat.reduceLeDiff,Nat.reduceMul,reduceCtorEq,↓reduceIte]);refine e_taC (D:=.pointer 114) rfl rfl rfl (Tryz.zeroValue111 _) (fun _=>?_) (fun h=>absurd rfl h);(try simp only [go_sem,Nat.reduceAdd,Nat.reduceEqDiff,Nat.reduceLT,Nat.reduceLeDiff,Nat.reduceMul,reduceCtorEq,↓reduceIte,cell_of hh.box,k0]);refine e_bs (cs:=#[.string k,I 0]) rfl rfl ?_;intro w3 hb3 hm3 hs3;have hm3:Mod (fun _=>False) w2 w3:=hm3.of_drew;have hbox3:=hm3.at hh.box _root_.id;refine ⟨hm3.old _ hlr _root_.id,?_⟩;refine e_ap (m:=1) (news:=[.string k,I 0]) rfl (hh.told.mod hm3 (fun _ _ h=>h)) rfl (fun h=>by cases h) (rd_block (xs:=[.string k,I 0]) hb3) (one_cons rfl (one_cons rfl one_nil)) rfl (by omega) (by omega) ?_;intro v4 w4 fp4 ho4 hm4 hf4;obtain ⟨n1,n2,n3,n4,n5,n6,n7,n8,n9⟩:=hh.ne;have hbox4:=hm4.at hbox3 (fun e=>(n4 r e).1 rfl);obtain ⟨av4,cv4,rfl,_,_⟩:=ho4.val;(try simp only [go_sem,Nat.reduceAdd,Nat.reduceEqDiff,Nat.reduceLT,Nat.reduceLeDiff,Nat.reduceMul,reduceCtorEq,↓reduceIte]);refine e_st1 (b:=r) (off:=1) (v:=.slice av4 (trows.length+1) cv4) rfl rfl hbox4 rfl (by simp) ?_;intro w5 hb5 hm5 hs5;obtain ⟨S5,hR5,hg5,hm25⟩:=(hh.keep hm3).tell (it:=(k,0)) (row:=[.string k,I 0]) hm4 ho4 (fun b hb=>by
       rcases hf4 b hb with h | ⟨h,_⟩
       · exact .inl h
       · exact .inr (by rw [h];exact Nat.le_refl _)) rfl hm5 hb5
     have hm25':Mod S1 w2 w5:=(mod0 hm3).trans hm25;have hg25:Grew S1 S5 w2:=grew_step grew_refl hg5 hm3.size;have hg05:=grew_step hg1 hg25 hm02.size;have hm05:=mod_grew hm02 hg1 hm25';have hw5:=hw2.up ⟨_,_,_,_,_,_,hh⟩ hR5 (fun _ _ h=>h);have hout5:=grew_out hg25 hm25'.size;have hcs5:=hcs.up hm25' out_not hout5;have hfs5:=hfs.up hm25' out_not hout5 (fun _ _ h=>h);have k1:w5.cell? ⟨a.block,a.off+1,none⟩=some (.slice af fs.length cf):=hcs5.at (k:=1) (by simp);have e1:IntKind.i64.wrap ((fs.length:Int) - 1)=(fs.length:Int) - 1:=wrap_in (by omega) (by omega);have hsum:ws.length+fs.length≤16777216:=by
       apply Classical.byContradiction;intro hn;rw [if_pos (by simp [fieldsOf];omega)] at hte;cases hte
     (try simp only [go_sem,Nat.reduceAdd,Nat.reduceEqDiff,Nat.reduceLT,Nat.reduceLeDiff,Nat.reduceMul,reduceCtorEq,↓reduceIte,k1,e1]);refine ir_loop (fun z' ρ w'=>z'≤fs.length∧∃ (S':Nat→Prop) (K':List (Nat×Obj)) (vk:Value) (rows':List Value) (fp':Option Nat),RnAt w' S' r md mf bs1 (X.kp K') { m1 with steps:=m1.steps+1,told:=m1.told++[(k,0)]}∧Grew S5 S' w5∧Mod S5 w5 w'∧WsAt w' w bs1 vk (ws++(fs.drop z').reverse) rows' fp' K' ∧
       ρ=[(0,ptr r),(4,vk),(6,.pointer (some a)),(7,I ((z':Int) - 1))]) fs.length ⟨Nat.le_refl _,S5,K,vw,rows,fp,hR5,grew_refl,.refl _ _,by rw [List.drop_length,List.reverse_nil,List.append_nil];exact hw5,rfl⟩ ?_
     · rintro q _ w6 ⟨hq,S6,K6,v6,rows6,fp6,hR6,hg56,hm56,hw6,rfl⟩;unfold ir29L1
       match q,hq,hw6 with
       | 0,hq,hw6=>
         have b0:decide (((0:Nat):Int) - 1≥0)=false:=by decide
         (try simp only [go_sem,Nat.reduceAdd,Nat.reduceEqDiff,Nat.reduceLT,Nat.reduceLeDiff,Nat.reduceMul,reduceCtorEq,↓reduceIte,b0]);exact hmid hR6 (grew_step hg05 hg56 hm05.size) (mod_grew hm05 hg05 hm56) hw6 rfl (by simp [fieldsOf])
       | q+1,hq,hw6=>
         have e2:((q+1:Nat):Int) - 1=(q:Int):=by omega
         have e3:IntKind.i64.wrap ((q:Int) - 1)=(q:Int) - 1:=wrap_in (by omega) (by omega);have b0:decide ((q:Int)≥0)=true:=by simp
         have hout6:=grew_out hg56 hm56.size;have hfs6:=hfs5.up hm56 out_not hout6 (fun _ _ h=>h);have hcs6:=hcs5.up hm56 out_not hout6;have k6:w6.cell? ⟨a.block,a.off+1,none⟩=some (.slice af fs.length cf):=hcs6.at (k:=1) (by simp);have hqf:q < fs.length:=by omega
         obtain ⟨ad2,c2,r2,e4,⟨b,rfl,hbb⟩,_,hcf⟩:=each_cells hfs6 hqf;obtain ⟨rfl,-,-⟩:=tup_inj e4;have f0:w6.cell? (ad2.add q)=some (ptr b):=by have:=hcf.c0 (by simp);rwa [Nat.mul_one] at this
         have p3:(0:Int)≤q∧(q:Int) < fs.length:=by omega
         (try simp only [go_sem,Nat.reduceAdd,Nat.reduceEqDiff,Nat.reduceLT,Nat.reduceLeDiff,Nat.reduceMul,reduceCtorEq,↓reduceIte,e2,b0,k6]);(try simp only [go_sem,Nat.reduceAdd,Nat.reduceEqDiff,Nat.reduceLT,Nat.reduceLeDiff,Nat.reduceMul,reduceCtorEq,↓reduceIte,zb4,zb6,e2,b0,k6,p3,f0]);refine e_bs (cs:=#[ptr b]) rfl rfl ?_;intro w7 hb7 hm7 hs7;have hw7:=hw6.own.mod hm7 (fun _ _ h=>h);(try simp only [go_sem,Nat.reduceAdd,Nat.reduceEqDiff,Nat.reduceLT,Nat.reduceLeDiff,Nat.reduceMul,reduceCtorEq,↓reduceIte]);refine e_ap (m:=1) (news:=[ptr b]) rfl hw7 rfl (fun h=>by cases h) (rd_block (xs:=[ptr b]) hb7) (one_cons rfl one_nil) rfl (by simp;omega) (by simp;omega) ?_;intro v8 w8 fp8 ho8 hm8 hf8;obtain ⟨S8,K8,hR8,hg8,hm68,hw8⟩:=hw6.push hR6 hbb hm7 (by have:=hm05.size;have:=hm56.size;omega) ho8 hm8 hf8;have e5:ws++(fs.drop (q+1)).reverse++[fs[q]]=ws++(fs.drop q).reverse:=by
           rw [List.drop_eq_getElem_cons hqf,List.reverse_cons,List.append_assoc]
         rw [e5] at hw8;(try simp only [go_sem,Nat.reduceAdd,Nat.reduceEqDiff,Nat.reduceLT,Nat.reduceLeDiff,Nat.reduceMul,reduceCtorEq,↓reduceIte,e3]);exact ⟨q,Nat.lt_succ_self q,by omega,S8,K8,v8,_,fp8,hR8,grew_step hg56 hg8 hm56.size,mod_grew hm56 hg56 hm68,hw8,rfl⟩
   | lam e nm=>
     obtain ⟨a,_,_,e1,_⟩:=hu2;cases e1;(try simp only [go_sem,Nat.reduceAdd,Nat.reduceEqDiff,Nat.reduceLT,Nat.reduceLeDiff,Nat.reduceMul,reduceCtorEq,↓reduceIte,g0,g1,g4]);refine e_taC (D:=.int .i64) rfl rfl rfl (Tryz.zeroValue115 _) (fun h=>by cases h) (fun _=>?_);(try simp only [go_sem,Nat.reduceAdd,Nat.reduceEqDiff,Nat.reduceLT,Nat.reduceLeDiff,Nat.reduceMul,reduceCtorEq,↓reduceIte]);refine e_taC (D:=.pointer 114) rfl rfl rfl (Tryz.zeroValue111 _) (fun h=>by cases h) (fun _=>?_);(try simp only [go_sem,Nat.reduceAdd,Nat.reduceEqDiff,Nat.reduceLT,Nat.reduceLeDiff,Nat.reduceMul,reduceCtorEq,↓reduceIte]);exact hmid ⟨_,_,_,_,_,_,hh⟩ hg1 hm02 hw2 (by simp [itemS]) (by simp [fieldsOf])
   | par k l fs=>
     obtain ⟨a,_,e1,_⟩:=hu2;cases e1;(try simp only [go_sem,Nat.reduceAdd,Nat.reduceEqDiff,Nat.reduceLT,Nat.reduceLeDiff,Nat.reduceMul,reduceCtorEq,↓reduceIte,g0,g1,g4]);refine e_taC (D:=.int .i64) rfl rfl rfl (Tryz.zeroValue115 _) (fun h=>by cases h) (fun _=>?_);(try simp only [go_sem,Nat.reduceAdd,Nat.reduceEqDiff,Nat.reduceLT,Nat.reduceLeDiff,Nat.reduceMul,reduceCtorEq,↓reduceIte]);refine e_taC (D:=.pointer 114) rfl rfl rfl (Tryz.zeroValue111 _) (fun h=>by cases h) (fun _=>?_);(try simp only [go_sem,Nat.reduceAdd,Nat.reduceEqDiff,Nat.reduceLT,Nat.reduceLeDiff,Nat.reduceMul,reduceCtorEq,↓reduceIte]);exact hmid ⟨_,_,_,_,_,_,hh⟩ hg1 hm02 hw2 (by simp [itemS]) (by simp [fieldsOf])
   | wait e nm=>cases hv1
   | busy=>cases hv1
   | emp=>cases hv1
 · rintro ρ w3 ⟨S3,m3,ws3,vw3,rows3,fp3,K3,hR3,hg3,hm03,hw3,hfr3,htl3,hst3,g0,g4,hte⟩;obtain ⟨a3,c3,rfl,hc3,_⟩:=hw3.own.val;have hq:(if 16777216 < ws3.length then none else match ws3.getLast? with
     | none=>some { m3 with kind:=2}
     | some c=>match forceS X z c m3 with
       | none=>none
       | some (none,m3)=>some m3
       | some (some y,m3)=>tellS X z y ws3.dropLast m3)=some mF:=hte
   have hlw:ws3.length≤16777216:=by
     apply Classical.byContradiction;intro hn;rw [if_pos (by omega)] at hq;cases hq
   rw [if_neg (by omega)] at hq;have Sr3:∀ y,y=r→S3 y:=fun y hy=>by obtain ⟨_,_,_,_,_,_,hx⟩:=hR3;rw [hy];exact hx.inS _ (by simp)
   cases hl:ws3.getLast? with
   | none=>
     rw [hl] at hq;cases hq;have h0:=List.getLast?_eq_none_iff.1 hl;have b0:((ws3.length:Int) == 0)=true:=by rw [h0];try rfl
     obtain ⟨vt,vf,trows,frows,tfp,ffp,hh⟩:=hR3.drop;(try simp only [go_sem,Nat.reduceAdd,Nat.reduceEqDiff,Nat.reduceLT,Nat.reduceLeDiff,Nat.reduceMul,reduceCtorEq,↓reduceIte,g0,g4,b0]);refine e_st1 (b:=r) (off:=0) (v:=I 2) rfl rfl hh.box rfl (by simp) ?_;intro w4 hb4 hm4 hs4;(try simp only [go_sem,Nat.reduceAdd,Nat.reduceEqDiff,Nat.reduceLT,Nat.reduceLeDiff,Nat.reduceMul,reduceCtorEq,↓reduceIte,rvs,RV.ev,one?]);exact ⟨⟨S3,bs1,⟨_,_,_,_,_,_,hh.upr (m':={ m3 with kind:=2}) hm4 hb4 rfl rfl rfl ⟨hh.steps.1,hh.steps.2.1⟩⟩,hg3⟩,mod_grew hm03 hg3 (hm4.weak Sr3)⟩
   | some c=>
     rw [hl] at hq;simp only at hq;have hne:ws3≠[]:=fun e=>by rw [e] at hl;cases hl
     have hpos:0 < ws3.length:=List.length_pos_iff.2 hne;have b0:((ws3.length:Int) == 0)=false:=by
       have:¬ (ws3.length:Int)=0:=by omega
       simpa using this
     have e1:IntKind.i64.wrap ((ws3.length:Int) - 1)=((ws3.length - 1:Nat):Int):=by rw [wrap_in (by omega) (by omega)];omega
     have b1:(0:Int)≤((ws3.length - 1:Nat):Int)∧((ws3.length - 1:Nat):Int) < ws3.length:=by omega
     have b3:(0:Int)≤((ws3.length - 1:Nat):Int)∧((ws3.length - 1:Nat):Int)≤c3:=by omega
     have hlr:=hw3.all.at.1;obtain ⟨bW,cW,sp,e2,hfp,hbW,_,_⟩:=hw3.own.pos hpos;cases e2;have hlast:ws3[ws3.length - 1]? = some c:=by rw [← List.getLast?_eq_getElem?];exact hl
     have hk:ws3.length - 1 < rows3.length:=by omega
     obtain ⟨b,hrb,hbb⟩:=hw3.all.at.2 _ _ _ (List.getElem?_eq_getElem hk) hlast;have hcell:w3.cell? ⟨bW,ws3.length - 1,none⟩=some (ptr b):=by
       rw [cell_of hbW];simp only [List.getElem?_toArray];rw [List.getElem?_append_left hk,List.getElem?_eq_getElem hk,hrb]
     (try simp only [go_sem,Nat.reduceAdd,Nat.reduceEqDiff,Nat.reduceLT,Nat.reduceLeDiff,Nat.reduceMul,reduceCtorEq,↓reduceIte,g0,g4,b0,e1]);(try simp only [go_sem,Nat.reduceAdd,Nat.reduceEqDiff,Nat.reduceLT,Nat.reduceLeDiff,Nat.reduceMul,reduceCtorEq,↓reduceIte,zb4,zb6,g0,g4,b0,e1,b1,b3,sl_same,ite_self,Nat.mul_one,add_at,Nat.zero_add,hcell]);have hdl:ws3.dropLast=ws3.take (ws3.length - 1):=List.dropLast_eq_take;have hwp:WsAt w3 w bs1 (.slice (some ⟨bW,0,none⟩) (ws3.length - 1) c3) ws3.dropLast (rows3.take (ws3.length - 1)) fp3 K3:=by
       refine ⟨?_,by rw [hdl];exact all2_take _ hw3.all,hw3.new,hw3.k1⟩;have:=own_pre hw3.own (k:=ws3.length - 1) (by omega);rw [Nat.mul_one] at this;rw [List.length_dropLast];exact this
     cases hfo:forceS X z c m3 with
     | none=>rw [hfo] at hq;cases hq
     | some rr=>
     rw [hfo] at hq;have hgo:=force_sm hfo hfr3;have hst3':0≤m3.steps:=by omega
     refine e_call (by rfl) ?_;refine (f_force hR3 hbb (by rw [hfr3];exact hst3') (by rw [force_kp];exact hfo)).mono ?_;rintro v w4 ⟨⟨S4,bs4,hR4,hg4,hbs4,hval⟩,hm4⟩;have hg04:=grew_step hg3 hg4 hm03.size;have hm04:=mod_grew hm03 hg3 hm4
     match rr,hq,hgo,hR4,hval with
     | (none,m4),hq,hgo,hR4,hval=>
       have hval:v=_:=hval;subst hval;cases hq;(try simp only [go_sem,Nat.reduceAdd,Nat.reduceEqDiff,Nat.reduceLT,Nat.reduceLeDiff,Nat.reduceMul,reduceCtorEq,↓reduceIte,rvs,RV.ev,one?]);exact ⟨⟨S4,bs4,hR4.drop,hg04⟩,hm04⟩
     | (some y,m4),hq,hgo,hR4,⟨u4,e4,hu4,hv4⟩=>
       subst e4;have ht4:m4.told=m3.told:=hgo.told;have hs4:m3.steps≤m4.steps:=hgo.steps;obtain ⟨_,_,hf4⟩:=hgo.val y rfl;have hw4:=hwp.up hR3 hR4 hbs4;(try simp only [go_sem,Nat.reduceAdd,Nat.reduceEqDiff,Nat.reduceLT,Nat.reduceLeDiff,Nat.reduceMul,reduceCtorEq,↓reduceIte]);exact ⟨_,Nat.lt_succ_self z,hm04,S4,bs4,m4,y,u4,_,_,_,_,K3,hR4,hg04,hu4,hv4,hw4,hf4,by rw [ht4];omega,hq,rfl,rfl⟩
end
section
open Go Go.W
theorem raw_ins {P:Program} {w:World} {ρ:Go.W.Env} {K:Value→World→Prop} {d:Option Nat} {t:TypeId} {m x y:Operand} {ty:TypeId} {pos:String} {af:Array Edge} (h:Go.W.E.wp P w ρ K (.raw ⟨d,.mapUpdate t m x y,ty,pos,af,none⟩)):Go.W.E.wp P w ρ K (.raw ⟨d,.insert t m x y,ty,pos,af,none⟩):=h
theorem RnIn.upm {w w':World} {S:Nat→Prop} {r md mf:Nat} {bs:List Nat} {X:Cx} {m:Rn} {vt vf:Value} {trows frows:List (List Value)} {tfp ffp:Option Nat} {ds:List (ByteArray×Nat)} {fs:List (ByteArray×Int)} (h:RnIn w S r md mf bs X m vt vf trows frows tfp ffp) (hm:Mod (fun b=>b=md∨b=mf) w w') (hd:MapR w' md (RCell bs) ds) (hf:MapR w' mf RI fs) :
   RnIn w' S r md mf bs { X with defs:=ds,fields:=fs} m vt vf trows frows tfp ffp:=by
 obtain ⟨n1,n2,n3,n4,n5,n6,n7,n8,n9⟩:=h.ne;have Sm:∀ b,(b=md∨b=mf)→S b:=fun b hb=>by
   rcases hb with rfl | rfl<;>exact h.inS _ (by simp)
 have hmS:=hm.weak Sm;refine ⟨hm.at h.box (fun e=>by rcases e with e | e;exact n1 e;exact n2 e),h.told.mod hm (fun b hb e=>by rcases e with e | e;exact (n4 b hb).2.1 e.symm;exact (n4 b hb).2.2 e.symm),h.items,h.frms.mod hm (fun b hb e=>by rcases e with e | e;exact (n5 b hb).2.1 e.symm;exact (n5 b hb).2.2 e.symm),h.frames.imp (fun _ _ x=>x.up hmS out_not (out_up hmS) (fun _ _ h=>h)),h.blocks,h.inS,fun b hb=>Nat.lt_of_lt_of_le (h.lt b hb) hm.size,h.len,?_,hd,hf,h.steps,fun p hp=>?_⟩
 · intro i b x hi hx;obtain ⟨v,h1,h2⟩:=h.cell i b x hi hx;have hmem:=List.mem_of_getElem? hi;exact ⟨v,hm.at h1 (fun e=>by rcases e with e | e;exact (n6 b hmem).2.1 e.symm;exact (n6 b hmem).2.2 e.symm),h2.up hmS out_not (out_up hmS) (fun _ _ h=>h)⟩
 · obtain ⟨a1,a2,a3⟩:=h.kept p hp;exact ⟨hm.at a1 (fun e=>by rcases e with e | e<;>exact a3 (by rw [e];simp)),a2,a3⟩
def defsF:List Df→Nat→List (ByteArray×Nat)→List (ByteArray×Nat)
 | [],_,l=>l
 | d::ds,i,l=>defsF ds (i+1) (aput l d.name i)
def consF:List Cn→List (ByteArray×Int)→List (ByteArray×Int)
 | [],l=>l
 | k::ks,l=>consF ks (aput l k.name k.fields.length)
def datasF:List Dt→List (ByteArray×Int)→List (ByteArray×Int)
 | [],l=>l
 | d::ds,l=>datasF ds (consF d.cons l)
abbrev consN:ByteArray:=⟨#[67,111,110,115]⟩
abbrev pairN:ByteArray:=⟨#[80,97,105,114]⟩
abbrev tripleN:ByteArray:=⟨#[84,114,105,112,108,101]⟩
def fields0:List (ByteArray×Int):=[(consN,2),(pairN,2),(tripleN,3)]
def newX (p:Pg) (fuel:Int):Cx:={ fuel:=fuel,defs:=defsF p.defs 0 [],fields:=datasF p.datas fields0}
def newM (p:Pg):Rn:={ cells:=p.defs.map (fun d=>Cl.wait d.body []),frames:=[],told:=[],steps:=0,kind:=0,stuck:=0}
theorem defsF_at {l:List Df} {i:Nat} (hi:i < l.length) (m:List (ByteArray×Nat)):defsF (l.drop i) i m=defsF (l.drop (i+1)) (i+1) (aput m l[i].name i):=by rw [List.drop_eq_getElem_cons hi,defsF]
theorem consF_at {l:List Cn} {i:Nat} (hi:i < l.length) (m:List (ByteArray×Int)):consF (l.drop i) m=consF (l.drop (i+1)) (aput m l[i].name l[i].fields.length):=by rw [List.drop_eq_getElem_cons hi,consF]
theorem datasF_at {l:List Dt} {i:Nat} (hi:i < l.length) (m:List (ByteArray×Int)):datasF (l.drop i) m=datasF (l.drop (i+1)) (consF l[i].cons m):=by rw [List.drop_eq_getElem_cons hi,datasF]
theorem f_newRun (p:Pg) {fuel:Int} {w:World} {cs:List Value} (h:PgAt w (Out (fun _=>False) w) cs p) (hf:0≤fuel∧fuel≤1048576) :
   CallsR Tryz.prog 25 [.agg cs.toArray,I fuel] w fun v w'=>(∃ (r md mf:Nat) (S:Nat→Prop) (bs:List Nat),v=ptr r∧RnAt w' S r md mf bs (newX p fuel) (newM p)∧∀ b,S b→w.heap.size≤b)∧Mod (fun _=>False) w w':=by
 obtain ⟨vd,vf,rfl,hd,hdf⟩:=h;obtain ⟨ad,cd,rfl⟩:=each_sl hd;obtain ⟨af,cf,rfl⟩:=each_sl hdf;have hlf:=each_len hdf;have hld:=each_len hd;refine fit25.calls rfl ?_;unfold ir25;(try simp only [go_sem,simprocAttr]);refine e_bx rfl ?_;intro w1 hb1 hm1 hs1;(try simp only [go_sem,simprocAttr]);refine e_mmR (α:=Nat) (fun _ _=>False) ?_;intro w2 hp2 hm2 hs2;(try simp only [go_sem,simprocAttr]);refine e_mmR (α:=Int) RI ?_;intro w3 hp3 hm3 hs3;(try simp only [go_sem,simprocAttr]);refine raw_ins ?_;refine e_muR (kt:=9) (et:=3) (b:=w2.heap.size) (k:=consN) (v:=I 2) (a:=(2:Int)) rfl rfl rfl rfl rfl hp3 rfl ?_;intro w4 hp4 hm4 hs4;(try simp only [go_sem,simprocAttr]);refine raw_ins ?_;refine e_muR (kt:=9) (et:=3) (b:=w2.heap.size) (k:=pairN) (v:=I 2) (a:=(2:Int)) rfl rfl rfl rfl rfl hp4 rfl ?_;intro w5 hp5 hm5 hs5;(try simp only [go_sem,simprocAttr]);refine raw_ins ?_;refine e_muR (kt:=9) (et:=3) (b:=w2.heap.size) (k:=tripleN) (v:=I 3) (a:=(3:Int)) rfl rfl rfl rfl rfl hp5 rfl ?_;intro w6 hp6 hm6 hs6;(try simp only [go_sem,simprocAttr]);refine e_bx rfl ?_;intro w7 hb7 hm7 hs7;have m13:Mod (fun _=>False) w w3:=(hm1.trans hm2).trans hm3;have z1:w1.heap.size=w.heap.size+1:=hs1;have z2:w2.heap.size=w1.heap.size+1:=hs2;have z3:w3.heap.size=w2.heap.size+1:=hs3;have z6:w6.heap.size=w3.heap.size:=by omega
 have m36:Mod (· = w2.heap.size) w3 w6:=(hm4.trans hm5).trans hm6;have m07:Mod (fun _=>False) w w7:=(m13.step m36 (fun b hb hl=>by omega)).trans hm7;have hmdd:=(((hp2.mod hm3 _root_.id (fun _ _ h=>h)).mod m36 (fun e=>by omega) (fun _ _ h=>h)).mod hm7 _root_.id (fun _ _ h=>h):MapR w7 w1.heap.size (fun _ _=>False) []);have hmff:MapR w7 w2.heap.size RI fields0:=hp6.mod hm7 _root_.id (fun _ _ h=>h);have hR0:RnIn w7 (fun b=>b=w6.heap.size∨b=w1.heap.size∨b=w2.heap.size) w6.heap.size w1.heap.size w2.heap.size [] { fuel:=fuel,defs:=[],fields:=fields0} { cells:=[],frames:=[],told:=[],steps:=0,kind:=0,stuck:=0} (.slice none 0 0) (.slice none 0 0) [] [] none none:=by
   refine ⟨hb7,OwnS.nil _ _ _,trivial,OwnS.nil _ _ _,trivial,?_,?_,?_,rfl,fun i b x hi=>by simp at hi,?_,hmff,⟨Int.le_refl _,hf.1,hf.2⟩,fun p hp=>by cases hp⟩
   · simp [rnList];omega
   · intro b hb;simp [rnList] at hb;exact hb
   · have z7:w7.heap.size=w6.heap.size+1:=hs7;rintro b (rfl | rfl | rfl)<;>omega
   · obtain ⟨lv,hv,hp⟩:=hmdd;cases hp;exact ⟨[],hv,.nil⟩
 have hb17:w7.heap[w.heap.size]? = some (.cells [.slice ad p.datas.length cd,.slice af p.defs.length cf].toArray 25 (0,0)):=by
   refine hm7.at (m36.at ((hm2.trans hm3).at hb1 _root_.id) (fun e=>by omega)) _root_.id
 (try simp only [go_sem,simprocAttr,cell_of hb17]);refine ir_loop (fun z ρ w'=>∃ (i:Nat) (S':Nat→Prop) (bs':List Nat) (ds:List (ByteArray×Nat)),z=p.defs.length - i∧i≤p.defs.length∧RnAt w' S' w6.heap.size w1.heap.size w2.heap.size bs' { fuel:=fuel,defs:=ds,fields:=fields0} { cells:=(p.defs.take i).map (fun d=>Cl.wait d.body []),frames:=[],told:=[],steps:=0,kind:=0,stuck:=0}∧(∀ b,S' b→w1.heap.size≤b)∧Mod (fun _=>False) w w'∧w'.heap[w.heap.size]? = some (.cells [.slice ad p.datas.length cd,.slice af p.defs.length cf].toArray 25 (0,0))∧defsF p.defs 0 []=defsF (p.defs.drop i) i ds ∧
   ρ=[(2,ptr w.heap.size),(5,ptr w6.heap.size),(19,I p.defs.length),(20,I i)]) p.defs.length ⟨0,_,[],[],by omega,by omega,⟨_,_,_,_,_,_,hR0⟩,?_,m07,hb17,rfl,rfl⟩ ?_
 · rintro b (rfl | rfl | rfl)<;>omega
 rintro z _ w8 ⟨i,S8,bs8,ds,rfl,hi,hR8,hS8,hm8,hb8,hds,rfl⟩;unfold ir25L1;by_cases q:i < p.defs.length
 · have b1:decide ((i:Int) < p.defs.length)=true:=by simpa using q
   have p1:(0:Int)≤i∧(i:Int) < p.defs.length:=by omega
   have hout:∀ {w':World} {S':Nat→Prop},Mod (fun _=>False) w w'→(∀ b,S' b→w1.heap.size≤b)→∀ b,Out (fun _=>False) w b→Out S' w' b:=fun hm hs b hb=>⟨Nat.lt_of_lt_of_le hb.1 hm.size,fun hh=>by have:=hs b hh;have:=hb.1;omega⟩
   have hd8:=hdf.up hm8 nof (hout hm8 hS8) (fun _ _ h=>h.up hm8 nof (hout hm8 hS8));obtain ⟨ad2,c2,rr,e1,hdat,hl12,hcs⟩:=each_cells hd8 q;obtain ⟨rfl,-,-⟩:=tup_inj e1;obtain ⟨vp,tc,bc,rfl,ltc,lbc,_,_,hbody,_⟩:=hdat;have c0:w8.cell? (ad2.add (i*12))=some (.string p.defs[i].name):=hcs.c0 (by simp);have hbp:CellsAt w8 (Out S8 w8) ⟨(ad2.add (i*12)).block,(ad2.add (i*12)).off+5,none⟩ bc:=hcs.part (fun j hj=>by
     rw [show 5+j=(j+3)+1+1 by omega];simp only [List.getElem?_cons_succ];rw [List.getElem?_append_right (by omega),ltc,Nat.add_sub_cancel];exact List.getElem?_eq_getElem hj) (by decide)
   have lc:=cell_lt c0;obtain ⟨vt',vf',tr',fr',tf',ff',hh8⟩:=hR8;have hlb:bs8.length=i:=by rw [hh8.len];simp;omega
   (try simp only [go_sem,simprocAttr,b1]);(try simp only [go_sem,simprocAttr,zb4,zb6,cell_of hb8,cell_of hh8.box,p1,c0]);have l8:=lt_of_heap hb8;have lr8:=lt_of_heap hh8.box;refine e_bx rfl ?_;intro w9 hb9 hm9' hs9;have hm9:Mod (fun _=>False) w8 w9:=hm9'.of_drew;refine ⟨⟨hm9.old _ lc _root_.id,hm9.old _ l8 _root_.id,hm9.old _ lr8 _root_.id⟩,?_⟩;have z9:w9.heap.size=w8.heap.size+1:=hs9;have z8:=hm8.size;(try simp only [go_sem,simprocAttr]);refine e_bx rfl ?_;intro w10 hb10 hm10 hs10;refine ⟨⟨hm10.old _ (by omega) _root_.id,hm10.old _ (by omega) _root_.id,hm10.old _ (by omega) _root_.id⟩,?_⟩;have hm810:=hm9.trans hm10;have hnew:∀ b,b < w8.heap.size→And1 S8 w9.heap.size b→S8 b:=and1_new (by omega);have hnot:¬ And1 S8 w9.heap.size w8.heap.size:=by
     rintro (hx | hx)
     · have:=hh8.lt _ hx;omega
     · omega
   have hR10:=(RnAt.keep ⟨_,_,_,_,_,_,hh8⟩ hm9).new (x:=.wait p.defs[i].body []) (v:=.iface 105 (ptr w8.heap.size)) hm10 hb10 (Nat.le_refl _) ⟨_,_,_,rfl,cells_of_new (S:=And1 S8 w9.heap.size) (cs:=[.pointer (some ⟨(ad2.add (i*12)).block,(ad2.add (i*12)).off+5,none⟩),.pointer none]) hb9 hm10 hnot,⟨_,bc,rfl,hbp.up (mod0 hm810 (S:=S8)) out_not (out_ext (mod0 hm810) hnew),hbody.up (mod0 hm810 (S:=S8)) out_not (out_ext (mod0 hm810) hnew)⟩,rfl⟩;obtain ⟨vt,vf,trr,frr,tfp,ffp,hh10⟩:=hR10;have hget:(bs8++[w9.heap.size])[i]? = some w9.heap.size:=by rw [← hlb,List.getElem?_append_right (Nat.le_refl _)];simp
   (try simp only [go_sem,simprocAttr]);refine e_muR (kt:=9) (et:=82) (b:=w1.heap.size) (k:=p.defs[i].name) (v:=ptr w9.heap.size) (a:=i) rfl rfl rfl rfl rfl hh10.defs ⟨_,rfl,hget⟩ ?_;intro w11 hp11 hm11 hs11;have e3:IntKind.i64.wrap ((i:Int)+1)=((i+1:Nat):Int):=by rw [wrap_in (by omega) (by omega)];omega
   have hne:=hh10.ne;have hh11:=hh10.upm (hm11.weak (fun b hb=>.inl hb)) hp11 (hh10.fields.mod hm11 (fun e=>hne.2.2.1 e.symm) (fun _ _ x=>x));have etk:(p.defs.take (i+1)).map (fun d=>Cl.wait d.body [])=(p.defs.take i).map (fun d=>Cl.wait d.body [])++[Cl.wait p.defs[i].body []]:=by
     rw [List.take_succ_eq_append_getElem q,List.map_append];try rfl
   (try simp only [go_sem,simprocAttr,e3]);refine ⟨_,by omega,i+1,_,_,_,rfl,q,⟨_,_,_,_,_,_,by rw [etk];exact hh11⟩,?_,?_,?_,?_,rfl⟩
   · rintro b (hb | hb)
     · exact hS8 b hb
     · omega
   · exact (hm8.trans hm810).step hm11 (fun b hb hl=>by omega)
   · exact hm11.at (hm810.at hb8 _root_.id) (fun e=>by omega)
   · rw [hds,defsF_at q]
 · have b1:decide ((i:Int) < p.defs.length)=false:=by simpa using q
   have hi2:i=p.defs.length:=by omega
   subst hi2;rw [List.drop_length,defsF] at hds;rw [List.take_length] at hR8;(try simp only [go_sem,simprocAttr,b1,cell_of hb8]);have hout:∀ {w':World},Mod (fun _=>False) w w'→∀ b,Out (fun _=>False) w b→Out (fun _=>False) w' b:=fun hm b hb=>⟨Nat.lt_of_lt_of_le hb.1 hm.size,hb.2⟩
   refine ir_loop (fun z ρ w'=>∃ (i:Nat) (fs:List (ByteArray×Int)),z=p.datas.length - i∧i≤p.datas.length∧RnAt w' S8 w6.heap.size w1.heap.size w2.heap.size bs8 { fuel:=fuel,defs:=ds,fields:=fs} (newM p)∧Mod (fun _=>False) w w'∧datasF p.datas fields0=datasF (p.datas.drop i) fs ∧
     ρ=[(5,ptr w6.heap.size),(45,.slice ad p.datas.length cd),(46,I p.datas.length),(47,I i)]) p.datas.length ⟨0,fields0,by omega,by omega,hR8,hm8,rfl,rfl⟩ ?_
   rintro z _ w9 ⟨i,fs,rfl,hi3,hR9,hm9,hfs,rfl⟩;unfold ir25L3;by_cases q2:i < p.datas.length
   · have b2:decide ((i:Int) < p.datas.length)=true:=by simpa using q2
     have p2:(0:Int)≤i∧(i:Int) < p.datas.length:=by omega
     have e3:IntKind.i64.wrap ((i:Int)+1)=((i+1:Nat):Int):=by rw [wrap_in (by omega) (by omega)];omega
     obtain ⟨ad2,c2,rr,e1,⟨vp,vc,rfl,hpar,hcons⟩,hl3,hcs⟩:=each_cells hd q2;obtain ⟨rfl,-,-⟩:=tup_inj e1;obtain ⟨ac,cc,rfl⟩:=each_sl hcons;have hlc:=each_len hcons;obtain ⟨ap,cp,rfl⟩:=each_sl hpar;have hln:=ln_cells hl3 (hcs.up hm9 nof (hout hm9)).2;(try simp only [go_sem,simprocAttr,b2]);(try simp only [go_sem,simprocAttr,zb4,zb6,p2,hln]);refine e_al ?_;intro w10 hb10 hm10 hs10;(try simp only [go_sem,simprocAttr]);refine e_sta (vs:=[.string p.datas[i].name,.slice ap p.datas[i].params.length cp,.slice ac p.datas[i].cons.length cc]) (cs:=[.string noStr,.slice none 0 0,.slice none 0 0]) rfl rfl hb10 rfl rfl (one_cons rfl (one_cons rfl (one_cons rfl one_nil))) ?_;intro w11 hb11 hm11 hs11;have hm911:Mod (fun _=>False) w9 w11:=hm10.step hm11 (fun b hb hl=>by have e:b=w9.heap.size:=hb;omega);(try simp only [go_sem,simprocAttr,cell_of hb11]);refine ir_loop (fun z ρ w'=>∃ (k:Nat) (fs':List (ByteArray×Int)),z=p.datas[i].cons.length - k∧k≤p.datas[i].cons.length∧RnAt w' S8 w6.heap.size w1.heap.size w2.heap.size bs8 { fuel:=fuel,defs:=ds,fields:=fs'} (newM p)∧Mod (fun _=>False) w w'∧consF p.datas[i].cons fs=consF (p.datas[i].cons.drop k) fs' ∧
       ρ=[(5,ptr w6.heap.size),(45,.slice (some ad2) p.datas.length cd),(46,I p.datas.length),(47,I i),(52,.slice ac p.datas[i].cons.length cc),(53,I p.datas[i].cons.length),(54,I k)]) p.datas[i].cons.length ⟨0,fs,by omega,by omega,hR9.keep hm911,hm9.trans hm911,rfl,rfl⟩ ?_
     rintro z _ w12 ⟨k,fs',rfl,hk3,hR12,hm12,hfs',rfl⟩;unfold ir25L2;by_cases q3:k < p.datas[i].cons.length
     · have b3:decide ((k:Int) < p.datas[i].cons.length)=true:=by simpa using q3
       have p3:(0:Int)≤k∧(k:Int) < p.datas[i].cons.length:=by omega
       have e4:IntKind.i64.wrap ((k:Int)+1)=((k+1:Nat):Int):=by rw [wrap_in (by omega) (by omega)];omega
       obtain ⟨ad3,c3,rr3,e5,⟨vf3,rfl,hfl,_⟩,hl2,hcs3⟩:=each_cells hcons q3;obtain ⟨rfl,-,-⟩:=tup_inj e5;obtain ⟨af3,cf3,rfl⟩:=each_sl hfl;have hln3:=ln_cells hl2 (hcs3.up hm12 nof (hout hm12)).2;(try simp only [go_sem,simprocAttr,b3]);(try simp only [go_sem,simprocAttr,zb4,zb6,p3,hln3]);refine e_al ?_;intro w13 hb13 hm13 hs13;(try simp only [go_sem,simprocAttr]);refine e_sta (vs:=[.string p.datas[i].cons[k].name,.slice af3 p.datas[i].cons[k].fields.length cf3]) (cs:=[.string noStr,.slice none 0 0]) rfl rfl hb13 rfl rfl (one_cons rfl (one_cons rfl one_nil)) ?_;intro w14 hb14 hm14 hs14;have hm1214:Mod (fun _=>False) w12 w14:=hm13.step hm14 (fun b hb hl=>by have e:b=w12.heap.size:=hb;omega);obtain ⟨vt,vf,trr,frr,tfp,ffp,hh14⟩:=hR12.keep hm1214;have d14:Mod (fun _=>False) w14 w14.drew:=(Mod.refl _ _).drew;(try simp only [go_sem,simprocAttr,cell_of hb14,cell_of hh14.box]);refine e_muR (kt:=9) (et:=3) (b:=w2.heap.size) (k:=p.datas[i].cons[k].name) (v:=I p.datas[i].cons[k].fields.length) (a:=(p.datas[i].cons[k].fields.length:Int)) rfl rfl rfl rfl rfl (hh14.keep d14).fields rfl ?_;intro w15 hp15 hm15 hs15;have hh15:=(hh14.keep d14).upm (hm15.weak (fun b hb=>.inr hb)) ((hh14.keep d14).defs.mod hm15 (fun e=>hh14.ne.2.2.1 e) (fun _ _ x=>x)) hp15;(try simp only [go_sem,simprocAttr,e4]);have hmw2:w.heap.size≤w2.heap.size:=by omega
       exact ⟨_,by omega,k+1,_,rfl,q3,⟨_,_,_,_,_,_,hh15⟩,(hm12.trans (hm1214.trans d14)).step hm15 (fun b hb hl=>by have e:b=w2.heap.size:=hb;omega),by rw [hfs',consF_at q3],rfl⟩
     · have b3:decide ((k:Int) < p.datas[i].cons.length)=false:=by simpa using q3
       have hk4:k=p.datas[i].cons.length:=by omega
       subst hk4;rw [List.drop_length,consF] at hfs';(try simp only [go_sem,simprocAttr,b3,e3]);exact ⟨_,by omega,i+1,fs',rfl,q2,hR12,hm12,by rw [hfs,datasF_at q2,hfs'],rfl⟩
   · have b2:decide ((i:Int) < p.datas.length)=false:=by simpa using q2
     have hi4:i=p.datas.length:=by omega
     subst hi4;rw [List.drop_length,datasF] at hfs;(try simp only [go_sem,simprocAttr,b2,rvs,RV.ev,one?]);have hX:newX p fuel = { fuel:=fuel,defs:=ds,fields:=fs}:=by unfold newX;rw [hds,hfs]
     exact ⟨⟨w6.heap.size,w1.heap.size,w2.heap.size,S8,bs8,rfl,by rw [hX];exact hR9,fun b hb=>by have:=hS8 b hb;omega⟩,hm9⟩
end
section
open Go Go.W
theorem fs_two {w:World} {S:Nat→Prop} {bs:List Nat} {b T c i j x y:Nat} (hb:w.heap[b]? = some (.cells [ptr x,ptr y].toArray T (0,0))) (hS:¬ S b) (hi:bs[i]? = some x) (hj:bs[j]? = some y):FsAt w (Out S w) bs [i,j] (.slice (some ⟨b,0,none⟩) 2 c):=by
 refine ⟨[[ptr x],[ptr y]],⟨⟨_,c,rfl,fun _ ad e=>by cases e;exact ⟨lt_of_heap hb,hS⟩,fun k hk=>⟨_,rfl,?_,?_⟩⟩,by simp⟩,rfl,?_⟩
 · match k,hk with
   | 0,_=>rfl
   | 1,_=>rfl
 · intro q hq;rw [add_at,add_at,cell_of hb]
   match k,hk,q,hq with
   | 0,_,0,_=>rfl
   | 1,_,0,_=>rfl
   | 0,_,q+1,hq=>simp at hq
   | 1,_,q+1,hq=>simp at hq
 · intro k r c hr hc
   match k with
   | 0=>simp only [List.getElem?_cons_zero,Option.some.injEq] at hr hc;subst hr hc;exact ⟨x,rfl,hi⟩
   | 1=>simp only [List.getElem?_cons_succ,List.getElem?_cons_zero,Option.some.injEq] at hr hc;subst hr hc;exact ⟨y,rfl,hj⟩
   | k+2=>simp at hr
def Rn.ls (m:Rn) (l:List Int):Rn:={ m with cells:=(listedS l m.cells).2}
theorem listed_con (l:List Int) (cs:List Cl):∃ n fs,(listedS l cs).1 = .con n fs:=by
 cases l with
 | nil=>exact ⟨_,_,rfl⟩
 | cons n l=>exact ⟨_,_,rfl⟩
theorem ls_cons (m:Rn) (n:Int) (l:List Int):m.ls (n::l)=(((m.ls l).new (.num n)).new (listedS l m.cells).1):=by
 unfold Rn.ls Rn.new;simp [listedS]
theorem f_listed {input:List Int} {v:Value} {w:World} {S:Nat→Prop} {r md mf:Nat} {bs:List Nat} {X:Cx} {m:Rn} (h:RnAt w S r md mf bs X m) (hi:Ints w v input) :
   CallsR Tryz.prog 28 [v] w fun u w'=>(∃ S' bs',RnAt w' S' r md mf bs' X (m.ls input)∧Grew S S' w∧(∀ (c b:Nat),bs[c]? = some b→bs'[c]? = some b)∧ClAt w' (Out S' w') bs' (listedS input m.cells).1 u)∧Mod (fun _=>False) w w':=by
 obtain ⟨av,cv,rfl,hle,_⟩:=hi;rename_i hix;refine fit28.calls rfl ?_;unfold ir28;(try simp only [go_sem,Nat.reduceAdd,Nat.reduceEqDiff,Nat.reduceLT,Nat.reduceLeDiff,Nat.reduceMul,reduceCtorEq,↓reduceIte]);refine e_bx rfl ?_;intro w1 hb1 hm1 hs1;have e1:IntKind.i64.wrap ((input.length:Int) - 1)=(input.length:Int) - 1:=wrap_in (by omega) (by omega);(try simp only [go_sem,Nat.reduceAdd,Nat.reduceEqDiff,Nat.reduceLT,Nat.reduceLeDiff,Nat.reduceMul,reduceCtorEq,↓reduceIte,e1]);have hS:=h;obtain ⟨_,_,_,_,_,_,hh⟩:=hS;refine ir_loop (fun k ρ w'=>k≤input.length∧∃ (S':Nat→Prop) (bs':List Nat) (u:Value),RnAt w' S' r md mf bs' X (m.ls (input.drop k))∧Grew S S' w∧(∀ (c b:Nat),bs[c]? = some b→bs'[c]? = some b)∧ClAt w' (Out S' w') bs' (listedS (input.drop k) m.cells).1 u∧Mod (fun _=>False) w w' ∧
   ρ=[(0,.slice av input.length cv),(3,u),(4,I ((k:Int) - 1))]) input.length ⟨Nat.le_refl _,S,bs,.iface 111 (ptr w.heap.size),?_,grew_refl,fun _ _ h=>h,?_,hm1,rfl⟩ ?_
 · rw [List.drop_length];exact h.keep hm1
 · rw [List.drop_length];exact ⟨_,_,rfl,cells_new (cs:=[.string ⟨#[78,105,108]⟩,.slice none 0 0]) hb1 (fun hx=>by have:=hh.lt _ hx;omega),each_nil _ _ _ _⟩
 · rintro k _ w2 ⟨hk,S2,bs2,u,hR2,hg2,hbs2,hu2,hm2,rfl⟩;unfold ir28L1
   match k,hk,hR2,hu2 with
   | 0,hk,hR2,hu2=>
     have b0:decide (((0:Nat):Int) - 1≥0)=false:=by decide
     (try simp only [go_sem,Nat.reduceAdd,Nat.reduceEqDiff,Nat.reduceLT,Nat.reduceLeDiff,Nat.reduceMul,reduceCtorEq,↓reduceIte,b0,rvs,RV.ev,one?]);exact ⟨⟨S2,bs2,hR2,hg2,hbs2,hu2⟩,hm2⟩
   | k+1,hk,hR2,hu2=>
     have hkl:k < input.length:=by omega
     obtain ⟨ad,rfl,hc⟩:=hix k hkl;have hc2:=hm2.cell hc _root_.id;have e2:((k+1:Nat):Int) - 1=(k:Int):=by omega
     have e3:IntKind.i64.wrap ((k:Int) - 1)=(k:Int) - 1:=wrap_in (by omega) (by omega);have b0:decide ((k:Int)≥0)=true:=by simp
     have p1:(0:Int)≤k∧(k:Int) < input.length:=by omega
     obtain ⟨kn,kf,hcon⟩:=listed_con (input.drop (k+1)) m.cells;obtain ⟨T,z,hu0,_⟩:=cl_iface hu2 (by rw [hcon];try rfl);subst hu0;(try simp only [go_sem,Nat.reduceAdd,Nat.reduceEqDiff,Nat.reduceLT,Nat.reduceLeDiff,Nat.reduceMul,reduceCtorEq,↓reduceIte,e2,b0]);(try simp only [go_sem,Nat.reduceAdd,Nat.reduceEqDiff,Nat.reduceLT,Nat.reduceLeDiff,Nat.reduceMul,reduceCtorEq,↓reduceIte,zb4,zb6,e2,b0,p1,hc2]);refine e_bx rfl ?_;intro w3 hb3 hm3 hs3;have hR3:=hR2.new (x:=.num input[k]) (v:=.iface 115 (I input[k])) hm3 hb3 (Nat.le_refl _) rfl;have hu3:=hu2.up (mod0 hm3 (S:=S2)) out_not (out_ext (mod0 hm3) (and1_new (Nat.le_refl _))) (app_get (b:=w2.heap.size));(try simp only [go_sem,Nat.reduceAdd,Nat.reduceEqDiff,Nat.reduceLT,Nat.reduceLeDiff,Nat.reduceMul,reduceCtorEq,↓reduceIte]);refine e_bx rfl ?_;intro w4 hb4 hm4 hs4;have hR4:=hR3.new (x:=(listedS (input.drop (k+1)) m.cells).1) (v:=.iface T z) hm4 hb4 (Nat.le_refl _) (hu3.up (mod0 hm4 (S:=And1 S2 w2.heap.size)) out_not (out_ext (mod0 hm4) (and1_new (Nat.le_refl _))) app_get);(try simp only [go_sem,Nat.reduceAdd,Nat.reduceEqDiff,Nat.reduceLT,Nat.reduceLeDiff,Nat.reduceMul,reduceCtorEq,↓reduceIte]);refine e_bs (cs:=#[ptr w2.heap.size,ptr w3.heap.size]) rfl rfl ?_;intro w5 hb5 hm5 hs5;(try simp only [go_sem,Nat.reduceAdd,Nat.reduceEqDiff,Nat.reduceLT,Nat.reduceLeDiff,Nat.reduceMul,reduceCtorEq,↓reduceIte]);refine e_bx rfl ?_;intro w6 hb6 hm6 hs6;(try simp only [go_sem,Nat.reduceAdd,Nat.reduceEqDiff,Nat.reduceLT,Nat.reduceLeDiff,Nat.reduceMul,reduceCtorEq,↓reduceIte,e3]);have edrop:input.drop k=input[k]::input.drop (k+1):=List.drop_eq_getElem_cons hkl;have hls:m.ls (input.drop k)=((m.ls (input.drop (k+1))).new (.num input[k])).new (listedS (input.drop (k+1)) m.cells).1:=by rw [edrop,ls_cons]
     have z2:=hm2.size;have z23:w3.heap.size=w2.heap.size+1:=hs3;have z34:w4.heap.size=w3.heap.size+1:=hs4;have z45:w5.heap.size=w4.heap.size+1:=hs5;have hg4:Grew S (And1 (And1 S2 w2.heap.size) w3.heap.size) w:=⟨fun b hb=>.inl (.inl (hg2.1 b hb)),fun b hb=>by
       rcases hb with (h | h) | h
       · exact hg2.2 b h
       · right;omega
       · right;omega⟩
     have hlt2:∀ b,S2 b→b < w2.heap.size:=by obtain ⟨_,_,_,_,_,_,hx⟩:=hR2;exact hx.lt
     have hlen2:bs2.length=(m.ls (input.drop (k+1))).cells.length:=by obtain ⟨_,_,_,_,_,_,hx⟩:=hR2;exact hx.len
     have hnot:∀ x,w4.heap.size≤x→¬ (And1 (And1 S2 w2.heap.size) w3.heap.size) x:=fun x hx hh=>by
       rcases hh with (h | h) | h
       · have:=hlt2 _ h;omega
       · omega
       · omega
     refine ⟨k,Nat.lt_succ_self k,by omega,And1 (And1 S2 w2.heap.size) w3.heap.size,bs2++[w2.heap.size]++[w3.heap.size],_,?_,hg4,fun c b h=>app_get _ _ (app_get _ _ (hbs2 c b h)),?_,(hm2.trans (hm3.trans hm4)).trans (hm5.trans hm6),rfl⟩
     · rw [hls];exact (hR4.keep hm5).keep hm6
     · rw [edrop];refine ⟨_,_,rfl,cells_new (cs:=[.string ⟨#[67,111,110,115]⟩,.slice (some ⟨w4.heap.size,0,none⟩) 2 2]) hb6 (hnot _ (by omega)),fs_two (hm6.at hb5 _root_.id) (hnot _ (Nat.le_refl _)) ?_ ?_⟩
       · show (bs2++[w2.heap.size]++[w3.heap.size])[(listedS (input.drop (k+1)) m.cells).2.length]? = _;have:(listedS (input.drop (k+1)) m.cells).2.length=bs2.length:=by rw [hlen2];try rfl
         rw [this,List.append_assoc,List.getElem?_append_right (Nat.le_refl _)];simp
       · show (bs2++[w2.heap.size]++[w3.heap.size])[(listedS (input.drop (k+1)) m.cells).2.length+1]? = _;have:(listedS (input.drop (k+1)) m.cells).2.length=bs2.length:=by rw [hlen2];try rfl
         rw [this,List.append_assoc,List.getElem?_append_right (by omega)];simp
end
section
open Go Go.W
abbrev PlF:=Ty→Cnt→Option (Bool×Cnt)
def plL (f:PlF):List Ty→Cnt→Option (Bool×Cnt)
 | [],s=>some (true,s)
 | t::l,s=>match f t s with
   | none=>none
   | some (false,s')=>some (false,s')
   | some (true,s')=>plL f l s'
def plC (f:PlF):List Cn→Cnt→Option (Bool×Cnt)
 | [],s=>some (true,s)
 | k::l,s=>match plL f k.fields s with
   | none=>none
   | some (false,s')=>some (false,s')
   | some (true,s')=>plC f l s'
def plD (f:PlF) (n:ByteArray):List Dt→Cnt→Option (Bool×Cnt)
 | [],s=>some (true,s)
 | d::l,s=>if d.name≠n then plD f n l s else match plC f d.cons s with
   | none=>none
   | some (false,s')=>some (false,s')
   | some (true,s')=>plD f n l s'
def plF (ds:List Dt):Nat→PlF
 | 0=>fun _ _=>none
 | n+1=>fun t s=>if t.kind=3 then some (false,s) else match plL (plF ds n) t.args s with
   | none=>none
   | some (false,s')=>some (false,s')
   | some (true,s')=>if t.kind≠4∨(aget s' t.name).getD 0 > 0 then some (true,s') else plD (plF ds n) t.name ds (aput s' t.name 1)
theorem plL_at {f:PlF} {l:List Ty} {i:Nat} (hi:i < l.length) (s:Cnt):plL f (l.drop i) s=match f l[i] s with
   | none=>none
   | some (false,s')=>some (false,s')
   | some (true,s')=>plL f (l.drop (i+1)) s':=by rw [List.drop_eq_getElem_cons hi,plL]
theorem plC_at {f:PlF} {l:List Cn} {i:Nat} (hi:i < l.length) (s:Cnt):plC f (l.drop i) s=match plL f l[i].fields s with
   | none=>none
   | some (false,s')=>some (false,s')
   | some (true,s')=>plC f (l.drop (i+1)) s':=by rw [List.drop_eq_getElem_cons hi,plC]
theorem plD_at {f:PlF} {n:ByteArray} {l:List Dt} {i:Nat} (hi:i < l.length) (s:Cnt):plD f n (l.drop i) s=if l[i].name≠n then plD f n (l.drop (i+1)) s else match plC f l[i].cons s with
   | none=>none
   | some (false,s')=>some (false,s')
   | some (true,s')=>plD f n (l.drop (i+1)) s':=by rw [List.drop_eq_getElem_cons hi,plD]
theorem f_plain (p:Pg):∀ (n:Nat) (t:Ty) {s s':Cnt} {b:Bool} {w:World} {B:Nat→Prop} {cs ct:List Value} {sm:Nat},PgAt w B cs p→TyAt w B ct t→MapR w sm RI s→¬ B sm→plF p.datas n t s=some (b,s') →
   CallsR Tryz.prog 34 [.agg cs.toArray,.agg ct.toArray,.map (some sm)] w fun v w'=>v = .bool b∧MapR w' sm RI s'∧Mod (· = sm) w w'
 | 0,t,s,s',b,w,B,cs,ct,sm,hp,ht,hm,hB,h=>by rw [plF] at h;cases h
 | n+1,t,s,s',b,w,B,cs,ct,sm,hp,ht,hm,hB,h=>by
   have hp0:=hp;have lts:sm < w.heap.size:=by obtain ⟨lv,⟨es,c,h1,_⟩,_⟩:=hm;exact lt_of_heap h1
   obtain ⟨vd,vf,rfl,hd,_⟩:=hp;obtain ⟨ad,cd,rfl⟩:=each_sl hd;have hld:=each_len hd;obtain ⟨va,rfl,hl⟩:=ht.cells;obtain ⟨aa,ca,rfl⟩:=each_sl hl;have hla:=each_len hl;have hnB:∀ b,B b→¬ (b=sm):=fun b hb e=>hB (by rw [← e];exact hb)
   have h:(if t.kind=3 then some (false,s) else match plL (plF p.datas n) t.args s with
     | none=>none
     | some (false,s')=>some (false,s')
     | some (true,s')=>if t.kind≠4∨(aget s' t.name).getD 0 > 0 then some (true,s') else plD (plF p.datas n) t.name p.datas (aput s' t.name 1))=some (b,s'):=h
   refine fit34.calls rfl ?_;unfold ir34;refine ir_cut (fun ρ w2=>∃ b3 b4,w.heap.size≤b3∧w.heap.size≤b4∧w2.heap[b3]? = some (.cells [.slice ad p.datas.length cd,vf].toArray 25 (0,0))∧w2.heap[b4]? = some (.cells [I t.kind,.string t.name,.slice aa t.args.length ca].toArray 42 (0,0))∧Mod (fun _=>False) w w2∧ρ=[(2,.map (some sm)),(3,ptr b3),(4,ptr b4)]) ?_ ?_
   · (try simp only [go_sem,simprocAttr]);refine e_bx rfl ?_;intro w1 hb1 hm1 hs1;(try simp only [go_sem,simprocAttr]);refine e_bx rfl ?_;intro w2 hb2 hm2 hs2;(try simp only [go_sem,simprocAttr]);exact ⟨w.heap.size,w1.heap.size,Nat.le_refl _,hm1.size,hm2.at hb1 _root_.id,hb2,hm1.trans hm2,rfl⟩
   rintro _ w2 ⟨b3,b4,l3,l4,hb3,hb4,m02,rfl⟩;have m2:Mod (· = sm) w w2:=m02.weak (fun _ h=>h.elim);have hM2:=hm.mod m02 _root_.id (fun _ _ x=>x);have later:∀ {w':World},Mod (· = sm) w w'→∀ {w3:World},True:=fun _=>trivial
   have box:∀ {w':World},Mod (· = sm) w2 w'→w'.heap[b3]? = some (.cells [.slice ad p.datas.length cd,vf].toArray 25 (0,0))∧w'.heap[b4]? = some (.cells [I t.kind,.string t.name,.slice aa t.args.length ca].toArray 42 (0,0))∧Mod (· = sm) w w':=fun hm=>⟨hm.at hb3 (fun e=>by omega),hm.at hb4 (fun e=>by omega),m2.trans hm⟩
   cases hk:t.kind == 3 with
   | true=>
     rw [if_pos (by simpa using hk)] at h;cases h;(try simp only [go_sem,simprocAttr,cell_of hb4,hk,rvs,RV.ev,one?]);exact ⟨hM2,m2⟩
   | false=>
     rw [if_neg (by simpa using hk)] at h;refine ir_cut (fun ρ w'=>w2=w'∧ρ.get 2=some (.map (some sm))∧ρ.get 3=some (ptr b3)∧ρ.get 4=some (ptr b4)) ?_ ?_
     · (try simp only [go_sem,simprocAttr,cell_of hb4,hk])
     rintro ρ _ ⟨rfl,g2,g3,g4⟩;cases hall:plL (plF p.datas n) t.args s with
     | none=>rw [hall] at h;cases h
     | some bs=>
     obtain ⟨bb,ss⟩:=bs;rw [hall] at h;refine ir_cut (fun ρ w'=>bb=true∧MapR w' sm RI ss∧Mod (· = sm) w2 w'∧ρ.get 2=some (.map (some sm))∧ρ.get 3=some (ptr b3)∧ρ.get 4=some (ptr b4)) ?_ ?_
     · (try simp only [go_sem,simprocAttr,g2,g3,g4,cell_of hb4]);refine ir_loop (fun z ρ w'=>∃ (i:Nat) (s1:Cnt),z=t.args.length - i∧i≤t.args.length∧plL (plF p.datas n) (t.args.drop i) s1=some (bb,ss)∧MapR w' sm RI s1∧Mod (· = sm) w2 w'∧ρ.get 2=some (.map (some sm))∧ρ.get 3=some (ptr b3)∧ρ.get 4=some (ptr b4)∧ρ.get 19=some (.slice aa t.args.length ca)∧ρ.get 20=some (I t.args.length)∧ρ.get 21=some (I i)) t.args.length ⟨0,s,by omega,by omega,hall,hM2,.refl _ _,rfl,rfl,rfl,rfl,rfl,rfl⟩ ?_;rintro z ρ w3 ⟨i,s1,rfl,hi,hpl,hM3,m23,g2,g3,g4,g19,g20,g21⟩;unfold ir34L1;by_cases q:i < t.args.length
       · have b1:decide ((i:Int) < t.args.length)=true:=by simpa using q
         have p1:(0:Int)≤i∧(i:Int) < t.args.length:=by omega
         obtain ⟨hb33,hb43,m3⟩:=box m23;have hl3:=hl.mod m3 hnB (fun _ _ h=>h.mod m3 hnB);obtain ⟨ad1,c1,r1,e1,htr,hlr,hln,_⟩:=each_at hl3 q;obtain ⟨rfl,-,-⟩:=tup_inj e1;(try simp only [go_sem,simprocAttr,g2,g3,g4,g19,g20,g21,b1]);(try simp only [go_sem,simprocAttr,zb4,zb6,p1,hln]);rw [plL_at q] at hpl;refine e_al ?_;intro w4 hb4' hm4 hs4;have hr1:=htr.len;obtain ⟨vr,er,hlr'⟩:=htr.cells;(try simp only [go_sem,simprocAttr]);refine e_sta (vs:=r1) (cs:=[I 0,.string noStr,.slice none 0 0]) rfl rfl hb4' hr1 rfl htr.one ?_;intro w5 hb5 hm5 hs5;have m35:Mod (fun _=>False) w3 w5:=hm4.step hm5 (fun b hb hl=>by have e:b=w3.heap.size:=hb;omega);have m25:Mod (· = sm) w2 w5:=m23.trans (m35.weak (fun _ h=>h.elim));obtain ⟨hb35,hb45,m5⟩:=box m25;cases hrec:plF p.datas n t.args[i] s1 with
         | none=>rw [hrec] at hpl;cases hpl
         | some bs=>
         obtain ⟨b6,s6⟩:=bs;rw [hrec] at hpl;(try simp only [go_sem,simprocAttr,ln_blk (n:=2) (cs:=[.slice ad p.datas.length cd,vf]) hb35 rfl,ln_blk (n:=3) (cs:=r1) hb5 hr1]);refine e_call (by rfl) ?_;refine (f_plain p n t.args[i] (hp0.mod m5 hnB) ((htr.mod m35 (fun _ _ h=>h))) (hM3.mod m35 _root_.id (fun _ _ x=>x)) hB hrec).mono ?_;rintro _ w6 ⟨rfl,hM6,hm6⟩;have m26:=m25.trans hm6;have e3:IntKind.i64.wrap ((i:Int)+1)=((i+1:Nat):Int):=by rw [wrap_in (by omega) (by omega)];omega
         cases b6 with
         | false=>
           cases hpl;cases h;(try simp only [go_sem,simprocAttr,rvs,RV.ev,one?]);exact ⟨hM6,m2.trans m26⟩
         | true=>
           (try simp only [go_sem,simprocAttr,e3]);exact ⟨_,by omega,i+1,s6,rfl,q,hpl,hM6,m26,rfl⟩
       · have b1:decide ((i:Int) < t.args.length)=false:=by simpa using q
         rw [List.drop_eq_nil_of_le (by omega),plL] at hpl;cases hpl;(try simp only [go_sem,simprocAttr,g2,g3,g4,g19,g20,g21,b1]);exact ⟨hM3,m23⟩
     rintro ρ w3 ⟨rfl,hM3,m23,g2,g3,g4⟩;obtain ⟨hb33,hb43,m3⟩:=box m23;have h:(if t.kind≠4∨(aget ss t.name).getD 0 > 0 then some (true,ss) else plD (plF p.datas n) t.name p.datas (aput ss t.name 1))=some (b,s'):=h;refine ir_cut (fun ρ w4=>t.kind=4∧¬ (aget ss t.name).getD 0 > 0∧w3=w4∧ρ.get 2=some (.map (some sm))∧ρ.get 3=some (ptr b3)∧ρ.get 4=some (ptr b4)) ?_ ?_
     · cases h4:(t.kind != 4) with
       | true=>
         have h4':t.kind≠4:=by simpa using h4
         rw [if_pos (.inl h4')] at h;cases h;(try simp only [go_sem,simprocAttr,g2,g3,g4,cell_of hb43,h4,rvs,RV.ev,one?]);exact ⟨hM3,m3⟩
       | false=>
         have h4':t.kind=4:=by simpa using h4
         (try simp only [go_sem,simprocAttr,g2,g3,g4,cell_of hb43,h4]);refine raw_g ?_;refine e_lkI (k:=t.name) (b:=sm) (kt:=9) (et:=3) rfl rfl rfl rfl (zI _) hM3 ?_;cases hs:decide ((aget ss t.name).getD 0 > 0) with
         | true=>
           have hs':(aget ss t.name).getD 0 > 0:=by simpa using hs
           rw [if_pos (.inr hs')] at h;cases h;(try simp only [go_sem,simprocAttr,hs,rvs,RV.ev,one?]);exact ⟨hM3,m3⟩
         | false=>
           have hs':¬ (aget ss t.name).getD 0 > 0:=by simpa using hs
           (try simp only [go_sem,simprocAttr,hs]);exact ⟨h4',hs'⟩
     rintro ρ _ ⟨h4,hs,rfl,g2,g3,g4⟩;rw [if_neg (by rintro (h | h);exact h h4;exact hs h)] at h;refine ir_cut (fun ρ w4=>MapR w4 sm RI (aput ss t.name 1)∧Mod (· = sm) w3 w4∧ρ.get 2=some (.map (some sm))∧ρ.get 3=some (ptr b3)∧ρ.get 4=some (ptr b4)) ?_ ?_
     · (try simp only [go_sem,simprocAttr,g2,g3,g4,cell_of hb43]);refine e_muR (kt:=9) (et:=3) (b:=sm) (k:=t.name) (v:=I 1) (a:=(1:Int)) rfl rfl rfl rfl rfl hM3 rfl ?_;intro w4 hp4 hm4 hs4;(try simp only [go_sem,simprocAttr]);exact ⟨hp4,hm4⟩
     rintro ρ w4 ⟨hM4,m34,g2,g3,g4⟩;have m24:=m23.trans m34;obtain ⟨hb34,hb44,m4⟩:=box m24;(try simp only [go_sem,simprocAttr,g2,g3,g4,cell_of hb34]);refine ir_loop (fun z ρ w'=>∃ (i:Nat) (s1:Cnt),z=p.datas.length - i∧i≤p.datas.length∧plD (plF p.datas n) t.name (p.datas.drop i) s1=some (b,s')∧MapR w' sm RI s1∧Mod (· = sm) w2 w'∧ρ.get 2=some (.map (some sm))∧ρ.get 3=some (ptr b3)∧ρ.get 4=some (ptr b4)∧ρ.get 45=some (.slice ad p.datas.length cd)∧ρ.get 46=some (I p.datas.length)∧ρ.get 47=some (I i)) p.datas.length ⟨0,_,by omega,by omega,h,hM4,m24,rfl,rfl,rfl,rfl,rfl,rfl⟩ ?_;rintro z ρ w5 ⟨i,s1,rfl,hi,hpl,hM5,m25,g2,g3,g4,g45,g46,g47⟩;obtain ⟨hb35,hb45,m5⟩:=box m25;unfold ir34L4;by_cases q:i < p.datas.length
     · have b1:decide ((i:Int) < p.datas.length)=true:=by simpa using q
       have p1:(0:Int)≤i∧(i:Int) < p.datas.length:=by omega
       have e3:IntKind.i64.wrap ((i:Int)+1)=((i+1:Nat):Int):=by rw [wrap_in (by omega) (by omega)];omega
       obtain ⟨ad1,c1,r1,e1,⟨vp,vc,rfl,hpar,hcons⟩,hl3,hcs⟩:=each_cells hd q;obtain ⟨rfl,-,-⟩:=tup_inj e1;obtain ⟨ac,cc,rfl⟩:=each_sl hcons;have hlc:=each_len hcons;obtain ⟨ap,cp,rfl⟩:=each_sl hpar;have hln:=ln_cells hl3 (hcs.up m5 hnB (fun _ h=>h)).2;rw [plD_at q] at hpl;(try simp only [go_sem,simprocAttr,g2,g3,g4,g45,g46,g47,b1]);(try simp only [go_sem,simprocAttr,zb4,zb6,p1,hln]);refine e_al ?_;intro w6 hb6 hm6 hs6;(try simp only [go_sem,simprocAttr]);refine e_sta (vs:=[.string p.datas[i].name,.slice ap p.datas[i].params.length cp,.slice ac p.datas[i].cons.length cc]) (cs:=[.string noStr,.slice none 0 0,.slice none 0 0]) rfl rfl hb6 rfl rfl (one_cons rfl (one_cons rfl (one_cons rfl one_nil))) ?_;intro w7 hb7 hm7 hs7;have m57:Mod (fun _=>False) w5 w7:=hm6.step hm7 (fun b hb hl=>by have e:b=w5.heap.size:=hb;omega);have m27:Mod (· = sm) w2 w7:=m25.trans (m57.weak (fun _ h=>h.elim));obtain ⟨hb37,hb47,m7⟩:=box m27;have hM7:=hM5.mod m57 _root_.id (fun _ _ x=>x);cases hn:strEq p.datas[i].name t.name with
       | false=>
         have hne:p.datas[i].name≠t.name:=by have:=hn;rw [strEq_iff] at this;simpa using this
         rw [if_pos hne] at hpl;rw [strEq] at hn;(try simp only [go_sem,simprocAttr,cell_of hb7,cell_of hb47,hn,e3]);exact ⟨_,by omega,i+1,s1,rfl,q,hpl,hM7,m27,rfl⟩
       | true=>
         have hne:p.datas[i].name=t.name:=by have:=hn;rw [strEq_iff] at this;simpa using this
         rw [if_neg (by simpa using hne)] at hpl;rw [strEq] at hn;cases hcall:plC (plF p.datas n) p.datas[i].cons s1 with
         | none=>rw [hcall] at hpl;cases hpl
         | some cs1=>
         obtain ⟨bc,sc⟩:=cs1;rw [hcall] at hpl;(try simp only [go_sem,simprocAttr,cell_of hb7,cell_of hb47,hn]);refine ir_loop (fun z ρ w'=>∃ (k:Nat) (s2:Cnt),z=p.datas[i].cons.length - k∧k≤p.datas[i].cons.length∧plC (plF p.datas n) (p.datas[i].cons.drop k) s2=some (bc,sc)∧MapR w' sm RI s2∧Mod (· = sm) w2 w'∧ρ.get 2=some (.map (some sm))∧ρ.get 3=some (ptr b3)∧ρ.get 4=some (ptr b4)∧ρ.get 45=some (.slice (some ad1) p.datas.length cd)∧ρ.get 46=some (I p.datas.length)∧ρ.get 47=some (I i) ∧
           ρ.get 57=some (.slice ac p.datas[i].cons.length cc)∧ρ.get 58=some (I p.datas[i].cons.length)∧ρ.get 59=some (I k)) p.datas[i].cons.length ⟨0,s1,by omega,by omega,hcall,hM7,m27,rfl,rfl,rfl,rfl,rfl,rfl,rfl,rfl,rfl⟩ ?_
         rintro z ρ w8 ⟨k,s2,rfl,hk,hpc,hM8,m28,g2,g3,g4,g45,g46,g47,g57,g58,g59⟩;obtain ⟨hb38,hb48,m8⟩:=box m28;unfold ir34L3;by_cases q2:k < p.datas[i].cons.length
         · have b2:decide ((k:Int) < p.datas[i].cons.length)=true:=by simpa using q2
           have p2:(0:Int)≤k∧(k:Int) < p.datas[i].cons.length:=by omega
           have e4:IntKind.i64.wrap ((k:Int)+1)=((k+1:Nat):Int):=by rw [wrap_in (by omega) (by omega)];omega
           obtain ⟨ad2,c2,r2,e2,⟨vf2,rfl,hfl,_⟩,hl2,hcs2⟩:=each_cells hcons q2;obtain ⟨rfl,-,-⟩:=tup_inj e2;obtain ⟨af,cf,rfl⟩:=each_sl hfl;have hlf:=each_len hfl;have hln2:=ln_cells hl2 (hcs2.up m8 hnB (fun _ h=>h)).2;rw [plC_at q2] at hpc;cases hfall:plL (plF p.datas n) p.datas[i].cons[k].fields s2 with
           | none=>rw [hfall] at hpc;cases hpc
           | some fs1=>
           obtain ⟨bf,sf⟩:=fs1;rw [hfall] at hpc;(try simp only [go_sem,simprocAttr,g2,g3,g4,g45,g46,g47,g57,g58,g59,b2]);(try simp only [go_sem,simprocAttr,zb4,zb6,p2,hln2]);refine e_al ?_;intro w9 hb9 hm9 hs9;(try simp only [go_sem,simprocAttr]);refine e_sta (vs:=[.string p.datas[i].cons[k].name,.slice af p.datas[i].cons[k].fields.length cf]) (cs:=[.string noStr,.slice none 0 0]) rfl rfl hb9 rfl rfl (one_cons rfl (one_cons rfl one_nil)) ?_;intro w10 hb10 hm10 hs10;have m810:Mod (fun _=>False) w8 w10:=hm9.step hm10 (fun b hb hl=>by have e:b=w8.heap.size:=hb;omega);have m210:Mod (· = sm) w2 w10:=m28.trans (m810.weak (fun _ h=>h.elim));have hM10:=hM8.mod m810 _root_.id (fun _ _ x=>x);(try simp only [go_sem,simprocAttr,cell_of hb10]);refine ir_loop (fun z ρ w'=>∃ (j:Nat) (s3:Cnt),z=p.datas[i].cons[k].fields.length - j∧j≤p.datas[i].cons[k].fields.length∧plL (plF p.datas n) (p.datas[i].cons[k].fields.drop j) s3=some (bf,sf)∧MapR w' sm RI s3∧Mod (· = sm) w2 w'∧ρ.get 2=some (.map (some sm))∧ρ.get 3=some (ptr b3)∧ρ.get 4=some (ptr b4)∧ρ.get 45=some (.slice (some ad1) p.datas.length cd)∧ρ.get 46=some (I p.datas.length)∧ρ.get 47=some (I i) ∧
             ρ.get 57=some (.slice (some ad2) p.datas[i].cons.length cc)∧ρ.get 58=some (I p.datas[i].cons.length)∧ρ.get 59=some (I k)∧ρ.get 64=some (.slice af p.datas[i].cons[k].fields.length cf)∧ρ.get 65=some (I p.datas[i].cons[k].fields.length)∧ρ.get 66=some (I j)) p.datas[i].cons[k].fields.length ⟨0,s2,by omega,by omega,hfall,hM10,m210,rfl,rfl,rfl,rfl,rfl,rfl,rfl,rfl,rfl,rfl,rfl,rfl⟩ ?_
           rintro z ρ w11 ⟨j,s3,rfl,hj,hpf,hM11,m211,g2,g3,g4,g45,g46,g47,g57,g58,g59,g64,g65,g66⟩;obtain ⟨hb311,hb411,m11⟩:=box m211;unfold ir34L2;by_cases q3:j < p.datas[i].cons[k].fields.length
           · have b3':decide ((j:Int) < p.datas[i].cons[k].fields.length)=true:=by simpa using q3
             have p3:(0:Int)≤j∧(j:Int) < p.datas[i].cons[k].fields.length:=by omega
             have e5:IntKind.i64.wrap ((j:Int)+1)=((j+1:Nat):Int):=by rw [wrap_in (by omega) (by omega)];omega
             have hfl11:=hfl.mod m11 hnB (fun _ _ h=>h.mod m11 hnB);obtain ⟨ad3,c3,r3,e6,htr,hlr,hln3,_⟩:=each_at hfl11 q3;obtain ⟨rfl,-,-⟩:=tup_inj e6;rw [plL_at q3] at hpf;cases hrec:plF p.datas n p.datas[i].cons[k].fields[j] s3 with
             | none=>rw [hrec] at hpf;cases hpf
             | some bs=>
             obtain ⟨b6,s6⟩:=bs;rw [hrec] at hpf;(try simp only [go_sem,simprocAttr,g2,g3,g4,g45,g46,g47,g57,g58,g59,g64,g65,g66,b3']);(try simp only [go_sem,simprocAttr,zb4,zb6,p3,hln3]);refine e_al ?_;intro w12 hb12 hm12 hs12;have hr1:=htr.len;(try simp only [go_sem,simprocAttr]);refine e_sta (vs:=r3) (cs:=[I 0,.string noStr,.slice none 0 0]) rfl rfl hb12 hr1 rfl htr.one ?_;intro w13 hb13 hm13 hs13;have m1113:Mod (fun _=>False) w11 w13:=hm12.step hm13 (fun b hb hl=>by have e:b=w11.heap.size:=hb;omega);have m213:Mod (· = sm) w2 w13:=m211.trans (m1113.weak (fun _ h=>h.elim));obtain ⟨hb313,hb413,m13⟩:=box m213;(try simp only [go_sem,simprocAttr,ln_blk (n:=2) (cs:=[.slice (some ad1) p.datas.length cd,vf]) hb313 rfl,ln_blk (n:=3) (cs:=r3) hb13 hr1]);refine e_call (by rfl) ?_;refine (f_plain p n p.datas[i].cons[k].fields[j] (hp0.mod m13 hnB) (htr.mod m1113 (fun _ _ h=>h)) (hM11.mod m1113 _root_.id (fun _ _ x=>x)) hB hrec).mono ?_;rintro _ w14 ⟨rfl,hM14,hm14⟩;have m214:=m213.trans hm14;cases b6 with
             | false=>
               cases hpf;cases hpc;cases hpl;(try simp only [go_sem,simprocAttr,rvs,RV.ev,one?]);exact ⟨hM14,m2.trans m214⟩
             | true=>
               (try simp only [go_sem,simprocAttr,e5]);exact ⟨_,by omega,j+1,s6,rfl,q3,hpf,hM14,m214,rfl⟩
           · have b3':decide ((j:Int) < p.datas[i].cons[k].fields.length)=false:=by simpa using q3
             rw [List.drop_eq_nil_of_le (by omega),plL] at hpf;cases hpf;(try simp only [go_sem,simprocAttr,g2,g3,g4,g45,g46,g47,g57,g58,g59,g64,g65,g66,b3',e4]);exact ⟨_,by omega,k+1,_,rfl,q2,hpc,hM11,m211,rfl⟩
         · have b2:decide ((k:Int) < p.datas[i].cons.length)=false:=by simpa using q2
           rw [List.drop_eq_nil_of_le (by omega),plC] at hpc;cases hpc;(try simp only [go_sem,simprocAttr,g2,g3,g4,g45,g46,g47,g57,g58,g59,b2,e3]);exact ⟨_,by omega,i+1,_,rfl,q,hpl,hM8,m28,rfl⟩
     · have b1:decide ((i:Int) < p.datas.length)=false:=by simpa using q
       rw [List.drop_eq_nil_of_le (by omega),plD] at hpl;cases hpl;(try simp only [go_sem,simprocAttr,g2,g3,g4,g45,g46,g47,b1,rvs,RV.ev,one?]);exact ⟨hM5,m5⟩
end
section
open Go Go.W
def entT (d:Df):Ty×Bool:=if (d.type.kind == 3&&(match d.type.args with | a::_=>lioS a | []=>false))=true then (d.type.args.getD 1 default,true) else (d.type,false)
def entD (f:Ty→Option Bool) (n:ByteArray):List Df→Option (Bool×Bool)
 | []=>some (false,false)
 | d::l=>if d.name≠n then entD f n l else if 0 < d.params.length then some (false,false) else (f (entT d).1).map (fun b=>((entT d).2,b))
theorem entD_at {f:Ty→Option Bool} {n:ByteArray} {l:List Df} {i:Nat} (hi:i < l.length):entD f n (l.drop i)=if l[i].name≠n then entD f n (l.drop (i+1)) else if 0 < l[i].params.length then some (false,false) else (f (entT l[i]).1).map (fun b=>((entT l[i]).2,b)):=by rw [List.drop_eq_getElem_cons hi,entD]
def plainT (ds:List Dt) (n:Nat) (t:Ty):Option Bool:=(plF ds n t []).map (·.1)
def entryS (p:Pg) (n:Nat) (name:ByteArray):Option (Bool×Bool):=entD (plainT p.datas n) name p.defs
def TyOk (t:Ty):Prop:=(t.kind=3→t.args.length=2)∧∀ a,t.kind=3→t.args[0]? = some a→a.kind=4→a.name=listN→0 < a.args.length
theorem entT_fun (d:Df) (hk:d.type.kind=3) (h2:d.type.args.length=2):entT d=if lioS d.type.args[0]=true then (d.type.args[1],true) else (d.type,false):=by
 obtain ⟨x,y,hxy⟩:=two_of h2;have e0:d.type.args[0]=x:=by simp [hxy]
 have e1:d.type.args[1]=y:=by simp [hxy]
 unfold entT;rw [e0,e1,hk,hxy];rfl
theorem f_entryOf (p:Pg) {n:Nat} {name:ByteArray} {w:World} {cs:List Value} {res:Bool×Bool} (h:PgAt w (Out (fun _=>False) w) cs p) (hok:∀ d∈p.defs,TyOk d.type) (hres:entryS p n name=some res) :
   CallsR Tryz.prog 24 [.agg cs.toArray,.string name] w fun v w'=>v = .tuple #[.bool res.1,.bool res.2]∧Mod (fun _=>False) w w':=by
 have h0:=h;obtain ⟨vd,vf,rfl,hd,hf⟩:=h;obtain ⟨af,cf,rfl⟩:=each_sl hf;have hlf:=each_len hf;refine fit24.calls rfl ?_;unfold ir24;(try simp only [go_sem,simprocAttr]);refine e_bx rfl ?_;intro w1 hb1 hm1 hs1;have z1:w1.heap.size=w.heap.size+1:=hs1;(try simp only [go_sem,simprocAttr,cell_of hb1]);refine ir_loop (fun z ρ w'=>∃ i:Nat,z=p.defs.length - i∧i≤p.defs.length∧entD (plainT p.datas n) name (p.defs.drop i)=some res∧Mod (fun _=>False) w1 w'∧ρ.get 1=some (.string name)∧ρ.get 2=some (ptr w.heap.size)∧ρ.get 11=some (.slice af p.defs.length cf)∧ρ.get 12=some (I p.defs.length)∧ρ.get 13=some (I i)) p.defs.length ⟨0,by omega,by omega,hres,.refl _ _,rfl,rfl,rfl,rfl,rfl⟩ ?_;rintro z ρ w2 ⟨i,rfl,hi,he,hm2,g1,g2,g11,g12,g13⟩;have hm02:=hm1.trans hm2;have hb2:=hm2.at hb1 _root_.id;unfold ir24L1;by_cases q:i < p.defs.length
 · have b1:decide ((i:Int) < p.defs.length)=true:=by simpa using q
   have p1:(0:Int)≤i∧(i:Int) < p.defs.length:=by omega
   have e3:IntKind.i64.wrap ((i:Int)+1)=((i+1:Nat):Int):=by rw [wrap_in (by omega) (by omega)];omega
   obtain ⟨ad1,c1,r1,e1,hdf,hl12,hcs⟩:=each_cells hf q;obtain ⟨rfl,-,-⟩:=tup_inj e1;have hone:=hdf.one;obtain ⟨vp,tc,bc,rfl,ltc,lbc,hpar,hty,hbody,_⟩:=hdf;obtain ⟨ap,cp,rfl⟩:=each_sl hpar;have hln:=ln_cells hl12 (hcs.up hm02 nof (fun _ h=>h)).2;rw [entD_at q] at he;(try simp only [go_sem,simprocAttr,g1,g2,g11,g12,g13,b1]);(try simp only [go_sem,simprocAttr,zb4,zb6,p1,hln]);refine e_al ?_;intro w3 hb3 hm3 hs3;(try simp only [go_sem,simprocAttr]);refine e_sta (vs:=.string p.defs[i].name :: .slice ap p.defs[i].params.length cp::(tc++bc)) (cs:=[.string noStr,.slice none 0 0,I 0,.string noStr,.slice none 0 0,I 0,.string noStr,I 0,.slice none 0 0,.slice none 0 0,.slice none 0 0,.slice none 0 0]) rfl rfl hb3 hl12 rfl hone ?_;intro w4 hb4 hm4 hs4;have m24:Mod (fun _=>False) w2 w4:=hm3.step hm4 (fun b hb hl=>by have e:b=w2.heap.size:=hb;omega);have hm04:=hm02.trans m24;cases hn:strEq p.defs[i].name name with
   | false=>
     have hne:p.defs[i].name≠name:=by have:=hn;rw [strEq_iff] at this;simpa using this
     rw [if_pos hne] at he;rw [strEq] at hn;(try simp only [go_sem,simprocAttr,cell_of hb4,hn,e3]);exact ⟨_,by omega,i+1,rfl,q,he,hm2.trans m24,rfl⟩
   | true=>
     have hne:p.defs[i].name=name:=by have:=hn;rw [strEq_iff] at this;simpa using this
     rw [if_neg (by simpa using hne)] at he;rw [strEq] at hn;by_cases hp:0 < p.defs[i].params.length
     · rw [if_pos hp] at he;cases he;have b2:decide ((p.defs[i].params.length:Int) > 0)=true:=decide_eq_true (by omega);(try simp only [go_sem,simprocAttr,cell_of hb4,hn,b2,rvs,RV.ev,one?]);exact hm04
     · rw [if_neg hp] at he;have b2:decide ((p.defs[i].params.length:Int) > 0)=false:=decide_eq_false (by omega);have hokd:=hok _ (List.getElem_mem q);obtain ⟨vt,rfl,hta⟩:=hty.cells;obtain ⟨at',ct,rfl⟩:=each_sl hta;have hln2:vLN w4 3 (.pointer (some ⟨w2.heap.size,2,none⟩))=some (.agg [I p.defs[i].type.kind,.string p.defs[i].type.name,.slice at' p.defs[i].type.args.length ct].toArray):=by
         have:=ln_of (off:=2) (n:=3) hb4 (by simp)
         simpa using this
       cases hpt:plainT p.datas n (entT p.defs[i]).1 with
       | none=>rw [hpt] at he;cases he
       | some bp=>
       rw [hpt] at he;have hres':res=((entT p.defs[i]).2,bp):=by cases he;rfl
       obtain ⟨ss,hpl⟩:∃ ss,plF p.datas n (entT p.defs[i]).1 []=some (bp,ss):=by
         unfold plainT at hpt;obtain ⟨x,h1,rfl⟩:=Option.map_eq_some_iff.1 hpt;exact ⟨x.2,h1⟩
       have z4:=hm04.size;have callP:∀ {w9:World} {ct:List Value} {tt:Ty} {sm:Nat},Mod (fun _=>False) w w9→w.heap.size≤sm→MapR w9 sm RI []→TyAt w9 (Out (fun _=>False) w) ct tt→plF p.datas n tt []=some (bp,ss) →
           CallsR Tryz.prog 34 [.agg [vd,.slice (some ad1) p.defs.length cf].toArray,.agg ct.toArray,.map (some sm)] w9 fun v w10=>v = .bool bp∧Mod (fun _=>False) w w10:=fun {w9 ct tt sm} hm9 hsm hmap hty hpl=>by
         refine (f_plain p n tt (h0.mod hm9 nof) hty hmap (fun hb=>by have:=hb.1;omega) hpl).mono ?_;rintro _ w10 ⟨rfl,_,hm10⟩;exact ⟨rfl,hm9.step hm10 (fun b hb hl=>by have e:b=sm:=hb;omega)⟩
       (try simp only [go_sem,simprocAttr,cell_of hb4,hn,b2,hln2]);refine e_al ?_;intro w5 hb5 hm5 hs5;(try simp only [go_sem,simprocAttr]);refine e_sta (vs:=[I p.defs[i].type.kind,.string p.defs[i].type.name,.slice at' p.defs[i].type.args.length ct]) (cs:=[I 0,.string noStr,.slice none 0 0]) rfl rfl hb5 rfl rfl (one_cons rfl (one_cons rfl (one_cons rfl one_nil))) ?_;intro w6 hb6 hm6 hs6;have m46:Mod (fun _=>False) w4 w6:=hm5.step hm6 (fun b hb hl=>by have e:b=w4.heap.size:=hb;omega);have hm06:=hm04.trans m46;have hb26:w6.heap[w.heap.size]? = some (.cells [vd,.slice (some ad1) p.defs.length cf].toArray 25 (0,0)):=(m24.trans m46).at hb2 _root_.id;cases hk:p.defs[i].type.kind == 3 with
       | false=>
         have heT:entT p.defs[i]=(p.defs[i].type,false):=by unfold entT;rw [hk];try rfl
         rw [heT] at hpl hres';have lnp:=ln_blk (n:=2) (cs:=[vd,.slice (some ad1) p.defs.length cf]) hb26 rfl;have lnt:=ln_blk (n:=3) (cs:=[I p.defs[i].type.kind,.string p.defs[i].type.name,.slice at' p.defs[i].type.args.length ct]) hb6 rfl;have hmX:=hm06;(try simp only [go_sem,simprocAttr,cell_of hb6,hk,lnp,lnt]);refine e_mmR (α:=Int) RI ?_;intro w9 hp9 hm9 hs9;have hm09:=hmX.trans hm9;(try simp only [go_sem,simprocAttr]);refine e_call (by rfl) ?_;refine (callP hm09 hmX.size hp9 (hty.mod hm09 nof) hpl).mono ?_;rintro _ w10 ⟨rfl,hm10⟩;(try simp only [go_sem,simprocAttr,rvs,RV.ev,one?]);rw [hres'];exact ⟨rfl,hm10⟩
       | true=>
         have hk':p.defs[i].type.kind=3:=by simpa using hk
         have hl2:=hokd.1 hk';have p0:(0:Int)≤0∧(0:Int) < p.defs[i].type.args.length:=by omega
         have p1':(0:Int)≤1∧(1:Int) < p.defs[i].type.args.length:=by omega
         have t1:Int.toNat 1=1:=rfl;obtain ⟨ada,cta,ra,ea,hta0,hla0,hca0⟩:=each_cells hta (show 0 < p.defs[i].type.args.length by omega);obtain ⟨rfl,-,-⟩:=tup_inj ea;obtain ⟨ada',cta',ra1,ea',hta1,hla1,hca1⟩:=each_cells hta (show 1 < p.defs[i].type.args.length by omega);obtain ⟨ea9,-,-⟩:=tup_inj ea';cases ea9;have ha0:p.defs[i].type.args[0]? = some p.defs[i].type.args[0]:=List.getElem?_eq_getElem (by omega);have lna:=ln_cells hla0 (hca0.up hm06 nof (fun _ h=>h)).2;rw [Nat.zero_mul,add_zero'] at lna;have heT:=entT_fun p.defs[i] hk' hl2;(try simp only [go_sem,simprocAttr,cell_of hb6,hk]);(try simp only [go_sem,simprocAttr,zb4,zb6,p0,Nat.zero_mul,lna]);refine e_call (by rfl) ?_;refine (f_listOfInt _ (hta0.mod hm06 nof) (fun h1 h2=>hokd.2 _ hk' ha0 h1 h2)).mono ?_;rintro _ w7 ⟨rfl,hm7⟩;have hm07:=hm06.trans hm7;have hb27:=hm7.at hb26 _root_.id;have hb67:=hm7.at hb6 _root_.id;have lnp:=ln_blk (n:=2) (cs:=[vd,.slice (some ad1) p.defs.length cf]) hb27 rfl;have lnt:=ln_blk (n:=3) (cs:=[I p.defs[i].type.kind,.string p.defs[i].type.name,.slice (some ada) p.defs[i].type.args.length ct]) hb67 rfl;cases hlio:lioS p.defs[i].type.args[0] with
         | false=>
           rw [hlio] at heT;rw [heT,if_neg (by simp)] at hpl hres';have hmX:=hm07;(try simp only [go_sem,simprocAttr,lnp,lnt]);refine e_mmR (α:=Int) RI ?_;intro w9 hp9 hm9 hs9;have hm09:=hmX.trans hm9;(try simp only [go_sem,simprocAttr]);refine e_call (by rfl) ?_;refine (callP hm09 hmX.size hp9 (hty.mod hm09 nof) hpl).mono ?_;rintro _ w10 ⟨rfl,hm10⟩;(try simp only [go_sem,simprocAttr,rvs,RV.ev,one?]);rw [hres'];exact ⟨rfl,hm10⟩
         | true=>
           rw [hlio] at heT;rw [heT,if_pos rfl] at hpl hres';have lna1:=ln_cells hla1 (hca1.up hm07 nof (fun _ h=>h)).2;have hr1:=hta1.len;rw [Nat.one_mul,add_pos _ (by decide)] at lna1;(try simp only [go_sem,simprocAttr,cell_of hb67]);(try simp only [go_sem,simprocAttr,zb4,zb6,p1',t1,Nat.one_mul,lna1]);refine e_sta (vs:=ra1) (cs:=[I p.defs[i].type.kind,.string p.defs[i].type.name,.slice (some ada) p.defs[i].type.args.length ct]) rfl rfl hb67 hr1 rfl hta1.one ?_;intro w8 hb8 hm8 hs8;have hmX:Mod (fun _=>False) w w8:=hm07.step hm8 (fun b hb hl=>by have e:b=w4.heap.size:=hb;have:=hm04.size;omega);have hlt4:w.heap.size < w4.heap.size:=by have:=hm2.size;have:=m24.size;omega
           have hb28:=hm8.at hb27 (fun e=>by have e':w.heap.size=w4.heap.size:=e;omega);have lnp:=ln_blk (n:=2) (cs:=[vd,.slice (some ad1) p.defs.length cf]) hb28 rfl;have lnt:=ln_blk (n:=3) (cs:=ra1) hb8 hr1;(try simp only [go_sem,simprocAttr,lnp,lnt]);refine e_mmR (α:=Int) RI ?_;intro w9 hp9 hm9 hs9;have hm09:=hmX.trans hm9;(try simp only [go_sem,simprocAttr]);refine e_call (by rfl) ?_;refine (callP hm09 hmX.size hp9 (hta1.mod hm09 nof) hpl).mono ?_;rintro _ w10 ⟨rfl,hm10⟩;(try simp only [go_sem,simprocAttr,rvs,RV.ev,one?]);rw [hres'];exact ⟨rfl,hm10⟩
 · have b1:decide ((i:Int) < p.defs.length)=false:=by simpa using q
   rw [List.drop_eq_nil_of_le (by omega),entD] at he;cases he;(try simp only [go_sem,simprocAttr,g1,g2,g11,g12,g13,b1,rvs,RV.ev,one?]);exact hm02
end
section
open Go Go.W
abbrev bigN:Nat:=16777216
def globE (n:ByteArray):Ex:=.mk 3 n 0 [] [] [] []
def runM (p:Pg) (fuel:Int) (name:ByteArray) (takes:Bool) (input:List Int):Option Rn:=
 match goOnS (newX p fuel) bigN (.go (globE name) []) (newM p) with
 | none=>none
 | some (none,m)=>some m
 | some (some x,m)=>
   if takes=true then
     match applyS (newX p fuel) bigN x (m.ls input).cells.length ((m.ls input).new (listedS input m.cells).1) with
     | none=>none
     | some (none,m)=>some m
     | some (some y,m)=>tellS (newX p fuel) bigN y [] m
   else tellS (newX p fuel) bigN x [] m
def badIn (input:List Int):Bool:=input.any (fun n=>decide (n < -4611686018427387904)||decide (n > 4611686018427387903))
noncomputable def runS (p:Pg) (N:Nat) (name:ByteArray) (input:List Int) (fuel:Int):Option (Int×Option Rn):=
 if 10000 < input.length then some (2,none)
 else if badIn input=true then some (1,none)
 else if fuel < 0∨fuel > 1048576 then some (1,none)
 else if checkS p≠0 then some (checkS p,none)
 else match entryS p N name with
   | none=>none
   | some (_,false)=>some (100,none)
   | some (takes,true)=>(runM p fuel name takes input).map (fun m=>(0,some m))
theorem headS_ok {E E':Env} {d:Df} (h:headS E d = .ok E'):E'.datas=E.datas∧d.type.wf E=true:=by
 unfold headS at h
 split at h
 · cases h
 · split at h
   · cases h
   · split at h
     · cases h
     · rename_i hr;cases h;refine ⟨rfl,?_⟩;have:=(right_good (by simpa using hr)).1;rw [← wf_data (E:={ E with params:=parsL d.params []}) (E':=E) rfl];exact this
theorem headsS_ok:∀ (l:List Df) (E E':Env),headsS l E = .ok E'→E'.datas=E.datas∧∀ d∈l,d.type.wf E=true
 | [],E,E',h=>by rw [headsS] at h;cases h;exact ⟨rfl,fun d hd=>(by cases hd)⟩
 | d::l,E,E',h=>by
   rw [headsS] at h
   split at h
   · cases h
   · rename_i E1 h1;obtain ⟨a1,a2⟩:=headS_ok h1;obtain ⟨b1,b2⟩:=headsS_ok l E1 E' h;refine ⟨b1.trans a1,fun x hx=>?_⟩;rcases List.mem_cons.1 hx with rfl | hx
     · exact a2
     · rw [← wf_data a1];exact b2 x hx
theorem checkedS_ok {p:Pg} {E:Env} (h:checkedS p = .ok E):∃ E1,checkDatasS newE p.datas = .ok E1∧headsS p.defs E1 = .ok E∧bodiesS E p.defs=0:=by
 unfold checkedS at h
 split at h
 · cases h
 · split at h
   · cases h
   · split at h
     · cases h
     · rename_i E1 h1
       split at h
       · cases h
       · rename_i E2 h2
         split at h
         · cases h
         · rename_i h3;cases h;exact ⟨E1,h1,h2,by simpa using h3⟩
theorem checkS_ok {p:Pg} (h:checkS p=0):∃ E,checkedS p = .ok E:=by
 unfold checkS at h
 split at h
 · rename_i e he;exfalso;subst h;have key:∀ (x:Except Int Env),checkedS p=x→(∀ e,x = .error e→e≠0):=by
     intro x hx e he0 h0;subst he0 h0;unfold checkedS at hx
     split at hx
     · cases hx
     · split at hx
       · cases hx
       · split at hx
         · rename_i e1 h1;cases hx;unfold checkDatasS at h1
           split at h1
           · rename_i e2 h2;cases h1;have hd:∀ (l:List Dt) (E:Env),datasS l E≠.error 0:=by
               intro l
               induction l with
               | nil=>intro E h;rw [datasS] at h;cases h
               | cons d l ih=>
                 intro E h;rw [datasS] at h
                 split at h
                 · rename_i hn
                   injection h with h
                   rw [h] at hn;simp at hn
                 · exact ih _ h
             exact hd _ _ h2
           · split at h1
             · cases h1
             · cases h1
         · split at hx
           · rename_i e1 h1;cases hx;have hd:∀ (l:List Df) (E:Env),headsS l E≠.error 0:=by
               intro l
               induction l with
               | nil=>intro E h;rw [headsS] at h;cases h
               | cons d l ih=>
                 intro E h;rw [headsS] at h
                 split at h
                 · rename_i e3 h3;cases h;unfold headS at h3
                   split at h3
                   · cases h3
                   · split at h3
                     · cases h3
                     · split at h3
                       · cases h3
                       · cases h3
                 · exact ih _ h
             exact hd _ _ h1
           · split at hx
             · rename_i hn
               injection hx with hx
               rw [hx] at hn;simp at hn
             · cases hx
   exact key _ he 0 rfl rfl
 · rename_i E hE;exact ⟨E,hE⟩
theorem checked_list {l:List Dt} {E:Env} (h:checkDatasS newE l = .ok E):aget E.datas listN=some dList:=by
 unfold checkDatasS at h
 split at h
 · cases h
 · rename_i E' hE'
   split at h
   · cases h;obtain ⟨_,hk⟩:=datasS_inv l newE E givenS newE_inv hE';exact hk _ _ newE_list
   · cases h
theorem tyOk_of {p:Pg} (h:checkS p=0):∀ d∈p.defs,TyOk d.type:=by
 obtain ⟨E,hE⟩:=checkS_ok h;obtain ⟨E1,h1,h2,_⟩:=checkedS_ok hE;obtain ⟨_,h3⟩:=headsS_ok _ _ _ h2;intro d hd;have hw:=h3 d hd;refine ⟨fun hk=>fun_two hw hk,fun a hk ha hk4 hn=>?_⟩;have hwa:a.wf E1=true:=wf_mem hw (List.mem_of_getElem? ha);rw [a.wf_eq,hk4,Bool.and_eq_true,Bool.and_eq_true] at hwa;have hb:badData E1 a.name a.args.length=false:=by simpa using hwa.1.2
 unfold badData at hb;rw [hn,checked_list h1] at hb;have h5:(dList.params.length:Int)=a.args.length:=by simpa using hb
 have h6:dList.params.length=1:=rfl;omega
end
section
open Go Go.W
structure TlR (X:Cx) (m m':Rn):Prop where
 told:∃ l,m'.told=m.told++l∧(l.length:Int)≤m'.steps - m.steps
 steps:m.steps≤m'.steps
 fuel:m.steps≤X.fuel→m'.steps≤X.fuel
 how:(m'.kind=2∧m'.stuck=m.stuck)∨(m'.kind=4∧m'.steps=X.fuel∧m'.stuck=m.stuck)∨m'.kind=3
theorem TlR.from {X:Cx} {m m1 m':Rn} (h:TlR X m1 m') {l:List (ByteArray×Int)} (h1:m1.told=m.told++l) (h2:(l.length:Int)≤m1.steps - m.steps) (h3:m.steps≤X.fuel→m1.steps≤X.fuel) (h4:m1.stuck=m.stuck):TlR X m m':=by
 obtain ⟨⟨l2,a1,a2⟩,b,c,d⟩:=h;refine ⟨⟨l++l2,by rw [a1,h1,List.append_assoc],by rw [List.length_append];omega⟩,by omega,fun hh=>c (h3 hh),?_⟩;rcases d with ⟨d1,d2⟩ | ⟨d1,d2,d3⟩ | d
 · exact .inl ⟨d1,d2.trans h4⟩
 · exact .inr (.inl ⟨d1,d2,d3.trans h4⟩)
 · exact .inr (.inr d)
theorem TlR.of_go {X:Cx} {m m':Rn} (h:GoR X m (none,m')):TlR X m m':=by
 have h1:m'.told=m.told:=h.told;have h2:m.steps≤m'.steps:=h.steps;refine ⟨⟨[],by rw [h1,List.append_nil],by simp;omega⟩,h2,h.fuel,?_⟩;rcases h.stop rfl with ⟨a,b,c⟩ | a
 · exact .inr (.inl ⟨a,b,c⟩)
 · exact .inr (.inr a)
theorem item_len (x:Cl):(itemS x).length≤1:=by cases x<;>simp [itemS]
theorem tell_sm {X:Cx}:∀ (n:Nat) {x:Cl} {ws:List Nat} {m m':Rn},tellS X n x ws m=some m'→m.frames=[]→TlR X m m'
 | 0,x,ws,m,m',h,_=>by rw [tellS] at h;cases h
 | n+1,x,ws,m,m',h,hf=>by
   rw [tellS] at h;have hil:=item_len x;rcases step_cases X m with ⟨h1,h2⟩ | ⟨h1,h2⟩
   · rw [h2,if_pos rfl] at h;cases h;exact ⟨⟨[],by simp,by simp⟩,Int.le_refl _,fun h=>h,.inr (.inl ⟨rfl,h1,rfl⟩)⟩
   · rw [h2,if_neg (by simp)] at h;simp only at h
     split at h
     · cases h
     · split at h
       · cases h;exact ⟨⟨itemS x,rfl,by simp;omega⟩,by simp;omega,fun hh=>by simp only;omega,.inl ⟨rfl,rfl⟩⟩
       · split at h
         · cases h
         · rename_i c m3 hfo;cases h;have k:=TlR.of_go (force_sm hfo hf);exact k.from (m:=m) (l:=itemS x) rfl (by simp only;omega) (fun hh=>by simp only;omega) rfl
         · rename_i c y m3 hfo;have g:=force_sm hfo hf;obtain ⟨g1,g2,g3⟩:=g.val y rfl;have gt:m3.told=m.told++itemS x:=g.told;have gs:m.steps+1≤m3.steps:=g.steps;have gf:m.steps+1≤X.fuel→m3.steps≤X.fuel:=g.fuel;exact (tell_sm n h g3).from (l:=itemS x) gt (by omega) (fun hh=>gf (by omega)) g2
theorem apply_sm {X:Cx} {n c:Nat} {f:Cl} {m:Rn} {r:Option Cl×Rn} (h:applyS X n f c m=some r) (hf:m.frames=[]):GoR X m r:=by
 unfold applyS at h;cases hg:givenR m f c with
 | none=>rw [hg] at h;cases h
 | some rr=>
 rw [hg] at h;have k:=given_sm hg
 match rr,h,k,hg with
 | (none,m'),h,k,hg=>
   cases h;have ks:m'.steps=m.steps:=k.steps;exact ⟨k.told,by show m.steps≤m'.steps;omega,fun hh=>by show m'.steps≤_;omega,fun x hx=>by (cases hx),fun _=>.inr (k.stop rfl)⟩
 | (some (.val x),m'),h,k,hg=>
   cases h;have:m'=m:=by
     unfold givenR at hg
     split at hg
     · split at hg<;>cases hg
     · split at hg
       · cases hg;rfl
       · cases hg
     · cases hg
   subst this;exact ⟨rfl,Int.le_refl _,fun h=>h,fun _ _=>⟨rfl,rfl,hf⟩,fun hn=>by cases hn⟩
 | (some (.go e v),m'),h,k,hg=>
   have ks:m'.steps=m.steps:=k.steps;exact (goOn_sm n h).from k.told (by omega) (fun hh=>by omega) (k.go _ rfl)
theorem runM_sm {p:Pg} {fuel:Int} {name:ByteArray} {takes:Bool} {input:List Int} {m:Rn} (h:runM p fuel name takes input=some m):TlR (newX p fuel) (newM p) m:=by
 unfold runM at h
 split at h
 · cases h
 · rename_i m1 hg;cases h;exact TlR.of_go (goOn_sm _ hg)
 · rename_i x m1 hg;have k:=goOn_sm _ hg;obtain ⟨k1,k2,k3⟩:=k.val x rfl;have kt:m1.told=(newM p).told:=k.told;have ks:(newM p).steps≤m1.steps:=k.steps;have kf:(newM p).steps≤(newX p fuel).fuel→m1.steps≤(newX p fuel).fuel:=k.fuel
   split at h
   · split at h
     · cases h
     · rename_i m2 ha;cases h;exact (TlR.of_go (apply_sm ha (show m1.frames=[] from k3))).from (l:=[]) (by rw [List.append_nil];exact kt) (by simp;exact ks) kf k2
     · rename_i y m2 ha;have g:=apply_sm ha (show m1.frames=[] from k3);obtain ⟨g1,g2,g3⟩:=g.val y rfl;have gt:m2.told=m1.told:=g.told;have gs:m1.steps≤m2.steps:=g.steps;have gf:m1.steps≤(newX p fuel).fuel→m2.steps≤(newX p fuel).fuel:=g.fuel;exact (tell_sm _ h g3).from (l:=[]) (by rw [gt,kt,List.append_nil]) (by simp;omega) (fun hh=>gf (kf hh)) (g2.trans k2)
   · exact (tell_sm _ h k3).from (l:=[]) (by rw [kt,List.append_nil]) (by simp;exact ks) kf k2
end
section
open Go Go.W
end
section
open Go Go.W
section
variable {α β:Type} {E:Env}
end
def S0 (p:Pg):Sg:=fun c D=>∃ d us,p.defs[c]? = some d∧D=d.type.sub (lk d.params us)
end
section
open Go Go.W
end
section
open Go Go.W
end
section
open Go Go.W
end
section
open Go Go.W
abbrev It2:=ByteArray×Int
abbrev ItsAt (w:World) (B:Nat→Prop) (v:Value) (l:List It2):Prop:=EachAt w v 2 B ItAt' l
abbrev ocells (k s n:Int) (v f1 f2 f3 f4:Value):List Value:=[I k,v,I s,I n,f1,f2,f3,f4]
end
section
open Go Go.W
end
section
open Go Go.W
abbrev oc0 (k s n:Int) (v:Value):List Value:=ocells k s n v (I 0) (I 0) (I 0) (.string noStr)
end
section
open Go Go.W
theorem f_integer {w:World}:CallsR Tryz.prog 13 [] w fun r w'=>r = .agg (leafC 1 noStr).toArray∧Mod (fun _=>False) w w':=by
 refine fit13.calls rfl ?_;unfold ir13;(try simp only [go_sem,simprocAttr]);refine e_al ?_;intro w1 hb1 hm1 hs1;(try simp only [go_sem,simprocAttr]);refine e_sta (vs:=leafC 1 noStr) (cs:=zTy) rfl rfl hb1 rfl rfl (leafC_one _ _) ?_;intro w2 hb2 hm2 hs2;(try simp only [go_sem,simprocAttr,rvs,RV.ev,ln_blk (n:=3) (cs:=leafC 1 noStr) hb2 rfl,one?]);exact hm1.step hm2 (fun b hb hl=>by omega)
abbrev nilE:List Value:=[I 0,.string noStr,I 0,.slice none 0 0,.slice none 0 0,.slice none 0 0,.slice none 0 0]
abbrev numE (n:Int):List Value:=[I 2,.string noStr,I n,.slice none 0 0,.slice none 0 0,.slice none 0 0,.slice none 0 0]
theorem numE_one (n:Int):∀ u∈numE n,u.oneCell'=true:=one_cons rfl (one_cons rfl (one_cons rfl (one_cons rfl (one_cons rfl (one_cons rfl (one_cons rfl one_nil))))))
theorem f_number (n:Int) {w:World}:CallsR Tryz.prog 15 [I n] w fun r w'=>r = .agg (numE n).toArray∧Mod (fun _=>False) w w':=by
 refine fit15.calls rfl ?_;unfold ir15;(try simp only [go_sem,simprocAttr]);refine e_al ?_;intro w1 hb1 hm1 hs1;(try simp only [go_sem,simprocAttr]);refine e_sta (vs:=numE n) (cs:=nilE) rfl rfl hb1 rfl rfl (numE_one n) ?_;intro w2 hb2 hm2 hs2;(try simp only [go_sem,simprocAttr,rvs,RV.ev,ln_blk (n:=7) (cs:=numE n) hb2 rfl,one?]);exact hm1.step hm2 (fun b hb hl=>by omega)
end
section
open Go Go.W
theorem ex_of {w:World} {B:Nat→Prop} {k m:Int} {n:ByteArray} {types:List Ty} {args:List Ex} {binds:List Bd} {alts:List Al} {vt va vb vl:Value} (ht:EachAt w vt 3 B (TyAt w B) types) (ha:EachAt w va 7 B (ExAt w B) args) (hb:EachAt w vb 11 B (BdAt w B) binds) (hl:EachAt w vl 11 B (AlAt w B) alts) (hc:CapOk vl) :
   ExAt w B [I k,.string n,I m,vt,va,vb,vl] (.mk k n m types args binds alts):=by
 obtain ⟨rt,ht1,ht2,ht3⟩:=ht;obtain ⟨ra,ha1,ha2,ha3⟩:=ha;obtain ⟨rb,hb1,hb2,hb3⟩:=hb;obtain ⟨rl,hl1,hl2,hl3⟩:=hl;refine .mk ht1 ht2 ht3 ha1 ha2 ha3 hb1 hb2 (fun i r b h1 h2=>?_) (fun i r b h1 h2=>?_) hl1 hl2 (fun i r a h1 h2=>?_) (fun i r a h1 h2=>?_) hc
 · obtain ⟨tc,ec,rfl,h3,h4,h5⟩:=hb3 i r b h1 h2;have l3:=h3.len;have l7:=h4.len;refine ⟨⟨by simp [l3,l7],h5⟩,rfl,?_⟩;simp only [List.drop_succ_cons,List.drop_zero];rw [List.take_append_of_le_length (by omega),List.take_of_length_le (by omega)];exact h3
 · obtain ⟨tc,ec,rfl,h3,h4,h5⟩:=hb3 i r b h1 h2;have l3:=h3.len;simp only [List.drop_succ_cons];rw [List.drop_append_of_le_length (by omega),List.drop_of_length_le (by omega),List.nil_append];exact h4
 · obtain ⟨vv,ec,rfl,h3,h4⟩:=hl3 i r a h1 h2;exact ⟨vv,rfl,by simp [h4.len],h3⟩
 · obtain ⟨vv,ec,rfl,h3,h4⟩:=hl3 i r a h1 h2;exact h4
def OcAt (w:World) (B:Nat→Prop) (oc:List Value):Option Rn→Prop
 | none=>oc=oc0 0 0 0 (.slice none 0 0)
 | some m=>∃ v,oc=oc0 m.kind m.stuck m.steps v∧ItsAt w B v m.told
theorem oc_one {k s n:Int} {v:Value} (h:v.oneCell'=true):∀ u∈oc0 k s n v,u.oneCell'=true:=one_cons rfl (one_cons h (one_cons rfl (one_cons rfl (one_cons rfl (one_cons rfl (one_cons rfl (one_cons rfl one_nil)))))))
theorem f_Run (p:Pg) {N:Nat} {name:ByteArray} {input:List Int} {fuel:Int} {v:Value} {w:World} {cs:List Value} {res:Int×Option Rn} (h:PgAt w (Out (fun _=>False) w) cs p) (hi:Ints w v input) (hres:runS p N name input fuel=some res) :
   CallsR Tryz.prog 9 [.agg cs.toArray,.string name,v,I fuel] w fun r w'=>(∃ oc,r = .tuple #[.agg oc.toArray,I res.1]∧OcAt w' (fun b=>w.heap.size≤b∧b < w'.heap.size) oc res.2)∧Mod (fun _=>False) w w':=by
 have h0:=h;have hi0:=hi;obtain ⟨vd,vf,rfl,hd,hf⟩:=h;obtain ⟨av,cv,rfl,hle,hix⟩:=hi;have hX:runS p N name input fuel=if 10000 < input.length then some (2,none)
   else if badIn input=true then some (1,none)
   else if fuel < 0∨fuel > 1048576 then some (1,none)
   else if checkS p≠0 then some (checkS p,none)
   else match entryS p N name with
   | none=>none
   | some (_,false)=>some (100,none)
   | some (takes,true)=>(runM p fuel name takes input).map (fun m=>(0,some m)):=rfl
 rw [hX] at hres;refine fit9.calls rfl ?_;unfold ir9;refine ir_cut (fun ρ w2=>∃ b4 b8,w.heap.size≤b4∧b4 < b8∧w2.heap[b4]? = some (.cells [vd,vf].toArray 25 (0,0))∧w2.heap[b8]? = some (.cells (oc0 0 0 0 (.slice none 0 0)).toArray 34 (0,0))∧Mod (fun _=>False) w w2∧ρ=[(1,.string name),(2,.slice av input.length cv),(3,I fuel),(4,ptr b4),(8,ptr b8)]) ?_ ?_
 · (try simp only [go_sem,simprocAttr]);refine e_bx rfl ?_;intro w1 hb1 hm1 hs1;(try simp only [go_sem,simprocAttr]);refine e_al ?_;intro w2 hb2 hm2 hs2;have z1:w1.heap.size=w.heap.size+1:=hs1;(try simp only [go_sem,simprocAttr]);exact ⟨w.heap.size,w1.heap.size,Nat.le_refl _,by omega,hm2.at hb1 _root_.id,hb2,hm1.trans hm2,rfl⟩
 rintro _ w2 ⟨b4,b8,l4,l8,hb4,hb8,m02,rfl⟩;by_cases c1:10000 < input.length
 · rw [if_pos c1] at hres;cases hres;have b1:decide ((input.length:Int) > 10000)=true:=decide_eq_true (by omega);(try simp only [go_sem,simprocAttr,b1]);refine e_sta (vs:=oc0 0 0 0 (.slice none 0 0)) (cs:=oc0 0 0 0 (.slice none 0 0)) rfl rfl hb8 rfl rfl (oc_one rfl) ?_;intro w9 hb9 hm9 hs9;(try simp only [go_sem,simprocAttr,rvs,RV.ev,ln_blk (n:=8) (cs:=oc0 0 0 0 (.slice none 0 0)) hb9 rfl,one?]);exact ⟨⟨_,rfl,rfl⟩,(m02).step hm9 (fun b hb hl=>by have e:b=b8:=hb;omega)⟩
 rw [if_neg c1] at hres;have b1:decide ((input.length:Int) > 10000)=false:=decide_eq_false (by omega);refine ir_cut (fun ρ w'=>w2=w'∧ρ.get 1=some (.string name)∧ρ.get 2=some (.slice av input.length cv)∧ρ.get 3=some (I fuel)∧ρ.get 4=some (ptr b4)∧ρ.get 8=some (ptr b8)) ?_ ?_
 · (try simp only [go_sem,simprocAttr,b1])
 rintro ρ _ ⟨rfl,g1,g2,g3,g4,g8⟩;refine ir_cut (fun ρ w'=>badIn input=false∧w2=w'∧ρ.get 1=some (.string name)∧ρ.get 2=some (.slice av input.length cv)∧ρ.get 3=some (I fuel)∧ρ.get 4=some (ptr b4)∧ρ.get 8=some (ptr b8)) ?_ ?_
 · (try simp only [go_sem,simprocAttr,g1,g2,g3,g4,g8]);refine ir_loop (fun z ρ w'=>∃ i:Nat,z=input.length - i∧i≤input.length∧badIn input=badIn (input.drop i)∧w2=w'∧ρ.get 1=some (.string name)∧ρ.get 2=some (.slice av input.length cv)∧ρ.get 3=some (I fuel)∧ρ.get 4=some (ptr b4)∧ρ.get 8=some (ptr b8)∧ρ.get 21=some (.slice av input.length cv)∧ρ.get 22=some (I input.length)∧ρ.get 23=some (I i)) input.length ⟨0,by omega,by omega,rfl,rfl,rfl,rfl,rfl,rfl,rfl,rfl,rfl,rfl⟩ ?_;rintro z ρ _ ⟨i,rfl,hil,hbad,rfl,g1,g2,g3,g4,g8,g21,g22,g23⟩;unfold ir9L1;by_cases q:i < input.length
   · have b2:decide ((i:Int) < input.length)=true:=by simpa using q
     have p1:(0:Int)≤i∧(i:Int) < input.length:=by omega
     have e3:IntKind.i64.wrap ((i:Int)+1)=((i+1:Nat):Int):=by rw [wrap_in (by omega) (by omega)];omega
     obtain ⟨ad,rfl,hc⟩:=hix i q;have hc2:=m02.cell hc _root_.id;have hbi:badIn (input.drop i)=((decide (input[i] < -4611686018427387904)||decide (input[i] > 4611686018427387903))||badIn (input.drop (i+1))):=any_at q;rw [hbi] at hbad;cases q1:decide (input[i] < -4611686018427387904) with
     | true=>
       rw [q1,Bool.true_or,Bool.true_or] at hbad;rw [if_pos hbad] at hres;cases hres;(try simp only [go_sem,simprocAttr,g1,g2,g3,g4,g8,g21,g22,g23,b2]);(try simp only [go_sem,simprocAttr,zb4,zb6,p1,hc2,q1]);refine e_sta (vs:=oc0 0 0 0 (.slice none 0 0)) (cs:=oc0 0 0 0 (.slice none 0 0)) rfl rfl hb8 rfl rfl (oc_one rfl) ?_;intro w9 hb9 hm9 hs9;(try simp only [go_sem,simprocAttr,rvs,RV.ev,ln_blk (n:=8) (cs:=oc0 0 0 0 (.slice none 0 0)) hb9 rfl,one?]);exact ⟨⟨_,rfl,rfl⟩,(m02).step hm9 (fun b hb hl=>by have e:b=b8:=hb;omega)⟩
     | false=>
       rw [q1,Bool.false_or] at hbad;cases q2:decide (input[i] > 4611686018427387903) with
       | true=>
         rw [q2,Bool.true_or] at hbad;rw [if_pos hbad] at hres;cases hres;(try simp only [go_sem,simprocAttr,g1,g2,g3,g4,g8,g21,g22,g23,b2]);(try simp only [go_sem,simprocAttr,zb4,zb6,p1,hc2,q1,q2]);refine e_sta (vs:=oc0 0 0 0 (.slice none 0 0)) (cs:=oc0 0 0 0 (.slice none 0 0)) rfl rfl hb8 rfl rfl (oc_one rfl) ?_;intro w9 hb9 hm9 hs9;(try simp only [go_sem,simprocAttr,rvs,RV.ev,ln_blk (n:=8) (cs:=oc0 0 0 0 (.slice none 0 0)) hb9 rfl,one?]);exact ⟨⟨_,rfl,rfl⟩,(m02).step hm9 (fun b hb hl=>by have e:b=b8:=hb;omega)⟩
       | false=>
         rw [q2,Bool.false_or] at hbad;(try simp only [go_sem,simprocAttr,g1,g2,g3,g4,g8,g21,g22,g23,b2]);(try simp only [go_sem,simprocAttr,zb4,zb6,p1,hc2,q1,q2,e3]);exact ⟨_,by omega,i+1,rfl,q,hbad,rfl⟩
   · have b2:decide ((i:Int) < input.length)=false:=by simpa using q
     rw [List.drop_eq_nil_of_le (by omega)] at hbad;(try simp only [go_sem,simprocAttr,g1,g2,g3,g4,g8,g21,g22,g23,b2]);exact hbad
 rintro ρ _ ⟨hbad,rfl,g1,g2,g3,g4,g8⟩;rw [if_neg (by rw [hbad];simp)] at hres;refine ir_cut (fun ρ w'=>(0≤fuel∧fuel≤1048576)∧w2=w'∧ρ.get 1=some (.string name)∧ρ.get 2=some (.slice av input.length cv)∧ρ.get 3=some (I fuel)∧ρ.get 4=some (ptr b4)∧ρ.get 8=some (ptr b8)) ?_ ?_
 · cases q1:decide (fuel < 0) with
   | true=>
     have q1':fuel < 0:=by simpa using q1
     rw [if_pos (.inl q1')] at hres;cases hres;(try simp only [go_sem,simprocAttr,g1,g2,g3,g4,g8,q1]);refine e_sta (vs:=oc0 0 0 0 (.slice none 0 0)) (cs:=oc0 0 0 0 (.slice none 0 0)) rfl rfl hb8 rfl rfl (oc_one rfl) ?_;intro w9 hb9 hm9 hs9;(try simp only [go_sem,simprocAttr,rvs,RV.ev,ln_blk (n:=8) (cs:=oc0 0 0 0 (.slice none 0 0)) hb9 rfl,one?]);exact ⟨⟨_,rfl,rfl⟩,(m02).step hm9 (fun b hb hl=>by have e:b=b8:=hb;omega)⟩
   | false=>
     have q1':¬ fuel < 0:=by simpa using q1
     cases q2:decide (fuel > 1048576) with
     | true=>
       have q2':fuel > 1048576:=by simpa using q2
       rw [if_pos (.inr q2')] at hres;cases hres;(try simp only [go_sem,simprocAttr,g1,g2,g3,g4,g8,q1,q2]);refine e_sta (vs:=oc0 0 0 0 (.slice none 0 0)) (cs:=oc0 0 0 0 (.slice none 0 0)) rfl rfl hb8 rfl rfl (oc_one rfl) ?_;intro w9 hb9 hm9 hs9;(try simp only [go_sem,simprocAttr,rvs,RV.ev,ln_blk (n:=8) (cs:=oc0 0 0 0 (.slice none 0 0)) hb9 rfl,one?]);exact ⟨⟨_,rfl,rfl⟩,(m02).step hm9 (fun b hb hl=>by have e:b=b8:=hb;omega)⟩
     | false=>
       have q2':¬ fuel > 1048576:=by simpa using q2
       (try simp only [go_sem,simprocAttr,g1,g2,g3,g4,g8,q1,q2]);exact ⟨by omega,by omega⟩
 rintro ρ _ ⟨hfuel,rfl,g1,g2,g3,g4,g8⟩;rw [if_neg (by omega)] at hres;have hout:∀ {w':World},Mod (fun _=>False) w w'→∀ b,Out (fun _=>False) w b→Out (fun _=>False) w' b:=fun hm b hb=>⟨Nat.lt_of_lt_of_le hb.1 hm.size,hb.2⟩
 refine ir_cut (fun ρ w'=>checkS p=0∧Mod (fun _=>False) w2 w'∧ρ=[(1,.string name),(2,.slice av input.length cv),(3,I fuel),(4,ptr b4),(8,ptr b8),(12,I 0),(45,.bool false)]) ?_ ?_
 · (try simp only [go_sem,simprocAttr,g1,g2,g3,g4,g8,ln_blk (n:=2) (cs:=[vd,vf]) hb4 rfl]);refine e_call (by rfl) ?_;refine (f_Check p (h0.up m02 nof (hout m02))).mono ?_;rintro _ w3 ⟨rfl,hm3⟩;have m03:=m02.trans hm3;by_cases hc:checkS p=0
   · (try simp only [go_sem,simprocAttr,hc,Int.reduceBNe]);exact hm3
   · have b2:(checkS p != 0)=true:=by simpa using hc
     rw [if_pos hc] at hres;cases hres;(try simp only [go_sem,simprocAttr,b2]);refine e_sta (vs:=oc0 0 0 0 (.slice none 0 0)) (cs:=oc0 0 0 0 (.slice none 0 0)) rfl rfl (hm3.at hb8 _root_.id) rfl rfl (oc_one rfl) ?_;intro w9 hb9 hm9 hs9;(try simp only [go_sem,simprocAttr,rvs,RV.ev,ln_blk (n:=8) (cs:=oc0 0 0 0 (.slice none 0 0)) hb9 rfl,one?]);exact ⟨⟨_,rfl,rfl⟩,(m03).step hm9 (fun b hb hl=>by have e:b=b8:=hb;omega)⟩
 rintro _ w3 ⟨hck,hm3,rfl⟩;rw [if_neg (by simpa using hck)] at hres;have m03:=m02.trans hm3;have hb43:=hm3.at hb4 _root_.id;have hb83:=hm3.at hb8 _root_.id;cases hent:entryS p N name with
 | none=>rw [hent] at hres;cases hres
 | some ee=>
 rw [hent] at hres;(try simp only [go_sem,simprocAttr,ln_blk (n:=2) (cs:=[vd,vf]) hb43 rfl]);refine e_call (by rfl) ?_;refine (f_entryOf p (h0.up m03 nof (hout m03)) (tyOk_of hck) hent).mono ?_;rintro _ w4 ⟨rfl,hm4⟩;have m04:=m03.trans hm4;have hb44:=hm4.at hb43 _root_.id;have hb84:=hm4.at hb83 _root_.id;obtain ⟨takes,ok⟩:=ee;cases ok with
 | false=>
   cases hres;(try simp only [go_sem,simprocAttr]);refine e_sta (vs:=oc0 0 0 0 (.slice none 0 0)) (cs:=oc0 0 0 0 (.slice none 0 0)) rfl rfl hb84 rfl rfl (oc_one rfl) ?_;intro w9 hb9 hm9 hs9;(try simp only [go_sem,simprocAttr,rvs,RV.ev,ln_blk (n:=8) (cs:=oc0 0 0 0 (.slice none 0 0)) hb9 rfl,one?]);exact ⟨⟨_,rfl,rfl⟩,(m04).step hm9 (fun b hb hl=>by have e:b=b8:=hb;omega)⟩
 | true=>
 have hres:(runM p fuel name takes input).map (fun m=>(0,some m))=some res:=hres;obtain ⟨mF,hrun,rfl⟩:=Option.map_eq_some_iff.1 hres;(try simp only [go_sem,simprocAttr,ln_blk (n:=2) (cs:=[vd,vf]) hb44 rfl]);refine e_call (by rfl) ?_;refine (f_newRun p (h0.up m04 nof (hout m04)) hfuel).mono ?_;rintro _ w5 ⟨⟨r,md,mf,S5,bs5,rfl,hR5,hnew5⟩,hm5⟩;have m05:=m04.trans hm5;(try simp only [go_sem,simprocAttr]);refine e_bx rfl ?_;intro w6 hb6 hm6 hs6;have z5:=hm5.size;have m06:=m05.trans hm6;have hR6:=hR5.keep hm6;have hlt5:∀ b,S5 b→b < w5.heap.size:=by obtain ⟨_,_,_,_,_,_,hx⟩:=hR5;exact hx.lt
 have he6:EPtr w6 (Out S5 w6) (.pointer (some ⟨w5.heap.size,0,none⟩)) (globE name):=⟨_,[I 3,.string name,I 0,.slice none 0 0,.slice none 0 0,.slice none 0 0,.slice none 0 0],rfl,cells_new hb6 (fun hx=>by have:=hlt5 _ hx;omega),ex_of (each_nil _ _ _ _) (each_nil _ _ _ _) (each_nil _ _ _ _) (each_nil _ _ _ _) (Nat.le_refl 0)⟩;have hsm:=runM_sm hrun;have htold:mF.told.length≤1048576:=by
   obtain ⟨l,e1,e2⟩:=hsm.told;have e1:mF.told=[]++l:=e1;have e3:mF.steps≤fuel:=hsm.fuel (show (0:Int)≤fuel from hfuel.1);have e4:(l.length:Int)≤mF.steps - 0:=e2;rw [e1,List.nil_append];omega
 have hb86:w6.heap[b8]? = some (.cells (oc0 0 0 0 (.slice none 0 0)).toArray 34 (0,0)):=(hm5.trans hm6).at hb84 _root_.id;have hS5:∀ b,S5 b→w.heap.size≤b:=fun b hb=>by have:=hnew5 b hb;have:=m04.size;omega
 have n8:∀ {w7:World} {S7:Nat→Prop},Grew S5 S7 w6→¬ S7 b8:=fun hg hh=>by
   have l84:=lt_of_heap hb84;have:=m04.size;rcases hg.2 _ hh with h1 | h1
   · have:=hnew5 _ h1;omega
   · have:=hm6.size;omega
 have fin:∀ {w7:World} {S7:Nat→Prop} {bs7:List Nat},RnAt w7 S7 r md mf bs7 (newX p fuel) mF→Grew S5 S7 w6→Mod S5 w6 w7→∃ vt,vLN w7 8 (.pointer (some ⟨r,0,none⟩))=some (.agg (oc0 mF.kind mF.stuck mF.steps vt).toArray)∧vt.oneCell'=true∧w7.heap[b8]? = some (.cells (oc0 0 0 0 (.slice none 0 0)).toArray 34 (0,0))∧Mod (fun _=>False) w w7 ∧
     ∀ {w9:World},Mod (· = b8) w7 w9→OcAt w9 (fun b=>w.heap.size≤b∧b < w9.heap.size) (oc0 mF.kind mF.stuck mF.steps vt) (some mF):=fun {w7 S7 bs7} hR hg hm=>by
   obtain ⟨vt,vf',trows,frows,tfp,ffp,hh⟩:=hR;have hln:=ln_of (off:=0) (n:=8) hh.box (by simp);obtain ⟨avt,cvt,rfl,_,_⟩:=hh.told.val;refine ⟨_,hln,rfl,hm.at hb86 (fun hx=>n8 (w7:=w7) grew_refl hx),m06.step hm (fun b hb hl=>by have:=hS5 b hb;omega),fun {w9} hm9=>⟨_,rfl,trows,⟨?_,?_⟩,hh.items.at.1,hh.items.at.2⟩⟩
   · have ho:=hh.told.mod hm9 (fun b hb e=>by
       have e':b=b8:=e;subst e';exact n8 (w7:=w7) hg (hh.inS _ (by simp [hb])))
     refine (own_rows ho (fun x hx=>?_)).mod (.refl (fun _=>False) w9) nof (fun y hy=>?_)
     · obtain ⟨i,hi,rfl⟩:=List.getElem_of_mem hx;have:=hh.items.at.2 i _ _ (List.getElem?_eq_getElem hi) (List.getElem?_eq_getElem (by have:=hh.items.at.1;omega));rw [this];try rfl
     · have hs:S7 y:=hh.inS _ (by simp [hy]);refine ⟨?_,ho.lt hy⟩;rcases hg.2 _ hs with h1 | h1
       · exact hS5 _ h1
       · have:=m06.size;omega
   · have:=hh.items.at.1;omega
 have hrun':(match goOnS (newX p fuel) bigN (.go (globE name) []) (newM p) with
   | none=>none
   | some (none,m)=>some m
   | some (some x,m)=>
     if takes=true then
       match applyS (newX p fuel) bigN x (m.ls input).cells.length ((m.ls input).new (listedS input m.cells).1) with
       | none=>none
       | some (none,m)=>some m
       | some (some y,m)=>tellS (newX p fuel) bigN y [] m
     else tellS (newX p fuel) bigN x [] m)=some mF:=hrun
 cases hgo:goOnS (newX p fuel) bigN (.go (globE name) []) (newM p) with
 | none=>rw [hgo] at hrun';cases hrun'
 | some rr=>
 rw [hgo] at hrun';have hgs:=goOn_sm _ hgo;refine e_call (by rfl) ?_;refine (f_work hR6 he6 (show NmAt w6 (Out S5 w6) bs5 [] (.pointer none) from rfl) (show ((0:Nat):Int)≤0+1 by omega) hgo).mono ?_;rintro v7 w7 ⟨⟨S7,bs7,hR7,hg7,hbs7,hval⟩,hm7⟩
 match rr,hrun',hgs,hR7,hval with
 | (none,m1),hrun',hgs,hR7,hval=>
   have hval:v7=_:=hval;subst hval;cases hrun';obtain ⟨vt,hln,h1,hb87,m07,hoc⟩:=fin hR7 hg7 hm7;(try simp only [go_sem,simprocAttr,hln]);refine e_sta (vs:=oc0 mF.kind mF.stuck mF.steps vt) (cs:=oc0 0 0 0 (.slice none 0 0)) rfl rfl hb87 rfl rfl (oc_one h1) ?_;intro w9 hb9 hm9 hs9;(try simp only [go_sem,simprocAttr,rvs,RV.ev,ln_blk (n:=8) (cs:=oc0 mF.kind mF.stuck mF.steps vt) hb9 rfl,one?]);exact ⟨⟨_,rfl,hoc hm9⟩,m07.step hm9 (fun b hb hl=>by have e:b=b8:=hb;omega)⟩
 | (some x,m1),hrun',hgs,hR7,⟨u,e1,hu,hv⟩=>
   subst e1;obtain ⟨_,_,hfr1⟩:=hgs.val x rfl;have ht1:m1.told=[]:=hgs.told;have hs1:(0:Int)≤m1.steps:=hgs.steps;cases takes with
   | false=>
     have hrun':tellS (newX p fuel) bigN x [] m1=some mF:=hrun';(try simp only [go_sem,simprocAttr]);refine e_call (by rfl) ?_;refine (f_tell (X:=newX p fuel) hR7 hu hv hfr1 (by rw [ht1];simpa using hs1) hrun').mono ?_;rintro _ w8 ⟨⟨S8,bs8,hR8,hg8⟩,hm8⟩;obtain ⟨vt,hln,h1,hb87,m07,hoc⟩:=fin hR8 (grew_step hg7 hg8 hm7.size) (mod_grew hm7 hg7 hm8);(try simp only [go_sem,simprocAttr,hln]);refine e_sta (vs:=oc0 mF.kind mF.stuck mF.steps vt) (cs:=oc0 0 0 0 (.slice none 0 0)) rfl rfl hb87 rfl rfl (oc_one h1) ?_;intro w9 hb9 hm9 hs9;(try simp only [go_sem,simprocAttr,rvs,RV.ev,ln_blk (n:=8) (cs:=oc0 mF.kind mF.stuck mF.steps vt) hb9 rfl,one?]);exact ⟨⟨_,rfl,hoc hm9⟩,m07.step hm9 (fun b hb hl=>by have e:b=b8:=hb;omega)⟩
   | true=>
     have hrun':(match applyS (newX p fuel) bigN x (m1.ls input).cells.length ((m1.ls input).new (listedS input m1.cells).1) with
       | none=>none
       | some (none,m)=>some m
       | some (some y,m)=>tellS (newX p fuel) bigN y [] m)=some mF:=hrun'
     have m07:Mod (fun _=>False) w w7:=m06.step hm7 (fun b hb hl=>by have:=hS5 b hb;omega);(try simp only [go_sem,simprocAttr]);refine e_call (by rfl) ?_;refine (f_listed hR7 (hi0.mod m07 (fun _ _ h=>h))).mono ?_;rintro u2 w8 ⟨⟨S8,bs8,hR8,hg8,hbs8,hu8⟩,hm8⟩;obtain ⟨kn,kf,hcon⟩:=listed_con input m1.cells;obtain ⟨T,z,hu0,_⟩:=cl_iface hu8 (by rw [hcon];try rfl);subst hu0;(try simp only [go_sem,simprocAttr]);refine e_bx rfl ?_;intro w9 hb9 hm9 hs9;have hR9:=hR8.new (x:=(listedS input m1.cells).1) (v:=.iface T z) hm9 hb9 (Nat.le_refl _) (hu8.up (mod0 hm9 (S:=S8)) out_not (out_ext (mod0 hm9) (and1_new (Nat.le_refl _))) app_get);have hg9:Grew S8 (And1 S8 w8.heap.size) w8:=⟨fun b hb=>.inl hb,fun b hb=>by
       rcases hb with h | h
       · exact .inl h
       · exact .inr (by omega)⟩
     have hg79:Grew S7 (And1 S8 w8.heap.size) w7:=grew_step hg8 hg9 hm8.size;have hm79:Mod S7 w7 w9:=mod0 (hm8.trans hm9);have hu9:=hu.up hm79 out_not (grew_out hg79 hm79.size) (fun c b h=>app_get (b:=w8.heap.size) _ _ (hbs8 c b h));have hlen8:bs8.length=(m1.ls input).cells.length:=by obtain ⟨_,_,_,_,_,_,hx⟩:=hR8;exact hx.len
     have hcc:(bs8++[w8.heap.size])[(m1.ls input).cells.length]? = some w8.heap.size:=by rw [← hlen8,List.getElem?_append_right (Nat.le_refl _)];simp
     have hg69:=grew_step hg7 hg79 hm7.size;have hm69:=mod_grew hm7 hg7 hm79;cases hap:applyS (newX p fuel) bigN x (m1.ls input).cells.length ((m1.ls input).new (listedS input m1.cells).1) with
     | none=>rw [hap] at hrun';cases hrun'
     | some rr2=>
     rw [hap] at hrun';have hfr2:((m1.ls input).new (listedS input m1.cells).1).frames=[]:=hfr1;have hgs2:=apply_sm hap hfr2;(try simp only [go_sem,simprocAttr]);refine e_call (by rfl) ?_;refine (f_apply hR9 hcc hu9 hv (show (((m1.frames).length:Nat):Int)≤m1.steps by rw [hfr1];simpa using hs1) hap).mono ?_;rintro v10 w10 ⟨⟨S10,bs10,hR10,hg10,hbs10,hval10⟩,hm10⟩;have hg610:=grew_step hg69 hg10 hm69.size;have hm610:=mod_grew hm69 hg69 hm10
     match rr2,hrun',hgs2,hR10,hval10 with
     | (none,m2),hrun',hgs2,hR10,hval10=>
       have hval10:v10=_:=hval10;subst hval10;cases hrun';obtain ⟨vt,hln,h1,hb87,m0F,hoc⟩:=fin hR10 hg610 hm610;(try simp only [go_sem,simprocAttr,hln]);refine e_sta (vs:=oc0 mF.kind mF.stuck mF.steps vt) (cs:=oc0 0 0 0 (.slice none 0 0)) rfl rfl hb87 rfl rfl (oc_one h1) ?_;intro w19 hb19 hm19 hs19;(try simp only [go_sem,simprocAttr,rvs,RV.ev,ln_blk (n:=8) (cs:=oc0 mF.kind mF.stuck mF.steps vt) hb19 rfl,one?]);exact ⟨⟨_,rfl,hoc hm19⟩,m0F.step hm19 (fun b hb hl=>by have e:b=b8:=hb;omega)⟩
     | (some y,m2),hrun',hgs2,hR10,⟨u3,e3,hu3,hv3⟩=>
       subst e3;obtain ⟨_,_,hfr3⟩:=hgs2.val y rfl;have ht2:m2.told=m1.told:=hgs2.told;have hs2:m1.steps≤m2.steps:=hgs2.steps;have hrun':tellS (newX p fuel) bigN y [] m2=some mF:=hrun';(try simp only [go_sem,simprocAttr]);refine e_call (by rfl) ?_;refine (f_tell (X:=newX p fuel) hR10 hu3 hv3 hfr3 (by rw [ht2,ht1];simp;omega) hrun').mono ?_;rintro _ w11 ⟨⟨S11,bs11,hR11,hg11⟩,hm11⟩;obtain ⟨vt,hln,h1,hb87,m0F,hoc⟩:=fin hR11 (grew_step hg610 hg11 hm610.size) (mod_grew hm610 hg610 hm11);(try simp only [go_sem,simprocAttr,hln]);refine e_sta (vs:=oc0 mF.kind mF.stuck mF.steps vt) (cs:=oc0 0 0 0 (.slice none 0 0)) rfl rfl hb87 rfl rfl (oc_one h1) ?_;intro w19 hb19 hm19 hs19;(try simp only [go_sem,simprocAttr,rvs,RV.ev,ln_blk (n:=8) (cs:=oc0 mF.kind mF.stuck mF.steps vt) hb19 rfl,one?]);exact ⟨⟨_,rfl,hoc hm19⟩,m0F.step hm19 (fun b hb hl=>by have e:b=b8:=hb;omega)⟩
end
section
open Go Go.W
def opE (s:ByteArray) (x y:Ex):Ex:=.mk 9 s 0 [] [x,y] [] []
theorem f_op2 {s:ByteArray} {x y:Ex} {ca cb:List Value} {S:Nat→Prop} {w:World} (hS:∀ b,S b→b < w.heap.size) (ha:ExAt w (Out S w) ca x) (hb:ExAt w (Out S w) cb y) :
   CallsR Tryz.prog 14 [.string s,.agg ca.toArray,.agg cb.toArray] w fun r w'=>(∃ cs,r = .agg (cs:List Value).toArray∧ExAt w' (Out S w') cs (opE s x y))∧Mod (fun _=>False) w w':=by
 refine fit14.calls rfl ?_;unfold ir14;have la:=ha.len;have lb:=hb.len;(try simp only [go_sem,simprocAttr]);refine e_bx rfl ?_;intro w1 hb1 hm1 hs1;(try simp only [go_sem,simprocAttr]);refine e_bx rfl ?_;intro w2 hb2 hm2 hs2;(try simp only [go_sem,simprocAttr]);refine e_al ?_;intro w3 hb3 hm3 hs3;have hb1:=(hm2.trans hm3).at hb1 _root_.id;have hb2:=hm3.at hb2 _root_.id;(try simp only [go_sem,simprocAttr,ln_blk (n:=7) (cs:=ca) hb1 la,ln_blk (n:=7) (cs:=cb) hb2 lb]);refine e_bs (cs:=([ca,cb]:List (List Value)).flatten.toArray) (ps:=partsOf 7 0 [ca,cb]) (by (try simp only [go_sem,simprocAttr]);rfl) (fill_rows (sz:=7) [ca,cb] [] _ ⟨la,lb,trivial⟩ rfl) ?_;intro w4 hb4 hm4 hs4;have hb3:=hm4.at hb3 _root_.id;(try simp only [go_sem,simprocAttr]);refine e_sta (vs:=[I 9,.string s,I 0,.slice none 0 0,.slice (some ⟨w3.heap.size,0,none⟩) 2 2,.slice none 0 0,.slice none 0 0]) (cs:=nilE) rfl rfl hb3 rfl rfl (one_cons rfl (one_cons rfl (one_cons rfl (one_cons rfl (one_cons rfl (one_cons rfl (one_cons rfl one_nil))))))) ?_;intro w5 hb5 hm5 hs5;(try simp only [go_sem,simprocAttr,rvs,RV.ev,ln_blk (n:=7) hb5 rfl,one?]);have hm05:Mod (fun _=>False) w w5:=(hm1.trans (hm2.trans (hm3.trans hm4))).step hm5 (fun x hx hl=>by omega);refine ⟨⟨_,rfl,ex_of (each_nil _ _ _ _) ?_ (each_nil _ _ _ _) (each_nil _ _ _ _) (Nat.le_refl _)⟩,hm05⟩;refine each_new (rows:=[ca,cb]) (hm5.at hb4 (by omega)) ⟨by have:=hm5.size;have:=lt_of_heap (hm5.at hb4 (by omega));omega,fun h=>by have:=hS _ h;omega⟩ ⟨la,lb,trivial⟩ (by simp) ⟨ha.keep (mod0 hm05),hb.keep (mod0 hm05),trivial⟩
abbrev mName:ByteArray:=⟨#[109]⟩
def onePg (t:Ty) (e:Ex):Pg:=⟨[],[⟨mName,[],t,e⟩]⟩
theorem f_one {t:Ty} {e:Ex} {ct ce:List Value} {S:Nat→Prop} {w:World} (hS:∀ b,S b→b < w.heap.size) (ht:TyAt w (Out S w) ct t) (he:ExAt w (Out S w) ce e) :
   CallsR Tryz.prog 23 [.agg ct.toArray,.agg ce.toArray] w fun r w'=>(∃ cs,r = .agg (cs:List Value).toArray∧PgAt w' (Out S w') cs (onePg t e))∧Mod (fun _=>False) w w':=by
 refine fit23.calls rfl ?_;unfold ir23;have la:=ht.len;have lb:=he.len;obtain ⟨x1,ect,-⟩:=ht.cells;obtain ⟨x2,x3,x4,x5,ece,-⟩:=he.cells;subst ect ece;(try simp only [go_sem,simprocAttr]);refine e_bx rfl ?_;intro w1 hb1 hm1 hs1;(try simp only [go_sem,simprocAttr]);refine e_bx rfl ?_;intro w2 hb2 hm2 hs2;(try simp only [go_sem,simprocAttr]);refine e_al ?_;intro w3 hb3 hm3 hs3;have hb1:=(hm2.trans hm3).at hb1 _root_.id;have hb2:=hm3.at hb2 _root_.id;(try simp only [go_sem,simprocAttr,ln_blk (n:=3) hb1 la,ln_blk (n:=7) hb2 lb]);refine e_bs (cs:=([[.string mName,.slice none 0 0,I t.kind,.string t.name,x1,I e.kind,.string e.name,I e.num,x2,x3,x4,x5]]:List (List Value)).flatten.toArray) (ps:=partsOf 12 0 [[.string mName,.slice none 0 0,I t.kind,.string t.name,x1,I e.kind,.string e.name,I e.num,x2,x3,x4,x5]]) (by (try simp only [go_sem,simprocAttr]);rfl) (fill_rows (sz:=12) [[.string mName,.slice none 0 0,I t.kind,.string t.name,x1,I e.kind,.string e.name,I e.num,x2,x3,x4,x5]] [] _ ⟨rfl,trivial⟩ rfl) ?_;intro w4 hb4 hm4 hs4;have hb3:=hm4.at hb3 _root_.id;(try simp only [go_sem,simprocAttr]);refine e_sta (vs:=[.slice none 0 0,.slice (some ⟨w3.heap.size,0,none⟩) 1 1]) (cs:=[.slice none 0 0,.slice none 0 0]) rfl rfl hb3 rfl rfl (one_cons rfl (one_cons rfl one_nil)) ?_;intro w5 hb5 hm5 hs5;(try simp only [go_sem,simprocAttr,rvs,RV.ev,ln_blk (n:=2) hb5 rfl,one?]);have hm05:Mod (fun _=>False) w w5:=(hm1.trans (hm2.trans (hm3.trans hm4))).step hm5 (fun x hx hl=>by omega);refine ⟨⟨_,rfl,_,_,rfl,each_nil _ _ _ _,?_⟩,hm05⟩;refine each_new (rows:=[[.string mName,.slice none 0 0,I t.kind,.string t.name,x1,I e.kind,.string e.name,I e.num,x2,x3,x4,x5]]) (hm5.at hb4 (by omega)) ⟨by have:=hm5.size;have:=lt_of_heap (hm5.at hb4 (by omega));omega,fun h=>by have:=hS _ h;omega⟩ ⟨rfl,trivial⟩ (by simp) ⟨⟨_,[I t.kind,.string t.name,x1],_,rfl,la,lb,each_nil _ _ _ _,ht.keep (mod0 hm05),he.keep (mod0 hm05),(show Nm mName by decide)⟩,trivial⟩
end
section
open Go Go.W
def numX (n:Int):Ex:=.mk 2 noStr n [] [] [] []
def intT:Ty:=.mk 1 noStr []
def boolT:Ty:=.mk 4 boolN []
def binP (t:Ty) (s:ByteArray) (a b:Int):Pg:=onePg t (opE s (numX a) (numX b))
theorem bin_deep (s:ByteArray) (a b:Int):(opE s (numX a) (numX b)).deep=2:=by rfl
theorem head_bin {t:Ty} (ht:t=intT∨t=boolT) (e:Ex):∃ E2,headS newE ⟨mName,[],t,e⟩ = .ok E2:=by
 unfold headS;have h1:((aget newE.defs mName).isSome || !isNameS mName)=false:=by decide +kernel
 have h2:rightS { newE with params:=parsL [] []} t=true:=by
   rcases ht with rfl | rfl
   · decide +kernel
   · decide +kernel
 simp only [h1,Bool.false_eq_true,if_false,parsS];simp only [h2,reduceCtorEq,Bool.true_eq_false,if_false];exact ⟨_,rfl⟩
theorem body_bin (E:Env) {t:Ty} {s:ByteArray} {a b:Int} (hop:opsS s=some t) (ha : -4611686018427387904≤a∧a≤4611686018427387903) (hb : -4611686018427387904≤b∧b≤4611686018427387903):bodyS E ⟨mName,[],t,opE s (numX a) (numX b)⟩=0:=by
 have fa:formedS (numX a)=true:=by simp [formedS,formOk,numX,Ex.kind,Ex.num,Ex.name,cnt,Ex.types,Ex.args,Ex.binds,Ex.alts,formNamed,formNum,strEq,ha.1,ha.2]
 have fb:formedS (numX b)=true:=by simp [formedS,formOk,numX,Ex.kind,Ex.num,Ex.name,cnt,Ex.types,Ex.args,Ex.binds,Ex.alts,formNamed,formNum,strEq,hb.1,hb.2]
 have fo:formedS (opE s (numX a) (numX b))=true:=by simp [formedS,formOk,opE,Ex.kind,Ex.num,Ex.name,cnt,Ex.types,Ex.args,Ex.binds,Ex.alts,formNamed,formNum,strEq,hop]
 have ea:∀ st,exprS (knowE E []) (numX a) st = .ok (intT,st):=fun st=>by
   rw [show numX a = .mk 2 noStr a [] [] [] [] from rfl,exprS,if_neg (by rw [show Ex.mk 2 noStr a [] [] [] []=numX a from rfl,fa];simp),if_neg (by decide),if_pos rfl];try rfl
 have eb:∀ st,exprS (knowE E []) (numX b) st = .ok (intT,st):=fun st=>by
   rw [show numX b = .mk 2 noStr b [] [] [] [] from rfl,exprS,if_neg (by rw [show Ex.mk 2 noStr b [] [] [] []=numX b from rfl,fb];simp),if_neg (by decide),if_pos rfl];try rfl
 have eo:∀ st,exprS (knowE E []) (opE s (numX a) (numX b)) st = .ok (t,st):=fun st=>by
   rw [show opE s (numX a) (numX b) = .mk 9 s 0 [] [numX a,numX b] [] [] from rfl,exprS,if_neg (by rw [show Ex.mk 9 s 0 [] [numX a,numX b] [] []=opE s (numX a) (numX b) from rfl,fo];simp),if_neg (by decide),if_neg (by decide),if_neg (by decide),if_neg (by decide),if_neg (by decide),if_neg (by decide),if_pos rfl];simp [exprsS,ea,eb,opS,hop,intT,Ty.kind,Except.map]
 unfold bodyS;simp only;rw [eo];simp [sameT]
theorem check_bin {t:Ty} {s:ByteArray} {a b:Int} (ht:t=intT∨t=boolT) (hop:opsS s=some t) (ha : -4611686018427387904≤a∧a≤4611686018427387903) (hb : -4611686018427387904≤b∧b≤4611686018427387903):checkS (binP t s a b)=0:=by
 have hd:(binP t s a b).defs=[⟨mName,[],t,opE s (numX a) (numX b)⟩]:=rfl;have hh:∃ E2,headsS (binP t s a b).defs newE = .ok E2:=by
   rw [hd];obtain ⟨E2,h⟩:=head_bin ht (opE s (numX a) (numX b));exact ⟨E2,by rw [headsS,h];try rfl⟩
 obtain ⟨E2,hh⟩:=hh;have hz:(binP t s a b).size=5:=by rcases ht with rfl | rfl<;>rfl
 unfold checkS checkedS;rw [hz,if_neg (by decide),hd];simp only [List.any_cons,List.any_nil,bin_deep];rw [if_neg (by decide),show checkDatasS newE (binP t s a b).datas = .ok newE from rfl];simp only;rw [← hd,hh];simp only;rw [hd];simp only [bodiesS,body_bin E2 hop ha hb];simp
end
section
open Go Go.W
abbrev wakeP:Pg:=binP intT ⟨#[43]⟩ 1 2
theorem wake_entry:entryS wakeP 100 mName=some (false,true):=by decide +kernel
theorem wake_runM:(runM wakeP 20 mName false []).map (fun m=>(m.kind,m.stuck,m.steps,m.told))=some (2,0,5,[(noStr,3)]):=by decide +kernel
theorem wake_run:∃ m,runS wakeP 100 mName [] 20=some (0,some m)∧m.kind=2∧m.stuck=0∧m.steps=5∧m.told=[(noStr,3)]:=by
 have h:=wake_runM
 match e:runM wakeP 20 mName false [],h with
 | some m,h=>
   simp only [Option.map_some,Option.some.injEq,Prod.mk.injEq] at h;refine ⟨m,?_,h⟩;unfold runS;rw [if_neg (by decide),if_neg (by decide),if_neg (by decide),if_neg (by rw [check_bin (.inl rfl) (by rw [opsS,if_pos (by decide +kernel)];try rfl) (by decide) (by decide)];simp),wake_entry];simp only;rw [e];rfl
end
end Go.Proofs.YtjfgeekjjlhbdaaGreatDoor