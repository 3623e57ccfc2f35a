/- Heap: move. -/
import Derived.Test.YtnagmcdlepcgnaaH4
import Derived.Test.YtnagmcdlepcgnaaP2
set_option linter.unusedSimpArgs false
set_option linter.unusedVariables false
namespace Go.Proofs.Ytnagmcdlepcgnaa
open Go Go.W

/-- A node that has been copied: its list lies in a block of its own. -/
def cpv (t : Nd × Nat) : Nd × Value := (t.1, .slice (some ⟨t.2, 0, none⟩) t.1.args.length t.1.args.length)
structure ToAt (w : World) (to : Value) (ts : List (Nd × Nat)) (tfp : Option Nat) : Prop where
  own : Own w 70 3 to (flat (ts.map cpv)) ts.length tfp
  row : ∀ t ∈ ts, w.heap[t.2]? = some (.cells (t.1.args.map I).toArray 3 (0, 0))
  nodup : (ts.map Prod.snd).Nodup
theorem ToAt.mod {w w' : World} {to : Value} {ts : List (Nd × Nat)} {tfp : Option Nat} {S : Nat → Prop} (h : ToAt w to ts tfp) (hm : Mod S w w') (h1 : ∀ b, tfp = some b → ¬ S b) (h2 : ∀ t ∈ ts, ¬ S t.2) : ToAt w' to ts tfp :=
  ⟨h.own.mod hm h1, fun t ht => hm.at (h.row t ht) (h2 t ht), h.nodup⟩

/-- The mover in memory; no block of X is one of its. -/
structure MW (w : World) (X : Nat → Prop) (bm bo bd : Nat) (cf to pa : Value) (n : Nat) (l md path : List Int) (ts : List (Nd × Nat)) (tfp pfp : Option Nat) : Prop where
  cells : w.heap[bm]? = some (.cells #[cf, to, .slice (some ⟨bo, 0, none⟩) n n, .slice (some ⟨bd, 0, none⟩) n n, pa] 65 (0, 0))
  over : w.heap[bo]? = some (.cells (l.map I).toArray 3 (0, 0))
  moved : w.heap[bd]? = some (.cells (md.map I).toArray 3 (0, 0))
  path : Own w 3 1 pa (path.map I) path.length pfp
  to : ToAt w to ts tfp
  od : bo ≠ bd
  po : pfp ≠ some bo
  pd : pfp ≠ some bd
  tr : ∀ t ∈ ts, t.2 ≠ bo ∧ t.2 ≠ bd ∧ pfp ≠ some t.2
  X1 : ¬ X bm ∧ ¬ X bo ∧ ¬ X bd
  X2 : ∀ b, pfp = some b → ¬ X b
  X3 : ∀ b, tfp = some b → ¬ X b
  X4 : ∀ t ∈ ts, ¬ X t.2
  X5 : ∀ b, X b → b < w.heap.size

def MovePost (ns : List Nd) (w : World) (X : Nat → Prop) (bm bo bd : Nat) (cf : Value) (out : List Nat) (ts : List (Nd × Nat)) (p : Nat) (r : Value) (w' : World) : Prop :=
  ∃ (l' md' path' : List Int) (to' pa' : Value) (ts' : List (Nd × Nat)) (tfp' pfp' : Option Nat), r = I ((meet ns out p).idxOf (over ns p)) ∧ KI ns l' ∧ MI ns l' md' (meet ns out p) ∧
    MW w' X bm bo bd cf to' pa' ns.length l' md' path' ts' tfp' pfp' ∧ Mod (fun b => ¬ X b) w w' ∧
    ((ts' = ts ∧ meet ns out p = out) ∨ ∃ e b, ts' = ts ++ [(ndAt ns e, b)] ∧ meet ns out p = out ++ [over ns p] ∧ e < ns.length ∧ over ns e = over ns p ∧ (ind ns e = true → ind ns (over ns p) = true))

theorem move_ok (ns : List Nd) (hw : WF ns) (hn : ns.length ≤ 1048576) (w : World) (X : Nat → Prop) (bm bo bd : Nat) (cf to pa : Value) (l md path : List Int) (ts : List (Nd × Nat)) (tfp pfp : Option Nat) (F : Nat → Prop) (out : List Nat)
    (hfr : FromAt 70 w cf ns F) (hFX : ∀ b, F b → X b) (hm : MW w X bm bo bd cf to pa ns.length l md path ts tfp pfp) (hk : KI ns l) (hi : MI ns l md out) (hts : ts.length = out.length) (p : Nat) (hp : p < ns.length) :
    CallsR Try.prog 21 [.pointer (some ⟨bm, 0, none⟩), I p] w (MovePost ns w X bm bo bd cf out ts p) := by
  have hargs := wf_args_le hw
  refine fit21.calls rfl ?_
  unfold ir21
  (try simp only [go_sem, Nat.reduceAdd, Nat.reduceEqDiff, Nat.reduceLT, Nat.reduceLeDiff, Nat.reduceMul, Nat.zero_add, reduceCtorEq, ↓reduceIte, List.length_cons, List.length_nil, List.set_cons_zero, List.set_cons_succ, List.take_zero, List.take_succ_cons, List.drop_zero, List.drop_succ_cons, List.take_nil, List.drop_nil, List.nil_append, List.cons_append, List.append_nil, or_false, false_or, or_true, true_or, false_implies, true_implies, and_true, true_and, and_self, Bool.and_true, Bool.true_and])
  refine e_call (by rfl) ?_
  have hbmo : bm ≠ bo := fun h => by have h1 := hm.cells; subst h; exact kind_ne hm.over h1 (by omega)
  have hbmd : bm ≠ bd := fun h => by have h1 := hm.cells; subst h; exact kind_ne hm.moved h1 (by omega)
  refine (pass_ok ns hw hn w bm bo cf to _ pa l path pfp F hfr (fun b hb hh => ?_) ⟨hm.cells, hm.over, hm.path, hm.po⟩ hk p hp).mono ?_
  · have := hFX b hb
    rcases hh with rfl | rfl | hh
    · exact hm.X1.1 this
    · exact hm.X1.2.1 this
    · exact hm.X2 b hh this
  rintro r w1 ⟨e, l1, pa1, path1, pfp1, rfl, hk1, hle, hmono, ⟨p1, p2, p3, p4⟩, hm1, hpf, hpl⟩
  have hi1 := mi_over hi hmono
  have hm1X : Mod (fun b => ¬ X b) w w1 := hm1.weak (fun b hb => by
    rcases hb with rfl | rfl | hb
    · exact hm.X1.1
    · exact hm.X1.2.1
    · exact hm.X2 b hb)
  have hfr1 := hfr.mod hm1X (fun b hb h => h (hFX b hb))
  have hmd1 := hm1.at hm.moved (fun h => by
    rcases h with h | h | h
    · exact hbmd h.symm
    · exact hm.od h.symm
    · exact hm.pd h)
  have hto1 := hm.to.mod hm1 (fun b hb hh => by
    have k0 := hm.to.own
    rcases hh with rfl | rfl | hh
    · exact own_kind k0 hb hm.cells (by omega)
    · exact own_kind k0 hb hm.over (by omega)
    · rcases hm.path.2 with ⟨_, _, h⟩ | ⟨b', c', sp', _, h, h', _⟩
      · rw [h] at hh; cases hh
      · rw [h] at hh; cases hh; exact own_kind k0 hb h' (by omega)) (fun t ht hh => by
    have := hm.tr t ht
    rcases hh with h | h | h
    · have k1 := hm.to.row t ht
      rw [h] at k1
      exact kind_ne k1 hm.cells (by omega)
    · exact this.1 h
    · exact this.2.2 h)
  have hrep := hk1.rep p hp (by omega)
  obtain ⟨e', g1, g2, _⟩ := hrep
  obtain rfl : e' = e := by omega
  have hsz1 := hm1.size
  have hpd1 : pfp1 ≠ some bd := fun h => by
    rcases hpf bd h with h | h
    · exact hm.pd h
    · have := lt_of_heap hm.moved; omega
  have htr1 : ∀ t ∈ ts, t.2 ≠ bo ∧ t.2 ≠ bd ∧ pfp1 ≠ some t.2 := fun t ht => ⟨(hm.tr t ht).1, (hm.tr t ht).2.1, fun h => by
    rcases hpf t.2 h with h | h
    · exact (hm.tr t ht).2.2 h
    · have := lt_of_heap (hm.to.row t ht); omega⟩
  have hX2 : ∀ b, pfp1 = some b → ¬ X b := fun b hb hx => by
    rcases hpf b hb with h | h
    · exact hm.X2 b h hx
    · have := hm.X5 b hx; omega
  have hmd := ints_at hmd1 (i := e') (by rw [hi.len]; exact g2)
  have b1 : (0 : Int) ≤ (e' : Nat) ∧ ((e' : Nat) : Int) < ns.length := by omega
  (try simp only [go_sem, Nat.reduceAdd, Nat.reduceEqDiff, Nat.reduceLT, Nat.reduceLeDiff, Nat.reduceMul, Nat.zero_add, reduceCtorEq, ↓reduceIte, List.length_cons, List.length_nil, List.set_cons_zero, List.set_cons_succ, List.take_zero, List.take_succ_cons, List.drop_zero, List.drop_succ_cons, List.take_nil, List.drop_nil, List.nil_append, List.cons_append, List.append_nil, or_false, false_or, or_true, true_or, false_implies, true_implies, and_true, true_and, and_self, Bool.and_true, Bool.true_and, Nat.mul_one, Int.toNat_natCast, Int.toNat_zero, Nat.sub_zero, Nat.sub_self, cell_of p1, b1, hmd])
  refine ir_then (fun ρ w2 => ∃ (md' : List Int) (to' : Value) (ts' : List (Nd × Nat)) (tfp' : Option Nat), MI ns l1 md' (meet ns out p) ∧ md'.getD e' 0 = ((meet ns out p).idxOf (over ns p) : Nat) + 1 ∧
     MW w2 X bm bo bd cf to' pa1 ns.length l1 md' path1 ts' tfp' pfp1 ∧ Mod (fun b => ¬ X b) w w2 ∧ ((ts' = ts ∧ meet ns out p = out) ∨ ∃ e b, ts' = ts ++ [(ndAt ns e, b)] ∧ meet ns out p = out ++ [over ns p] ∧ e < ns.length ∧ over ns e = over ns p ∧ (ind ns e = true → ind ns (over ns p) = true)) ∧
     ρ.get 0 = some (.pointer (some ⟨bm, 0, none⟩)) ∧ ρ.get 1 = some (I e')) ?_ ?_
  · refine ir_cond rfl (fun hc => ?_) (fun hc => ?_)
    · have hc' : md.getD e' 0 = 0 := by simpa using hc
      obtain ⟨n1, n2, n3, n4, n5, n6⟩ := mi_new hw hk1 hi1 hp hle hc'
      obtain ⟨bc, cc, v, rfl, c0, c1, c2, cx, cb, cl⟩ := from_at hfr1 hargs g2
      have cl' : vLN w1.drew 2 (.pointer (some ⟨bc, e' * 3, none⟩)) = some (.agg #[I (ndAt ns e').kind, I (ndAt ns e').num]) := cl
      (try simp only [go_sem, Nat.reduceAdd, Nat.reduceEqDiff, Nat.reduceLT, Nat.reduceLeDiff, Nat.reduceMul, Nat.zero_add, reduceCtorEq, ↓reduceIte, List.length_cons, List.length_nil, List.set_cons_zero, List.set_cons_succ, List.take_zero, List.take_succ_cons, List.drop_zero, List.drop_succ_cons, List.take_nil, List.drop_nil, List.nil_append, List.cons_append, List.append_nil, or_false, false_or, or_true, true_or, false_implies, true_implies, and_true, true_and, and_self, Bool.and_true, Bool.true_and, Nat.mul_one, Int.toNat_natCast, Int.toNat_zero, Nat.sub_zero, Nat.sub_self, cell_of p1, b1, c2, cl'])
      refine e_call (by rfl) ?_
      obtain ⟨xa, xc, rfl, _, _⟩ := id cx
      refine (copied_ok _ (ndAt ns e').args w1.drew cx).mono ?_
      rintro r w3 ⟨b3, rfl, hb3, hge3, hm3⟩
      have hm3 : Mod (fun _ => False) w1 w3 := hm3.of_drew
      have hge3 : w1.heap.size ≤ b3 := hge3
      (try simp only [go_sem, Nat.reduceAdd, Nat.reduceEqDiff, Nat.reduceLT, Nat.reduceLeDiff, Nat.reduceMul, Nat.zero_add, reduceCtorEq, ↓reduceIte, List.length_cons, List.length_nil, List.set_cons_zero, List.set_cons_succ, List.take_zero, List.take_succ_cons, List.drop_zero, List.drop_succ_cons, List.take_nil, List.drop_nil, List.nil_append, List.cons_append, List.append_nil, or_false, false_or, or_true, true_or, false_implies, true_implies, and_true, true_and, and_self, Bool.and_true, Bool.true_and])
      refine ⟨⟨hm3.old _ (World.block_lt_of_cell? _ _ c0) (fun h => h), hm3.old _ (lt_of_heap p1) (fun h => h)⟩, ?_⟩
      refine e_bs (by rfl) (by (try simp only [go_sem, Nat.reduceAdd, Nat.reduceEqDiff, Nat.reduceLT, Nat.reduceLeDiff, Nat.reduceMul, Nat.zero_add, reduceCtorEq, ↓reduceIte, List.length_cons, List.length_nil, List.set_cons_zero, List.set_cons_succ, List.take_zero, List.take_succ_cons, List.drop_zero, List.drop_succ_cons, List.take_nil, List.drop_nil, List.nil_append, List.cons_append, List.append_nil, or_false, false_or, or_true, true_or, false_implies, true_implies, and_true, true_and, and_self, Bool.and_true, Bool.true_and]); rfl) ?_
      intro w4 hb4 hm4 hs4
      (try simp only [go_sem, Nat.reduceAdd, Nat.reduceEqDiff, Nat.reduceLT, Nat.reduceLeDiff, Nat.reduceMul, Nat.zero_add, reduceCtorEq, ↓reduceIte, List.length_cons, List.length_nil, List.set_cons_zero, List.set_cons_succ, List.take_zero, List.take_succ_cons, List.drop_zero, List.drop_succ_cons, List.take_nil, List.drop_nil, List.nil_append, List.cons_append, List.append_nil, or_false, false_or, or_true, true_or, false_implies, true_implies, and_true, true_and, and_self, Bool.and_true, Bool.true_and])
      refine ⟨hm4.old _ (Nat.lt_of_lt_of_le (lt_of_heap p1) hm3.size) (fun h => h), ?_⟩
      have hm34 : Mod (fun _ => False) w1 w4 := hm3.trans hm4
      have t4 := hto1.mod hm34 (fun _ _ h => h) (fun _ _ h => h)
      have p14 := hm34.at p1 (fun h => h)
      have hb34 := hm4.at hb3 (fun h => h)
      have hmlen := met_len hi.met
      have hmlen' := met_len n3.met
      rw [n2] at hmlen'
      simp only [List.length_append, List.length_cons, List.length_nil] at hmlen'
      obtain ⟨ta, tc, htoe, _, _⟩ := t4.own.val
      refine e_ap (m := 1) (news := nc (cpv (ndAt ns e', b3))) rfl t4.own rfl (fun h => by cases h) (rd_block hb4) (by simp [nc, cpv, Value.oneCell']) rfl (by omega) (by omega) ?_
      intro v5 w5 fp5 ho5 hm5 hf5
      have htb : tfp ≠ some bm := own_ne t4.own p14 (by omega)
      have p15 := hm5.at p14 htb
      have htb3 : tfp ≠ some b3 := own_ne t4.own hb34 (by omega)
      have hb35 := hm5.at hb34 htb3
      obtain ⟨va5, vc5, rfl, _⟩ := ho5.val
      (try simp only [go_sem, Nat.reduceAdd, Nat.reduceEqDiff, Nat.reduceLT, Nat.reduceLeDiff, Nat.reduceMul, Nat.zero_add, reduceCtorEq, ↓reduceIte, List.length_cons, List.length_nil, List.set_cons_zero, List.set_cons_succ, List.take_zero, List.take_succ_cons, List.drop_zero, List.drop_succ_cons, List.take_nil, List.drop_nil, List.nil_append, List.cons_append, List.append_nil, or_false, false_or, or_true, true_or, false_implies, true_implies, and_true, true_and, and_self, Bool.and_true, Bool.true_and])
      refine e_st1 (off := 1) rfl rfl p15 rfl (by simp) ?_
      intro w6 hb6 hm6 hs6
      (try simp only [go_sem, Nat.reduceAdd, Nat.reduceEqDiff, Nat.reduceLT, Nat.reduceLeDiff, Nat.reduceMul, Nat.zero_add, reduceCtorEq, ↓reduceIte, List.length_cons, List.length_nil, List.set_cons_zero, List.set_cons_succ, List.take_zero, List.take_succ_cons, List.drop_zero, List.drop_succ_cons, List.take_nil, List.drop_nil, List.nil_append, List.cons_append, List.append_nil, or_false, false_or, or_true, true_or, false_implies, true_implies, and_true, true_and, and_self, Bool.and_true, Bool.true_and])
      have hm16 : Mod (fun b => b = bm ∨ tfp = some b) w1 w6 := ((hm34.weak (fun _ h => h.elim)).step hm5 (fun b hb _ => .inr hb)).step hm6 (fun b hb _ => .inl hb)
      have hno : ∀ b, b = bm ∨ tfp = some b → ∀ cs fz, w1.heap[b]? = some (.cells cs 3 fz) → False := by
        rintro b (rfl | hb) cs fz hc
        · exact kind_ne p1 hc (by omega)
        · exact own_kind hto1.own hb hc (by omega)
      have hmd6 := hm16.at hmd1 (fun h => hno _ h _ _ hmd1)
      (try simp only [go_sem, Nat.reduceAdd, Nat.reduceEqDiff, Nat.reduceLT, Nat.reduceLeDiff, Nat.reduceMul, Nat.zero_add, reduceCtorEq, ↓reduceIte, List.length_cons, List.length_nil, List.set_cons_zero, List.set_cons_succ, List.take_zero, List.take_succ_cons, List.drop_zero, List.drop_succ_cons, List.take_nil, List.drop_nil, List.nil_append, List.cons_append, List.append_nil, or_false, false_or, or_true, true_or, false_implies, true_implies, and_true, true_and, and_self, Bool.and_true, Bool.true_and, Nat.mul_one, Int.toNat_natCast, Int.toNat_zero, Nat.sub_zero, Nat.sub_self, cell_of hb6, b1])
      refine e_st1 (off := e') rfl rfl hmd6 rfl (by simp; rw [hi.len]; exact g2) ?_
      intro w7 hb7 hm7 hs7
      have hm7 : Mod (· = bd) w6 w7 := hm7.of_drew
      rw [map_set] at hb7
      (try simp only [go_sem, Nat.reduceAdd, Nat.reduceEqDiff, Nat.reduceLT, Nat.reduceLeDiff, Nat.reduceMul, Nat.zero_add, reduceCtorEq, ↓reduceIte, List.length_cons, List.length_nil, List.set_cons_zero, List.set_cons_succ, List.take_zero, List.take_succ_cons, List.drop_zero, List.drop_succ_cons, List.take_nil, List.drop_nil, List.nil_append, List.cons_append, List.append_nil, or_false, false_or, or_true, true_or, false_implies, true_implies, and_true, true_and, and_self, Bool.and_true, Bool.true_and])
      have hm7' : ∀ b, b ≠ bd → ∀ o, w6.heap[b]? = some o → w7.heap[b]? = some o := fun b hb o ho => hm7.at ho hb
      have hall : Mod (fun b => ¬ X b) w w7 := (hm1X.step hm16 (fun b hb _ hx => by
        rcases hb with rfl | hb
        · exact hm.X1.1 hx
        · exact hm.X3 b hb hx)).step hm7 (fun b hb _ hx => by rw [hb] at hx; exact hm.X1.2.2 hx)
      have hs16 := hm16.size; have hs34 := hm3.size; have hs14 := hm34.size
      have hlen : (ts.length : Int) + 1 = (out.length : Int) + 1 := by omega
      refine ⟨md.set e' ((out.length : Int) + 1), .slice va5 (ts.length + 1) vc5, ts ++ [(ndAt ns e', b3)], fp5, n3, ?_, ⟨?_, ?_, ?_, ?_, ⟨?_, ?_, ?_⟩, hm.od, p4, hpd1, ?_, hm.X1, hX2, ?_, ?_, ?_⟩, hall, .inr ⟨e', b3, rfl, n2, n4, n5, n6⟩⟩
      · rw [getD_set _ _ _ _ (by rw [hi.len]; exact g2), if_pos rfl, n2, List.idxOf_append, if_neg n1]
        simp
      · refine hm7' bm hbmd _ ?_
        simpa using hb6
      · exact hm7' bo hm.od _ (hm16.at p2 (fun h => hno _ h _ _ p2))
      · rw [← hlen]; simpa using hb7
      · refine (p3.mod hm16 (fun b hb hh => ?_)).mod hm7 (fun b hb hh => hpd1 (hh ▸ hb))
        rcases p3.2 with ⟨_, _, h⟩ | ⟨b', c', sp', _, h, h', _⟩
        · rw [h] at hb; cases hb
        · rw [h] at hb; cases hb; exact hno _ hh _ _ h'
      · have h1 := (ho5.mod hm6 (fun b hb hh => own_kind ho5 hb (hh ▸ p15) (by omega)))
        have h2 := h1.mod hm7 (fun b hb hh => own_kind h1 hb (hh ▸ hmd6) (by omega))
        simpa [flat_app, flat_one] using h2
      · intro t ht
        rcases List.mem_append.1 ht with ht | ht
        · exact hm7' t.2 (hm.tr t ht).2.1 _ (hm16.at (hto1.row t ht) (fun h => hno _ h _ _ (hto1.row t ht)))
        · simp only [List.mem_cons, List.not_mem_nil, or_false] at ht; subst ht
          refine hm7' b3 ?_ _ (hm6.at hb35 (fun hh => kind_ne hb35 (hh ▸ p15) (by omega)))
          have := lt_of_heap hmd1; omega
      · rw [List.map_append, List.nodup_append]
        refine ⟨hto1.nodup, by simp, ?_⟩
        intro a ha b hb hab
        obtain ⟨t, ht, rfl⟩ := List.mem_map.1 ha
        have := lt_of_heap (hto1.row t ht)
        simp at hb; omega
      · intro t ht
        rcases List.mem_append.1 ht with ht | ht
        · exact htr1 t ht
        · simp only [List.mem_cons, List.not_mem_nil, or_false] at ht; subst ht
          have := lt_of_heap hmd1; have := lt_of_heap p2
          refine ⟨by show b3 ≠ bo; omega, by show b3 ≠ bd; omega, fun h => ?_⟩
          have : b3 < w1.heap.size := p3.lt h
          omega
      · intro b hb hx
        have := hm.X5 b hx
        rcases hf5 b hb with h | h
        · exact hm.X3 b h hx
        · omega
      · intro t ht hx
        rcases List.mem_append.1 ht with ht | ht
        · exact hm.X4 t ht hx
        · simp only [List.mem_cons, List.not_mem_nil, or_false] at ht; subst ht
          have := hm.X5 _ hx
          have : b3 < w.heap.size := this
          omega
      · intro b hx
        have := hm.X5 b hx; have := hall.size; omega
    · have hc' : md.getD e' 0 ≠ 0 := by simpa using hc
      obtain ⟨n1, n2, n3⟩ := mi_had hw hk1 hi1 hp hle hc'
      (try simp only [go_sem, Nat.reduceAdd, Nat.reduceEqDiff, Nat.reduceLT, Nat.reduceLeDiff, Nat.reduceMul, Nat.zero_add, reduceCtorEq, ↓reduceIte, List.length_cons, List.length_nil, List.set_cons_zero, List.set_cons_succ, List.take_zero, List.take_succ_cons, List.drop_zero, List.drop_succ_cons, List.take_nil, List.drop_nil, List.nil_append, List.cons_append, List.append_nil, or_false, false_or, or_true, true_or, false_implies, true_implies, and_true, true_and, and_self, Bool.and_true, Bool.true_and])
      refine ⟨md, to, ts, tfp, by rw [n2]; exact hi1, by rw [n2]; exact n3, ⟨p1, p2, hmd1, p3, hto1, hm.od, p4, hpd1, htr1, hm.X1, hX2, hm.X3, hm.X4, fun b hx => ?_⟩, hm1X, .inl ⟨rfl, n2⟩⟩
      have := hm.X5 b hx; omega
  · rintro ρ w2 ⟨md', to', ts', tfp', k1, k2, k3, k4, k5, r0, r1⟩
    have hmd2 := ints_at k3.moved (i := e') (by rw [k1.len]; exact g2)
    have hlen := met_len k1.met
    have hmem := List.idxOf_lt_length_iff.2 (mem_meet ns out p)
    have hwr : IntKind.i64.wrap (md'.getD e' 0 - 1) = ((meet ns out p).idxOf (over ns p) : Nat) := by rw [k2, wrap_in] <;> omega
    (try simp only [go_sem, Nat.reduceAdd, Nat.reduceEqDiff, Nat.reduceLT, Nat.reduceLeDiff, Nat.reduceMul, Nat.zero_add, reduceCtorEq, ↓reduceIte, List.length_cons, List.length_nil, List.set_cons_zero, List.set_cons_succ, List.take_zero, List.take_succ_cons, List.drop_zero, List.drop_succ_cons, List.take_nil, List.drop_nil, List.nil_append, List.cons_append, List.append_nil, or_false, false_or, or_true, true_or, false_implies, true_implies, and_true, true_and, and_self, Bool.and_true, Bool.true_and, Nat.mul_one, Int.toNat_natCast, Int.toNat_zero, Nat.sub_zero, Nat.sub_self, r0, r1, cell_of k3.cells, b1, hmd2, hwr])
    exact ⟨l1, md', path1, to', pa1, ts', tfp', pfp1, rfl, hk1, k1, k3, k4, k5⟩
end Go.Proofs.Ytnagmcdlepcgnaa
