/- Heap: the mover's memory; pass. -/
import Derived.Test.YtnagmcdlepcgnaaH3
import Derived.Test.YtnagmcdlepcgnaaW9
set_option linter.unusedSimpArgs false
set_option linter.unusedVariables false
namespace Go.Proofs.Ytnagmcdlepcgnaa
open Go Go.W

/-- Nodes that are read, all in blocks of F. -/
def FromAt (Tc : Nat) (w : World) (cf : Value) (ns : List Nd) (F : Nat → Prop) : Prop :=
  ∃ fpc ps, Own w Tc 3 cf (flat ps) ns.length fpc ∧ (∀ b, fpc = some b → F b) ∧ Args w ps F ∧ ps.map Prod.fst = ns ∧ ∀ b, F b → b < w.heap.size
theorem FromAt.mod {Tc : Nat} {w w' : World} {cf : Value} {ns : List Nd} {F S : Nat → Prop} (h : FromAt Tc w cf ns F) (hm : Mod S w w') (hd : ∀ b, F b → ¬ S b) : FromAt Tc w' cf ns F := by
  obtain ⟨fpc, ps, h1, h2, h3, h4, h5⟩ := h
  exact ⟨fpc, ps, h1.mod hm (fun b hb => hd b (h2 b hb)), h2, h3.mod hm hd, h4, fun b hb => Nat.lt_of_lt_of_le (h5 b hb) hm.size⟩

theorem from_at {Tc : Nat} {w : World} {cf : Value} {ns : List Nd} {F : Nat → Prop} (h : FromAt Tc w cf ns F) (hargs : ∀ nd ∈ ns, nd.args.length ≤ 8) {i : Nat} (hi : i < ns.length) :
    ∃ bc cc v, cf = .slice (some ⟨bc, 0, none⟩) ns.length cc ∧ w.cell? ⟨bc, i * 3, none⟩ = some (I (ndAt ns i).kind) ∧ w.cell? ⟨bc, i * 3 + 1, none⟩ = some (I (ndAt ns i).num) ∧
      w.cell? ⟨bc, i * 3 + 2, none⟩ = some v ∧ Ints w v (ndAt ns i).args ∧ (∀ b, vblk v = some b → F b) ∧ vLN w 2 (.pointer (some ⟨bc, i * 3, none⟩)) = some (.agg #[I (ndAt ns i).kind, I (ndAt ns i).num]) := by
  obtain ⟨fpc, ps, h1, h2, h3, h4, h5⟩ := h
  have hps : ps.length = ns.length := by rw [← h4]; simp
  obtain ⟨bc, cc, spc, rfl, rfl, gc, hcc, hcap⟩ := h1.pos (by omega)
  have hi' : i < ps.length := by omega
  have hnd : ps[i].1 = ndAt ns i := by
    have e1 : ndAt ns i = ns[i] := by simp [ndAt, hi]
    rw [e1]; simp [← h4]
  have hflat := flat_len ps
  have hle : ps[i].1.args.length ≤ 17592186044416 := by
    have := hargs ns[i] (List.getElem_mem hi)
    rw [hnd]; simp only [ndAt, List.getD_eq_getElem?_getD, List.getElem?_eq_getElem hi, Option.getD_some]; omega
  have hav := h3.at hi' hle
  refine ⟨bc, cc, ps[i].2, rfl, ?_, ?_, ?_, hnd ▸ hav, ?_, ?_⟩
  · have := node_cell gc hi' (k := 0) (by omega); rw [← hnd]; simpa [nc] using this
  · have := node_cell gc hi' (k := 1) (by omega); rw [← hnd]; simpa [nc] using this
  · have := node_cell gc hi' (k := 2) (by omega); simpa [nc] using this
  · intro b hb
    obtain ⟨fp, k1, k2⟩ := h3 _ (List.getElem_mem hi')
    refine k2 b ?_
    rcases k1.2 with ⟨k3, _, _⟩ | ⟨b', c', sp', k3, k4, _, _⟩
    · rw [k3] at hb; cases hb
    · rw [k3] at hb; cases hb; exact k4
  · have := ln_of (w := w) gc (off := i * 3) (n := 2) (by simp; omega)
    rw [this, List.drop_append_of_le_length (by omega), List.take_append_of_le_length (by simp; omega)]
    have h3 := flat_take_drop ps i hi'
    have : ((flat ps).drop (i * 3)).take 2 = (nc ps[i]).take 2 := by rw [← h3, List.take_take]; rfl
    rw [this, ← hnd]
    rfl

theorem own_cut {w : World} {T sz : Nat} {a : Option Addr} {n c : Nat} {xs : List Value} {fp : Option Nat} (h : Own w T sz (.slice a n c) xs n fp) : Own w T sz (.slice a 0 c) [] 0 fp := by
  refine ⟨by simp, ?_⟩
  rcases h.2 with ⟨h1, h2, h3⟩ | ⟨b, c', sp', h1, h2, h3, h4, h5⟩
  · cases h1; exact .inl ⟨rfl, rfl, h3⟩
  · cases h1
    exact .inr ⟨b, c, xs ++ sp', rfl, h2, by simpa using h3, by simpa using h4, Nat.zero_le _⟩

/-- What pass has to do with: the mover, 'over', the way. -/
def PW (w : World) (bm bo : Nat) (cf to mv pa : Value) (n : Nat) (l path : List Int) (pfp : Option Nat) : Prop :=
  w.heap[bm]? = some (.cells #[cf, to, .slice (some ⟨bo, 0, none⟩) n n, mv, pa] 65 (0, 0)) ∧ w.heap[bo]? = some (.cells (l.map I).toArray 3 (0, 0)) ∧ Own w 3 1 pa (path.map I) path.length pfp ∧ pfp ≠ some bo

def PassPost (ns : List Nd) (w : World) (bm bo : Nat) (cf to mv : Value) (l : List Int) (pfp : Option Nat) (p0 : Nat) (r : Value) (w' : World) : Prop :=
  ∃ (e : Nat) (l' : List Int) (pa' : Value) (path' : List Int) (pfp' : Option Nat), r = I e ∧ KI ns l' ∧ l'.getD p0 0 = e + 1 ∧ (∀ i, i < ns.length → l.getD i 0 ≠ 0 → l'.getD i 0 = l.getD i 0) ∧
    PW w' bm bo cf to mv pa' ns.length l' path' pfp' ∧ Mod (fun b => b = bm ∨ b = bo ∨ pfp = some b) w w' ∧ (∀ b, pfp' = some b → pfp = some b ∨ w.heap.size ≤ b) ∧ path'.length ≤ 1048576

theorem ints_at {w : World} {b T : Nat} {l : List Int} (h : w.heap[b]? = some (.cells (l.map I).toArray T (0, 0))) {i : Nat} (hi : i < l.length) : w.cell? ⟨b, i, none⟩ = some (I (l.getD i 0)) := by
  rw [cell_of h]; simp [hi]

def onWay (ns : List Nd) (p0 k i : Nat) : Prop := ∃ j, j < k ∧ i = fit (nxt ns) j p0

theorem getD_set (l : List Int) (i j : Nat) (v : Int) (hi : i < l.length) : (l.set i v).getD j 0 = if i = j then v else l.getD j 0 := by
  simp only [List.getD_eq_getElem?_getD, List.getElem?_set]
  split
  · rename_i h; subst h; simp [hi]
  · rfl
theorem map_set (l : List Int) (i : Nat) (v : Int) : (l.map I).set i (I v) = (l.set i v).map I := by simp [List.map_set]

theorem count_set (l : List Int) (i : Nat) (hi : i < l.length) (h0 : l.getD i 0 = 0) : (l.set i (-1)).count 0 + 1 = l.count 0 := by
  have h1 : l[i] = 0 := by simpa [hi] using h0
  have hpos : 0 < l.count 0 := List.count_pos_iff.2 (h1 ▸ List.getElem_mem hi)
  rw [List.count_set hi, h1]
  simp
  omega

theorem pass_ok (ns : List Nd) (hw : WF ns) (hn : ns.length ≤ 1048576) (w : World) (bm bo : Nat) (cf to mv pa : Value) (l path : List Int) (pfp : Option Nat) (F : Nat → Prop)
    (hfr : FromAt 70 w cf ns F) (hd : ∀ b, F b → ¬ (b = bm ∨ b = bo ∨ pfp = some b)) (hp : PW w bm bo cf to mv pa ns.length l path pfp) (hk : KI ns l) (p0 : Nat) (hp0 : p0 < ns.length) :
    CallsR Try.prog 36 [.pointer (some ⟨bm, 0, none⟩), I p0] w (PassPost ns w bm bo cf to mv l pfp p0) := by
  have hargs := wf_args_le hw
  have hf := wf_nxt_lt hw
  have hlt : ∀ j, fit (nxt ns) j p0 < ns.length := fun j => fit_lt hf j hp0
  obtain ⟨m1, m2, m3, m4⟩ := hp
  obtain ⟨xa, xc, rfl, hxc, _⟩ := m3.val
  have m3' := own_cut m3
  refine fit36.calls rfl ?_
  unfold ir36
  have z1 : (0 : Int) ≤ 0 ∧ (0 : Int) ≤ xc := by omega
  have z2 : (if xc = 0 then xa else Option.map (fun x => x) xa) = xa := by cases xa <;> simp
  (try simp only [go_sem, Nat.reduceAdd, Nat.reduceEqDiff, Nat.reduceLT, Nat.reduceLeDiff, Nat.reduceMul, Nat.zero_add, reduceCtorEq, ↓reduceIte, List.length_cons, List.length_nil, List.set_cons_zero, List.set_cons_succ, List.take_zero, List.take_succ_cons, List.drop_zero, List.drop_succ_cons, List.take_nil, List.drop_nil, List.nil_append, List.cons_append, List.append_nil, or_false, false_or, or_true, true_or, false_implies, true_implies, and_true, true_and, and_self, Bool.and_true, Bool.true_and, cell_of m1, z1, z2, and_self, Int.toNat_zero, Nat.sub_zero, Nat.sub_self])
  refine e_st1 (off := 4) rfl rfl m1 rfl (by simp) ?_
  intro w1 hb1 hm1 hs1
  have hbmo : bm ≠ bo := fun h => by subst h; exact kind_ne m2 m1 (by omega)
  have n2 := hm1.at m2 (fun h => hbmo h.symm)
  have n3 := m3'.mod hm1 (fun b hb hh => own_kind m3' hb (hh ▸ m1) (by omega))
  (try simp only [go_sem, Nat.reduceAdd, Nat.reduceEqDiff, Nat.reduceLT, Nat.reduceLeDiff, Nat.reduceMul, Nat.zero_add, reduceCtorEq, ↓reduceIte, List.length_cons, List.length_nil, List.set_cons_zero, List.set_cons_succ, List.take_zero, List.take_succ_cons, List.drop_zero, List.drop_succ_cons, List.take_nil, List.drop_nil, List.nil_append, List.cons_append, List.append_nil, or_false, false_or, or_true, true_or, false_implies, true_implies, and_true, true_and, and_self, Bool.and_true, Bool.true_and])
  refine ir_loop (fun m ρ w' => ∃ (k : Nat) (lk : List Int) (pa : Value) (pk : Option Nat), m = lk.count 0 ∧ lk.length = ns.length ∧ k + lk.count 0 = l.count 0 ∧
    (∀ i, i < ns.length → (onWay ns p0 k i → lk.getD i 0 = -1) ∧ (¬ onWay ns p0 k i → lk.getD i 0 = l.getD i 0)) ∧
    (∀ j, j < k → ind ns (fit (nxt ns) j p0) = true ∧ l.getD (fit (nxt ns) j p0) 0 = 0) ∧
    PW w' bm bo cf to mv pa ns.length lk ((List.range k).map (fun j => (fit (nxt ns) j p0 : Int))) pk ∧ Mod (fun b => b = bm ∨ b = bo ∨ pfp = some b) w w' ∧ (∀ b, pk = some b → pfp = some b ∨ w.heap.size ≤ b) ∧
    ρ = [(0, .pointer (some ⟨bm, 0, none⟩)), (1, I (fit (nxt ns) k p0 : Nat))]) (l.count 0)
    ⟨0, l, _, pfp, rfl, hk.len, by omega, fun i hi => ⟨fun ⟨j, hj, _⟩ => by omega, fun _ => rfl⟩, fun j hj => by omega, ⟨hb1, n2, n3, m4⟩, hm1.weak (fun b hb => .inl hb), fun b hb => .inl hb, rfl⟩ ?_
  rintro m ρ w2 ⟨k, lk, pk, pkf, rfl, hkl, hkc, hkv, hkn, ⟨p1, p2, p3, p4⟩, hm2, hpk, rfl⟩
  unfold ir36L1
  have hfr2 := hfr.mod hm2 hd
  obtain ⟨bc, cc, v, rfl, c0, c1, c2, cx, cb, cl⟩ := from_at hfr2 hargs (hlt k)
  have hx := ints_at p2 (i := fit (nxt ns) k p0) (by rw [hkl]; exact hlt k)
  have b1 : (0 : Int) ≤ (fit (nxt ns) k p0 : Nat) ∧ ((fit (nxt ns) k p0 : Nat) : Int) < ns.length := by have := hlt k; omega
  have hkx : lk.getD (fit (nxt ns) k p0) 0 = 0 ∨ lk.getD (fit (nxt ns) k p0) 0 ≠ 0 := by omega
  (try simp only [go_sem, Nat.reduceAdd, Nat.reduceEqDiff, Nat.reduceLT, Nat.reduceLeDiff, Nat.reduceMul, Nat.zero_add, reduceCtorEq, ↓reduceIte, List.length_cons, List.length_nil, List.set_cons_zero, List.set_cons_succ, List.take_zero, List.take_succ_cons, List.drop_zero, List.drop_succ_cons, List.take_nil, List.drop_nil, List.nil_append, List.cons_append, List.append_nil, or_false, false_or, or_true, true_or, false_implies, true_implies, and_true, true_and, and_self, Bool.and_true, Bool.true_and, Nat.mul_one, Int.toNat_natCast, Int.toNat_zero, Nat.sub_zero, Nat.sub_self, cell_of p1, b1, hx])
  refine wpS_cut (fun ρ w' => w2 = w' ∧ ∃ q : Bool, (q = true → lk.getD (fit (nxt ns) k p0) 0 = 0 ∧ ind ns (fit (nxt ns) k p0) = true) ∧ (q = false → lk.getD (fit (nxt ns) k p0) 0 ≠ 0 ∨ ind ns (fit (nxt ns) k p0) = false) ∧
      ρ.get 0 = some (.pointer (some ⟨bm, 0, none⟩)) ∧ ρ.get 1 = some (I (fit (nxt ns) k p0 : Nat)) ∧ ρ.get 35 = some (.bool q)) ?_ ?_
  · refine wpS_gr rfl (fun hz => ?_) (fun hz => ?_)
    · (try simp only [go_sem, Nat.reduceAdd, Nat.reduceEqDiff, Nat.reduceLT, Nat.reduceLeDiff, Nat.reduceMul, Nat.zero_add, reduceCtorEq, ↓reduceIte, List.length_cons, List.length_nil, List.set_cons_zero, List.set_cons_succ, List.take_zero, List.take_succ_cons, List.drop_zero, List.drop_succ_cons, List.take_nil, List.drop_nil, List.nil_append, List.cons_append, List.append_nil, or_false, false_or, or_true, true_or, false_implies, true_implies, and_true, true_and, and_self, Bool.and_true, Bool.true_and, Nat.mul_one, Int.toNat_natCast, Int.toNat_zero, Nat.sub_zero, Nat.sub_self, cell_of p1, b1, hz, c0])
      have hz' : lk.getD (fit (nxt ns) k p0) 0 = 0 := by simpa using hz
      exact ⟨_, fun h => ⟨hz', h⟩, fun h => .inr h, rfl⟩
    · (try simp only [go_sem, Nat.reduceAdd, Nat.reduceEqDiff, Nat.reduceLT, Nat.reduceLeDiff, Nat.reduceMul, Nat.zero_add, reduceCtorEq, ↓reduceIte, List.length_cons, List.length_nil, List.set_cons_zero, List.set_cons_succ, List.take_zero, List.take_succ_cons, List.drop_zero, List.drop_succ_cons, List.take_nil, List.drop_nil, List.nil_append, List.cons_append, List.append_nil, or_false, false_or, or_true, true_or, false_implies, true_implies, and_true, true_and, and_self, Bool.and_true, Bool.true_and, Nat.mul_one, Int.toNat_natCast, Int.toNat_zero, Nat.sub_zero, Nat.sub_self, hz])
      have hz' : lk.getD (fit (nxt ns) k p0) 0 ≠ 0 := by simpa using hz
      exact ⟨_, fun h => (by cases h), fun _ => .inl hz', rfl⟩
  rintro ρ _ ⟨rfl, q, hq1, hq2, r0, r1, r35⟩
  (try simp only [go_sem, Nat.reduceAdd, Nat.reduceEqDiff, Nat.reduceLT, Nat.reduceLeDiff, Nat.reduceMul, Nat.zero_add, reduceCtorEq, ↓reduceIte, List.length_cons, List.length_nil, List.set_cons_zero, List.set_cons_succ, List.take_zero, List.take_succ_cons, List.drop_zero, List.drop_succ_cons, List.take_nil, List.drop_nil, List.nil_append, List.cons_append, List.append_nil, or_false, false_or, or_true, true_or, false_implies, true_implies, and_true, true_and, and_self, Bool.and_true, Bool.true_and, r0, r1, r35])
  refine ir_cond rfl (fun hq => ?_) (fun hq => ?_)
  · obtain ⟨hz, hi⟩ := hq1 hq
    obtain ⟨q', hq', ha, hnx⟩ := wf_ind hw (hlt k) hi
    (try simp only [go_sem, Nat.reduceAdd, Nat.reduceEqDiff, Nat.reduceLT, Nat.reduceLeDiff, Nat.reduceMul, Nat.zero_add, reduceCtorEq, ↓reduceIte, List.length_cons, List.length_nil, List.set_cons_zero, List.set_cons_succ, List.take_zero, List.take_succ_cons, List.drop_zero, List.drop_succ_cons, List.take_nil, List.drop_nil, List.nil_append, List.cons_append, List.append_nil, or_false, false_or, or_true, true_or, false_implies, true_implies, and_true, true_and, and_self, Bool.and_true, Bool.true_and, Nat.mul_one, Int.toNat_natCast, Int.toNat_zero, Nat.sub_zero, Nat.sub_self, cell_of p1, b1])
    refine e_st1 (off := fit (nxt ns) k p0) rfl rfl p2 rfl (by simp; rw [hkl]; exact hlt k) ?_
    intro w3 hb3 hm3 hs3
    rw [map_set] at hb3
    have hcount := count_set lk (fit (nxt ns) k p0) (by rw [hkl]; exact hlt k) hz
    have hkn' : k + 1 ≤ ns.length := by
      have := List.count_le_length (a := (0 : Int)) (l := l)
      rw [hk.len] at this; omega
    have q1 := hm3.at p1 hbmo
    have q3 := p3.mod hm3 (fun b hb hh => p4 (hh ▸ hb))
    obtain ⟨ya, yc, rfl, _, _⟩ := p3.val
    (try simp only [go_sem, Nat.reduceAdd, Nat.reduceEqDiff, Nat.reduceLT, Nat.reduceLeDiff, Nat.reduceMul, Nat.zero_add, reduceCtorEq, ↓reduceIte, List.length_cons, List.length_nil, List.set_cons_zero, List.set_cons_succ, List.take_zero, List.take_succ_cons, List.drop_zero, List.drop_succ_cons, List.take_nil, List.drop_nil, List.nil_append, List.cons_append, List.append_nil, or_false, false_or, or_true, true_or, false_implies, true_implies, and_true, true_and, and_self, Bool.and_true, Bool.true_and, cell_of q1])
    refine e_bs (by rfl) (by (try simp only [go_sem, Nat.reduceAdd, Nat.reduceEqDiff, Nat.reduceLT, Nat.reduceLeDiff, Nat.reduceMul, Nat.zero_add, reduceCtorEq, ↓reduceIte, List.length_cons, List.length_nil, List.set_cons_zero, List.set_cons_succ, List.take_zero, List.take_succ_cons, List.drop_zero, List.drop_succ_cons, List.take_nil, List.drop_nil, List.nil_append, List.cons_append, List.append_nil, or_false, false_or, or_true, true_or, false_implies, true_implies, and_true, true_and, and_self, Bool.and_true, Bool.true_and]); rfl) ?_
    intro w4 hb4 hm4 hs4
    have q4 := q3.mod hm4 (fun _ _ h => h)
    (try simp only [go_sem, Nat.reduceAdd, Nat.reduceEqDiff, Nat.reduceLT, Nat.reduceLeDiff, Nat.reduceMul, Nat.zero_add, reduceCtorEq, ↓reduceIte, List.length_cons, List.length_nil, List.set_cons_zero, List.set_cons_succ, List.take_zero, List.take_succ_cons, List.drop_zero, List.drop_succ_cons, List.take_nil, List.drop_nil, List.nil_append, List.cons_append, List.append_nil, or_false, false_or, or_true, true_or, false_implies, true_implies, and_true, true_and, and_self, Bool.and_true, Bool.true_and])
    refine e_ap (m := 1) (news := [I (fit (nxt ns) k p0 : Nat)]) rfl q4 rfl (fun h => by cases h) (rd_block hb4) (by simp [Value.oneCell']) rfl (by simp; omega) (by simp; omega) ?_
    intro v5 w5 fp5 ho5 hm5 hf5
    (try simp only [go_sem, Nat.reduceAdd, Nat.reduceEqDiff, Nat.reduceLT, Nat.reduceLeDiff, Nat.reduceMul, Nat.zero_add, reduceCtorEq, ↓reduceIte, List.length_cons, List.length_nil, List.set_cons_zero, List.set_cons_succ, List.take_zero, List.take_succ_cons, List.drop_zero, List.drop_succ_cons, List.take_nil, List.drop_nil, List.nil_append, List.cons_append, List.append_nil, or_false, false_or, or_true, true_or, false_implies, true_implies, and_true, true_and, and_self, Bool.and_true, Bool.true_and])
    have q14 := hm4.at q1 (fun h => h)
    have q15 := hm5.at q14 (own_ne q4 q14 (by omega))
    have hb5 := hm5.at (hm4.at hb3 (fun h => h)) p4
    refine e_st1 (off := 4) rfl rfl q15 (by obtain ⟨_, _, rfl, _⟩ := ho5.val; rfl) (by simp) ?_
    intro w6 hb6 hm6 hs6
    have hF : ∀ b, F b → b < w.heap.size := by obtain ⟨_, _, _, _, _, _, h⟩ := hfr; exact h
    have hdk : ∀ b, F b → pkf ≠ some b := fun b hb hh => by
      have h1 := hF b hb
      rcases hpk b hh with h2 | h2
      · exact hd b hb (.inr (.inr h2))
      · omega
    have hm26 : Mod (fun b => b = bm ∨ b = bo ∨ pkf = some b) w2 w6 := (((hm3.weak (fun b hb => .inr (.inl hb))).step hm4 (fun _ h _ => h.elim)).step hm5 (fun b hb _ => .inr (.inr hb))).step hm6 (fun b hb _ => .inl hb)
    have hfr6 := hfr2.mod hm26 (fun b hb hh => by
      rcases hh with hh | hh | hh
      · exact hd b hb (.inl hh)
      · exact hd b hb (.inr (.inl hh))
      · exact hdk b hb hh)
    obtain ⟨bc', cc', v', hbc, d0, d1, d2, dx, db, dl⟩ := from_at hfr6 hargs (hlt k)
    cases hbc
    rw [ha] at dx
    obtain ⟨xb, xd, rfl, _, hxx⟩ := dx
    obtain ⟨ad, rfl, had⟩ := hxx 0 (by simp)
    have had' : w6.cell? ad = some (I (q' : Nat)) := by rw [add_zero'] at had; exact had
    have z3 : (0 : Int) ≤ 0 ∧ (0 : Int) < ((1 : Nat) : Int) := by omega
    (try simp only [go_sem, Nat.reduceAdd, Nat.reduceEqDiff, Nat.reduceLT, Nat.reduceLeDiff, Nat.reduceMul, Nat.zero_add, reduceCtorEq, ↓reduceIte, List.length_cons, List.length_nil, List.set_cons_zero, List.set_cons_succ, List.take_zero, List.take_succ_cons, List.drop_zero, List.drop_succ_cons, List.take_nil, List.drop_nil, List.nil_append, List.cons_append, List.append_nil, or_false, false_or, or_true, true_or, false_implies, true_implies, and_true, true_and, and_self, Bool.and_true, Bool.true_and, Nat.mul_one, Int.toNat_natCast, Int.toNat_zero, Nat.sub_zero, Nat.sub_self, cell_of hb6, b1, d2, z3, had'])
    have hway : ∀ i, onWay ns p0 (k + 1) i ↔ onWay ns p0 k i ∨ i = fit (nxt ns) k p0 := by
      intro i
      constructor
      · rintro ⟨j, hj, rfl⟩
        rcases Nat.lt_or_ge j k with h | h
        · exact .inl ⟨j, h, rfl⟩
        · obtain rfl : j = k := by omega
          exact .inr rfl
      · rintro (⟨j, hj, rfl⟩ | rfl)
        · exact ⟨j, by omega, rfl⟩
        · exact ⟨k, by omega, rfl⟩
    have hnotway : ¬ onWay ns p0 k (fit (nxt ns) k p0) := fun h => by
      have := (hkv _ (hlt k)).1 h
      omega
    refine ⟨_, ?_, k + 1, lk.set (fit (nxt ns) k p0) (-1), v5, fp5, rfl, by simp [hkl], by omega, ?_, ?_, ⟨hb6, hm6.at hb5 (fun h => hbmo h.symm), ?_, ?_⟩, ?_, ?_, ?_⟩
    · omega
    · intro i hi'
      rw [getD_set _ _ _ _ (by rw [hkl]; exact hlt k), hway]
      refine ⟨?_, ?_⟩
      · rintro (h | h)
        · split
          · rfl
          · exact (hkv i hi').1 h
        · rw [if_pos h.symm]
      · intro h
        rw [if_neg (fun hh => h (.inr hh.symm))]
        exact (hkv i hi').2 (fun hh => h (.inl hh))
    · intro j hj
      rcases Nat.lt_or_ge j k with h | h
      · exact hkn j h
      · obtain rfl : j = k := by omega
        exact ⟨hi, by rw [← (hkv _ (hlt j)).2 hnotway]; exact hz⟩
    · have := ho5.mod hm6 (fun b hb hh => own_kind ho5 hb (hh ▸ q15) (by omega))
      rw [List.range_succ]
      simpa using this
    · intro hh
      rcases hf5 bo hh with h1 | h1
      · exact p4 h1
      · have := lt_of_heap p2
        have := hm3.size; have := hm4.size
        omega
    · refine hm2.step hm26 (fun b hb hlt' => ?_)
      rcases hb with h | h | h
      · exact .inl h
      · exact .inr (.inl h)
      · rcases hpk b h with h | h
        · exact .inr (.inr h)
        · omega
    · intro b hb
      rcases hf5 b hb with h1 | h1
      · exact hpk b h1
      · have := hm2.size; have := hm3.size; have := hm4.size
        exact .inr (by omega)
    · rw [fit_succ, hnx]
  · have hz := hq2 hq
    have hxn : onWay ns p0 k (fit (nxt ns) k p0) ∨ ¬ onWay ns p0 k (fit (nxt ns) k p0) := Classical.em _
    (try simp only [go_sem, Nat.reduceAdd, Nat.reduceEqDiff, Nat.reduceLT, Nat.reduceLeDiff, Nat.reduceMul, Nat.zero_add, reduceCtorEq, ↓reduceIte, List.length_cons, List.length_nil, List.set_cons_zero, List.set_cons_succ, List.take_zero, List.take_succ_cons, List.drop_zero, List.drop_succ_cons, List.take_nil, List.drop_nil, List.nil_append, List.cons_append, List.append_nil, or_false, false_or, or_true, true_or, false_implies, true_implies, and_true, true_and, and_self, Bool.and_true, Bool.true_and, Nat.mul_one, Int.toNat_natCast, Int.toNat_zero, Nat.sub_zero, Nat.sub_self, cell_of p1, b1, hx])
    refine ir_then (fun ρ w' => w2 = w' ∧ ∃ e : Nat, ((e = fit (nxt ns) k p0 ∧ l.getD e 0 = 0 ∧ ((ind ns e = false) ∨ ∃ j, j < k ∧ e = fit (nxt ns) j p0)) ∨ (l.getD (fit (nxt ns) k p0) 0 = e + 1)) ∧ e < ns.length ∧
      ρ.get 0 = some (.pointer (some ⟨bm, 0, none⟩)) ∧ ρ.get 1 = some (I (fit (nxt ns) k p0 : Nat)) ∧ ρ.get 5 = some (I e)) ?_ ?_
    · refine ir_cond rfl (fun hg => ?_) (fun hg => ?_)
      · have hg' : lk.getD (fit (nxt ns) k p0) 0 > 0 := by simpa using hg
        have hno : ¬ onWay ns p0 k (fit (nxt ns) k p0) := fun h => by have := (hkv _ (hlt k)).1 h; omega
        have hlk := (hkv _ (hlt k)).2 hno
        obtain ⟨e, he, hen, _⟩ := hk.rep _ (hlt k) (by omega)
        have hwr : IntKind.i64.wrap (lk.getD (fit (nxt ns) k p0) 0 - 1) = e := by rw [hlk, he, wrap_in] <;> omega
        (try simp only [go_sem, Nat.reduceAdd, Nat.reduceEqDiff, Nat.reduceLT, Nat.reduceLeDiff, Nat.reduceMul, Nat.zero_add, reduceCtorEq, ↓reduceIte, List.length_cons, List.length_nil, List.set_cons_zero, List.set_cons_succ, List.take_zero, List.take_succ_cons, List.drop_zero, List.drop_succ_cons, List.take_nil, List.drop_nil, List.nil_append, List.cons_append, List.append_nil, or_false, false_or, or_true, true_or, false_implies, true_implies, and_true, true_and, and_self, Bool.and_true, Bool.true_and, Nat.mul_one, Int.toNat_natCast, Int.toNat_zero, Nat.sub_zero, Nat.sub_self, cell_of p1, b1, hx, hwr])
        exact ⟨e, .inr he, hen, rfl⟩
      · have hg' : ¬ lk.getD (fit (nxt ns) k p0) 0 > 0 := by simpa using hg
        (try simp only [go_sem, Nat.reduceAdd, Nat.reduceEqDiff, Nat.reduceLT, Nat.reduceLeDiff, Nat.reduceMul, Nat.zero_add, reduceCtorEq, ↓reduceIte, List.length_cons, List.length_nil, List.set_cons_zero, List.set_cons_succ, List.take_zero, List.take_succ_cons, List.drop_zero, List.drop_succ_cons, List.take_nil, List.drop_nil, List.nil_append, List.cons_append, List.append_nil, or_false, false_or, or_true, true_or, false_implies, true_implies, and_true, true_and, and_self, Bool.and_true, Bool.true_and])
        refine ⟨fit (nxt ns) k p0, .inl ⟨rfl, ?_, ?_⟩, hlt k, rfl⟩
        · rcases hxn with h | h
          · obtain ⟨j, hj, he⟩ := h
            rw [he]; exact (hkn j hj).2
          · have hlk := (hkv _ (hlt k)).2 h
            rcases Classical.em (l.getD (fit (nxt ns) k p0) 0 = 0) with h0 | h0
            · exact h0
            · obtain ⟨e, he, _⟩ := hk.rep _ (hlt k) h0
              omega
        · rcases hxn with h | h
          · exact .inr h
          · left
            rcases hz with hz | hz
            · exfalso
              have hlk := (hkv _ (hlt k)).2 h
              obtain ⟨e, he, _⟩ := hk.rep _ (hlt k) (by omega)
              omega
            · exact hz
    rintro ρ _ ⟨rfl, e, hend, hen, r0, r1, r5⟩
    have hwe : IntKind.i64.wrap ((e : Int) + 1) = ((e : Int) + 1) := by rw [wrap_in] <;> omega
    (try simp only [go_sem, Nat.reduceAdd, Nat.reduceEqDiff, Nat.reduceLT, Nat.reduceLeDiff, Nat.reduceMul, Nat.zero_add, reduceCtorEq, ↓reduceIte, List.length_cons, List.length_nil, List.set_cons_zero, List.set_cons_succ, List.take_zero, List.take_succ_cons, List.drop_zero, List.drop_succ_cons, List.take_nil, List.drop_nil, List.nil_append, List.cons_append, List.append_nil, or_false, false_or, or_true, true_or, false_implies, true_implies, and_true, true_and, and_self, Bool.and_true, Bool.true_and, Nat.mul_one, Int.toNat_natCast, Int.toNat_zero, Nat.sub_zero, Nat.sub_self, r0, r1, r5, cell_of p1, b1, hwe])
    refine e_st1 (off := fit (nxt ns) k p0) rfl rfl p2 rfl (by simp; rw [hkl]; exact hlt k) ?_
    intro w3 hb3 hm3 hs3
    rw [map_set] at hb3
    have q1 := hm3.at p1 hbmo
    have q3 := p3.mod hm3 (fun b hb hh => p4 (hh ▸ hb))
    obtain ⟨ya, yc, rfl, _, _⟩ := p3.val
    (try simp only [go_sem, Nat.reduceAdd, Nat.reduceEqDiff, Nat.reduceLT, Nat.reduceLeDiff, Nat.reduceMul, Nat.zero_add, reduceCtorEq, ↓reduceIte, List.length_cons, List.length_nil, List.set_cons_zero, List.set_cons_succ, List.take_zero, List.take_succ_cons, List.drop_zero, List.drop_succ_cons, List.take_nil, List.drop_nil, List.nil_append, List.cons_append, List.append_nil, or_false, false_or, or_true, true_or, false_implies, true_implies, and_true, true_and, and_self, Bool.and_true, Bool.true_and, Nat.mul_one, Int.toNat_natCast, Int.toNat_zero, Nat.sub_zero, Nat.sub_self, cell_of q1])
    have hpl : ((List.range k).map (fun j => (fit (nxt ns) j p0 : Int))).length = k := by simp
    have hkn' : k ≤ ns.length := by
      have := List.count_le_length (a := (0 : Int)) (l := l)
      rw [hk.len] at this; omega
    refine ir_loop (fun m ρ w' => ∃ (t : Nat) (l2 : List Int), m = k - t ∧ t ≤ k ∧ l2.length = ns.length ∧ (∀ i, i < ns.length → (i = fit (nxt ns) k p0 ∨ onWay ns p0 t i → l2.getD i 0 = e + 1) ∧ (¬ (i = fit (nxt ns) k p0 ∨ onWay ns p0 t i) → l2.getD i 0 = lk.getD i 0)) ∧
      PW w' bm bo (.slice (some ⟨bc, 0, none⟩) ns.length cc) to mv (.slice ya ((List.range k).map (fun j => (fit (nxt ns) j p0 : Int))).length yc) ns.length l2 ((List.range k).map (fun j => (fit (nxt ns) j p0 : Int))) pkf ∧ Mod (· = bo) w2 w' ∧
      ρ = [(0, .pointer (some ⟨bm, 0, none⟩)), (5, I e), (90, .slice ya ((List.range k).map (fun j => (fit (nxt ns) j p0 : Int))).length yc), (91, I ((List.range k).map (fun j => (fit (nxt ns) j p0 : Int))).length), (92, I t)]) k
      ⟨0, lk.set (fit (nxt ns) k p0) (e + 1), rfl, by omega, by simp [hkl], ?_, ⟨q1, hb3, q3, p4⟩, hm3, rfl⟩ ?_
    · intro i hi
      rw [getD_set _ _ _ _ (by rw [hkl]; exact hlt k)]
      refine ⟨?_, ?_⟩
      · rintro (h | ⟨j, hj, _⟩)
        · rw [if_pos h.symm]
        · omega
      · intro h; rw [if_neg (fun hh => h (.inl hh.symm))]
    rintro m ρ w4 ⟨t, l2, rfl, htk, hl2, hv2, ⟨o1, o2, o3, o4⟩, hm4, rfl⟩
    unfold ir36L2
    have o1' := o1
    have o3' := o3
    rw [hpl] at o1 o3
    rw [hpl]
    (try simp only [go_sem, Nat.reduceAdd, Nat.reduceEqDiff, Nat.reduceLT, Nat.reduceLeDiff, Nat.reduceMul, Nat.zero_add, reduceCtorEq, ↓reduceIte, List.length_cons, List.length_nil, List.set_cons_zero, List.set_cons_succ, List.take_zero, List.take_succ_cons, List.drop_zero, List.drop_succ_cons, List.take_nil, List.drop_nil, List.nil_append, List.cons_append, List.append_nil, or_false, false_or, or_true, true_or, false_implies, true_implies, and_true, true_and, and_self, Bool.and_true, Bool.true_and])
    refine ir_cond rfl (fun hc => ?_) (fun hc => ?_)
    · have hc' : t < k := by simpa using hc
      obtain ⟨⟨xb, xd, hxe, _, hxx⟩, _⟩ := o3'.ints (by rw [hpl]; omega)
      cases hxe
      obtain ⟨ad, rfl, had⟩ := hxx t (by rw [hpl]; exact hc')
      have b2 : (0 : Int) ≤ (t : Nat) ∧ (t : Int) < (k : Nat) := by omega
      have b3 : (0 : Int) ≤ (fit (nxt ns) t p0 : Nat) ∧ ((fit (nxt ns) t p0 : Nat) : Int) < ns.length := by have := hlt t; omega
      have had' : w4.cell? (ad.add t) = some (I (fit (nxt ns) t p0 : Nat)) := by rw [had]; simp
      (try simp only [go_sem, Nat.reduceAdd, Nat.reduceEqDiff, Nat.reduceLT, Nat.reduceLeDiff, Nat.reduceMul, Nat.zero_add, reduceCtorEq, ↓reduceIte, List.length_cons, List.length_nil, List.set_cons_zero, List.set_cons_succ, List.take_zero, List.take_succ_cons, List.drop_zero, List.drop_succ_cons, List.take_nil, List.drop_nil, List.nil_append, List.cons_append, List.append_nil, or_false, false_or, or_true, true_or, false_implies, true_implies, and_true, true_and, and_self, Bool.and_true, Bool.true_and, Nat.mul_one, Int.toNat_natCast, Int.toNat_zero, Nat.sub_zero, Nat.sub_self, b2, had', cell_of o1, b3, hwe])
      refine e_st1 (off := fit (nxt ns) t p0) rfl rfl o2 rfl (by simp; rw [hl2]; exact hlt t) ?_
      intro w5 hb5 hm5 hs5
      rw [map_set] at hb5
      have hwt : IntKind.i64.wrap ((t : Int) + 1) = ((t + 1 : Nat) : Int) := by rw [wrap_in] <;> omega
      (try simp only [go_sem, Nat.reduceAdd, Nat.reduceEqDiff, Nat.reduceLT, Nat.reduceLeDiff, Nat.reduceMul, Nat.zero_add, reduceCtorEq, ↓reduceIte, List.length_cons, List.length_nil, List.set_cons_zero, List.set_cons_succ, List.take_zero, List.take_succ_cons, List.drop_zero, List.drop_succ_cons, List.take_nil, List.drop_nil, List.nil_append, List.cons_append, List.append_nil, or_false, false_or, or_true, true_or, false_implies, true_implies, and_true, true_and, and_self, Bool.and_true, Bool.true_and, hwt])
      refine ⟨_, ?_, t + 1, l2.set (fit (nxt ns) t p0) (e + 1), rfl, by omega, by simp [hl2], ?_, ⟨hm5.at o1 hbmo, hb5, ?_, o4⟩, hm4.trans hm5, rfl⟩
      · omega
      · intro i hi
        rw [getD_set _ _ _ _ (by rw [hl2]; exact hlt t)]
        have hway : onWay ns p0 (t + 1) i ↔ onWay ns p0 t i ∨ i = fit (nxt ns) t p0 := by
          constructor
          · rintro ⟨j, hj, rfl⟩
            rcases Nat.lt_or_ge j t with h | h
            · exact .inl ⟨j, h, rfl⟩
            · obtain rfl : j = t := by omega
              exact .inr rfl
          · rintro (⟨j, hj, rfl⟩ | rfl)
            · exact ⟨j, by omega, rfl⟩
            · exact ⟨t, by omega, rfl⟩
        rw [hway]
        refine ⟨?_, ?_⟩
        · intro h
          split
          · rfl
          · rename_i hne
            rcases h with h | h | h
            · exact (hv2 i hi).1 (.inl h)
            · exact (hv2 i hi).1 (.inr h)
            · exact absurd h.symm hne
        · intro h
          rw [if_neg (fun hh => h (.inr (.inr hh.symm)))]
          exact (hv2 i hi).2 (fun hh => h (hh.elim .inl (fun h => .inr (.inl h))))
      · have := o3.mod hm5 (fun b hb hh => o4 (hh ▸ hb))
        simpa using this
    · have hc' : t = k := by simp at hc; omega
      subst hc'
      (try simp only [go_sem, Nat.reduceAdd, Nat.reduceEqDiff, Nat.reduceLT, Nat.reduceLeDiff, Nat.reduceMul, Nat.zero_add, reduceCtorEq, ↓reduceIte, List.length_cons, List.length_nil, List.set_cons_zero, List.set_cons_succ, List.take_zero, List.take_succ_cons, List.drop_zero, List.drop_succ_cons, List.take_nil, List.drop_nil, List.nil_append, List.cons_append, List.append_nil, or_false, false_or, or_true, true_or, false_implies, true_implies, and_true, true_and, and_self, Bool.and_true, Bool.true_and])
      obtain ⟨g1, g2, g3⟩ := ki_pass hw hk (l' := l2) (e := e) hp0 hkn hend hl2 (by
        intro i hi
        obtain ⟨a1, a2⟩ := hv2 i hi
        split
        · rename_i hex
          obtain ⟨j, hj, he⟩ := hex
          refine a1 ?_
          rcases Nat.lt_or_ge j t with h | h
          · exact .inr ⟨j, h, he⟩
          · left; rw [he]; congr 1; omega
        · rename_i hex
          have hno : ¬ onWay ns p0 t i := fun ⟨j, hj, he⟩ => hex ⟨j, by omega, he⟩
          rw [a2 (fun h => by
            rcases h with h | h
            · exact hex ⟨t, Nat.le_refl _, h⟩
            · exact hno h)]
          exact (hkv i hi).2 hno)
      refine ⟨e, l2, _, _, pkf, rfl, g1, g2, g3, ⟨o1', o2, o3', o4⟩, hm2.step hm4 (fun b hb _ => .inr (.inl hb)), hpk, by rw [hpl]; omega⟩
end Go.Proofs.Ytnagmcdlepcgnaa
