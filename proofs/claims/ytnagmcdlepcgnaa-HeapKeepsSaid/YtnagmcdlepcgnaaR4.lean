/- Heap, the reference: Reached. -/
import Derived.Test.YtnagmcdlepcgnaaR3
set_option linter.unusedSimpArgs false
set_option linter.unusedVariables false
namespace Go.Proofs.Ytnagmcdlepcgnaa
open Go Go.W

theorem from_ln {Tc : Nat} {w : World} {cf : Value} {ns : List Nd} {F : Nat → Prop} (h : FromAt Tc w cf ns F) (hargs : ∀ nd ∈ ns, nd.args.length ≤ 8) {i : Nat} (hi : i < ns.length) :
    ∃ bc cc v, cf = .slice (some ⟨bc, 0, none⟩) ns.length cc ∧ vLN w 3 (.pointer (some ⟨bc, i * 3, none⟩)) = some (.agg #[I (ndAt ns i).kind, I (ndAt ns i).num, v]) ∧ Ints w v (ndAt ns i).args ∧ (∀ b, vblk v = some b → F b) := by
  obtain ⟨fpc, ps, h1, h2, h3, h4, h5⟩ := h
  have hps : ps.length = ns.length := by rw [← h4]; simp
  obtain ⟨bc, cc, spc, rfl, rfl, gc, hcc, hcap⟩ := h1.pos (by omega)
  have hi' : i < ps.length := by omega
  have hnd : ps[i].1 = ndAt ns i := by
    have e1 : ndAt ns i = ns[i] := by simp [ndAt, hi]
    rw [e1]; simp [← h4]
  have hle : ps[i].1.args.length ≤ 17592186044416 := by
    have := hargs ns[i] (List.getElem_mem hi)
    rw [hnd]; simp only [ndAt, List.getD_eq_getElem?_getD, List.getElem?_eq_getElem hi, Option.getD_some]; omega
  refine ⟨bc, cc, ps[i].2, rfl, by rw [node_ln gc hi', hnd], hnd ▸ h3.at hi' hle, ?_⟩
  intro b hb
  obtain ⟨fp, k1, k2⟩ := h3 _ (List.getElem_mem hi')
  refine k2 b ?_
  rcases k1.2 with ⟨k3, _, _⟩ | ⟨b', c', sp', k3, k4, _, _⟩
  · rw [k3] at hb; cases hb
  · rw [k3] at hb; cases hb; exact k4

def metL (n : Nat) (out : List Nat) : List Value := (List.range n).map (fun i => Value.bool (decide (i ∈ out)))
theorem metL_at {n : Nat} {out : List Nat} {i : Nat} (hi : i < n) : (metL n out)[i]? = some (.bool (decide (i ∈ out))) := by simp [metL, hi]
theorem metL_set {n : Nat} {out : List Nat} {x : Nat} (hx : x < n) : (metL n out).set x (.bool true) = metL n (out ++ [x]) := by
  apply List.ext_getElem?
  intro j
  rw [List.getElem?_set]
  split
  · rename_i h; subst h
    rw [metL_at hx]; simp [metL, hx]
  · rename_i h
    rcases Nat.lt_or_ge j n with hj | hj
    · rw [metL_at hj, metL_at hj]
      have : ¬ j = x := fun hh => h hh.symm
      simp [this]
    · simp [metL, hj]

/-- What stays true while Reached goes. -/
def RI (ns : List Nd) (w w' : World) (bt : Nat) (out : List Nat) (ov : Value) : Prop :=
  Met ns out ∧ Mod (fun _ => False) w w' ∧ w.heap.size ≤ bt ∧ w'.heap[bt]? = some (.cells (metL ns.length out).toArray 4 (0, 0)) ∧
    ∃ fp, Own w' 3 1 ov (out.map (fun x : Nat => I x)) out.length fp ∧ ∀ b, fp = some b → w.heap.size ≤ b

theorem rreached_ok (a : Nat) (ns : List Nd) (hw : WF ns) (hn : ns.length ≤ 1048576) (w : World) (F : Nat → Prop) (T : Nat) (x1 x3 cv v : Value) (roots : List Int) (ha : w.heap[a]? = some (.cells #[x1, cv, x3] T (0, 0))) (hfr : FromAt 35 w cv ns F)
    (hx : Ints w v roots) (hok : okPl ns.length roots = true) (hcvl : ∃ ca cc, cv = .slice ca ns.length cc) :
    CallsR Try.prog 43 [.pointer (some ⟨a, 0, none⟩), v] w fun r w' => Mod (fun _ => False) w w' ∧ ∃ fp, Own w' 3 1 r ((reached ns roots).map (fun x : Nat => I x)) (reached ns roots).length fp ∧ ∀ b, fp = some b → w.heap.size ≤ b := by
  have hargs := wf_args_le hw
  have hf := wf_nxt_lt hw
  have hx0 := hx
  obtain ⟨va, vc, rfl, hxl, _⟩ := hx0
  obtain ⟨ca, cc, rfl⟩ := hcvl
  have hokr : ∀ (k : Nat) (hk : k < roots.length), 0 ≤ roots[k] ∧ roots[k] < ns.length := fun k hk => by
    have := (List.all_eq_true.1 hok) roots[k] (List.getElem_mem hk)
    simpa using this
  refine fit43.calls rfl ?_
  unfold ir43
  (try simp only [go_sem, Nat.reduceAdd, Nat.reduceEqDiff, Nat.reduceLT, Nat.reduceLeDiff, Nat.reduceMul, Nat.zero_add, reduceCtorEq, ↓reduceIte, List.length_cons, List.length_nil, List.set_cons_zero, List.set_cons_succ, List.take_zero, List.take_succ_cons, List.drop_zero, List.drop_succ_cons, List.take_nil, List.drop_nil, List.nil_append, List.cons_append, List.append_nil, or_false, false_or, or_true, true_or, false_implies, true_implies, and_true, true_and, and_self, Bool.and_true, Bool.true_and, cell_of ha])
  refine e_ms1 (n := ns.length) rfl (by omega) (by omega) ?_
  intro w1 hb1 hm1 hs1
  have hri0 : RI ns w w1 w.heap.size [] (.slice none 0 0) := by
    refine ⟨met_nil ns, hm1, Nat.le_refl _, ?_, none, Own.nil _ _ _, fun b h => by cases h⟩
    rw [hb1]; congr 3
    apply List.ext_getElem?; intro j
    simp only [metL, List.getElem?_replicate, List.getElem?_map, List.not_mem_nil, decide_false]
    split
    · rename_i h; rw [List.getElem?_eq_getElem (by simpa using h)]; rfl
    · rename_i h; rw [List.getElem?_eq_none (by simp; omega)]; rfl
  (try simp only [go_sem, Nat.reduceAdd, Nat.reduceEqDiff, Nat.reduceLT, Nat.reduceLeDiff, Nat.reduceMul, Nat.zero_add, reduceCtorEq, ↓reduceIte, List.length_cons, List.length_nil, List.set_cons_zero, List.set_cons_succ, List.take_zero, List.take_succ_cons, List.drop_zero, List.drop_succ_cons, List.take_nil, List.drop_nil, List.nil_append, List.cons_append, List.append_nil, or_false, false_or, or_true, true_or, false_implies, true_implies, and_true, true_and, and_self, Bool.and_true, Bool.true_and])
  refine ir_loop (fun m ρ w' => ∃ (k : Nat) (ov : Value), m = roots.length - k ∧ k ≤ roots.length ∧ RI ns w w' w.heap.size (meets ns [] (roots.take k)) ov ∧
    ρ = [(0, .pointer (some ⟨a, 0, none⟩)), (1, .slice va roots.length vc), (5, ov), (6, .slice (some ⟨w.heap.size, 0, none⟩) ns.length ns.length), (7, I k)]) roots.length
    ⟨0, _, rfl, by omega, hri0, rfl⟩ ?_
  rintro m ρ w2 ⟨k, ov, rfl, hk, ⟨i1, i2, i3, i4, fp, i5, i6⟩, rfl⟩
  unfold ir43L1
  (try simp only [go_sem, Nat.reduceAdd, Nat.reduceEqDiff, Nat.reduceLT, Nat.reduceLeDiff, Nat.reduceMul, Nat.zero_add, reduceCtorEq, ↓reduceIte, List.length_cons, List.length_nil, List.set_cons_zero, List.set_cons_succ, List.take_zero, List.take_succ_cons, List.drop_zero, List.drop_succ_cons, List.take_nil, List.drop_nil, List.nil_append, List.cons_append, List.append_nil, or_false, false_or, or_true, true_or, false_implies, true_implies, and_true, true_and, and_self, Bool.and_true, Bool.true_and])
  refine ir_cond rfl (fun hlt => ?_) (fun hlt => ?_)
  · have hlt' : k < roots.length := by simpa using hlt
    obtain ⟨_, _, hve, _, hxx⟩ := hx.mod i2 (fun _ _ h => h)
    cases hve
    obtain ⟨ad, rfl, had⟩ := hxx k hlt'
    have b1 : (0 : Int) ≤ k ∧ (k : Int) < roots.length := by omega
    have hr := hokr k hlt'
    have hrn : roots[k] = ((roots[k].toNat : Nat) : Int) := by omega
    rw [hrn] at had
    have hmt := meets_take ns roots [] (k := k) (a := roots[k]) (by simp [hlt'])
    have hwk : IntKind.i64.wrap ((k : Int) + 1) = ((k + 1 : Nat) : Int) := by rw [wrap_in] <;> omega
    (try simp only [go_sem, Nat.reduceAdd, Nat.reduceEqDiff, Nat.reduceLT, Nat.reduceLeDiff, Nat.reduceMul, Nat.zero_add, reduceCtorEq, ↓reduceIte, List.length_cons, List.length_nil, List.set_cons_zero, List.set_cons_succ, List.take_zero, List.take_succ_cons, List.drop_zero, List.drop_succ_cons, List.take_nil, List.drop_nil, List.nil_append, List.cons_append, List.append_nil, or_false, false_or, or_true, true_or, false_implies, true_implies, and_true, true_and, and_self, Bool.and_true, Bool.true_and, Nat.mul_one, Int.toNat_natCast, Int.toNat_zero, Nat.sub_zero, Nat.sub_self, b1, had])
    refine e_call (by rfl) ?_
    refine (rover_ok a 0 ns hw hn w2 F T x1 x3 _ (i2.at ha (fun h => h)) (hfr.mod i2 (fun _ _ h => h)) roots[k].toNat (by omega)).mono ?_
    rintro r _ ⟨rfl, rfl⟩
    have hol : over ns roots[k].toNat < ns.length := ov_lt hf (by omega)
    have b2 : (0 : Int) ≤ (over ns roots[k].toNat : Nat) ∧ ((over ns roots[k].toNat : Nat) : Int) < ns.length := by omega
    have hmat : w2.cell? ⟨w.heap.size, over ns roots[k].toNat, none⟩ = some (.bool (decide (over ns roots[k].toNat ∈ meets ns [] (roots.take k)))) := by
      rw [cell_of i4]; simpa using metL_at hol
    (try simp only [go_sem, Nat.reduceAdd, Nat.reduceEqDiff, Nat.reduceLT, Nat.reduceLeDiff, Nat.reduceMul, Nat.zero_add, reduceCtorEq, ↓reduceIte, List.length_cons, List.length_nil, List.set_cons_zero, List.set_cons_succ, List.take_zero, List.take_succ_cons, List.drop_zero, List.drop_succ_cons, List.take_nil, List.drop_nil, List.nil_append, List.cons_append, List.append_nil, or_false, false_or, or_true, true_or, false_implies, true_implies, and_true, true_and, and_self, Bool.and_true, Bool.true_and, Nat.mul_one, Int.toNat_natCast, Int.toNat_zero, Nat.sub_zero, Nat.sub_self, b2, hmat])
    refine ir_cond rfl (fun hc => ?_) (fun hc => ?_)
    · have hno : over ns roots[k].toNat ∉ meets ns [] (roots.take k) := by simpa using hc
      have hmeet : meet ns (meets ns [] (roots.take k)) roots[k].toNat = meets ns [] (roots.take k) ++ [over ns roots[k].toNat] := by simp [meet, hno]
      (try simp only [go_sem, Nat.reduceAdd, Nat.reduceEqDiff, Nat.reduceLT, Nat.reduceLeDiff, Nat.reduceMul, Nat.zero_add, reduceCtorEq, ↓reduceIte, List.length_cons, List.length_nil, List.set_cons_zero, List.set_cons_succ, List.take_zero, List.take_succ_cons, List.drop_zero, List.drop_succ_cons, List.take_nil, List.drop_nil, List.nil_append, List.cons_append, List.append_nil, or_false, false_or, or_true, true_or, false_implies, true_implies, and_true, true_and, and_self, Bool.and_true, Bool.true_and, Nat.mul_one, Int.toNat_natCast, Int.toNat_zero, Nat.sub_zero, Nat.sub_self, b2])
      refine e_st1 (off := over ns roots[k].toNat) rfl rfl i4 rfl (by simp [metL]; exact hol) ?_
      intro w3 hb3 hm3 hs3
      rw [metL_set hol] at hb3
      have o3 := i5.mod hm3 (fun b hb hh => own_kind i5 hb (hh ▸ i4) (by omega))
      (try simp only [go_sem, Nat.reduceAdd, Nat.reduceEqDiff, Nat.reduceLT, Nat.reduceLeDiff, Nat.reduceMul, Nat.zero_add, reduceCtorEq, ↓reduceIte, List.length_cons, List.length_nil, List.set_cons_zero, List.set_cons_succ, List.take_zero, List.take_succ_cons, List.drop_zero, List.drop_succ_cons, List.take_nil, List.drop_nil, List.nil_append, List.cons_append, List.append_nil, or_false, false_or, or_true, true_or, false_implies, true_implies, and_true, true_and, and_self, Bool.and_true, Bool.true_and])
      refine e_bs (by rfl) (by (try simp only [go_sem, Nat.reduceAdd, Nat.reduceEqDiff, Nat.reduceLT, Nat.reduceLeDiff, Nat.reduceMul, Nat.zero_add, reduceCtorEq, ↓reduceIte, List.length_cons, List.length_nil, List.set_cons_zero, List.set_cons_succ, List.take_zero, List.take_succ_cons, List.drop_zero, List.drop_succ_cons, List.take_nil, List.drop_nil, List.nil_append, List.cons_append, List.append_nil, or_false, false_or, or_true, true_or, false_implies, true_implies, and_true, true_and, and_self, Bool.and_true, Bool.true_and]); rfl) ?_
      intro w4 hb4 hm4 hs4
      have o4 := o3.mod hm4 (fun _ _ h => h)
      obtain ⟨oa, oc, rfl, _⟩ := o4.val
      have hml := met_len i1
      (try simp only [go_sem, Nat.reduceAdd, Nat.reduceEqDiff, Nat.reduceLT, Nat.reduceLeDiff, Nat.reduceMul, Nat.zero_add, reduceCtorEq, ↓reduceIte, List.length_cons, List.length_nil, List.set_cons_zero, List.set_cons_succ, List.take_zero, List.take_succ_cons, List.drop_zero, List.drop_succ_cons, List.take_nil, List.drop_nil, List.nil_append, List.cons_append, List.append_nil, or_false, false_or, or_true, true_or, false_implies, true_implies, and_true, true_and, and_self, Bool.and_true, Bool.true_and])
      refine e_ap (m := 1) (news := [I (over ns roots[k].toNat : Nat)]) rfl o4 rfl (fun h => by cases h) (rd_block hb4) (by simp [Value.oneCell']) rfl (by omega) (by omega) ?_
      intro v5 w5 fp5 ho5 hm5 hf5
      have hb5 := hm5.at (hm4.at hb3 (fun h => h)) (own_ne o4 (hm4.at hb3 (fun h => h)) (by omega))
      have s3 := i2.size
      (try simp only [go_sem, Nat.reduceAdd, Nat.reduceEqDiff, Nat.reduceLT, Nat.reduceLeDiff, Nat.reduceMul, Nat.zero_add, reduceCtorEq, ↓reduceIte, List.length_cons, List.length_nil, List.set_cons_zero, List.set_cons_succ, List.take_zero, List.take_succ_cons, List.drop_zero, List.drop_succ_cons, List.take_nil, List.drop_nil, List.nil_append, List.cons_append, List.append_nil, or_false, false_or, or_true, true_or, false_implies, true_implies, and_true, true_and, and_self, Bool.and_true, Bool.true_and, hwk])
      refine ⟨_, ?_, k + 1, _, rfl, by omega, ⟨?_, ?_, i3, ?_, fp5, ?_, ?_⟩, rfl⟩
      · omega
      · rw [hmt]; exact met_meet hw i1 (by omega)
      · exact ((i2.step hm3 (fun b hb hlt => by omega)).step hm4 (fun b hb _ => hb)).step hm5 (fun b hb hlt => by have := i6 b hb; omega)
      · rw [hmt, hmeet]; exact hb5
      · rw [hmt, hmeet]; simpa using ho5
      · intro b hb
        rcases hf5 b hb with h | h
        · exact i6 b h
        · omega
    · have hyes : over ns roots[k].toNat ∈ meets ns [] (roots.take k) := by simpa using hc
      have hmeet : meet ns (meets ns [] (roots.take k)) roots[k].toNat = meets ns [] (roots.take k) := by simp [meet, hyes]
      (try simp only [go_sem, Nat.reduceAdd, Nat.reduceEqDiff, Nat.reduceLT, Nat.reduceLeDiff, Nat.reduceMul, Nat.zero_add, reduceCtorEq, ↓reduceIte, List.length_cons, List.length_nil, List.set_cons_zero, List.set_cons_succ, List.take_zero, List.take_succ_cons, List.drop_zero, List.drop_succ_cons, List.take_nil, List.drop_nil, List.nil_append, List.cons_append, List.append_nil, or_false, false_or, or_true, true_or, false_implies, true_implies, and_true, true_and, and_self, Bool.and_true, Bool.true_and, hwk])
      refine ⟨_, ?_, k + 1, _, rfl, by omega, ⟨?_, i2, i3, ?_, fp, ?_, i6⟩, rfl⟩
      · omega
      · rw [hmt, hmeet]; exact i1
      · rw [hmt, hmeet]; exact i4
      · rw [hmt, hmeet]; exact i5
  · have hlt' : k = roots.length := by simp at hlt; omega
    subst hlt'
    (try simp only [go_sem, Nat.reduceAdd, Nat.reduceEqDiff, Nat.reduceLT, Nat.reduceLeDiff, Nat.reduceMul, Nat.zero_add, reduceCtorEq, ↓reduceIte, List.length_cons, List.length_nil, List.set_cons_zero, List.set_cons_succ, List.take_zero, List.take_succ_cons, List.drop_zero, List.drop_succ_cons, List.take_nil, List.drop_nil, List.nil_append, List.cons_append, List.append_nil, or_false, false_or, or_true, true_or, false_implies, true_implies, and_true, true_and, and_self, Bool.and_true, Bool.true_and])
    rw [List.take_length] at i1 i4 i5
    refine ir_loop (fun m ρ w' => ∃ (i f : Nat) (out : List Nat) (ov : Value), m = ns.length + 1 - i ∧ f + i = ns.length + 1 ∧ i ≤ out.length ∧ reach ns f i out = reached ns roots ∧ RI ns w w' w.heap.size out ov ∧
      ρ = [(0, .pointer (some ⟨a, 0, none⟩)), (5, ov), (6, .slice (some ⟨w.heap.size, 0, none⟩) ns.length ns.length), (9, I i)]) (ns.length + 1)
      ⟨0, ns.length + 1, _, _, rfl, rfl, Nat.zero_le _, rfl, ⟨i1, i2, i3, i4, fp, i5, i6⟩, rfl⟩ ?_
    clear i1 i2 i3 i4 i5 i6
    rintro m ρ w3 ⟨i, f, out, ov, rfl, hfi, hio, hrch, ⟨i1, i2, i3, i4, fp, i5, i6⟩, rfl⟩
    unfold ir43L3
    obtain ⟨oa, oc, rfl, _⟩ := i5.val
    have hml := met_len i1
    have ha3 := i2.at ha (fun h => h)
    have hfr3 := hfr.mod i2 (fun _ _ h => h)
    (try simp only [go_sem, Nat.reduceAdd, Nat.reduceEqDiff, Nat.reduceLT, Nat.reduceLeDiff, Nat.reduceMul, Nat.zero_add, reduceCtorEq, ↓reduceIte, List.length_cons, List.length_nil, List.set_cons_zero, List.set_cons_succ, List.take_zero, List.take_succ_cons, List.drop_zero, List.drop_succ_cons, List.take_nil, List.drop_nil, List.nil_append, List.cons_append, List.append_nil, or_false, false_or, or_true, true_or, false_implies, true_implies, and_true, true_and, and_self, Bool.and_true, Bool.true_and])
    refine ir_cond rfl (fun hlt => ?_) (fun hlt => ?_)
    · have hlt' : i < out.length := by simpa using hlt
      have hxo : out[i] < ns.length := (i1.2 _ (List.getElem_mem hlt')).1
      have hok2 := (wf_at hw hxo).2
      obtain ⟨f, rfl⟩ : ∃ f', f = f' + 1 := ⟨f - 1, by omega⟩
      rw [reach_step ns f i out hlt'] at hrch
      obtain ⟨bc, cc', xv, hce, hln, hxi, hxb⟩ := from_ln hfr3 hargs hxo
      obtain ⟨xa, xc, rfl, hxal, _⟩ := id hxi
      have hF : ∀ b, F b → b < w.heap.size := by obtain ⟨_, _, _, _, _, _, h⟩ := hfr; exact h
      cases hce
      obtain ⟨bc2, cc2, v2, hce2, c0, _⟩ := from_at hfr3 hargs hxo
      cases hce2
      have hln : vLN w3.drew 3 (.pointer (some ⟨bc, out[i] * 3, none⟩)) = some (.agg #[I (ndAt ns out[i]).kind, I (ndAt ns out[i]).num, .slice xa (ndAt ns out[i]).args.length xc]) := hln
      have b1 : (0 : Int) ≤ i ∧ (i : Int) < out.length := by omega
      have b2 : (0 : Int) ≤ (out[i] : Nat) ∧ ((out[i] : Nat) : Int) < ns.length := by omega
      obtain ⟨ob, oc', spo, hoe, rfl, orow, _, _⟩ := i5.pos (by omega)
      cases hoe
      have hoc : w3.cell? ⟨ob, i, none⟩ = some (I (out[i] : Nat)) := by
        rw [cell_of orow, List.getElem?_toArray, List.getElem?_append_left (by simpa using hlt')]; simp [hlt']
      (try simp only [go_sem, Nat.reduceAdd, Nat.reduceEqDiff, Nat.reduceLT, Nat.reduceLeDiff, Nat.reduceMul, Nat.zero_add, reduceCtorEq, ↓reduceIte, List.length_cons, List.length_nil, List.set_cons_zero, List.set_cons_succ, List.take_zero, List.take_succ_cons, List.drop_zero, List.drop_succ_cons, List.take_nil, List.drop_nil, List.nil_append, List.cons_append, List.append_nil, or_false, false_or, or_true, true_or, false_implies, true_implies, and_true, true_and, and_self, Bool.and_true, Bool.true_and, Nat.mul_one, Int.toNat_natCast, Int.toNat_zero, Nat.sub_zero, Nat.sub_self, cell_of ha3, b1, hoc, b2, hln])
      refine e_al ?_
      intro w4 hb4 hm4 hs4
      have hm4 : Mod (fun _ => False) w3 w4 := hm4.of_drew
      have hs4 : w4.heap.size = w3.heap.size + 1 := hs4
      have hb4 : w4.heap[w3.heap.size]? = some (.cells #[I 0, I 0, .slice none 0 0] 35 (0, 0)) := hb4
      (try simp only [go_sem, Nat.reduceAdd, Nat.reduceEqDiff, Nat.reduceLT, Nat.reduceLeDiff, Nat.reduceMul, Nat.zero_add, reduceCtorEq, ↓reduceIte, List.length_cons, List.length_nil, List.set_cons_zero, List.set_cons_succ, List.take_zero, List.take_succ_cons, List.drop_zero, List.drop_succ_cons, List.take_nil, List.drop_nil, List.nil_append, List.cons_append, List.append_nil, or_false, false_or, or_true, true_or, false_implies, true_implies, and_true, true_and, and_self, Bool.and_true, Bool.true_and])
      refine ⟨⟨hm4.old _ (World.block_lt_of_cell? _ _ c0) (fun h => h), hm4.old _ (lt_of_heap orow) (fun h => h), hm4.old _ (lt_of_heap ha3) (fun h => h)⟩, ?_⟩
      refine e_sta rfl rfl hb4 rfl rfl (by simp [Value.oneCell']) ?_
      intro w5 hb5 hm5 hs5
      have s23 := i2.size
      have hm35 : Mod (fun _ => False) w3 w5 := hm4.step hm5 (fun b hb hlt => by omega)
      (try simp only [go_sem, Nat.reduceAdd, Nat.reduceEqDiff, Nat.reduceLT, Nat.reduceLeDiff, Nat.reduceMul, Nat.zero_add, reduceCtorEq, ↓reduceIte, List.length_cons, List.length_nil, List.set_cons_zero, List.set_cons_succ, List.take_zero, List.take_succ_cons, List.drop_zero, List.drop_succ_cons, List.take_nil, List.drop_nil, List.nil_append, List.cons_append, List.append_nil, or_false, false_or, or_true, true_or, false_implies, true_implies, and_true, true_and, and_self, Bool.and_true, Bool.true_and])
      have hpreF : meets ns out (ndAt ns out[i]).args <+: reached ns roots := by rw [← hrch]; exact reach_pre ns _ _ _
      have hA8 : (ndAt ns out[i]).args.length ≤ 8 := by
        have hm := (wf_at hw hxo).1
        simp only [Nd.may, mayB, decide_eq_true_eq] at hm
        omega
      have hne : ∀ {w' : World} {ov : Value} {xs : List Value} {n : Nat} {fp : Option Nat}, Own w' 3 1 ov xs n fp → (∃ cs, w'.heap[w3.heap.size]? = some (.cells cs 35 (0, 0))) → fp ≠ some w3.heap.size := fun h ⟨cs, hc⟩ => own_ne h hc (by omega)
      refine ir_loop (fun m ρ w' => ∃ (k : Nat) (ov : Value), m = (ndAt ns out[i]).args.length - k ∧ k ≤ (ndAt ns out[i]).args.length ∧ RI ns w w' w.heap.size (meets ns out ((ndAt ns out[i]).args.take k)) ov ∧
        w'.heap[w3.heap.size]? = some (.cells #[I (ndAt ns out[i]).kind, I (ndAt ns out[i]).num, .slice xa (ndAt ns out[i]).args.length xc] 35 (0, 0)) ∧ Ints w' (.slice xa (ndAt ns out[i]).args.length xc) (ndAt ns out[i]).args ∧
        ρ = [(0, .pointer (some ⟨a, 0, none⟩)), (5, ov), (6, .slice (some ⟨w.heap.size, 0, none⟩) ns.length ns.length), (9, I i), (10, .pointer (some ⟨w3.heap.size, 0, none⟩)), (11, I k)]) (ndAt ns out[i]).args.length
        ⟨0, _, rfl, Nat.zero_le _, ⟨i1, i2.step hm35 (fun _ h _ => h), i3, hm35.at i4 (fun h => h), _, i5.mod hm35 (fun _ _ h => h), i6⟩, hb5, hxi.mod hm35 (fun _ _ h => h), rfl⟩ ?_
      clear i1 i2 i3 i4 i5
      rintro m ρ w6 ⟨k, ov, rfl, hk, ⟨i1, i2, i3, i4, fp, i5, i6'⟩, hbx, hxi6, rfl⟩
      unfold ir43L2
      (try simp only [go_sem, Nat.reduceAdd, Nat.reduceEqDiff, Nat.reduceLT, Nat.reduceLeDiff, Nat.reduceMul, Nat.zero_add, reduceCtorEq, ↓reduceIte, List.length_cons, List.length_nil, List.set_cons_zero, List.set_cons_succ, List.take_zero, List.take_succ_cons, List.drop_zero, List.drop_succ_cons, List.take_nil, List.drop_nil, List.nil_append, List.cons_append, List.append_nil, or_false, false_or, or_true, true_or, false_implies, true_implies, and_true, true_and, and_self, Bool.and_true, Bool.true_and, cell_of hbx])
      refine ir_cond rfl (fun hkl => ?_) (fun hkl => ?_)
      · have hkl' : k < (ndAt ns out[i]).args.length := by simpa using hkl
        obtain ⟨_, _, hve, _, hxx⟩ := id hxi6
        cases hve
        obtain ⟨ad, rfl, had⟩ := hxx k hkl'
        have b3 : (0 : Int) ≤ k ∧ (k : Int) < (ndAt ns out[i]).args.length := by omega
        have hr : 0 ≤ (ndAt ns out[i]).args[k] ∧ (ndAt ns out[i]).args[k] < ns.length := by
          have := (List.all_eq_true.1 hok2) (ndAt ns out[i]).args[k] (List.getElem_mem hkl')
          simpa using this
        have hrn : (ndAt ns out[i]).args[k] = (((ndAt ns out[i]).args[k].toNat : Nat) : Int) := by omega
        have hmt := meets_take ns (ndAt ns out[i]).args out (k := k) (a := (ndAt ns out[i]).args[k]) (by simp [hkl'])
        generalize hP : (ndAt ns out[i]).args[k].toNat = P at hrn hmt
        have hPl : P < ns.length := by omega
        rw [hrn] at had
        have hwk : IntKind.i64.wrap ((k : Int) + 1) = ((k + 1 : Nat) : Int) := by rw [wrap_in] <;> omega
        (try simp only [go_sem, Nat.reduceAdd, Nat.reduceEqDiff, Nat.reduceLT, Nat.reduceLeDiff, Nat.reduceMul, Nat.zero_add, reduceCtorEq, ↓reduceIte, List.length_cons, List.length_nil, List.set_cons_zero, List.set_cons_succ, List.take_zero, List.take_succ_cons, List.drop_zero, List.drop_succ_cons, List.take_nil, List.drop_nil, List.nil_append, List.cons_append, List.append_nil, or_false, false_or, or_true, true_or, false_implies, true_implies, and_true, true_and, and_self, Bool.and_true, Bool.true_and, Nat.mul_one, Int.toNat_natCast, Int.toNat_zero, Nat.sub_zero, Nat.sub_self, cell_of hbx, b3, had])
        refine e_call (by rfl) ?_
        refine (rover_ok a 0 ns hw hn w6 F T x1 x3 _ (i2.at ha (fun h => h)) (hfr.mod i2 (fun _ _ h => h)) P hPl).mono ?_
        rintro r _ ⟨rfl, rfl⟩
        have hol : over ns P < ns.length := ov_lt hf hPl
        have b2 : (0 : Int) ≤ (over ns P : Nat) ∧ ((over ns P : Nat) : Int) < ns.length := by omega
        have hmat : w6.cell? ⟨w.heap.size, over ns P, none⟩ = some (.bool (decide (over ns P ∈ meets ns out ((ndAt ns out[i]).args.take k)))) := by
          rw [cell_of i4]; simpa using metL_at hol
        (try simp only [go_sem, Nat.reduceAdd, Nat.reduceEqDiff, Nat.reduceLT, Nat.reduceLeDiff, Nat.reduceMul, Nat.zero_add, reduceCtorEq, ↓reduceIte, List.length_cons, List.length_nil, List.set_cons_zero, List.set_cons_succ, List.take_zero, List.take_succ_cons, List.drop_zero, List.drop_succ_cons, List.take_nil, List.drop_nil, List.nil_append, List.cons_append, List.append_nil, or_false, false_or, or_true, true_or, false_implies, true_implies, and_true, true_and, and_self, Bool.and_true, Bool.true_and, Nat.mul_one, Int.toNat_natCast, Int.toNat_zero, Nat.sub_zero, Nat.sub_self, b2, hmat])
        refine ir_cond rfl (fun hc => ?_) (fun hc => ?_)
        · have hno : over ns P ∉ meets ns out ((ndAt ns out[i]).args.take k) := by simpa using hc
          have hmeet : meet ns (meets ns out ((ndAt ns out[i]).args.take k)) P = meets ns out ((ndAt ns out[i]).args.take k) ++ [over ns P] := by simp [meet, hno]
          (try simp only [go_sem, Nat.reduceAdd, Nat.reduceEqDiff, Nat.reduceLT, Nat.reduceLeDiff, Nat.reduceMul, Nat.zero_add, reduceCtorEq, ↓reduceIte, List.length_cons, List.length_nil, List.set_cons_zero, List.set_cons_succ, List.take_zero, List.take_succ_cons, List.drop_zero, List.drop_succ_cons, List.take_nil, List.drop_nil, List.nil_append, List.cons_append, List.append_nil, or_false, false_or, or_true, true_or, false_implies, true_implies, and_true, true_and, and_self, Bool.and_true, Bool.true_and, Nat.mul_one, Int.toNat_natCast, Int.toNat_zero, Nat.sub_zero, Nat.sub_self, b2])
          refine e_st1 (off := over ns P) rfl rfl i4 rfl (by simp [metL]; exact hol) ?_
          intro w7 hb7 hm7 hs7
          rw [metL_set hol] at hb7
          have o7 := i5.mod hm7 (fun b hb hh => own_kind i5 hb (hh ▸ i4) (by omega))
          have hbx7 := hm7.at hbx (fun hh => kind_ne hbx (hh ▸ i4) (by omega))
          (try simp only [go_sem, Nat.reduceAdd, Nat.reduceEqDiff, Nat.reduceLT, Nat.reduceLeDiff, Nat.reduceMul, Nat.zero_add, reduceCtorEq, ↓reduceIte, List.length_cons, List.length_nil, List.set_cons_zero, List.set_cons_succ, List.take_zero, List.take_succ_cons, List.drop_zero, List.drop_succ_cons, List.take_nil, List.drop_nil, List.nil_append, List.cons_append, List.append_nil, or_false, false_or, or_true, true_or, false_implies, true_implies, and_true, true_and, and_self, Bool.and_true, Bool.true_and])
          refine e_bs (by rfl) (by (try simp only [go_sem, Nat.reduceAdd, Nat.reduceEqDiff, Nat.reduceLT, Nat.reduceLeDiff, Nat.reduceMul, Nat.zero_add, reduceCtorEq, ↓reduceIte, List.length_cons, List.length_nil, List.set_cons_zero, List.set_cons_succ, List.take_zero, List.take_succ_cons, List.drop_zero, List.drop_succ_cons, List.take_nil, List.drop_nil, List.nil_append, List.cons_append, List.append_nil, or_false, false_or, or_true, true_or, false_implies, true_implies, and_true, true_and, and_self, Bool.and_true, Bool.true_and]); rfl) ?_
          intro w8 hb8 hm8 hs8
          have o8 := o7.mod hm8 (fun _ _ h => h)
          obtain ⟨oa', oc'', rfl, _⟩ := o8.val
          have hml' := met_len i1
          (try simp only [go_sem, Nat.reduceAdd, Nat.reduceEqDiff, Nat.reduceLT, Nat.reduceLeDiff, Nat.reduceMul, Nat.zero_add, reduceCtorEq, ↓reduceIte, List.length_cons, List.length_nil, List.set_cons_zero, List.set_cons_succ, List.take_zero, List.take_succ_cons, List.drop_zero, List.drop_succ_cons, List.take_nil, List.drop_nil, List.nil_append, List.cons_append, List.append_nil, or_false, false_or, or_true, true_or, false_implies, true_implies, and_true, true_and, and_self, Bool.and_true, Bool.true_and])
          refine e_ap (m := 1) (news := [I (over ns P : Nat)]) rfl o8 rfl (fun h => by cases h) (rd_block hb8) (by simp [Value.oneCell']) rfl (by omega) (by omega) ?_
          intro v9 w9 fp9 ho9 hm9 hf9
          have hbx8 := hm8.at hbx7 (fun h => h)
          have hb9 := hm9.at (hm8.at hb7 (fun h => h)) (own_ne o8 (hm8.at hb7 (fun h => h)) (by omega))
          have s6 := i2.size
          (try simp only [go_sem, Nat.reduceAdd, Nat.reduceEqDiff, Nat.reduceLT, Nat.reduceLeDiff, Nat.reduceMul, Nat.zero_add, reduceCtorEq, ↓reduceIte, List.length_cons, List.length_nil, List.set_cons_zero, List.set_cons_succ, List.take_zero, List.take_succ_cons, List.drop_zero, List.drop_succ_cons, List.take_nil, List.drop_nil, List.nil_append, List.cons_append, List.append_nil, or_false, false_or, or_true, true_or, false_implies, true_implies, and_true, true_and, and_self, Bool.and_true, Bool.true_and, hwk])
          refine ⟨_, ?_, k + 1, _, rfl, by omega, ⟨?_, ?_, i3, ?_, fp9, ?_, ?_⟩, hm9.at hbx8 (own_ne o8 hbx8 (by omega)), ?_, rfl⟩
          · omega
          · rw [hmt]; exact met_meet hw i1 hPl
          · exact ((i2.step hm7 (fun b hb hlt => by omega)).step hm8 (fun b hb _ => hb)).step hm9 (fun b hb hlt => by have := i6' b hb; omega)
          · rw [hmt, hmeet]; exact hb9
          · rw [hmt, hmeet]; simpa using ho9
          · intro b hb
            rcases hf9 b hb with h | h
            · exact i6' b h
            · omega
          · refine ((hxi6.mod hm7 (fun b hb hh => ?_)).mod hm8 (fun _ _ h => h)).mod hm9 (fun b hb hh => ?_)
            · have := hF b (hxb b hb); omega
            · have := hF b (hxb b hb); have := i6' b hh; omega
        · have hyes : over ns P ∈ meets ns out ((ndAt ns out[i]).args.take k) := by simpa using hc
          have hmeet : meet ns (meets ns out ((ndAt ns out[i]).args.take k)) P = meets ns out ((ndAt ns out[i]).args.take k) := by simp [meet, hyes]
          (try simp only [go_sem, Nat.reduceAdd, Nat.reduceEqDiff, Nat.reduceLT, Nat.reduceLeDiff, Nat.reduceMul, Nat.zero_add, reduceCtorEq, ↓reduceIte, List.length_cons, List.length_nil, List.set_cons_zero, List.set_cons_succ, List.take_zero, List.take_succ_cons, List.drop_zero, List.drop_succ_cons, List.take_nil, List.drop_nil, List.nil_append, List.cons_append, List.append_nil, or_false, false_or, or_true, true_or, false_implies, true_implies, and_true, true_and, and_self, Bool.and_true, Bool.true_and, hwk])
          refine ⟨_, ?_, k + 1, _, rfl, by omega, ⟨?_, i2, i3, ?_, fp, ?_, i6'⟩, hbx, hxi6, rfl⟩
          · omega
          · rw [hmt, hmeet]; exact i1
          · rw [hmt, hmeet]; exact i4
          · rw [hmt, hmeet]; exact i5
      · have hkl' : k = (ndAt ns out[i]).args.length := by simp at hkl; omega
        subst hkl'
        have hwi : IntKind.i64.wrap ((i : Int) + 1) = ((i + 1 : Nat) : Int) := by rw [wrap_in] <;> omega
        (try simp only [go_sem, Nat.reduceAdd, Nat.reduceEqDiff, Nat.reduceLT, Nat.reduceLeDiff, Nat.reduceMul, Nat.zero_add, reduceCtorEq, ↓reduceIte, List.length_cons, List.length_nil, List.set_cons_zero, List.set_cons_succ, List.take_zero, List.take_succ_cons, List.drop_zero, List.drop_succ_cons, List.take_nil, List.drop_nil, List.nil_append, List.cons_append, List.append_nil, or_false, false_or, or_true, true_or, false_implies, true_implies, and_true, true_and, and_self, Bool.and_true, Bool.true_and, hwi])
        rw [List.take_length] at i1 i4 i5
        have := (meets_pre ns (ndAt ns out[i]).args out).length_le
        refine ⟨_, ?_, i + 1, f, meets ns out (ndAt ns out[i]).args, _, rfl, by omega, by omega, hrch, ⟨i1, i2, i3, i4, fp, i5, i6'⟩, rfl⟩
        omega
    · have hlt' : out.length ≤ i := by simp at hlt; omega
      rw [reach_end ns f i out hlt'] at hrch
      subst hrch
      (try simp only [go_sem, Nat.reduceAdd, Nat.reduceEqDiff, Nat.reduceLT, Nat.reduceLeDiff, Nat.reduceMul, Nat.zero_add, reduceCtorEq, ↓reduceIte, List.length_cons, List.length_nil, List.set_cons_zero, List.set_cons_succ, List.take_zero, List.take_succ_cons, List.drop_zero, List.drop_succ_cons, List.take_nil, List.drop_nil, List.nil_append, List.cons_append, List.append_nil, or_false, false_or, or_true, true_or, false_implies, true_implies, and_true, true_and, and_self, Bool.and_true, Bool.true_and])
      exact ⟨i2, fp, i5, i6⟩
end Go.Proofs.Ytnagmcdlepcgnaa
