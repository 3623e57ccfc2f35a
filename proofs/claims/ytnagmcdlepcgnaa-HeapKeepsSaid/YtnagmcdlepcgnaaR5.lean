/- Heap, the reference: Collect. -/
import Derived.Test.YtnagmcdlepcgnaaR4
set_option linter.unusedSimpArgs false
set_option linter.unusedVariables false
namespace Go.Proofs.Ytnagmcdlepcgnaa
open Go Go.W

theorem meets_mem {ns : List Nd} : ∀ (l : List Int) {out : List Nat} {a : Int}, a ∈ l → over ns a.toNat ∈ meets ns out l := by
  intro l
  induction l with
  | nil => intro out a h; cases h
  | cons b l ih =>
    intro out a h
    rcases List.mem_cons.1 h with rfl | h
    · exact (meets_pre ns l (meet ns out a.toNat)).subset (mem_meet ns out a.toNat)
    · exact ih h
theorem reach_args {ns : List Nd} (hw : WF ns) : ∀ (f i : Nat) (out : List Nat), f + i = ns.length + 1 → Met ns out → i ≤ out.length → (∀ (j x : Nat), j < i → out[j]? = some x → ∀ a ∈ (ndAt ns x).args, over ns a.toNat ∈ out) →
    Met ns (reach ns f i out) ∧ ∀ x ∈ reach ns f i out, ∀ a ∈ (ndAt ns x).args, over ns a.toNat ∈ reach ns f i out := by
  intro f
  induction f with
  | zero => intro i out hf hm hi; have := met_len hm; omega
  | succ f ih =>
    intro i out hf hm hi hin
    rcases Nat.lt_or_ge i out.length with h | h
    · rw [reach_step ns f i out h]
      have hx := hm.2 out[i] (List.getElem_mem h)
      have hpre := meets_pre ns (ndAt ns out[i]).args out
      refine ih (i + 1) _ (by omega) (met_meets hw _ hm (wf_at hw hx.1).2) (by have := hpre.length_le; omega) ?_
      intro j x hj hjx a ha
      rcases Nat.lt_or_ge j i with hji | hji
      · have : out[j]? = some x := by
          obtain ⟨t, ht⟩ := hpre
          rw [← ht, List.getElem?_append_left (by omega)] at hjx; exact hjx
        exact hpre.subset (hin j x hji this a ha)
      · obtain rfl : j = i := by omega
        have : out[j]? = some x := by
          obtain ⟨t, ht⟩ := hpre
          rw [← ht, List.getElem?_append_left h] at hjx; exact hjx
        rw [List.getElem?_eq_getElem h] at this
        cases this
        exact meets_mem _ ha
    · rw [reach_end ns (f + 1) i out h]
      refine ⟨hm, ?_⟩
      intro x hx a ha
      obtain ⟨j, hj⟩ := List.getElem?_of_mem hx
      exact hin j x (by have := (List.getElem?_eq_some_iff.1 hj).1; omega) hj a ha
theorem reached_met {ns : List Nd} (hw : WF ns) {roots : List Int} (ho : okPl ns.length roots = true) : Met ns (reached ns roots) ∧ (∀ x ∈ reached ns roots, ∀ a ∈ (ndAt ns x).args, over ns a.toNat ∈ reached ns roots) ∧ ∀ a ∈ roots, over ns a.toNat ∈ reached ns roots := by
  have h := reach_args hw (ns.length + 1) 0 (meets ns [] roots) rfl (met_meets hw roots (met_nil ns) ho) (Nat.zero_le _) (fun j x h => by omega)
  exact ⟨h.1, h.2, fun a ha => (reach_pre ns _ _ _).subset (meets_mem roots ha)⟩

/-- The list of numbers, filled for the first k of out. -/
def NumL (n : Nat) (out : List Nat) (k : Nat) (nm : List Int) : Prop := nm.length = n ∧ ∀ (j x : Nat), j < k → out[j]? = some x → nm.getD x 0 = j
theorem numL_next {n : Nat} {out : List Nat} {k x : Nat} {nm : List Int} (h : NumL n out k nm) (hnd : out.Nodup) (hx : out[k]? = some x) (hxn : x < n) : NumL n out (k + 1) (nm.set x k) := by
  refine ⟨by simp [h.1], ?_⟩
  intro j y hj hy
  rw [getD_set _ _ _ _ (by rw [h.1]; exact hxn)]
  split
  · rename_i hxy; subst hxy
    have h1 := idx_of hnd hx
    have h2 := idx_of hnd hy
    omega
  · rename_i hxy
    refine h.2 j y ?_ hy
    rcases Nat.lt_or_ge j k with h1 | h1
    · exact h1
    · exfalso
      obtain rfl : j = k := by omega
      rw [hx] at hy; exact hxy (Option.some.inj hy)
theorem numL_at {n : Nat} {out : List Nat} {nm : List Int} (h : NumL n out out.length nm) {x : Nat} (hx : x ∈ out) : nm.getD x 0 = out.idxOf x := by
  have hlt := List.idxOf_lt_length_iff.2 hx
  exact h.2 _ x hlt (by rw [List.getElem?_eq_getElem hlt]; simp)

theorem rcol_ok (a : Nat) (size times : Int) (ns : List Nd) (F : Nat → Prop) (w : World) (v : Value) (roots : List Int) (h : ArenaAt 77 35 w a size times ns F) (hn : ns.length ≤ 1048576) (hw : WF ns) (hx : Ints w v roots) :
    CallsR Try.prog 41 [.pointer (some ⟨a, 0, none⟩), v] w (ColPost 77 35 a size times F w ns roots) := by
  have hargs := wf_args_le hw
  have hf := wf_nxt_lt hw
  have hx0 := hx
  obtain ⟨va, vc, rfl, hxl, _⟩ := hx0
  refine fit41.calls rfl ?_
  unfold ir41
  (try simp only [go_sem, Nat.reduceAdd, Nat.reduceEqDiff, Nat.reduceLT, Nat.reduceLeDiff, Nat.reduceMul, Nat.zero_add, reduceCtorEq, ↓reduceIte, List.length_cons, List.length_nil, List.set_cons_zero, List.set_cons_succ, List.take_zero, List.take_succ_cons, List.drop_zero, List.drop_succ_cons, List.take_nil, List.drop_nil, List.nil_append, List.cons_append, List.append_nil, or_false, false_or, or_true, true_or, false_implies, true_implies, and_true, true_and, and_self, Bool.and_true, Bool.true_and])
  refine e_call (by rfl) ?_
  refine (rplaces_ok a ns.length _ roots w h.has hx).mono ?_
  rintro r w1 ⟨rfl, hm1⟩
  (try simp only [go_sem, Nat.reduceAdd, Nat.reduceEqDiff, Nat.reduceLT, Nat.reduceLeDiff, Nat.reduceMul, Nat.zero_add, reduceCtorEq, ↓reduceIte, List.length_cons, List.length_nil, List.set_cons_zero, List.set_cons_succ, List.take_zero, List.take_succ_cons, List.drop_zero, List.drop_succ_cons, List.take_nil, List.drop_nil, List.nil_append, List.cons_append, List.append_nil, or_false, false_or, or_true, true_or, false_implies, true_implies, and_true, true_and, and_self, Bool.and_true, Bool.true_and])
  refine ir_cond rfl (fun hc => ?_) (fun hc => ?_)
  · have hc' : okPl ns.length roots = false := by simpa using hc
    (try simp only [go_sem, Nat.reduceAdd, Nat.reduceEqDiff, Nat.reduceLT, Nat.reduceLeDiff, Nat.reduceMul, Nat.zero_add, reduceCtorEq, ↓reduceIte, List.length_cons, List.length_nil, List.set_cons_zero, List.set_cons_succ, List.take_zero, List.take_succ_cons, List.drop_zero, List.drop_succ_cons, List.take_nil, List.drop_nil, List.nil_append, List.cons_append, List.append_nil, or_false, false_or, or_true, true_or, false_implies, true_implies, and_true, true_and, and_self, Bool.and_true, Bool.true_and])
    exact ⟨fun _ => ⟨rfl, hm1⟩, fun h => by rw [hc'] at h; cases h⟩
  have hc' : okPl ns.length roots = true := by simpa using hc
  obtain ⟨hmet, hcl, hcr⟩ := reached_met hw hc'
  obtain ⟨cv, fpc, ps, g1, g2, g3, g4, g5, g6, g7⟩ := id h
  have hFa : a < w.heap.size := lt_of_heap g1
  have hfr : FromAt 35 w cv ns F := ⟨fpc, ps, g3, g4, g5, g6, g7⟩
  obtain ⟨ca, cc, rfl, _, _⟩ := g3.val
  have ga1 := hm1.at g1 (fun h => h)
  (try simp only [go_sem, Nat.reduceAdd, Nat.reduceEqDiff, Nat.reduceLT, Nat.reduceLeDiff, Nat.reduceMul, Nat.zero_add, reduceCtorEq, ↓reduceIte, List.length_cons, List.length_nil, List.set_cons_zero, List.set_cons_succ, List.take_zero, List.take_succ_cons, List.drop_zero, List.drop_succ_cons, List.take_nil, List.drop_nil, List.nil_append, List.cons_append, List.append_nil, or_false, false_or, or_true, true_or, false_implies, true_implies, and_true, true_and, and_self, Bool.and_true, Bool.true_and])
  refine e_call (by rfl) ?_
  refine (rreached_ok a ns hw hn w1 F 77 _ _ _ _ roots ga1 (hfr.mod hm1 (fun _ _ h => h)) (hx.mod hm1 (fun _ _ h => h)) hc' ⟨ca, cc, rfl⟩).mono ?_
  generalize hout : reached ns roots = out at *
  rintro r w2 ⟨hm2, fpl, ol, hfl⟩
  have hml := met_len hmet
  have ga2 := hm2.at ga1 (fun h => h)
  have hm02 := hm1.trans hm2
  obtain ⟨la, lc, rfl, _, _⟩ := ol.val
  (try simp only [go_sem, Nat.reduceAdd, Nat.reduceEqDiff, Nat.reduceLT, Nat.reduceLeDiff, Nat.reduceMul, Nat.zero_add, reduceCtorEq, ↓reduceIte, List.length_cons, List.length_nil, List.set_cons_zero, List.set_cons_succ, List.take_zero, List.take_succ_cons, List.drop_zero, List.drop_succ_cons, List.take_nil, List.drop_nil, List.nil_append, List.cons_append, List.append_nil, or_false, false_or, or_true, true_or, false_implies, true_implies, and_true, true_and, and_self, Bool.and_true, Bool.true_and, cell_of ga2])
  refine e_ms1 (n := ns.length) rfl (by omega) (by omega) ?_
  intro w3 hb3 hm3 hs3
  have ol3 := ol.mod hm3 (fun _ _ h => h)
  have hm03 := hm02.trans hm3
  have hoi : ∀ (w' : World), Own w' 3 1 (.slice la out.length lc) (out.map (fun x : Nat => I x)) out.length fpl → ∀ i (hi : i < out.length), ∃ b, la = some ⟨b, 0, none⟩ ∧ w'.cell? ⟨b, i, none⟩ = some (I (out[i] : Nat)) := by
    intro w' ho i hi
    obtain ⟨ob, oc', spo, hoe, _, orow, _, _⟩ := ho.pos (by omega)
    cases hoe
    refine ⟨ob, rfl, ?_⟩
    rw [cell_of orow, List.getElem?_toArray, List.getElem?_append_left (by simpa using hi)]; simp [hi]
  have hnfl : fpl ≠ some w2.heap.size := fun hh => by have := ol.lt hh; omega
  (try simp only [go_sem, Nat.reduceAdd, Nat.reduceEqDiff, Nat.reduceLT, Nat.reduceLeDiff, Nat.reduceMul, Nat.zero_add, reduceCtorEq, ↓reduceIte, List.length_cons, List.length_nil, List.set_cons_zero, List.set_cons_succ, List.take_zero, List.take_succ_cons, List.drop_zero, List.drop_succ_cons, List.take_nil, List.drop_nil, List.nil_append, List.cons_append, List.append_nil, or_false, false_or, or_true, true_or, false_implies, true_implies, and_true, true_and, and_self, Bool.and_true, Bool.true_and])
  refine ir_loop (fun m ρ w' => ∃ (k : Nat) (nm : List Int), m = out.length - k ∧ k ≤ out.length ∧ NumL ns.length out k nm ∧ w'.heap[w2.heap.size]? = some (.cells (nm.map I).toArray 3 (0, 0)) ∧
      Own w' 3 1 (.slice la out.length lc) (out.map (fun x : Nat => I x)) out.length fpl ∧ Mod (fun _ => False) w w' ∧ w2.heap.size < w'.heap.size ∧
      ρ = [(0, .pointer (some ⟨a, 0, none⟩)), (1, .slice va roots.length vc), (7, .slice la out.length lc), (8, .slice (some ⟨w2.heap.size, 0, none⟩) ns.length ns.length), (9, I k)]) out.length
    ⟨0, List.replicate ns.length 0, rfl, Nat.zero_le _, ⟨by simp, fun j x h => by omega⟩, by simpa using hb3, ol3, hm03, by omega, rfl⟩ ?_
  rintro m ρ w4 ⟨k, nm, rfl, hk, hnm, hb4, ol4, hm04, hs4, rfl⟩
  unfold ir41L1
  (try simp only [go_sem, Nat.reduceAdd, Nat.reduceEqDiff, Nat.reduceLT, Nat.reduceLeDiff, Nat.reduceMul, Nat.zero_add, reduceCtorEq, ↓reduceIte, List.length_cons, List.length_nil, List.set_cons_zero, List.set_cons_succ, List.take_zero, List.take_succ_cons, List.drop_zero, List.drop_succ_cons, List.take_nil, List.drop_nil, List.nil_append, List.cons_append, List.append_nil, or_false, false_or, or_true, true_or, false_implies, true_implies, and_true, true_and, and_self, Bool.and_true, Bool.true_and])
  refine ir_cond rfl (fun hlt => ?_) (fun hlt => ?_)
  · have hlt' : k < out.length := by simpa using hlt
    obtain ⟨lb, rfl, hlc⟩ := hoi w4 ol4 k hlt'
    have hxn := (hmet.2 out[k] (List.getElem_mem hlt')).1
    have b1 : (0 : Int) ≤ k ∧ (k : Int) < out.length := by omega
    have b2 : (0 : Int) ≤ (out[k] : Nat) ∧ ((out[k] : Nat) : Int) < ns.length := by omega
    have hwk : IntKind.i64.wrap ((k : Int) + 1) = ((k + 1 : Nat) : Int) := by rw [wrap_in] <;> omega
    (try simp only [go_sem, Nat.reduceAdd, Nat.reduceEqDiff, Nat.reduceLT, Nat.reduceLeDiff, Nat.reduceMul, Nat.zero_add, reduceCtorEq, ↓reduceIte, List.length_cons, List.length_nil, List.set_cons_zero, List.set_cons_succ, List.take_zero, List.take_succ_cons, List.drop_zero, List.drop_succ_cons, List.take_nil, List.drop_nil, List.nil_append, List.cons_append, List.append_nil, or_false, false_or, or_true, true_or, false_implies, true_implies, and_true, true_and, and_self, Bool.and_true, Bool.true_and, Nat.mul_one, Int.toNat_natCast, Int.toNat_zero, Nat.sub_zero, Nat.sub_self, b1, hlc, b2])
    refine e_st1 (off := out[k]) rfl rfl hb4 rfl (by simp; rw [hnm.1]; exact hxn) ?_
    intro w5 hb5 hm5 hs5
    rw [map_set] at hb5
    have s2 := hm02.size
    (try simp only [go_sem, Nat.reduceAdd, Nat.reduceEqDiff, Nat.reduceLT, Nat.reduceLeDiff, Nat.reduceMul, Nat.zero_add, reduceCtorEq, ↓reduceIte, List.length_cons, List.length_nil, List.set_cons_zero, List.set_cons_succ, List.take_zero, List.take_succ_cons, List.drop_zero, List.drop_succ_cons, List.take_nil, List.drop_nil, List.nil_append, List.cons_append, List.append_nil, or_false, false_or, or_true, true_or, false_implies, true_implies, and_true, true_and, and_self, Bool.and_true, Bool.true_and, hwk])
    refine ⟨_, ?_, k + 1, _, rfl, hlt', numL_next hnm hmet.1 (by simp [hlt']) hxn, hb5, ol4.mod hm5 (fun b hb hh => hnfl (hh ▸ hb)), hm04.step hm5 (fun b hb hlt => by omega), by omega, rfl⟩
    omega
  have hlt' : k = out.length := by simp at hlt; omega
  subst hlt'
  (try simp only [go_sem, Nat.reduceAdd, Nat.reduceEqDiff, Nat.reduceLT, Nat.reduceLeDiff, Nat.reduceMul, Nat.zero_add, reduceCtorEq, ↓reduceIte, List.length_cons, List.length_nil, List.set_cons_zero, List.set_cons_succ, List.take_zero, List.take_succ_cons, List.drop_zero, List.drop_succ_cons, List.take_nil, List.drop_nil, List.nil_append, List.cons_append, List.append_nil, or_false, false_or, or_true, true_or, false_implies, true_implies, and_true, true_and, and_self, Bool.and_true, Bool.true_and])
  have hcell : ∀ w', Mod (fun _ => False) w4 w' → w'.heap[a]? = some (.cells #[I size, .slice ca ns.length cc, I times] 77 (0, 0)) ∧ FromAt 35 w' (.slice ca ns.length cc) ns F ∧ w'.heap[w2.heap.size]? = some (.cells (nm.map I).toArray 3 (0, 0)) ∧
      Own w' 3 1 (.slice la out.length lc) (out.map (fun x : Nat => I x)) out.length fpl := fun w' hm =>
    ⟨(hm04.trans hm).at g1 (fun h => h), hfr.mod (hm04.trans hm) (fun _ _ h => h), hm.at hb4 (fun h => h), ol4.mod hm (fun _ _ h => h)⟩
  have hnum : ∀ (w' : World), w'.heap[w2.heap.size]? = some (.cells (nm.map I).toArray 3 (0, 0)) → ∀ p : Nat, p < ns.length → over ns p ∈ out → over ns p < ns.length ∧ w'.cell? ⟨w2.heap.size, over ns p, none⟩ = some (I (num ns out p)) := fun w' hb p hp hin => by
    have h1 : over ns p < ns.length := ov_lt hf hp
    refine ⟨h1, ?_⟩
    rw [ints_at hb (by rw [hnm.1]; exact h1), numL_at hnm hin]
    simp [num]
  refine ir_loop (fun m ρ w' => ∃ (i : Nat) (nv : Value) (fpn : Option Nat) (qs : List (Nd × Value)), m = out.length - i ∧ i ≤ out.length ∧ Mod (fun _ => False) w4 w' ∧ Own w' 35 3 nv (flat qs) qs.length fpn ∧ (∀ b, fpn = some b → w4.heap.size ≤ b) ∧
      Args w' qs (fun b => w4.heap.size ≤ b) ∧ qs.map Prod.fst = (out.take i).map (moveNd ns out) ∧
      ρ = [(0, .pointer (some ⟨a, 0, none⟩)), (1, .slice va roots.length vc), (7, .slice la out.length lc), (8, .slice (some ⟨w2.heap.size, 0, none⟩) ns.length ns.length), (10, nv), (11, I i)]) out.length
    ⟨0, _, none, [], rfl, Nat.zero_le _, Mod.refl _ _, Own.nil _ _ _, (fun b h => by cases h), (fun p hp => by cases hp), rfl, rfl⟩ ?_
  rintro m ρ w5 ⟨i, nv, fpn, qs, rfl, hi, hm45, hno, hfn, hag, hqs, rfl⟩
  unfold ir41L3
  obtain ⟨ga5, hfr5, hb5, ol5⟩ := hcell w5 hm45
  have hql : qs.length = i := by have := congrArg List.length hqs; simp at this; omega
  (try simp only [go_sem, Nat.reduceAdd, Nat.reduceEqDiff, Nat.reduceLT, Nat.reduceLeDiff, Nat.reduceMul, Nat.zero_add, reduceCtorEq, ↓reduceIte, List.length_cons, List.length_nil, List.set_cons_zero, List.set_cons_succ, List.take_zero, List.take_succ_cons, List.drop_zero, List.drop_succ_cons, List.take_nil, List.drop_nil, List.nil_append, List.cons_append, List.append_nil, or_false, false_or, or_true, true_or, false_implies, true_implies, and_true, true_and, and_self, Bool.and_true, Bool.true_and])
  refine ir_cond rfl (fun hlt => ?_) (fun hlt => ?_)
  · have hlt' : i < out.length := by simpa using hlt
    obtain ⟨lb, rfl, hlc⟩ := hoi w5 ol5 i hlt'
    have hxn := (hmet.2 out[i] (List.getElem_mem hlt')).1
    obtain ⟨bc, cc', xv0, hce, c0, c1, c2, cx, cb, cl⟩ := from_at hfr5 hargs hxn
    cases hce
    obtain ⟨xa, xc, rfl, hxal, _⟩ := id cx
    have b1 : (0 : Int) ≤ i ∧ (i : Int) < out.length := by omega
    have b2 : (0 : Int) ≤ (out[i] : Nat) ∧ ((out[i] : Nat) : Int) < ns.length := by omega
    have llb : lb < w5.heap.size := World.block_lt_of_cell? _ _ hlc
    have lbc : bc < w5.heap.size := World.block_lt_of_cell? _ _ c0
    have laa := lt_of_heap ga5
    have hA8 : (ndAt ns out[i]).args.length ≤ 8 := by
      have hm := (wf_at hw hxn).1
      simp only [Nd.may, mayB, decide_eq_true_eq] at hm
      omega
    (try simp only [go_sem, Nat.reduceAdd, Nat.reduceEqDiff, Nat.reduceLT, Nat.reduceLeDiff, Nat.reduceMul, Nat.zero_add, reduceCtorEq, ↓reduceIte, List.length_cons, List.length_nil, List.set_cons_zero, List.set_cons_succ, List.take_zero, List.take_succ_cons, List.drop_zero, List.drop_succ_cons, List.take_nil, List.drop_nil, List.nil_append, List.cons_append, List.append_nil, or_false, false_or, or_true, true_or, false_implies, true_implies, and_true, true_and, and_self, Bool.and_true, Bool.true_and, Nat.mul_one, Int.toNat_natCast, Int.toNat_zero, Nat.sub_zero, Nat.sub_self, cell_of ga5, b1, hlc, b2, c0, c1])
    refine e_al ?_
    intro w6 hb6 hm6 hs6
    have hm6 : Mod (fun _ => False) w5 w6 := hm6.of_drew
    have hs6 : w6.heap.size = w5.heap.size + 1 := hs6
    have hb6 : w6.heap[w5.heap.size]? = some (.cells #[I 0, I 0, .slice none 0 0] 35 (0, 0)) := hb6
    (try simp only [go_sem, Nat.reduceAdd, Nat.reduceEqDiff, Nat.reduceLT, Nat.reduceLeDiff, Nat.reduceMul, Nat.zero_add, reduceCtorEq, ↓reduceIte, List.length_cons, List.length_nil, List.set_cons_zero, List.set_cons_succ, List.take_zero, List.take_succ_cons, List.drop_zero, List.drop_succ_cons, List.take_nil, List.drop_nil, List.nil_append, List.cons_append, List.append_nil, or_false, false_or, or_true, true_or, false_implies, true_implies, and_true, true_and, and_self, Bool.and_true, Bool.true_and])
    have o1 := hm6.old _ llb (fun h => h)
    have o2 := hm6.old _ lbc (fun h => h)
    have o3 := hm6.old _ laa (fun h => h)
    refine ⟨by simp only [o1, o2, o3, and_self], ?_⟩
    refine e_sta rfl rfl hb6 rfl rfl (by simp [Value.oneCell']) ?_
    intro w7 hb7 hm7 hs7
    have hm57 : Mod (fun _ => False) w5 w7 := hm6.step hm7 (fun b hb hlt => by omega)
    (try simp only [go_sem, Nat.reduceAdd, Nat.reduceEqDiff, Nat.reduceLT, Nat.reduceLeDiff, Nat.reduceMul, Nat.zero_add, reduceCtorEq, ↓reduceIte, List.length_cons, List.length_nil, List.set_cons_zero, List.set_cons_succ, List.take_zero, List.take_succ_cons, List.drop_zero, List.drop_succ_cons, List.take_nil, List.drop_nil, List.nil_append, List.cons_append, List.append_nil, or_false, false_or, or_true, true_or, false_implies, true_implies, and_true, true_and, and_self, Bool.and_true, Bool.true_and])
    refine ir_loop (fun m ρ w' => ∃ (k : Nat) (xv : Value) (fpx : Option Nat), m = (ndAt ns out[i]).args.length - k ∧ k ≤ (ndAt ns out[i]).args.length ∧ Mod (fun _ => False) w5 w' ∧
        w'.heap[w5.heap.size]? = some (.cells #[I (ndAt ns out[i]).kind, I (ndAt ns out[i]).num, xv] 35 (0, 0)) ∧ Own w' 3 1 xv ((((ndAt ns out[i]).args.take k).map (num ns out)).map I) k fpx ∧ (∀ b, fpx = some b → w5.heap.size ≤ b) ∧
        ρ = [(0, .pointer (some ⟨a, 0, none⟩)), (1, .slice va roots.length vc), (7, .slice (some ⟨lb, 0, none⟩) out.length lc), (8, .slice (some ⟨w2.heap.size, 0, none⟩) ns.length ns.length), (10, nv), (11, I i), (12, .pointer (some ⟨w5.heap.size, 0, none⟩)), (13, I k)]) (ndAt ns out[i]).args.length
      ⟨0, _, none, rfl, Nat.zero_le _, hm57, hb7, Own.nil _ _ _, (fun b h => by cases h), rfl⟩ ?_
    rintro m ρ w8 ⟨k, xv, fpx, rfl, hk, hm58, hbx, hox, hfx, rfl⟩
    unfold ir41L2
    obtain ⟨ga8, hfr8, hb8, ol8⟩ := hcell w8 (hm45.trans hm58)
    have hlc8 := hm58.cell hlc (fun h => h)
    have c28 := hm58.cell c2 (fun h => h)
    have cx8 := cx.mod hm58 (fun _ _ h => h)
    (try simp only [go_sem, Nat.reduceAdd, Nat.reduceEqDiff, Nat.reduceLT, Nat.reduceLeDiff, Nat.reduceMul, Nat.zero_add, reduceCtorEq, ↓reduceIte, List.length_cons, List.length_nil, List.set_cons_zero, List.set_cons_succ, List.take_zero, List.take_succ_cons, List.drop_zero, List.drop_succ_cons, List.take_nil, List.drop_nil, List.nil_append, List.cons_append, List.append_nil, or_false, false_or, or_true, true_or, false_implies, true_implies, and_true, true_and, and_self, Bool.and_true, Bool.true_and, Nat.mul_one, Int.toNat_natCast, Int.toNat_zero, Nat.sub_zero, Nat.sub_self, cell_of ga8, b1, hlc8, b2, c28])
    refine ir_cond rfl (fun hkl => ?_) (fun hkl => ?_)
    · have hkl' : k < (ndAt ns out[i]).args.length := by simpa using hkl
      obtain ⟨_, _, hve, _, hxx⟩ := id cx8
      cases hve
      obtain ⟨ad, rfl, had⟩ := hxx k hkl'
      have b3 : (0 : Int) ≤ k ∧ (k : Int) < (ndAt ns out[i]).args.length := by omega
      have hr : 0 ≤ (ndAt ns out[i]).args[k] ∧ (ndAt ns out[i]).args[k] < ns.length := by
        have := (List.all_eq_true.1 (wf_at hw hxn).2) (ndAt ns out[i]).args[k] (List.getElem_mem hkl')
        simpa using this
      have hin := hcl out[i] (List.getElem_mem hlt') (ndAt ns out[i]).args[k] (List.getElem_mem hkl')
      have hrn : (ndAt ns out[i]).args[k] = (((ndAt ns out[i]).args[k].toNat : Nat) : Int) := by omega
      have htk : ((ndAt ns out[i]).args.take (k + 1)).map (num ns out) = ((ndAt ns out[i]).args.take k).map (num ns out) ++ [num ns out (((ndAt ns out[i]).args[k].toNat : Nat) : Int)] := by
        rw [List.take_succ_eq_append_getElem hkl', List.map_append, ← hrn]; rfl
      generalize hP : (ndAt ns out[i]).args[k].toNat = P at hrn htk hin
      have hPl : P < ns.length := by omega
      rw [hrn] at had
      have hwk : IntKind.i64.wrap ((k : Int) + 1) = ((k + 1 : Nat) : Int) := by rw [wrap_in] <;> omega
      (try simp only [go_sem, Nat.reduceAdd, Nat.reduceEqDiff, Nat.reduceLT, Nat.reduceLeDiff, Nat.reduceMul, Nat.zero_add, reduceCtorEq, ↓reduceIte, List.length_cons, List.length_nil, List.set_cons_zero, List.set_cons_succ, List.take_zero, List.take_succ_cons, List.drop_zero, List.drop_succ_cons, List.take_nil, List.drop_nil, List.nil_append, List.cons_append, List.append_nil, or_false, false_or, or_true, true_or, false_implies, true_implies, and_true, true_and, and_self, Bool.and_true, Bool.true_and, Nat.mul_one, Int.toNat_natCast, Int.toNat_zero, Nat.sub_zero, Nat.sub_self, cell_of ga8, b1, hlc8, b2, c28, b3, had])
      refine e_call (by rfl) ?_
      refine (rover_ok a 0 ns hw hn w8.drew.drew F 77 _ _ _ ga8 hfr8 P hPl).mono ?_
      rintro r _ ⟨rfl, rfl⟩
      obtain ⟨hol, hnc⟩ := hnum w8 hb8 P hPl hin
      have b4 : (0 : Int) ≤ (over ns P : Nat) ∧ ((over ns P : Nat) : Int) < ns.length := by omega
      (try simp only [go_sem, Nat.reduceAdd, Nat.reduceEqDiff, Nat.reduceLT, Nat.reduceLeDiff, Nat.reduceMul, Nat.zero_add, reduceCtorEq, ↓reduceIte, List.length_cons, List.length_nil, List.set_cons_zero, List.set_cons_succ, List.take_zero, List.take_succ_cons, List.drop_zero, List.drop_succ_cons, List.take_nil, List.drop_nil, List.nil_append, List.cons_append, List.append_nil, or_false, false_or, or_true, true_or, false_implies, true_implies, and_true, true_and, and_self, Bool.and_true, Bool.true_and, Nat.mul_one, Int.toNat_natCast, Int.toNat_zero, Nat.sub_zero, Nat.sub_self, cell_of hbx, b4, hnc])
      refine e_bs (by rfl) (by (try simp only [go_sem, Nat.reduceAdd, Nat.reduceEqDiff, Nat.reduceLT, Nat.reduceLeDiff, Nat.reduceMul, Nat.zero_add, reduceCtorEq, ↓reduceIte, List.length_cons, List.length_nil, List.set_cons_zero, List.set_cons_succ, List.take_zero, List.take_succ_cons, List.drop_zero, List.drop_succ_cons, List.take_nil, List.drop_nil, List.nil_append, List.cons_append, List.append_nil, or_false, false_or, or_true, true_or, false_implies, true_implies, and_true, true_and, and_self, Bool.and_true, Bool.true_and]); rfl) ?_
      intro w9 hb9 hm9 hs9
      have hm9 : Mod (fun _ => False) w8 w9 := hm9.of_drew.of_drew.of_drew
      (try simp only [go_sem, Nat.reduceAdd, Nat.reduceEqDiff, Nat.reduceLT, Nat.reduceLeDiff, Nat.reduceMul, Nat.zero_add, reduceCtorEq, ↓reduceIte, List.length_cons, List.length_nil, List.set_cons_zero, List.set_cons_succ, List.take_zero, List.take_succ_cons, List.drop_zero, List.drop_succ_cons, List.take_nil, List.drop_nil, List.nil_append, List.cons_append, List.append_nil, or_false, false_or, or_true, true_or, false_implies, true_implies, and_true, true_and, and_self, Bool.and_true, Bool.true_and])
      refine ⟨hm9.old _ (lt_of_heap hbx) (fun h => h), ?_⟩
      have ox9 := hox.mod hm9 (fun _ _ h => h)
      have hbx9 := hm9.at hbx (fun h => h)
      obtain ⟨xva, xvc, rfl, _⟩ := ox9.val
      refine e_ap (m := 1) (news := [I (num ns out P)]) rfl ox9 rfl (fun h => by cases h) (rd_block hb9) (by simp [Value.oneCell']) rfl (by omega) (by omega) ?_
      intro v10 w10 fp10 ho10 hm10 hf10
      have hbx10 := hm10.at hbx9 (own_ne ox9 hbx9 (by omega))
      obtain ⟨va10, vc10, rfl, _⟩ := ho10.val
      have s58 := hm58.size; have s9 := hm9.size
      (try simp only [go_sem, Nat.reduceAdd, Nat.reduceEqDiff, Nat.reduceLT, Nat.reduceLeDiff, Nat.reduceMul, Nat.zero_add, reduceCtorEq, ↓reduceIte, List.length_cons, List.length_nil, List.set_cons_zero, List.set_cons_succ, List.take_zero, List.take_succ_cons, List.drop_zero, List.drop_succ_cons, List.take_nil, List.drop_nil, List.nil_append, List.cons_append, List.append_nil, or_false, false_or, or_true, true_or, false_implies, true_implies, and_true, true_and, and_self, Bool.and_true, Bool.true_and])
      refine e_st1 (off := 2) rfl rfl hbx10 rfl (by simp) ?_
      intro w11 hb11 hm11 hs11
      (try simp only [go_sem, Nat.reduceAdd, Nat.reduceEqDiff, Nat.reduceLT, Nat.reduceLeDiff, Nat.reduceMul, Nat.zero_add, reduceCtorEq, ↓reduceIte, List.length_cons, List.length_nil, List.set_cons_zero, List.set_cons_succ, List.take_zero, List.take_succ_cons, List.drop_zero, List.drop_succ_cons, List.take_nil, List.drop_nil, List.nil_append, List.cons_append, List.append_nil, or_false, false_or, or_true, true_or, false_implies, true_implies, and_true, true_and, and_self, Bool.and_true, Bool.true_and, hwk])
      refine ⟨_, ?_, k + 1, _, fp10, rfl, hkl', ?_, hb11, ?_, ?_, rfl⟩
      · omega
      · exact ((hm58.step hm9 (fun b hb _ => hb)).step hm10 (fun b hb hlt => by have := hfx b hb; omega)).step hm11 (fun b hb hlt => by omega)
      · rw [htk]
        simpa using ho10.mod hm11 (fun b hb hh => own_kind ho10 hb (hh ▸ hbx10) (by omega))
      · intro b hb
        rcases hf10 b hb with h | h
        · exact hfx b h
        · omega
    have hkl' : k = (ndAt ns out[i]).args.length := by simp at hkl; omega
    subst hkl'
    rw [List.take_length] at hox
    have hno8 := hno.mod hm58 (fun _ _ h => h)
    obtain ⟨nva, nvc, rfl, _⟩ := hno8.val
    obtain ⟨xva, xvc, rfl, _⟩ := hox.val
    have hln : vLN w8.drew 3 (.pointer (some ⟨w5.heap.size, 0, none⟩)) = some (.agg #[I (ndAt ns out[i]).kind, I (ndAt ns out[i]).num, .slice xva (ndAt ns out[i]).args.length xvc]) := ln_of (w := w8.drew) hbx (off := 0) (n := 3) (by simp)
    (try simp only [go_sem, Nat.reduceAdd, Nat.reduceEqDiff, Nat.reduceLT, Nat.reduceLeDiff, Nat.reduceMul, Nat.zero_add, reduceCtorEq, ↓reduceIte, List.length_cons, List.length_nil, List.set_cons_zero, List.set_cons_succ, List.take_zero, List.take_succ_cons, List.drop_zero, List.drop_succ_cons, List.take_nil, List.drop_nil, List.nil_append, List.cons_append, List.append_nil, or_false, false_or, or_true, true_or, false_implies, true_implies, and_true, true_and, and_self, Bool.and_true, Bool.true_and, hln])
    refine e_bs (by rfl) (by (try simp only [go_sem, Nat.reduceAdd, Nat.reduceEqDiff, Nat.reduceLT, Nat.reduceLeDiff, Nat.reduceMul, Nat.zero_add, reduceCtorEq, ↓reduceIte, List.length_cons, List.length_nil, List.set_cons_zero, List.set_cons_succ, List.take_zero, List.take_succ_cons, List.drop_zero, List.drop_succ_cons, List.take_nil, List.drop_nil, List.nil_append, List.cons_append, List.append_nil, or_false, false_or, or_true, true_or, false_implies, true_implies, and_true, true_and, and_self, Bool.and_true, Bool.true_and]); rfl) ?_
    intro w9 hb9 hm9 hs9
    have hm9 : Mod (fun _ => False) w8 w9 := hm9.of_drew
    have hno9 := hno8.mod hm9 (fun _ _ h => h)
    have ox9 := hox.mod hm9 (fun _ _ h => h)
    (try simp only [go_sem, Nat.reduceAdd, Nat.reduceEqDiff, Nat.reduceLT, Nat.reduceLeDiff, Nat.reduceMul, Nat.zero_add, reduceCtorEq, ↓reduceIte, List.length_cons, List.length_nil, List.set_cons_zero, List.set_cons_succ, List.take_zero, List.take_succ_cons, List.drop_zero, List.drop_succ_cons, List.take_nil, List.drop_nil, List.nil_append, List.cons_append, List.append_nil, or_false, false_or, or_true, true_or, false_implies, true_implies, and_true, true_and, and_self, Bool.and_true, Bool.true_and])
    refine e_ap (m := 1) (news := nc (moveNd ns out out[i], .slice xva (ndAt ns out[i]).args.length xvc)) rfl hno9 rfl (fun h => by cases h) (rd_block hb9) (by simp [nc, Value.oneCell']) rfl (by omega) (by omega) ?_
    intro v10 w10 fp10 ho10 hm10 hf10
    have hwi : IntKind.i64.wrap ((i : Int) + 1) = ((i + 1 : Nat) : Int) := by rw [wrap_in] <;> omega
    have s45 := hm45.size; have s58 := hm58.size; have s9 := hm9.size
    have hnr : ∀ b cs fz, fpn = some b → w9.heap[b]? = some (.cells cs 3 fz) → False := fun b cs fz hb hc => own_kind hno9 hb hc (by omega)
    (try simp only [go_sem, Nat.reduceAdd, Nat.reduceEqDiff, Nat.reduceLT, Nat.reduceLeDiff, Nat.reduceMul, Nat.zero_add, reduceCtorEq, ↓reduceIte, List.length_cons, List.length_nil, List.set_cons_zero, List.set_cons_succ, List.take_zero, List.take_succ_cons, List.drop_zero, List.drop_succ_cons, List.take_nil, List.drop_nil, List.nil_append, List.cons_append, List.append_nil, or_false, false_or, or_true, true_or, false_implies, true_implies, and_true, true_and, and_self, Bool.and_true, Bool.true_and, hwi])
    refine ⟨_, ?_, i + 1, _, fp10, qs ++ [(moveNd ns out out[i], .slice xva (ndAt ns out[i]).args.length xvc)], rfl, hlt', ?_, ?_, ?_, ?_, ?_, rfl⟩
    · omega
    · exact ((hm45.trans hm58).step hm9 (fun b hb _ => hb)).step hm10 (fun b hb hlt => by have := hfn b hb; omega)
    · rw [flat_app, flat_one]; simpa using ho10
    · intro b hb
      rcases hf10 b hb with h | h
      · exact hfn b h
      · omega
    · refine (((hag.mod hm58 (fun _ _ h => h)).mod hm9 (fun _ _ h => h)).mod' hm10 hnr).app ?_
      intro p hp
      simp only [List.mem_cons, List.not_mem_nil, or_false] at hp; subst hp
      refine ⟨fpx, ?_, fun b hb => by have := hfx b hb; omega⟩
      have := ox9.mod' hm10 hnr
      simpa [moveNd] using this
    · rw [List.map_append, hqs, List.take_succ_eq_append_getElem hlt', List.map_append]; rfl
  have hlt' : i = out.length := by simp at hlt; omega
  subst hlt'
  (try simp only [go_sem, Nat.reduceAdd, Nat.reduceEqDiff, Nat.reduceLT, Nat.reduceLeDiff, Nat.reduceMul, Nat.zero_add, reduceCtorEq, ↓reduceIte, List.length_cons, List.length_nil, List.set_cons_zero, List.set_cons_succ, List.take_zero, List.take_succ_cons, List.drop_zero, List.drop_succ_cons, List.take_nil, List.drop_nil, List.nil_append, List.cons_append, List.append_nil, or_false, false_or, or_true, true_or, false_implies, true_implies, and_true, true_and, and_self, Bool.and_true, Bool.true_and])
  refine ir_loop (fun m ρ w' => ∃ (k : Nat) (rv : Value) (fpr : Option Nat), m = roots.length - k ∧ k ≤ roots.length ∧ Mod (fun _ => False) w5 w' ∧ Own w' 3 1 rv (((roots.take k).map (num ns out)).map I) k fpr ∧ (∀ b, fpr = some b → w5.heap.size ≤ b) ∧
      ρ = [(0, .pointer (some ⟨a, 0, none⟩)), (1, .slice va roots.length vc), (8, .slice (some ⟨w2.heap.size, 0, none⟩) ns.length ns.length), (10, nv), (15, rv), (16, I k)]) roots.length
    ⟨0, _, none, rfl, Nat.zero_le _, Mod.refl _ _, Own.nil _ _ _, (fun b h => by cases h), rfl⟩ ?_
  rintro m ρ w6 ⟨k, rv, fpr, rfl, hk, hm56, hor, hfr', rfl⟩
  unfold ir41L4
  obtain ⟨ga6, hfr6, hb6, ol6⟩ := hcell w6 (hm45.trans hm56)
  (try simp only [go_sem, Nat.reduceAdd, Nat.reduceEqDiff, Nat.reduceLT, Nat.reduceLeDiff, Nat.reduceMul, Nat.zero_add, reduceCtorEq, ↓reduceIte, List.length_cons, List.length_nil, List.set_cons_zero, List.set_cons_succ, List.take_zero, List.take_succ_cons, List.drop_zero, List.drop_succ_cons, List.take_nil, List.drop_nil, List.nil_append, List.cons_append, List.append_nil, or_false, false_or, or_true, true_or, false_implies, true_implies, and_true, true_and, and_self, Bool.and_true, Bool.true_and])
  refine ir_cond rfl (fun hkl => ?_) (fun hkl => ?_)
  · have hkl' : k < roots.length := by simpa using hkl
    obtain ⟨_, _, hve, _, hxx⟩ := hx.mod ((hm04.trans hm45).trans hm56) (fun _ _ h => h)
    cases hve
    obtain ⟨ad, rfl, had⟩ := hxx k hkl'
    have b3 : (0 : Int) ≤ k ∧ (k : Int) < roots.length := by omega
    have hr : 0 ≤ roots[k] ∧ roots[k] < ns.length := by
      have := (List.all_eq_true.1 hc') roots[k] (List.getElem_mem hkl')
      simpa using this
    have hin := hcr roots[k] (List.getElem_mem hkl')
    have hrn : roots[k] = ((roots[k].toNat : Nat) : Int) := by omega
    have htk : (roots.take (k + 1)).map (num ns out) = (roots.take k).map (num ns out) ++ [num ns out ((roots[k].toNat : Nat) : Int)] := by
      rw [List.take_succ_eq_append_getElem hkl', List.map_append, ← hrn]; rfl
    generalize hP : roots[k].toNat = P at hrn htk hin
    have hPl : P < ns.length := by omega
    rw [hrn] at had
    have hwk : IntKind.i64.wrap ((k : Int) + 1) = ((k + 1 : Nat) : Int) := by rw [wrap_in] <;> omega
    (try simp only [go_sem, Nat.reduceAdd, Nat.reduceEqDiff, Nat.reduceLT, Nat.reduceLeDiff, Nat.reduceMul, Nat.zero_add, reduceCtorEq, ↓reduceIte, List.length_cons, List.length_nil, List.set_cons_zero, List.set_cons_succ, List.take_zero, List.take_succ_cons, List.drop_zero, List.drop_succ_cons, List.take_nil, List.drop_nil, List.nil_append, List.cons_append, List.append_nil, or_false, false_or, or_true, true_or, false_implies, true_implies, and_true, true_and, and_self, Bool.and_true, Bool.true_and, Nat.mul_one, Int.toNat_natCast, Int.toNat_zero, Nat.sub_zero, Nat.sub_self, b3, had])
    refine e_call (by rfl) ?_
    refine (rover_ok a 0 ns hw hn w6 F 77 _ _ _ ga6 hfr6 P hPl).mono ?_
    rintro r _ ⟨rfl, rfl⟩
    obtain ⟨hol, hnc⟩ := hnum w6 hb6 P hPl hin
    have b4 : (0 : Int) ≤ (over ns P : Nat) ∧ ((over ns P : Nat) : Int) < ns.length := by omega
    (try simp only [go_sem, Nat.reduceAdd, Nat.reduceEqDiff, Nat.reduceLT, Nat.reduceLeDiff, Nat.reduceMul, Nat.zero_add, reduceCtorEq, ↓reduceIte, List.length_cons, List.length_nil, List.set_cons_zero, List.set_cons_succ, List.take_zero, List.take_succ_cons, List.drop_zero, List.drop_succ_cons, List.take_nil, List.drop_nil, List.nil_append, List.cons_append, List.append_nil, or_false, false_or, or_true, true_or, false_implies, true_implies, and_true, true_and, and_self, Bool.and_true, Bool.true_and, Nat.mul_one, Int.toNat_natCast, Int.toNat_zero, Nat.sub_zero, Nat.sub_self, b4, hnc])
    refine e_bs (by rfl) (by (try simp only [go_sem, Nat.reduceAdd, Nat.reduceEqDiff, Nat.reduceLT, Nat.reduceLeDiff, Nat.reduceMul, Nat.zero_add, reduceCtorEq, ↓reduceIte, List.length_cons, List.length_nil, List.set_cons_zero, List.set_cons_succ, List.take_zero, List.take_succ_cons, List.drop_zero, List.drop_succ_cons, List.take_nil, List.drop_nil, List.nil_append, List.cons_append, List.append_nil, or_false, false_or, or_true, true_or, false_implies, true_implies, and_true, true_and, and_self, Bool.and_true, Bool.true_and]); rfl) ?_
    intro w9 hb9 hm9 hs9
    have or9 := hor.mod hm9 (fun _ _ h => h)
    obtain ⟨rva, rvc, rfl, _⟩ := or9.val
    (try simp only [go_sem, Nat.reduceAdd, Nat.reduceEqDiff, Nat.reduceLT, Nat.reduceLeDiff, Nat.reduceMul, Nat.zero_add, reduceCtorEq, ↓reduceIte, List.length_cons, List.length_nil, List.set_cons_zero, List.set_cons_succ, List.take_zero, List.take_succ_cons, List.drop_zero, List.drop_succ_cons, List.take_nil, List.drop_nil, List.nil_append, List.cons_append, List.append_nil, or_false, false_or, or_true, true_or, false_implies, true_implies, and_true, true_and, and_self, Bool.and_true, Bool.true_and])
    refine e_ap (m := 1) (news := [I (num ns out P)]) rfl or9 rfl (fun h => by cases h) (rd_block hb9) (by simp [Value.oneCell']) rfl (by omega) (by omega) ?_
    intro v10 w10 fp10 ho10 hm10 hf10
    have s56 := hm56.size; have s9 := hm9.size
    (try simp only [go_sem, Nat.reduceAdd, Nat.reduceEqDiff, Nat.reduceLT, Nat.reduceLeDiff, Nat.reduceMul, Nat.zero_add, reduceCtorEq, ↓reduceIte, List.length_cons, List.length_nil, List.set_cons_zero, List.set_cons_succ, List.take_zero, List.take_succ_cons, List.drop_zero, List.drop_succ_cons, List.take_nil, List.drop_nil, List.nil_append, List.cons_append, List.append_nil, or_false, false_or, or_true, true_or, false_implies, true_implies, and_true, true_and, and_self, Bool.and_true, Bool.true_and, hwk])
    refine ⟨_, ?_, k + 1, _, fp10, rfl, hkl', ?_, ?_, ?_, rfl⟩
    · omega
    · exact (hm56.step hm9 (fun b hb _ => hb)).step hm10 (fun b hb hlt => by have := hfr' b hb; omega)
    · rw [htk]; simpa using ho10
    · intro b hb
      rcases hf10 b hb with h | h
      · exact hfr' b h
      · omega
  have hkl' : k = roots.length := by simp at hkl; omega
  subst hkl'
  rw [List.take_length] at hor hqs
  have s45 := hm45.size; have s56 := hm56.size; have s04 := hm04.size
  have hno6 := hno.mod hm56 (fun _ _ h => h)
  have hag6 := hag.mod hm56 (fun _ _ h => h)
  have hm06 := (hm04.trans hm45).trans hm56
  have hnea : ∀ b, fpn = some b → ¬ b = a := fun b hb hh => by have := hfn b hb; omega
  have hrea : ∀ b, fpr = some b → ¬ b = a := fun b hb hh => by have := hfr' b hb; omega
  have hS : ∀ b, w4.heap.size ≤ b → ¬ b = a := fun b hb hh => by omega
  obtain ⟨nva, nvc, rfl, _⟩ := hno6.val
  (try simp only [go_sem, Nat.reduceAdd, Nat.reduceEqDiff, Nat.reduceLT, Nat.reduceLeDiff, Nat.reduceMul, Nat.zero_add, reduceCtorEq, ↓reduceIte, List.length_cons, List.length_nil, List.set_cons_zero, List.set_cons_succ, List.take_zero, List.take_succ_cons, List.drop_zero, List.drop_succ_cons, List.take_nil, List.drop_nil, List.nil_append, List.cons_append, List.append_nil, or_false, false_or, or_true, true_or, false_implies, true_implies, and_true, true_and, and_self, Bool.and_true, Bool.true_and])
  refine e_st1 (off := 1) rfl rfl ga6 rfl (by simp) ?_
  intro w7 hb7 hm7 hs7
  (try simp only [go_sem, Nat.reduceAdd, Nat.reduceEqDiff, Nat.reduceLT, Nat.reduceLeDiff, Nat.reduceMul, Nat.zero_add, reduceCtorEq, ↓reduceIte, List.length_cons, List.length_nil, List.set_cons_zero, List.set_cons_succ, List.take_zero, List.take_succ_cons, List.drop_zero, List.drop_succ_cons, List.take_nil, List.drop_nil, List.nil_append, List.cons_append, List.append_nil, or_false, false_or, or_true, true_or, false_implies, true_implies, and_true, true_and, and_self, Bool.and_true, Bool.true_and, cell_of hb7])
  refine e_st1 (off := 2) rfl rfl hb7 rfl (by simp) ?_
  intro w8 hb8 hm8 hs8
  (try simp only [go_sem, Nat.reduceAdd, Nat.reduceEqDiff, Nat.reduceLT, Nat.reduceLeDiff, Nat.reduceMul, Nat.zero_add, reduceCtorEq, ↓reduceIte, List.length_cons, List.length_nil, List.set_cons_zero, List.set_cons_succ, List.take_zero, List.take_succ_cons, List.drop_zero, List.drop_succ_cons, List.take_nil, List.drop_nil, List.nil_append, List.cons_append, List.append_nil, or_false, false_or, or_true, true_or, false_implies, true_implies, and_true, true_and, and_self, Bool.and_true, Bool.true_and])
  have hcn : colNs ns roots = out.map (moveNd ns out) := by rw [colNs, hout]
  have hcroots : colRoots ns roots = roots.map (num ns out) := by rw [colRoots, hout]
  have hql' : qs.length = (colNs ns roots).length := by rw [hcn]; simp [hql]
  refine ⟨fun h => (by rw [hc'] at h; cases h), fun _ => ⟨_, fpr, fun b => b = a ∨ fpn = some b ∨ (w4.heap.size ≤ b ∧ b < w5.heap.size), rfl, ?_, ?_, ?_, ?_⟩⟩
  · rw [hcroots]
    simpa using (hor.mod hm7 hrea).mod hm8 hrea
  · refine ⟨.slice nva qs.length nvc, fpn, qs, by simpa using hb8, .inl rfl, ?_, (fun b hb => .inr (.inl hb)), ?_, by rw [hqs, hcn], ?_⟩
    · rw [← hql']; exact (hno6.mod hm7 hnea).mod hm8 hnea
    · intro p hp
      obtain ⟨fp', k3, k4⟩ := hag p hp
      exact ⟨fp', ((k3.mod hm56 (fun _ _ h => h)).mod hm7 (fun b hb => hS b (k4 b hb))).mod hm8 (fun b hb => hS b (k4 b hb)), fun b hb => .inr (.inr ⟨k4 b hb, k3.lt hb⟩)⟩
    · intro b hb
      rcases hb with rfl | hb | hb
      · omega
      · have := hno6.lt hb; omega
      · omega
  · refine ⟨((hm06.weak (fun _ h => h.elim)).step hm7 (fun b hb _ => hb ▸ g2)).step hm8 (fun b hb _ => hb ▸ g2), ?_⟩
    rintro b (rfl | hb | hb)
    · exact .inl g2
    · have := hfn b hb; exact .inr (by omega)
    · exact .inr (by omega)
  · intro b hb
    have := hfr' b hb
    refine ⟨by omega, ?_⟩
    rintro (hh | hh | hh)
    · omega
    · have := hno.lt hh; omega
    · omega
end Go.Proofs.Ytnagmcdlepcgnaa
