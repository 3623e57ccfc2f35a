/- Heap, HeapKeeps: made. -/
import Derived.Test.YtnagmcdlepcgnaaL9
import Derived.Deep.Slices
set_option linter.unusedSimpArgs false
set_option linter.unusedVariables false
namespace Go.Proofs.Ytnagmcdlepcgnaa
open Go Go.W

def madeStep (size : Int) (ns : List Nd) (o : OpV) : List Nd := if o.dd = 1 then (addS size ns o.nd).2.2 else if o.dd = 3 then (setS ns o.n o.nd).2 else ns
def madeS (size : Int) (os : List OpV) : List Nd := os.foldl (madeStep size) []
theorem fine_step {size : Int} {ns : List Nd} (h : Fine size ns) (o : OpV) : Fine size (madeStep size ns o) := by
  unfold madeStep
  split
  · exact fine_add h o.nd
  · split
    · exact fine_set h o.n o.nd
    · exact h
theorem made_next (size : Int) (os : List OpV) (k : Nat) (hk : k < os.length) : (os.take (k + 1)).foldl (madeStep size) [] = madeStep size ((os.take k).foldl (madeStep size) []) os[k] := by
  rw [List.take_add_one, List.getElem?_eq_getElem hk, Option.toList_some, List.foldl_append]
  rfl

theorem addn {a : Addr} {n : Nat} (h : n ≠ 0) : a.add n = ⟨a.block, a.off + n, none⟩ := by simp [Addr.add, h]
theorem made_ok (w : World) (size : Int) (v : Value) (os : List OpV) (h : Ops w v os) :
    CallsR Try.prog 6 [I size, v] w fun q w' => Mod (fun _ => False) w w' ∧ (¬ (1 ≤ size ∧ size ≤ 1048576) → q = .pointer none) ∧
      (1 ≤ size ∧ size ≤ 1048576 → ∃ a F, q = .pointer (some ⟨a, 0, none⟩) ∧ ArenaAt 63 70 w' a size 0 (madeS size os) F ∧ Fine size (madeS size os) ∧ ∀ x, F x → w.heap.size ≤ x) := by
  have h0 := h
  obtain ⟨va, vc, rfl, hol, hx⟩ := h0
  refine fit6.calls rfl ?_
  unfold ir6
  (try simp only [go_sem, Nat.reduceAdd, Nat.reduceEqDiff, Nat.reduceLT, Nat.reduceLeDiff, Nat.reduceMul, Nat.zero_add, reduceCtorEq, ↓reduceIte, List.length_cons, List.length_nil, List.set_cons_zero, List.set_cons_succ, List.take_zero, List.take_succ_cons, List.drop_zero, List.drop_succ_cons, List.take_nil, List.drop_nil, List.nil_append, List.cons_append, List.append_nil, or_false, false_or, or_true, true_or, false_implies, true_implies, and_true, true_and, and_self, Bool.and_true, Bool.true_and])
  refine e_call (by rfl) ?_
  refine (new_ok size w).mono ?_
  rintro q w1 k1
  obtain ⟨pa, rfl, hm1, a1, a2⟩ := new_pr k1
  by_cases g : 1 ≤ size ∧ size ≤ 1048576
  · obtain ⟨rfl, har, hs1⟩ := a1 g
    have f1 : ((0 : Int) != 0) = false := rfl
    rw [if_pos g]
    (try simp only [go_sem, Nat.reduceAdd, Nat.reduceEqDiff, Nat.reduceLT, Nat.reduceLeDiff, Nat.reduceMul, Nat.zero_add, reduceCtorEq, ↓reduceIte, List.length_cons, List.length_nil, List.set_cons_zero, List.set_cons_succ, List.take_zero, List.take_succ_cons, List.drop_zero, List.drop_succ_cons, List.take_nil, List.drop_nil, List.nil_append, List.cons_append, List.append_nil, or_false, false_or, or_true, true_or, false_implies, true_implies, and_true, true_and, and_self, Bool.and_true, Bool.true_and, f1, Option.isNone_some])
    refine ir_loop (fun m ρ w' => ∃ k : Nat, m = os.length - k ∧ k ≤ os.length ∧ Mod (fun _ => False) w w' ∧ (∃ F, ArenaAt 63 70 w' w.heap.size size 0 ((os.take k).foldl (madeStep size) []) F ∧ Fine size ((os.take k).foldl (madeStep size) []) ∧ ∀ x, F x → w.heap.size ≤ x) ∧
      ρ = [(1, .slice va os.length vc), (5, .pointer (some ⟨w.heap.size, 0, none⟩)), (7, I k)]) os.length
      ⟨0, rfl, Nat.zero_le _, hm1, ⟨_, har, fine_new g, fun x hx => Nat.le_of_eq hx.symm⟩, rfl⟩ ?_
    rintro m ρ w' ⟨k, rfl, hk, hm, ⟨F, ha, hf, hF⟩, rfl⟩
    unfold ir6L1
    (try simp only [go_sem, Nat.reduceAdd, Nat.reduceEqDiff, Nat.reduceLT, Nat.reduceLeDiff, Nat.reduceMul, Nat.zero_add, reduceCtorEq, ↓reduceIte, List.length_cons, List.length_nil, List.set_cons_zero, List.set_cons_succ, List.take_zero, List.take_succ_cons, List.drop_zero, List.drop_succ_cons, List.take_nil, List.drop_nil, List.nil_append, List.cons_append, List.append_nil, or_false, false_or, or_true, true_or, false_implies, true_implies, and_true, true_and, and_self, Bool.and_true, Bool.true_and])
    refine ir_cond rfl (fun hc => ?_) (fun hc => ?_)
    · have hc' : k < os.length := by simpa using hc
      obtain ⟨ad, rfl, hcs0, hrd0⟩ := hx k hc'
      have hnext := made_next size os k hc'
      generalize os[k] = o at hcs0 hrd0 hnext
      generalize (os.take k).foldl (madeStep size) [] = ns at ha hf hnext
      have hb1 : (0 : Int) ≤ k ∧ (k : Int) < os.length := by omega
      have hwk : IntKind.i64.wrap ((k : Int) + 1) = ((k + 1 : Nat) : Int) := by rw [wrap_in] <;> omega
      have c0 : ∀ {w'' : World}, Mod (fun _ => False) w w'' → ∀ k', k' < 7 → w''.cell? ((ad.add (k * 7)).add k') = o.cells[k']? := by
        intro w'' hm'' k' hk'
        obtain ⟨u, hu⟩ : ∃ u, o.cells[k']? = some u := ⟨o.cells[k']'(by simpa [OpV.cells] using hk'), List.getElem?_eq_getElem _⟩
        rw [hu]
        exact hm''.cell ((hcs0 k' hk').trans hu) (fun h => h)
      have q1 : w'.cell? ⟨(ad.add (k * 7)).block, (ad.add (k * 7)).off + 1, none⟩ = some (I o.dd) := by rw [← addn (by decide)]; exact c0 hm 1 (by omega)
      have q2 : w'.cell? ⟨(ad.add (k * 7)).block, (ad.add (k * 7)).off + 2, none⟩ = some (I o.n) := by rw [← addn (by decide)]; exact c0 hm 2 (by omega)
      have q3 : vLN w' 3 (.pointer (some ⟨(ad.add (k * 7)).block, (ad.add (k * 7)).off + 3, none⟩)) = some (.agg #[I o.nd.kind, I o.nd.num, o.av]) := by
        have h3 : w'.cell? ((ad.add (k * 7)).add 3) = some (I o.nd.kind) := c0 hm 3 (by omega)
        have h4 : w'.cell? ((ad.add (k * 7)).add 4) = some (I o.nd.num) := c0 hm 4 (by omega)
        have h5 : w'.cell? ((ad.add (k * 7)).add 5) = some o.av := c0 hm 5 (by omega)
        rw [addn (by decide)] at h3 h4 h5
        simp [vLN, cellsFrom, add_at, Nat.add_assoc, h3, h4, h5]
      have hav := hrd0.1.mod hm (fun _ _ h => h)
      have hle := hf.2.1
      have hsz := hf.2.2.2
      by_cases d1 : o.dd = 1
      · have f2 : (o.dd == 1) = true := by simp [d1]
        have f3 : (o.dd == 3) = false := by simp [d1]
        (try simp only [go_sem, Nat.reduceAdd, Nat.reduceEqDiff, Nat.reduceLT, Nat.reduceLeDiff, Nat.reduceMul, Nat.zero_add, reduceCtorEq, ↓reduceIte, List.length_cons, List.length_nil, List.set_cons_zero, List.set_cons_succ, List.take_zero, List.take_succ_cons, List.drop_zero, List.drop_succ_cons, List.take_nil, List.drop_nil, List.nil_append, List.cons_append, List.append_nil, or_false, false_or, or_true, true_or, false_implies, true_implies, and_true, true_and, and_self, Bool.and_true, Bool.true_and, Nat.mul_one, Int.toNat_natCast, Int.toNat_zero, Nat.sub_zero, Nat.sub_self, hb1, q1, q3, f2, f3, hwk])
        refine e_call (by rfl) ?_
        refine (add_ok _ size 0 ns o.nd _ F w' ha hle hsz hav).mono ?_
        rintro q w'' ⟨rfl, F', k1, k2⟩
        obtain ⟨j1, j2⟩ := aw_step hm hF k2
        have q1' : w''.cell? ⟨(ad.add (k * 7)).block, (ad.add (k * 7)).off + 1, none⟩ = some (I o.dd) := by rw [← addn (by decide)]; exact c0 j1 1 (by omega)
        (try simp only [go_sem, Nat.reduceAdd, Nat.reduceEqDiff, Nat.reduceLT, Nat.reduceLeDiff, Nat.reduceMul, Nat.zero_add, reduceCtorEq, ↓reduceIte, List.length_cons, List.length_nil, List.set_cons_zero, List.set_cons_succ, List.take_zero, List.take_succ_cons, List.drop_zero, List.drop_succ_cons, List.take_nil, List.drop_nil, List.nil_append, List.cons_append, List.append_nil, or_false, false_or, or_true, true_or, false_implies, true_implies, and_true, true_and, and_self, Bool.and_true, Bool.true_and, Nat.mul_one, Int.toNat_natCast, Int.toNat_zero, Nat.sub_zero, Nat.sub_self, hb1, q1', f2, f3, hwk])
        have e : madeStep size ns o = (addS size ns o.nd).2.2 := by simp [madeStep, d1]
        exact ⟨_, by omega, k + 1, rfl, hc', j1, ⟨F', by rw [hnext, e]; exact k1, by rw [hnext]; exact fine_step hf o, j2⟩, rfl⟩
      · have f2 : (o.dd == 1) = false := by simp [d1]
        by_cases d3 : o.dd = 3
        · have f3 : (o.dd == 3) = true := by simp [d3]
          have q2d : w'.drew.cell? ⟨(ad.add (k * 7)).block, (ad.add (k * 7)).off + 2, none⟩ = some (I o.n) := q2
          have q3d : vLN w'.drew 3 (.pointer (some ⟨(ad.add (k * 7)).block, (ad.add (k * 7)).off + 3, none⟩)) = some (.agg #[I o.nd.kind, I o.nd.num, o.av]) := q3
          (try simp only [go_sem, Nat.reduceAdd, Nat.reduceEqDiff, Nat.reduceLT, Nat.reduceLeDiff, Nat.reduceMul, Nat.zero_add, reduceCtorEq, ↓reduceIte, List.length_cons, List.length_nil, List.set_cons_zero, List.set_cons_succ, List.take_zero, List.take_succ_cons, List.drop_zero, List.drop_succ_cons, List.take_nil, List.drop_nil, List.nil_append, List.cons_append, List.append_nil, or_false, false_or, or_true, true_or, false_implies, true_implies, and_true, true_and, and_self, Bool.and_true, Bool.true_and, Nat.mul_one, Int.toNat_natCast, Int.toNat_zero, Nat.sub_zero, Nat.sub_self, hb1, q1, q2, q3, q2d, q3d, f2, f3, hwk])
          refine e_call (by rfl) ?_
          have hd : Mod (fun _ => False) w' w'.drew := ⟨Nat.le_refl _, fun _ _ _ => rfl, rfl, rfl, rfl⟩
          refine (set_ok _ size 0 ns o.n o.nd _ F w'.drew (ha.mod hd (fun _ _ h => h)) hf.len (fine_args hf) (hav.mod hd (fun _ _ h => h))).mono ?_
          rintro q w'' ⟨rfl, F', k1, k2⟩
          obtain ⟨j1, j2⟩ := aw_step (hm.trans hd) hF k2
          (try simp only [go_sem, Nat.reduceAdd, Nat.reduceEqDiff, Nat.reduceLT, Nat.reduceLeDiff, Nat.reduceMul, Nat.zero_add, reduceCtorEq, ↓reduceIte, List.length_cons, List.length_nil, List.set_cons_zero, List.set_cons_succ, List.take_zero, List.take_succ_cons, List.drop_zero, List.drop_succ_cons, List.take_nil, List.drop_nil, List.nil_append, List.cons_append, List.append_nil, or_false, false_or, or_true, true_or, false_implies, true_implies, and_true, true_and, and_self, Bool.and_true, Bool.true_and, Nat.mul_one, Int.toNat_natCast, Int.toNat_zero, Nat.sub_zero, Nat.sub_self, hwk])
          have e : madeStep size ns o = (setS ns o.n o.nd).2 := by simp [madeStep, d1, d3]
          exact ⟨_, by omega, k + 1, rfl, hc', j1, ⟨F', by rw [hnext, e]; exact k1, by rw [hnext]; exact fine_step hf o, j2⟩, rfl⟩
        · have f3 : (o.dd == 3) = false := by simp [d3]
          (try simp only [go_sem, Nat.reduceAdd, Nat.reduceEqDiff, Nat.reduceLT, Nat.reduceLeDiff, Nat.reduceMul, Nat.zero_add, reduceCtorEq, ↓reduceIte, List.length_cons, List.length_nil, List.set_cons_zero, List.set_cons_succ, List.take_zero, List.take_succ_cons, List.drop_zero, List.drop_succ_cons, List.take_nil, List.drop_nil, List.nil_append, List.cons_append, List.append_nil, or_false, false_or, or_true, true_or, false_implies, true_implies, and_true, true_and, and_self, Bool.and_true, Bool.true_and, Nat.mul_one, Int.toNat_natCast, Int.toNat_zero, Nat.sub_zero, Nat.sub_self, hb1, q1, f2, f3, hwk])
          have e : madeStep size ns o = ns := by simp [madeStep, d1, d3]
          exact ⟨_, by omega, k + 1, rfl, hc', hm, ⟨F, by rw [hnext, e]; exact ha, by rw [hnext]; exact fine_step hf o, hF⟩, rfl⟩
    · (try simp only [go_sem, Nat.reduceAdd, Nat.reduceEqDiff, Nat.reduceLT, Nat.reduceLeDiff, Nat.reduceMul, Nat.zero_add, reduceCtorEq, ↓reduceIte, List.length_cons, List.length_nil, List.set_cons_zero, List.set_cons_succ, List.take_zero, List.take_succ_cons, List.drop_zero, List.drop_succ_cons, List.take_nil, List.drop_nil, List.nil_append, List.cons_append, List.append_nil, or_false, false_or, or_true, true_or, false_implies, true_implies, and_true, true_and, and_self, Bool.and_true, Bool.true_and])
      have e : k = os.length := by simp at hc; omega
      subst e
      rw [List.take_length] at ha hf
      exact ⟨hm, fun hh => absurd g hh, fun _ => ⟨_, _, rfl, ha, hf, hF⟩⟩
  · obtain rfl := a2 g
    rw [if_neg g]
    (try simp only [go_sem, Nat.reduceAdd, Nat.reduceEqDiff, Nat.reduceLT, Nat.reduceLeDiff, Nat.reduceMul, Nat.zero_add, reduceCtorEq, ↓reduceIte, List.length_cons, List.length_nil, List.set_cons_zero, List.set_cons_succ, List.take_zero, List.take_succ_cons, List.drop_zero, List.drop_succ_cons, List.take_nil, List.drop_nil, List.nil_append, List.cons_append, List.append_nil, or_false, false_or, or_true, true_or, false_implies, true_implies, and_true, true_and, and_self, Bool.and_true, Bool.true_and, Option.isNone_none])
    exact ⟨hm1, fun _ => trivial, fun hh => absurd hh g⟩
end Go.Proofs.Ytnagmcdlepcgnaa
