/- Heap, the rows: what comes in, read. -/
import Derived.Test.YtnagmcdlepcgnaaW10
import Derived.Test.YtnagmcdlepcgnaaL9
import Derived.Deep.Slices
set_option linter.unusedSimpArgs false
set_option linter.unusedVariables false
namespace Go.Proofs.Ytnagmcdlepcgnaa
open Go Go.W Go.ChangeShapes Go.WideShapes Go.ChangeAt Go.RowKit Go.Deep

theorem Try.cells52 : Try.prog.cellsOf 52 = 7 := by kernel_rfl
theorem Try.cells35 : Try.prog.cellsOf 35 = 3 := by kernel_rfl
theorem Try.cells23 : Try.prog.cellsOf 23 = 1 := by kernel_rfl
theorem Try.cells3 : Try.prog.cellsOf 3 = 1 := by kernel_rfl
theorem Try.bytes3 : Try.prog.bytesOf 3 = 8 := by kernel_rfl
theorem Try.bytes52 : Try.prog.bytesOf 52 = 88 := by kernel_rfl
theorem Try.own : ownKnob Try.prog.godebug = none := by kernel_rfl
theorem Try.laidOut : laidOutB Try.prog = true := by kernel_rfl

section
variable {H : Type} {enc : TypeId × Value → H}

instance : Inhabited OpV := ⟨⟨0, 0, 0, ⟨0, 0, []⟩, [], .bool true, .bool true⟩⟩
theorem all_app {p : Nat → Bool} {l m : List Nat} (h : (l ++ m).all p = true) : l.all p = true ∧ m.all p = true := by
  simpa using h

theorem op_in {w : World} {base n : Nat} {held : Bool} {cs : List Value} {x : DataW H × List MemPlace} (h : DataW.trod enc Try.prog w base (fun _ => true) held n 52 cs = some x) (hw : (x.1.weights Try.prog 52).all (· ≤ reachBytes) = true) :
    ∃ o : OpV, cs = o.cells ∧ o.reads w := by
  obtain ⟨xs, m, rfl, rfl, hl, hxs, hf⟩ := DataW.trod_struct Try.underlying52 h
  rw [Try.cells52] at hl
  match cs, hl, xs, hxs with
  | [c0, c1, c2, c3, c4, c5, c6], _, [x0, x1, x2, x3, x4], _ =>
  have f0 := hf 0 _ rfl
  have f1 := hf 1 _ rfl
  have f2 := hf 2 _ rfl
  have f3 := hf 3 _ rfl
  have f4 := hf 4 _ rfl
  simp only [Try.cells3, Try.cells35, Try.cells23, List.drop_zero, List.drop_succ_cons, List.take_succ_cons, List.take_zero, List.getElem?_cons_zero, List.getElem?_cons_succ] at f0 f1 f2 f3 f4
  simp only [DataW.weights, Try.underlying52, List.map_cons, List.map_nil, DataW.weightsEach] at hw
  obtain ⟨_, hw⟩ := all_app hw
  obtain ⟨_, hw⟩ := all_app hw
  obtain ⟨_, hw⟩ := all_app hw
  obtain ⟨hw3, hw⟩ := all_app hw
  obtain ⟨hw4, _⟩ := all_app hw
  obtain ⟨i0, e0, rfl, _⟩ := DataW.trod_int Try.underlying3 f0
  obtain ⟨i1, e1, rfl, _⟩ := DataW.trod_int Try.underlying3 f1
  obtain ⟨i2, e2, rfl, _⟩ := DataW.trod_int Try.underlying3 f2
  obtain ⟨v6, roots, e6, hr, hrl⟩ := tr_ints Try.underlying23 Try.underlying3 Try.cells3 Try.bytes3 f4 hw4
  obtain ⟨ys, m', rfl, rfl, hl', hys, hg⟩ := DataW.trod_struct Try.underlying35 f3
  match ys, hys with
  | [y0, y1, y2], _ =>
  have g0 := hg 0 _ rfl
  have g1 := hg 1 _ rfl
  have g2 := hg 2 _ rfl
  simp only [Try.cells3, Try.cells23, List.drop_zero, List.drop_succ_cons, List.take_succ_cons, List.take_zero, List.getElem?_cons_zero, List.getElem?_cons_succ] at g0 g1 g2
  simp only [DataW.weights, Try.underlying35, List.map_cons, List.map_nil, DataW.weightsEach] at hw3
  obtain ⟨_, hu1⟩ := all_app hw3
  obtain ⟨_, hu2⟩ := all_app hu1
  obtain ⟨hu3, _⟩ := all_app hu2
  obtain ⟨i3, e3, rfl, _⟩ := DataW.trod_int Try.underlying3 g0
  obtain ⟨i4, e4, rfl, _⟩ := DataW.trod_int Try.underlying3 g1
  obtain ⟨v5, args, e5, ha, hal⟩ := tr_ints Try.underlying23 Try.underlying3 Try.cells3 Try.bytes3 g2 hu3
  cases e0; cases e1; cases e2; cases e3; cases e4; cases e5; cases e6
  exact ⟨⟨i0, i1, i2, ⟨i3, i4, args⟩, roots, c5, c6⟩, rfl, ha, hr, hal, hrl⟩

theorem ops_in {w : World} {base n : Nat} {held : Bool} {v : Value} {x : DataW H × List MemPlace} (h : DataW.trod enc Try.prog w base (fun _ => true) held n 22 [v] = some x) (hw : (x.1.weights Try.prog 22).all (· ≤ reachBytes) = true) :
    ∃ os, Ops w v os := by
  rcases open_slice Try.underlying22 h with ⟨e, rfl⟩ | ⟨a, len, cap, m, k, D, Pl, e, _, hl, _, hm, rfl, hel⟩
  · simp only [List.cons.injEq, and_true] at e
    subst e
    exact ⟨[], none, 0, rfl, by simp, fun i hi => absurd hi (by simp)⟩
  · simp only [List.cons.injEq, and_true] at e
    subst e
    simp only [if_true] at hm
    subst hm
    simp only [DataW.weights, Try.underlying22, Try.bytes52, List.length_map, List.length_range, List.all_cons, Bool.and_eq_true, decide_eq_true_eq] at hw
    obtain ⟨hw1, hw2⟩ := hw
    obtain ⟨hw2, _⟩ := all_app hw2
    have h2 : reachBytes = 140737488351232 := by decide
    have each : ∀ i, i < len → ∃ o : OpV, (∀ k, k < 7 → w.cell? ((a.add (i * 7)).add k) = o.cells[k]?) ∧ o.reads w := by
      intro i hi
      obtain ⟨cs, h3, h4⟩ := hel i (by omega)
      have hwi : ((D i).weights Try.prog 52).all (· ≤ reachBytes) = true := by
        have key : ∀ (l : List (DataW H)) d, d ∈ l → (DataW.weightsAll Try.prog 52 l).all (· ≤ reachBytes) = true → (d.weights Try.prog 52).all (· ≤ reachBytes) = true := by
          intro l
          induction l with
          | nil => intro d hd; cases hd
          | cons y l ih =>
            intro d hd hh
            rw [DataW.weightsAll] at hh
            obtain ⟨z1, z2⟩ := all_app hh
            rcases List.mem_cons.1 hd with rfl | hd
            · exact z1
            · exact ih d hd z2
        exact key _ _ (List.mem_map.2 ⟨i, List.mem_range.2 hi, rfl⟩) hw2
      obtain ⟨o, rfl, ho⟩ := op_in h4 hwi
      obtain ⟨_, _, h5⟩ := World.cells?_some h3
      rw [Try.cells52] at h5
      exact ⟨o, fun k hk => h5 k hk, ho⟩
    obtain ⟨f, hf⟩ := choose_lt (α := OpV) (h := each)
    refine ⟨(List.range len).map f, some a, m, by simp, by simp; omega, fun i hi => ⟨a, rfl, ?_⟩⟩
    have hi' : i < len := by simpa using hi
    simpa using hf i hi'
end
end Go.Proofs.Ytnagmcdlepcgnaa
