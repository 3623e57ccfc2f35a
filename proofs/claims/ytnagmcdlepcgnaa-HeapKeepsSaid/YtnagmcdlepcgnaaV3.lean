/- HeapKeeps: whatever the size, the script, the roots and the number are, the law answers true, and what was handed in reads as it did. No condition. -/
import Derived.Test.YtnagmcdlepcgnaaRows
import Derived.Test.YtnagmcdlepcgnaaV1
import Derived.Test.YtnagmcdlepcgnaaK5
set_option linter.unusedSimpArgs false
set_option linter.unusedVariables false
namespace Go.Proofs.Ytnagmcdlepcgnaa
open Go Go.W Go.ChangeShapes Go.WideShapes Go.ChangeAt Go.RowKit Go.Deep

theorem keeps_in {H : Type} {enc : TypeId × Value → H} {w : World} {args : List Value} {ds : List (DataW H)} (h : LawIn enc Try.prog Try.f3.params.toList w args ds) :
    ∃ size v os rv roots n, args = [I size, v, rv, I n] ∧ Ops w v os ∧ Ints w rv roots := by
  obtain ⟨⟨base, hval⟩, ⟨ps, hA⟩, hsz⟩ := h
  rw [Try.params3] at hval hA hsz
  obtain ⟨v0, v1, v2, v3, d0, d1, d2, d3, p0, p1, p2, p3, ha, rfl, rfl, h0, h1, h2, h3⟩ := trodAll_four (args := args.toArray) (by simpa using hA)
  have ha : args = [v0, v1, v2, v3] := by simpa using congrArg Array.toList ha
  subst ha
  obtain ⟨size, rfl, rfl, rfl, _⟩ := open_int Try.underlying3 (hval 0 3 v0 rfl rfl) h0
  obtain ⟨n, rfl, rfl, rfl, _⟩ := open_int Try.underlying3 (hval 3 3 v3 rfl rfl) h3
  obtain ⟨a1, len1, cap1, rfl⟩ := okWide_slice Try.underlying22 (hval 1 22 v1 rfl rfl)
  obtain ⟨a2, len2, cap2, rfl⟩ := okWide_slice Try.underlying23 (hval 2 23 v2 rfl rfl)
  obtain ⟨fuel1, hf1⟩ := h1
  obtain ⟨fuel2, hf2⟩ := h2
  have hw1 : (d1.weights Try.prog 22).all (· ≤ reachBytes) = true := List.all_eq_true.2 (fun n hn => List.all_eq_true.1 hsz n (DataW.weights_mem_each (j := 1) rfl rfl n hn))
  have hw2 : (d2.weights Try.prog 23).all (· ≤ reachBytes) = true := List.all_eq_true.2 (fun n hn => List.all_eq_true.1 hsz n (DataW.weights_mem_each (j := 2) rfl rfl n hn))
  obtain ⟨os, ho⟩ := ops_in (x := (d1, p1)) (by simpa [Value.cells] using hf1) hw1
  obtain ⟨c, roots, hc, hr, _⟩ := tr_ints (x := (d2, p2)) Try.underlying23 Try.underlying3 Try.cells3 Try.bytes3 (show DataW.trod enc Try.prog w 0 (fun _ => true) true fuel2 23 [.slice a2 len2 cap2] = _ by simpa [Value.cells] using hf2) hw2
  cases hc
  exact ⟨size, _, os, _, roots, n, rfl, ho, hr⟩

set_option maxRecDepth 100000 in
theorem keeps_lifted (os : Os) (started : os.Started) (H : Type) (enc : TypeId × Value → H) :
    ReturnsInHanded {} Try.checked os 3 .any (Rows.heapKeepsSpec.pre6 enc Try.prog Try.f3 Rows.heapKeepsRow.domain false) (Rows.heapKeepsSpec.post enc Try.prog Try.f3 false true false false) := by
  refine law_row (C := Try.checked) Try.own started (by kernel_rfl) Try.func3
    (ChangeSpec.witness6 (enc := enc) (C := Try.checked) false ⟨#[], #[.int .i64 0, .slice none 0 0, .slice none 0 0, .int .i64 0], []⟩ 8 (by kernel_rfl) (by kernel_rfl) (by kernel_rfl) (by kernel_rfl))
    Try.laidOut (by kernel_rfl) (tb := 4) (by kernel_rfl) Try.underlying4 rfl ?_ ?_
  · intro ds hd
    rw [Try.params3] at hd
    match ds, hd with
    | [_, _, _, _], _ => rfl
  · intro W args ds h
    obtain ⟨size, v, os, rv, roots, n, rfl, ho, hr⟩ := keeps_in h
    exact keeps_ok W size n v rv os roots ho hr

theorem heapKeeps_holds : Rows.HeapKeepsSaid :=
  OpenClaim.holds_of_wide 3 Try.f3 rfl rfl rfl rfl rfl rfl rfl ⟨rfl, rfl, rfl, rfl, rfl⟩ rfl rfl rfl rfl rfl (by kernel_rfl) Try.func3 (by kernel_rfl)
    (of_decide_eq_true (by kernel_rfl)) (by unfold Func.isWrapper; rw [if_neg (of_decide_eq_false (by kernel_rfl))]; exact ⟨rfl, rfl⟩)
    (fun os started H enc _ => keeps_lifted os started H enc)
#print axioms heapKeeps_holds
end Go.Proofs.Ytnagmcdlepcgnaa
