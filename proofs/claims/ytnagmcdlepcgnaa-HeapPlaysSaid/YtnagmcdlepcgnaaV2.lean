/- HeapPlays: whatever the sizes of two arenas and whatever script of calls of both is handed in, the law answers true, and what was handed in reads as it did. No condition. -/
import Derived.Test.YtnagmcdlepcgnaaRows
import Derived.Test.YtnagmcdlepcgnaaV1
set_option linter.unusedSimpArgs false
set_option linter.unusedVariables false
namespace Go.Proofs.Ytnagmcdlepcgnaa
open Go Go.W Go.ChangeShapes Go.WideShapes Go.ChangeAt Go.RowKit Go.Deep

theorem plays_in {H : Type} {enc : TypeId × Value → H} {w : World} {args : List Value} {ds : List (DataW H)} (h : LawIn enc Try.prog Try.f4.params.toList w args ds) : ∃ one two v os, args = [I one, I two, v] ∧ Ops w v os := by
  obtain ⟨⟨base, hval⟩, ⟨ps, hA⟩, hsz⟩ := h
  rw [Try.params4] at hval hA hsz
  obtain ⟨v0, v1, v2, d0, d1, d2, p0, p1, p2, ha, rfl, rfl, h0, h1, h2⟩ := trodAll_three (args := args.toArray) (by simpa using hA)
  have ha : args = [v0, v1, v2] := by simpa using congrArg Array.toList ha
  subst ha
  obtain ⟨one, rfl, rfl, rfl, _⟩ := open_int Try.underlying3 (hval 0 3 v0 rfl rfl) h0
  obtain ⟨two, rfl, rfl, rfl, _⟩ := open_int Try.underlying3 (hval 1 3 v1 rfl rfl) h1
  obtain ⟨a0, len, cap, rfl⟩ := okWide_slice Try.underlying22 (hval 2 22 v2 rfl rfl)
  obtain ⟨fuel, hf⟩ := h2
  have hw : (d2.weights Try.prog 22).all (· ≤ reachBytes) = true := List.all_eq_true.2 (fun n hn => List.all_eq_true.1 hsz n (DataW.weights_mem_each (j := 2) rfl rfl n hn))
  obtain ⟨os, ho⟩ := ops_in (x := (d2, p2)) (by simpa [Value.cells] using hf) hw
  exact ⟨one, two, _, os, rfl, ho⟩

set_option maxRecDepth 100000 in
theorem plays_lifted (os : Os) (started : os.Started) (H : Type) (enc : TypeId × Value → H) :
    ReturnsInHanded {} Try.checked os 4 .any (Rows.heapPlaysSpec.pre6 enc Try.prog Try.f4 Rows.heapPlaysRow.domain false) (Rows.heapPlaysSpec.post enc Try.prog Try.f4 false true false false) := by
  refine law_row (C := Try.checked) Try.own started (by kernel_rfl) Try.func4
    (ChangeSpec.witness6 (enc := enc) (C := Try.checked) false ⟨#[], #[.int .i64 0, .int .i64 0, .slice none 0 0], []⟩ 8 (by kernel_rfl) (by kernel_rfl) (by kernel_rfl) (by kernel_rfl))
    Try.laidOut (by kernel_rfl) (tb := 4) (by kernel_rfl) Try.underlying4 rfl ?_ ?_
  · intro ds hd
    rw [Try.params4] at hd
    match ds, hd with
    | [_, _, _], _ => rfl
  · intro W args ds h
    obtain ⟨one, two, v, os, rfl, ho⟩ := plays_in h
    exact plays_ok W one two v os ho

theorem heapPlays_holds : Rows.HeapPlaysSaid :=
  OpenClaim.holds_of_wide 4 Try.f4 rfl rfl rfl rfl rfl rfl rfl ⟨rfl, rfl, rfl, rfl, rfl⟩ rfl rfl rfl rfl rfl (by kernel_rfl) Try.func4 (by kernel_rfl)
    (of_decide_eq_true (by kernel_rfl)) (by unfold Func.isWrapper; rw [if_neg (of_decide_eq_false (by kernel_rfl))]; exact ⟨rfl, rfl⟩)
    (fun os started H enc _ => plays_lifted os started H enc)
#print axioms heapPlays_holds
end Go.Proofs.Ytnagmcdlepcgnaa
