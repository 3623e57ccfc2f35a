/- Gens: the sorted keys of a map of ints. -/
import Derived.Test.YtnimaifmcejkcaaS1
import Derived.Test.YtnimaifmcejkcaaW11
import Derived.Test.YtnimaifmcejkcaaIR
set_option linter.unusedSimpArgs false
set_option linter.unusedVariables false
namespace Go.Proofs.Ytnimaifmcejkcaa
open Go Go.W Go.RowKit Go.Maps Go.Sort Go.Shelf Go.ChangeMaps Go.MapKept
open Go.WideElems (Fit rd rg)

theorem sortsA (m : Nat) : AnyZI.SortsIn Try.prog Try.sortedA_ren Fence.wide m :=
  ⟨fun blk off cap ss W hH hblk hsz => callsIn_wide.2 (AnyM.slices_Sort_int Try.sortA blk off cap ss W hH hblk hsz),
   fun p cap W => callsIn_wide.2 (AnyM.slices_Sort_int_none Try.sortA p cap W)⟩

theorem keys_ok (w : World) (mb : Option Nat) : CallsR Try.prog 71 [.map mb] w fun v w' => v = .func (.func 78) #[] #[.pointer (some ⟨w.heap.size, 0, none⟩)] ∧ w' = w.alloc (.cells #[.map mb] 69) := by
  have := callsIn_wide.1 (AnyZI.keys_in Try.keysA Fence.wide 5 trivial rfl mb w)
  exact this.mono (fun e w' ⟨h1, h2⟩ => ⟨_, h1, rfl, h2⟩)

def R0 {H : Type} : Value → Option (DataW H × List MemPlace) := fun _ => some (.nil, [])
theorem keyOf_I {k : Int} (h : -9223372036854775808 ≤ k ∧ k ≤ 9223372036854775807) : keyOf Try.prog 3 (I k) = some (.int .i64 k) := by
  have h1 : IntKind.i64.min = -9223372036854775808 := rfl
  have h2 : IntKind.i64.max = 9223372036854775807 := rfl
  have h3 : (Lit.int .i64 k).wf = true := by simp only [Lit.wf, Bool.and_eq_true, decide_eq_true_eq]; omega
  simp [keyOf, Try.underlying3, mapKey, I, h3]

theorem owns_of {w : World} {b : Nat} {l : List (Int × Int)} (h : MapAt w b l) (hn : (l.map (·.1)).Nodup) (hk : ∀ p ∈ l, -9223372036854775808 ≤ p.1 ∧ p.1 ≤ 9223372036854775807) (hl : l.length ≤ 1048576) :
    ∃ D0 : DataW Unit, w.ownsMap Try.prog 3 R0 b l.length D0 ∧ Maps.size D0 = l.length ∧ (intKeys D0).Perm (l.map (·.1)) := by
  obtain ⟨es, clock, h1, h2, h3, h4⟩ := h
  have hsz : es.size = l.length := by have := congrArg List.length h2; simpa using this
  have hat : ∀ x ∈ es.toList, ∃ p ∈ l, x.key = I p.1 ∧ x.val = I p.2 := by
    intro x hx
    obtain ⟨i, hi, rfl⟩ := List.getElem_of_mem hx
    have hil : i < l.length := by have : es.toList.length = es.size := by simp
                                  omega
    have := congrArg (fun z => z[i]?) h2
    simp only [List.getElem?_map, List.getElem?_eq_getElem hi, List.getElem?_eq_getElem hil, Option.map_some, Option.some.injEq, Prod.mk.injEq] at this
    exact ⟨_, List.getElem_mem hil, this.1, this.2⟩
  have hrd : ∀ x ∈ es.toList, ∃ p ∈ l, x.key = I p.1 ∧ rd (H := Unit) Try.prog 3 R0 x = some (.int .i64 p.1, .nil) := by
    intro x hx
    obtain ⟨p, hp, e1, e2⟩ := hat x hx
    exact ⟨p, hp, e1, by simp [WideElems.rd, e1, keyOf_I (hk p hp), R0]⟩
  have hkeys : es.toList.map (·.key) = (l.map (·.1)).map I := by
    have := congrArg (List.map Prod.fst) h2
    simpa [List.map_map, Function.comp_def] using this
  have hrg : es.toList.map (rg (H := Unit) Try.prog 3 R0) = l.map (fun p => (Lit.int .i64 p.1, DataW.nil)) := by
    apply List.ext_getElem?
    intro i
    have := congrArg (fun z => z[i]?) h2
    simp only [List.getElem?_map] at this ⊢
    cases hx : es.toList[i]? with
    | none =>
      rw [hx] at this
      cases hp : l[i]? with
      | none => rfl
      | some p => rw [hp] at this; simp at this
    | some x =>
      rw [hx] at this
      cases hp : l[i]? with
      | none => rw [hp] at this; simp at this
      | some p =>
        rw [hp] at this
        simp only [Option.map_some, Option.some.injEq, Prod.mk.injEq] at this
        simp [WideElems.rg, WideElems.rd, this.1, keyOf_I (hk p (List.mem_of_getElem? hp)), R0]
  refine ⟨_, ⟨es, clock, h1, ⟨?_, ⟨h3, h4, ?_⟩, fun x hx => ?_⟩, Nat.le_of_eq hsz, rfl⟩, ?_, ?_⟩
  · have : maxLen = 9223372036854775807 := by decide
    omega
  · rw [hkeys]
    refine List.Pairwise.map _ ?_ hn
    intro a b hab hh
    exact hab (by simpa [I] using hh)
  · obtain ⟨p, _, _, h5⟩ := hrd x hx
    exact ⟨_, h5⟩
  · rw [hrg]
    have := (Go.WideShapes.sorted_perm (l.map (fun p => ((Lit.int .i64 p.1, DataW.nil) : Lit × DataW Unit)))).length_eq
    simpa [Maps.size] using this
  · rw [hrg]
    have := (Go.WideShapes.sorted_perm (l.map (fun p => ((Lit.int .i64 p.1, DataW.nil) : Lit × DataW Unit)))).map (fun p => Go.intOf p.1)
    simpa [intKeys, List.map_map, Function.comp_def, Go.intOf] using this

/-- The keys, ascending. -/
def sortedKeys (l : List (Int × Int)) : List Int := (l.map (·.1)).mergeSort (fun x y => decide (x ≤ y))

theorem sorted_ok (w : World) (Bm b : Nat) (l : List (Int × Int)) (hBm : w.heap[Bm]? = some (.cells #[.map (some b)] 69 (0, 0))) (h : MapAt w b l) (hn : (l.map (·.1)).Nodup) (hk : ∀ p ∈ l, -9223372036854775808 ≤ p.1 ∧ p.1 ≤ 9223372036854775807) (hl : l.length ≤ 1048576) :
    CallsR Try.prog 70 [.func (.func 78) #[] #[.pointer (some ⟨Bm, 0, none⟩)]] w fun v w' => Mod (fun _ => False) w w' ∧ ∃ fp, Own w' 3 1 v ((sortedKeys l).map I) (sortedKeys l).length fp ∧ ∀ x, fp = some x → w.heap.size ≤ x := by
  obtain ⟨D0, hown, hsz, hperm⟩ := owns_of h hn hk hl
  have hlt : Bm < w.heap.size := lt_of_heap hBm
  have hcell : w.cell? ⟨Bm, 0, none⟩ = some (.map (some b)) := by rw [cell_of hBm]; rfl
  have hseq : SeqGives Fence.wide 2 Try.prog 78 #[.pointer (some ⟨Bm, 0, none⟩)] encZ (fun ss => ss.Perm (intKeys D0)) (Maps.size D0) w :=
    AnyZI.keys_gives (ρ := Try.keysA_ren) { Try.keysA with } Fence.wide _ trivial rfl (by omega) Bm b l.length D0 w hlt hcell hown
  have hmax : Maps.size D0 ≤ maxLen := by have : maxLen = 9223372036854775807 := by decide
                                          omega
  have cS := AnyZI.sorted_in Try.sortedA Fence.wide 5 trivial trivial trivial trivial rfl (by omega) (sortsA _) (enters_of Try.func77 (by kernel_rfl) rfl) 78 #[.pointer (some ⟨Bm, 0, none⟩)] trivial (enters_of Try.func78 (by kernel_rfl) rfl) _ _ hmax (by omega) _ hseq
  refine (callsIn_wide.1 cS).mono ?_
  rintro e w' ⟨v, ss, rfl, hS, hrow, hnil, hb⟩
  have hm : Mod (fun _ => False) w w' := ⟨hb.size, fun i hi _ => hb.block i hi, hb.os, hb.tape, hb.output⟩
  have hss : ss.mergeSort (fun x y => decide (x ≤ y)) = sortedKeys l := mergeSort_of_perm_i (hS.trans hperm)
  have hlen : ss.length = (sortedKeys l).length := by rw [← hss, List.length_mergeSort]
  rw [hss, hlen] at hrow
  have henc : ((sortedKeys l).map encZ : List Value) = (sortedKeys l).map I := rfl
  rw [henc] at hrow
  obtain ⟨h1, h2⟩ := hrow
  rcases h2 with ⟨rfl, h2⟩ | ⟨g, cap, cur, rfl, hg, hh, r1, r2, r3, r4⟩
  · exact ⟨_, rfl, hm, none, ⟨h1, .inl ⟨rfl, h2, rfl⟩⟩, fun x hx => by cases hx⟩
  · refine ⟨_, rfl, hm, some g, ⟨h1, .inr ⟨g, cap, cur.toList.drop ((sortedKeys l).length * 1), rfl, rfl, ?_, ?_, r1⟩⟩, fun x hx => by cases hx; exact hg⟩
    · rw [← r4, List.take_append_drop]; exact hh
    · rw [← r4, List.take_append_drop]; simpa using Nat.le_of_eq r3.symm
end Go.Proofs.Ytnimaifmcejkcaa
