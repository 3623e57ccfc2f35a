/- The engine, part 10: the row of a law: it answers true and changes nothing that was there. -/
import Derived.Test.YtnimaifmcejkcaaW9
import Derived.ProofKit
import Derived.SizedLaws
set_option linter.unusedSimpArgs false
set_option linter.unusedVariables false
namespace Go.W
open Go Go.ChangeShapes Go.WideShapes Go.ChangeAt Go.RowKit

theorem mod_below {w w' : World} (h : Mod (fun _ => False) w w') : Below w.heap.size w w' := ⟨h.os, h.tape, h.output, h.size, fun k hk => h.old k hk (fun h => h)⟩

section
variable {H : Type} {enc : TypeId × Value → H} {P : Program}

theorem trodAll_len : ∀ {ts : List TypeId} {vs : List Value} {ds : List (DataW H)} {ps : List MemPlace} {w : World} {base : Nat} {spare : Nat → Bool} {held : Bool}, DataW.TrodAll enc P w base spare held ts vs ds ps → ds.length = ts.length
  | [], [], [], _, _, _, _, _, _ => rfl
  | _ :: _, _ :: _, _ :: _, _, _, _, _, _, ⟨_, _, _, h, _⟩ => by simp [trodAll_len h]
  | [], _ :: _, _, _, _, _, _, _, h => h.elim
  | [], [], _ :: _, _, _, _, _, _, h => h.elim
  | _ :: _, [], _, _, _, _, _, _, h => h.elim
  | _ :: _, _ :: _, [], _, _, _, _, _, h => h.elim
theorem trodAll_below (hl : laidOutB P = true) {W W' : World} (hb : Below W.heap.size W W') : ∀ {ts : List TypeId} {vs : List Value} {ds : List (DataW H)} {ps : List MemPlace}, ts.all (fun t => P.readableRec t && decide (t < P.types.size)) = true →
    (∀ x ∈ ps, x.block < W.heap.size) → DataW.TrodAll enc P W 0 (fun _ => true) true ts vs ds ps → DataW.TrodAll enc P W' 0 (fun b => decide (b < W.heap.size)) true ts vs ds ps
  | [], [], [], _, _, _, h => h
  | t :: ts, v :: vs, d :: ds, ps, ht, hp, ⟨p, q, h1, h2, h3⟩ => by
    simp only [List.all_cons, Bool.and_eq_true, decide_eq_true_eq] at ht
    subst h3
    exact ⟨p, q, Below.trod hl ht.1.1 ht.1.2 h1 hb (fun x hx => hp x (List.mem_append_left _ hx)), trodAll_below hl hb ht.2 (fun x hx => hp x (List.mem_append_right _ hx)) h2, rfl⟩
  | [], _ :: _, _, _, _, _, h => h.elim
  | [], [], _ :: _, _, _, _, h => h.elim
  | _ :: _, [], _, _, _, _, h => h.elim
  | _ :: _, _ :: _, [], _, _, _, h => h.elim

/-- What a law's walk is handed: its arguments as they lie. -/
def LawIn (enc : TypeId × Value → H) (P : Program) (ts : List TypeId) (w : World) (args : List Value) (ds : List (DataW H)) : Prop :=
  (∃ base, ∀ (j : Nat) t v, ts[j]? = some t → args[j]? = some v → Value.okWide P w .any base t v) ∧ (∃ ps, DataW.TrodAll enc P w 0 (fun _ => true) true ts args ds ps) ∧ (DataW.weightsEach P ts ds).all (· ≤ reachBytes) = true

theorem law_row {C : Checked} {os : Os} {f : FuncId} {fn : Func} {s : ChangeSpec} {tb : TypeId} (own : ownKnob C.prog.godebug = none) (started : os.Started) (noInit : C.prog.inits.idxOf? f = none) (hfn : C.prog.funcs[f]? = some fn)
    (witness : ∃ (w : World) (tape : Tape) (i : Input), w.os = os ∧ (w.forCall tape i).Shaped C.prog ∧ i.vars = [] ∧ Input.okWide C.prog (w.forCall tape i) .any w.heap.size f i ∧
      s.pre6 enc C.prog fn [] false (w.forCall tape i).memory i.args ∧ ({} : Assume).holds C.prog (lone (Frame.enter C.prog f i.args .normal) [] (w.forCall tape i)))
    (laid : laidOutB C.prog = true) (hpar : fn.params.toList.all (fun t => C.prog.readableRec t && decide (t < C.prog.types.size)) = true)
    (hres : fn.resultTypes = #[tb]) (hb : C.prog.underlying tb = some .bool) (hvars : s.vars = [])
    (hs : ∀ ds : List (DataW H), ds.length = fn.params.toList.length → s.fn H ds = { results := [.lit (.bool true)], args := ds })
    (walk : ∀ (W : World) (args : List Value) (ds : List (DataW H)), LawIn enc C.prog fn.params.toList W args ds → CallsR C.prog f args W fun q w' => q = .bool true ∧ Mod (fun _ => False) W w') :
    ReturnsInHanded {} C os f .any (s.pre6 enc C.prog fn [] false) (s.post enc C.prog fn false true false false) := by
  refine returnsInHanded_of_change_sized own started noInit hfn witness ?_
  intro W base args ds gs before hval hW _ hsz _
  have hW' := hW
  obtain ⟨p, q, hA, hV, rfl, _, _⟩ := hW
  rw [hvars] at hV
  obtain ⟨rfl, rfl⟩ := trodVars_none hV
  simp only [List.append_nil] at hW' hsz
  have hsz2 : (DataW.weightsEach C.prog fn.params.toList ds).all (· ≤ reachBytes) = true := by
    have e : s.plain.varTypes C.prog = [] := by simp [DataSpec.varTypes, ChangeSpec.plain, hvars]
    rw [e, List.append_nil] at hsz
    exact hsz
  have key := walk W args.toList ds ⟨⟨base, fun j t v ht hv => hval j t v (by simpa using ht) (by simpa using hv)⟩, ⟨p, hA⟩, hsz2⟩
  have e : args.toList.toArray = args := by simp
  unfold CallsR at key
  rw [e] at key
  refine key.mono ?_
  rintro _ W' ⟨_, rfl, rfl, hm⟩
  have hbel := mod_below hm
  have hlt : ∀ x ∈ p, x.block < W.heap.size := fun x hx => by simpa using hW'.lt x hx
  have hf := hs ds (trodAll_len hA)
  refine ⟨_, rfl, ds, [], _, [], p, [], hW', ?_, ?_, ?_, hbel.frame _, fun h => by cases h⟩
  · rw [List.append_nil, hf, hres]
    exact trodAll_mk1 (shut_bool hb true)
  · rw [List.append_nil, hf]
    exact trodAll_below laid hbel hpar hlt hA
  · rw [List.append_nil, hf, hvars]
    rfl

/-- A slice of ints that came in. -/
theorem tr_ints {t e : TypeId} {w : World} {base : Nat} {held : Bool} {n : Nat} {cs : List Value} {x : DataW H × List MemPlace} (ht : P.underlying t = some (.slice e)) (he : P.underlying e = some (.int .i64)) (hc : P.cellsOf e = 1) (hby : P.bytesOf e = 8)
    (h : DataW.trod enc P w base (fun _ => true) held n t cs = some x) (hw : (x.1.weights P t).all (· ≤ reachBytes) = true) : ∃ c xs, cs = [c] ∧ Ints w c xs ∧ xs.length + 5 ≤ 17592186044416 := by
  rcases open_ints ht he hc h with ⟨rfl, rfl⟩ | ⟨a, len, cap, zs, rfl, _, hl, _, hz, rfl, hcell, _⟩
  · exact ⟨_, [], rfl, ⟨none, 0, rfl, by simp, fun i hi => absurd hi (by simp)⟩, by simp⟩
  · simp only [if_true] at hz
    have h1 : zs.length * 8 ≤ reachBytes := by
      have := List.all_eq_true.1 hw ((lits (H := H) .i64 (zs.take len)).length * 8 + (lits (H := H) .i64 (zs.drop len)).length * 8) (by simp [DataW.weights, ht, hby, Nat.add_mul])
      simp [lits] at this; omega
    have h2 : reachBytes = 140737488351232 := by decide
    have hlen : (zs.take len).length = len := by simp; omega
    refine ⟨_, zs.take len, rfl, ⟨some a, cap, by rw [hlen], by omega, fun i hi => ⟨a, rfl, ?_⟩⟩, by omega⟩
    rw [hcell i (by omega)]
    simp [List.getD, List.getElem?_eq_getElem (show i < zs.length by omega)]
end
end Go.W
