/- The engine, part 11: maps from ints to ints; function values. -/
import Derived.Test.YtnimaifmcejkcaaW10
import Derived.Maps.RangeRun
set_option linter.unusedSimpArgs false
set_option linter.unusedVariables false
namespace Go.W
open Go Go.ChangeMaps Go.RowKit

/-- Block b is a map that holds these. -/
def MapAt (w : World) (b : Nat) (l : List (Int × Int)) : Prop :=
  ∃ es clock, w.heap[b]? = some (.map es clock) ∧ es.toList.map (fun e => (e.key, e.val)) = l.map (fun p => (I p.1, I p.2)) ∧ (∀ e ∈ es.toList, e.born < clock) ∧ (es.toList.map (·.born)).Nodup
theorem map_mod {w w' : World} {b : Nat} {l : List (Int × Int)} {S : Nat → Prop} (h : MapAt w b l) (hm : Mod S w w') (hb : ¬ S b) : MapAt w' b l := by
  obtain ⟨es, c, h1, h2⟩ := h
  exact ⟨es, c, hm.at h1 hb, h2⟩

def lget (l : List (Int × Int)) (k : Int) : Option Int := (l.find? (fun p => p.1 == k)).map (·.2)
def lput (l : List (Int × Int)) (k v : Int) : List (Int × Int) := match l.findIdx? (fun p => p.1 == k) with
  | some i => l.set i (k, v)
  | none => l ++ [(k, v)]
def ldel (l : List (Int × Int)) (k : Int) : List (Int × Int) := match l.findIdx? (fun p => p.1 == k) with
  | some i => l.eraseIdx i
  | none => l

theorem findNow_int (k : Int) : ∀ (es : List MapEntry) (l : List (Int × Int)) (i : Nat), es.map (fun e => (e.key, e.val)) = l.map (fun p => (I p.1, I p.2)) →
    Instr.findNow (.int .i64) (I k) es i = some ((l.findIdx? (fun p => p.1 == k)).map fun j => (i + j, I (l.getD j (0, 0)).2)) := by
  intro es
  induction es with
  | nil =>
    intro l i h
    cases l with
    | nil => rfl
    | cons p l => simp at h
  | cons e es ih =>
    intro l i h
    cases l with
    | nil => simp at h
    | cons p l =>
      simp only [List.map_cons, List.cons.injEq, Prod.mk.injEq] at h
      obtain ⟨⟨h1, h2⟩, h3⟩ := h
      have e1 : Instr.sameNow (.int .i64) (I k) e.key = some (k == p.1) := by rw [h1]; simp [Instr.sameNow, I]
      by_cases hk : p.1 = k
      · have e2 : (k == p.1) = true := by simp [hk]
        have e3 : (p.1 == k) = true := by simp [hk]
        rw [e2] at e1
        simp [Instr.findNow, e1, List.findIdx?_cons, e3, h2]
      · have e2 : (k == p.1) = false := by simp; exact fun h => hk h.symm
        have e3 : (p.1 == k) = false := by simp [hk]
        rw [e2] at e1
        simp only [Instr.findNow, e1, ih l (i + 1) h3, List.findIdx?_cons, e3]
        cases l.findIdx? (fun p => p.1 == k) with
        | none => rfl
        | some j => simp [Nat.add_assoc, Nat.add_comm 1 j]

theorem findKey_int {P : Program} {w : World} {kt : TypeId} (hk : P.underlying kt = some (.int .i64)) (k : Int) (es : List MapEntry) (l : List (Int × Int)) (h : es.map (fun e => (e.key, e.val)) = l.map (fun p => (I p.1, I p.2))) :
    (Instr.findKey kt (I k) es).run P w = .ok ((l.findIdx? (fun p => p.1 == k)).map fun j => (j, I (l.getD j (0, 0)).2)) w := by
  have := findNow_int k es l 0 h
  simp only [Nat.zero_add] at this
  simp only [Instr.findKey, Sem.run_bind, run_underlying hk, Result.andThen, this]
  rfl
theorem checkKey_int' {P : Program} {w : World} {kt : TypeId} (hk : P.underlying kt = some (.int .i64)) (k : Int) (b : Bool) (n : Nat) : (Instr.checkKey b (n + 1) kt (I k)).run P w = .ok () w := by
  unfold Instr.checkKey
  rw [Sem.run_bind, run_underlying hk]
  rfl
theorem checkKey_int {P : Program} {w : World} {kt : TypeId} (hk : P.underlying kt = some (.int .i64)) (k : Int) (b : Bool) : (Instr.checkKey b 10000 kt (I k)).run P w = .ok () w := checkKey_int' hk k b 9999

theorem lget_idx (l : List (Int × Int)) (k : Int) : lget l k = (l.findIdx? (fun p => p.1 == k)).map fun j => (l.getD j (0, 0)).2 := by
  induction l with
  | nil => rfl
  | cons p l ih =>
    unfold lget at ih ⊢
    by_cases hk : p.1 = k
    · have e3 : (p.1 == k) = true := by simp [hk]
      simp [List.find?_cons, List.findIdx?_cons, e3]
    · have e3 : (p.1 == k) = false := by simp [hk]
      simp only [List.find?_cons, List.findIdx?_cons, e3, ih]
      cases l.findIdx? (fun p => p.1 == k) <;> rfl

section
variable {P : Program} {ρ : Env} {w : World} {K : Value → World → Prop} {d : Option Nat} {ty : TypeId} {pos : String} {af : Array Edge}

theorem e_mm {t : TypeId} (hk : ∀ w', MapAt w' w.heap.size [] → Mod (fun _ => False) w w' → w'.heap.size = w.heap.size + 1 → K (.map (some w.heap.size)) w') :
    E.wp P w ρ K (.raw ⟨d, .makeMap t none, ty, pos, af, none⟩) := by
  refine opWp_of_run fun a ha => ⟨_, _, ?_, hk (w.alloc (.map #[] 0)) ⟨_, _, heap_alloc_new w _, rfl, by simp, by simp⟩ (mod_alloc _ w _) (by simp)⟩
  simp only [execOp, Sem.run_bind, Option.map_none, Go.RowKit.run_makeMap, Result.andThen]
  rfl

theorem e_lk {t kt et : TypeId} {m x : Operand} {b : Nat} {k : Int} {l : List (Int × Int)} (hm : (toO m).ev ρ = some (.map (some b))) (hx : (toO x).ev ρ = some (I k)) (ht : P.underlying t = some (.map kt et)) (hkt : P.underlying kt = some (.int .i64))
    (hz : (zeroValue et).run P w = .ok (I 0) w) (h : MapAt w b l) (hk : K (.tuple #[I ((lget l k).getD 0), .bool (lget l k).isSome]) w) : E.wp P w ρ K (.raw ⟨d, .lookup t m x true, ty, pos, af, none⟩) := by
  obtain ⟨es, clock, h1, h2, _⟩ := h
  refine opWp_of_run fun a ha => ⟨_, w, ?_, hk⟩
  have hkey := findKey_int (P := P) (w := w) hkt k es.toList l h2
  have e1 : (Instr.lookup t (.map (some b)) (I k) true).run P w = .ok (.tuple #[I ((lget l k).getD 0), .bool (lget l k).isSome]) w := by
    rw [lget_idx]
    simp only [Instr.lookup, Sem.run_bind, run_underlying ht, Result.andThen, getObj, Sem.run, h1, checkKey_int hkt, Sem.run_pure]
    cases hI : l.findIdx? (fun p => p.1 == k) with
    | none =>
      rw [hI] at hkey
      erw [hkey]
      simp [hz, Sem.run_bind, Sem.run_pure, Sem.run, Result.andThen]
    | some j =>
      rw [hI] at hkey
      erw [hkey]
      simp [Sem.run_bind, Sem.run_pure, Sem.run, Result.andThen]
  simp only [execOp, Sem.run_bind, ha m _ hm, ha x _ hx, e1, Result.andThen]
  rfl

theorem mod_setBlock {es : Array MapEntry} {c : Nat} (w : World) (b : Nat) (o : Obj) (hb : w.heap[b]? = some (.map es c)) : Mod (· = b) w (setBlock w b o) :=
  ⟨by simp [setBlock], fun i hi hn => by rw [heap_setBlock_other hb o hn], rfl, rfl, rfl⟩
theorem size_setBlock (w : World) (b : Nat) (o : Obj) : (setBlock w b o).heap.size = w.heap.size := by simp [setBlock]
theorem run_setObj_map {b c : Nat} {es : Array MapEntry} {w : World} (hb : w.heap[b]? = some (.map es c)) (o : Obj) : (setObj b o).run P w = .ok () (setBlock w b o) := by
  simp [setObj, Sem.run, hb, setBlock]

theorem e_mu {t kt et : TypeId} {m x y : Operand} {b : Nat} {k v : Int} {l : List (Int × Int)} (hm : (toO m).ev ρ = some (.map (some b))) (hx : (toO x).ev ρ = some (I k)) (hy : (toO y).ev ρ = some (I v)) (ht : P.underlying t = some (.map kt et)) (hkt : P.underlying kt = some (.int .i64))
    (h : MapAt w b l) (hk : ∀ w', MapAt w' b (lput l k v) → Mod (· = b) w w' → w'.heap.size = w.heap.size → K undef w') : E.wp P w ρ K (.raw ⟨d, .mapUpdate t m x y, ty, pos, af, none⟩) := by
  obtain ⟨es, clock, h1, h2, h3, h4⟩ := h
  have hkey := findKey_int (P := P) (w := w) hkt k es.toList l h2
  have hsz : es.size = l.length := by have := congrArg List.length h2; simpa using this
  cases hI : l.findIdx? (fun p => p.1 == k) with
  | none =>
    rw [hI] at hkey
    have e1 : (Instr.mapUpdate t (.map (some b)) (I k) (I v)).run P w = .ok () (setBlock w b (.map (es.push { key := I k, val := I v, born := clock }) (clock + 1))) := by
      simp only [Instr.mapUpdate, Sem.run_bind, run_underlying ht, Result.andThen, getObj, Sem.run, h1, checkKey_int hkt, Sem.run_pure]
      erw [hkey]
      exact run_setObj_map h1 _
    refine opWp_of_skip fun a ha => ⟨_, ?_, hk (setBlock w b (.map (es.push { key := I k, val := I v, born := clock }) (clock + 1))) ⟨_, _, heap_setBlock_same h1 _, ?_, ?_, ?_⟩ (mod_setBlock w b _ h1) (size_setBlock w b _)⟩
    · simp only [execOp, Sem.run_bind, ha m _ hm, ha x _ hx, ha y _ hy, e1, Result.andThen]
      rfl
    · simp [lput, hI, h2]
    · intro e he
      simp only [Array.toList_push, List.mem_append, List.mem_cons, List.not_mem_nil, or_false] at he
      rcases he with he | rfl
      · exact Nat.lt_succ_of_lt (h3 e he)
      · exact Nat.lt_succ_self _
    · simp only [Array.toList_push, List.map_append, List.map_cons, List.map_nil]
      rw [List.nodup_append]
      refine ⟨h4, by simp, ?_⟩
      intro x hx y hy hxy
      simp only [List.mem_cons, List.not_mem_nil, or_false] at hy
      obtain ⟨e, he, rfl⟩ := List.mem_map.1 hx
      have := h3 e he; omega
  | some i =>
    rw [hI] at hkey
    have hil : i < l.length := by
      have := List.findIdx?_eq_some_iff_getElem.1 hI
      exact this.1
    have hie : i < es.size := by omega
    have hki : (es[i]).key = I k := by
      have h5 : es.toList[i]'(by simpa using hie) = es[i] := by simp
      have h6 := congrArg (fun z => z[i]?) h2
      simp only [List.getElem?_map, List.getElem?_eq_getElem (show i < es.toList.length by simpa using hie), List.getElem?_eq_getElem hil, Option.map_some, Option.some.injEq, Prod.mk.injEq] at h6
      have h7 := (List.findIdx?_eq_some_iff_getElem.1 hI).2.1
      rw [← h5, h6.1]
      simp at h7; rw [h7]
    have hst : (Instr.keyThatStays (((es[i]?).map (·.key)).getD (I k)) (I k)).run P w = .ok (I k) w := by
      rw [Array.getElem?_eq_getElem hie, Option.map_some, Option.getD_some, hki]
      simp [Instr.keyThatStays, Instr.sameBits, I]
    have e1 : (Instr.mapUpdate t (.map (some b)) (I k) (I v)).run P w = .ok () (setBlock w b (.map (es.modify i fun e => { e with key := I k, val := I v }) clock)) := by
      simp only [Instr.mapUpdate, Sem.run_bind, run_underlying ht, Result.andThen, getObj, Sem.run, h1, checkKey_int hkt, Sem.run_pure]
      erw [hkey]
      simp only [Option.map_some, Sem.run_bind, hst, Result.andThen]
      exact run_setObj_map h1 _
    refine opWp_of_skip fun a ha => ⟨_, ?_, hk (setBlock w b (.map (es.modify i fun e => { e with key := I k, val := I v }) clock)) ⟨_, _, heap_setBlock_same h1 _, ?_, ?_, ?_⟩ (mod_setBlock w b _ h1) (size_setBlock w b _)⟩
    · simp only [execOp, Sem.run_bind, ha m _ hm, ha x _ hx, ha y _ hy, e1, Result.andThen]
      rfl
    · simp only [lput, hI]
      apply List.ext_getElem?
      intro j
      have h6 := congrArg (fun z => z[j]?) h2
      simp only [List.getElem?_map] at h6 ⊢
      rw [Array.toList_modify, List.getElem?_modify, List.getElem?_set]
      by_cases hij : i = j
      · subst hij
        simp [hil, show i < es.toList.length by simpa using hie, hie]
      · rw [if_neg hij]
        simpa [hij] using h6
    · intro e he
      rw [Array.toList_modify] at he
      obtain ⟨j, hj, rfl⟩ := List.getElem_of_mem he
      rw [List.getElem_modify]
      have hm : es.toList[j]'(by simpa using hj) ∈ es.toList := List.getElem_mem _
      have h5 := h3 _ hm
      split <;> exact h5
    · have : (es.modify i fun e => { e with key := I k, val := I v }).toList.map (·.born) = es.toList.map (·.born) := by
        apply List.ext_getElem?
        intro j
        rw [Array.toList_modify]
        simp only [List.getElem?_map, List.getElem?_modify]
        by_cases hij : i = j
        · subst hij
          cases es.toList[i]? <;> simp
        · simp [hij]
      rw [this]; exact h4

theorem e_dl {t kt et : TypeId} {at' : Array TypeId} {m x : Operand} {b : Nat} {k : Int} {l : List (Int × Int)} (hat : at'[0]? = some t) (hm : (toO m).ev ρ = some (.map (some b))) (hx : (toO x).ev ρ = some (I k)) (ht : P.underlying t = some (.map kt et)) (hkt : P.underlying kt = some (.int .i64))
    (h : MapAt w b l) (hk : ∀ w', MapAt w' b (ldel l k) → Mod (· = b) w w' → w'.heap.size = w.heap.size → K (.tuple #[]) w') : E.wp P w ρ K (.raw ⟨d, .call { callee := .builtin .delete, args := #[m, x], argTypes := at' }, ty, pos, af, none⟩) := by
  obtain ⟨es, clock, h1, h2, h3, h4⟩ := h
  have hkey := findKey_int (P := P) (w := w) hkt k es.toList l h2
  have hsz : es.size = l.length := by have := congrArg List.length h2; simpa using this
  have run : ∀ es', (Builtin.delete_ at' ty #[.map (some b), I k]).run P w = .ok (.tuple #[]) (setBlock w b (.map es' clock)) → ∀ a, Agree ρ a → (execOp a.eval ⟨d, .call { callee := .builtin .delete, args := #[m, x], argTypes := at' }, ty, pos, af, none⟩).run P w = .ok (.value (.tuple #[])) (setBlock w b (.map es' clock)) := by
    intro es' he a ha
    simp only [execOp, resolve, invoke, builtin, Sem.run_bind, Sem.run_pure, Result.andThen, List.map_toArray, List.map_cons, List.map_nil, ha m _ hm, ha x _ hx]
    erw [he]
  have a0 : (#[Value.map (some b), I k] : Array Value)[0]? = some (.map (some b)) := rfl
  have a1 : (#[Value.map (some b), I k] : Array Value)[1]? = some (I k) := rfl
  cases hI : l.findIdx? (fun p => p.1 == k) with
  | none =>
    rw [hI] at hkey
    have e1 : (Builtin.delete_ at' ty #[.map (some b), I k]).run P w = .ok (.tuple #[]) (setBlock w b (.map es clock)) := by
      simp only [Builtin.delete_, hat, a0, a1, Sem.run_bind, run_underlying ht, Result.andThen, getObj, Sem.run, h1, checkKey_int hkt, Sem.run_pure]
      erw [hkey]
      simp only [Option.map_none, Sem.run_bind, run_setObj_map h1, Result.andThen]
      rfl
    refine opWp_of_run fun a ha => ⟨_, _, run es e1 a ha, hk _ ⟨_, _, heap_setBlock_same h1 _, ?_, h3, h4⟩ (mod_setBlock w b _ h1) (size_setBlock w b _)⟩
    simpa [ldel, hI] using h2
  | some i =>
    rw [hI] at hkey
    have hil : i < l.length := (List.findIdx?_eq_some_iff_getElem.1 hI).1
    have hie : i < es.size := by omega
    have e1 : (Builtin.delete_ at' ty #[.map (some b), I k]).run P w = .ok (.tuple #[]) (setBlock w b (.map (es.eraseIdxIfInBounds i) clock)) := by
      simp only [Builtin.delete_, hat, a0, a1, Sem.run_bind, run_underlying ht, Result.andThen, getObj, Sem.run, h1, checkKey_int hkt, Sem.run_pure]
      erw [hkey]
      simp only [Option.map_some, Sem.run_bind, run_setObj_map h1, Result.andThen]
      rfl
    have hel : (es.eraseIdxIfInBounds i).toList = es.toList.eraseIdx i := by simp [Array.eraseIdxIfInBounds, hie, Array.toList_eraseIdx]
    refine opWp_of_run fun a ha => ⟨_, _, run _ e1 a ha, hk _ ⟨_, _, heap_setBlock_same h1 _, ?_, ?_, ?_⟩ (mod_setBlock w b _ h1) (size_setBlock w b _)⟩
    · rw [hel, map_eraseIdx]
      simp only [ldel, hI]
      rw [h2, map_eraseIdx]
    · intro e he
      rw [hel] at he
      exact h3 e (List.mem_of_mem_eraseIdx he)
    · rw [hel, map_eraseIdx]
      exact h4.sublist (List.eraseIdx_sublist _ _)

theorem e_cl {t kt et : TypeId} {at' : Array TypeId} {m : Operand} {b : Nat} {l : List (Int × Int)} (hat : at'[0]? = some t) (hm : (toO m).ev ρ = some (.map (some b))) (ht : P.underlying t = some (.map kt et))
    (h : MapAt w b l) (hk : ∀ w', MapAt w' b [] → Mod (· = b) w w' → w'.heap.size = w.heap.size → K (.tuple #[]) w') : E.wp P w ρ K (.raw ⟨d, .call { callee := .builtin .clear, args := #[m], argTypes := at' }, ty, pos, af, none⟩) := by
  obtain ⟨es, clock, h1, h2, h3, h4⟩ := h
  refine opWp_of_run fun a ha => ⟨_, _, ?_, hk (setBlock w b (.map #[] clock)) ⟨_, _, heap_setBlock_same h1 _, rfl, by simp, by simp⟩ (mod_setBlock w b _ h1) (size_setBlock w b _)⟩
  have a0 : (#[Value.map (some b)] : Array Value)[0]? = some (.map (some b)) := rfl
  have e1 : (Builtin.clear_ at' ty #[.map (some b)]).run P w = .ok (.tuple #[]) (setBlock w b (.map #[] clock)) := by
    simp only [Builtin.clear_, hat, a0, Sem.run_bind, run_underlying ht, Result.andThen, getObj, Sem.run, h1, Sem.run_pure]
    simp only [run_setObj_map h1]
  simp only [execOp, resolve, invoke, builtin, Sem.run_bind, Sem.run_pure, Result.andThen, List.map_toArray, List.map_cons, List.map_nil, ha m _ hm]
  erw [e1]

/-- A function value is called. -/
theorem e_cv {f : FuncId} {fn : Func} {cap : Array Value} {x : Operand} {args : Array Operand} {at' : Array TypeId} {vs : List Value} (hx : (toO x).ev ρ = some (.func (.func f) #[] cap)) (ha' : evs ρ (args.toList.map toO) = some vs)
    (hfn : P.funcs[f]? = some fn) (hbody : fn.body.isSome = true) (hname : (fn.name == "runtime.NumGoroutine") = false) (h : CallsR P f (vs ++ cap.toList) w K) :
    E.wp P w ρ K (.raw ⟨d, .call { callee := .value x, args := args, argTypes := at' }, ty, pos, af, none⟩) := by
  intro a ha
  have hargs : args.map a.eval = vs.toArray := by
    have key : ∀ (l : List Operand) (vs : List Value), evs ρ (l.map toO) = some vs → l.map a.eval = vs := by
      intro l
      induction l with
      | nil => intro vs h; simp only [List.map_nil, evs, Option.some.injEq] at h; subst h; rfl
      | cons y l ih =>
        intro vs h
        simp only [List.map_cons, evs] at h
        cases h1 : (toO y).ev ρ with
        | none => simp [h1] at h
        | some u =>
          cases h2 : evs ρ (l.map toO) with
          | none => simp [h1, h2] at h
          | some us =>
            simp [h1, h2] at h
            subst h
            rw [List.map_cons, ha y u h1, ih us h2]
    have := key args.toList vs ha'
    apply Array.ext'
    simpa using this
  have hn : fn.body.isNone = false := by cases hb : fn.body <;> simp [hb] at hbody ⊢
  unfold Oper.wp
  have e1 : (execOp a.eval ⟨d, .call { callee := .value x, args := args, argTypes := at' }, ty, pos, af, none⟩).run P w = .ok (.enter f (vs ++ cap.toList).toArray) w := by
    have g1 : ro P w program = some P := rfl
    have g2 : vs.toArray ++ cap = (vs ++ cap.toList).toArray := by apply Array.ext'; simp
    simp only [execOp, resolve, Deferred.ofValue, Sem.run_bind, Sem.run_pure, Result.andThen_ok, invoke, callFunc, ro_run g1, hfn, ha x _ hx, hargs, Array.empty_append, g2]
    rw [if_neg (by rw [hname]; simp), if_neg (by rw [hn]; simp)]
    rfl
  rw [e1]
  simp only [Oper.upon]
  unfold CallsR at h
  refine h.mono ?_
  rintro e w' ⟨v, rfl, hk⟩
  exact ⟨v, rfl, hk⟩

def kv (e : MapEntry) : Value × Value := (e.key, e.val)
def I2 (p : Int × Int) : Value × Value := (I p.1, I p.2)
/-- Block r looks at the map in block b; these are left. -/
def ItAt (w : World) (r b : Nat) (l left : List (Int × Int)) : Prop :=
  ∃ es clock since seen c0, w.heap[r]? = some (.mapIter (some b) since seen c0) ∧ w.heap[b]? = some (.map es clock) ∧ es.toList.map kv = l.map I2 ∧ (∀ e ∈ es.toList, e.born < since) ∧ since ≤ c0 ∧ since ≤ clock ∧ (es.toList.map (·.born)).Nodup ∧
    (leftOf es seen).toList.map kv = left.map I2
/-- It has just come to this. -/
def CurAt (w : World) (r b : Nat) (p : Int × Int) : Prop :=
  ∃ (es : Array MapEntry) (clock since : Nat) (seen : Array Nat) (e : MapEntry), w.heap[r]? = some (.mapIter (some b) since (seen.push e.born) clock) ∧ w.heap[b]? = some (.map es clock) ∧ e ∈ es.toList ∧ (es.toList.map (·.born)).Nodup ∧ kv e = I2 p
theorem it_mod {w w' : World} {r b : Nat} {l left : List (Int × Int)} {S : Nat → Prop} (h : ItAt w r b l left) (hm : Mod S w w') (hr : ¬ S r) (hb : ¬ S b) : ItAt w' r b l left := by
  obtain ⟨es, c, s, seen, c0, h1, h2, h3⟩ := h
  exact ⟨es, c, s, seen, c0, hm.at h1 hr, hm.at h2 hb, h3⟩
theorem cur_mod {w w' : World} {r b : Nat} {p : Int × Int} {S : Nat → Prop} (h : CurAt w r b p) (hm : Mod S w w') (hr : ¬ S r) (hb : ¬ S b) : CurAt w' r b p := by
  obtain ⟨es, c, s, seen, e, h1, h2, h3⟩ := h
  exact ⟨es, c, s, seen, e, hm.at h1 hr, hm.at h2 hb, h3⟩
theorem it_map {w : World} {r b : Nat} {l left : List (Int × Int)} (h : ItAt w r b l left) : MapAt w b l := by
  obtain ⟨es, c, s, seen, c0, h1, h2, h3, h4, h5, h6, h7, _⟩ := h
  exact ⟨es, c, h2, h3, fun e he => Nat.lt_of_lt_of_le (h4 e he) h6, h7⟩

theorem e_rg {t kt et : TypeId} {m : Operand} {b : Nat} {l : List (Int × Int)} (hm : (toO m).ev ρ = some (.map (some b))) (ht : P.underlying t = some (.map kt et)) (h : MapAt w b l)
    (hk : ∀ w', ItAt w' w.heap.size b l l → Mod (fun _ => False) w w' → w'.heap.size = w.heap.size + 1 → K (.pointer (some ⟨w.heap.size, 0, none⟩)) w') : E.wp P w ρ K (.raw ⟨d, .range t m, ty, pos, af, none⟩) := by
  obtain ⟨es, clock, h1, h2, h3, h4⟩ := h
  refine opWp_of_run fun a ha => ⟨_, _, ?_, hk (w.alloc (.mapIter (some b) clock #[] clock)) ⟨es, clock, clock, #[], clock, heap_alloc_new w _, ?_, h2, h3, Nat.le_refl _, Nat.le_refl _, h4, ?_⟩ (mod_alloc _ w _) (by simp)⟩
  · have e1 : (Instr.range t (.map (some b))).run P w = .ok (.pointer (some ⟨w.heap.size, 0, none⟩)) (w.alloc (.mapIter (some b) clock #[] clock)) := by
      simp only [Instr.range, Sem.run_bind, run_underlying ht, Result.andThen, getObj, Sem.run, h1, Sem.run_pure]
      rfl
    simp only [execOp, Sem.run_bind, ha m _ hm, e1, Result.andThen]
    rfl
  · exact (mod_alloc (fun _ => False) w _).at h1 (fun h => h)
  · have : (leftOf es #[]) = es := by simp [leftOf]
    rw [this]; exact h2

theorem left_push (es : Array MapEntry) (seen : Array Nat) (hn : (es.toList.map (·.born)).Nodup) {i : Nat} (hi : i < (leftOf es seen).toList.length) :
    (leftOf es (seen.push ((leftOf es seen).toList[i]).born)).toList = (leftOf es seen).toList.eraseIdx i := by
  have hL : (leftOf es seen).toList = es.toList.filter (fun e => !seen.contains e.born) := by simp [leftOf]
  have hsub : ((leftOf es seen).toList.map (·.born)).Nodup := by
    rw [hL]; exact hn.sublist ((List.filter_sublist).map _)
  generalize hb : ((leftOf es seen).toList[i]).born = bn
  have h2 : (leftOf es (seen.push bn)).toList = (leftOf es seen).toList.filter (fun e => !(e.born == bn)) := by
    rw [hL]
    simp only [leftOf, Array.toList_filter, List.filter_filter]
    apply List.filter_congr
    intro e _
    simp only [Array.contains_push]
    cases seen.contains e.born <;> cases (e.born == bn) <;> rfl
  rw [h2]
  generalize (leftOf es seen).toList = L at hi hsub hb
  clear h2 hL
  induction L generalizing i with
  | nil => simp at hi
  | cons e L ih =>
    simp only [List.map_cons, List.nodup_cons] at hsub
    cases i with
    | zero =>
      simp only [List.getElem_cons_zero] at hb
      subst hb
      rw [List.eraseIdx_cons_zero, List.filter_cons, if_neg (by simp), List.filter_eq_self]
      intro x hx
      have : x.born ≠ e.born := fun hh => hsub.1 (hh ▸ List.mem_map.2 ⟨x, hx, rfl⟩)
      simp [this]
    | succ i =>
      simp only [List.getElem_cons_succ] at hb
      have hi' : i < L.length := by simpa using hi
      have hne : e.born ≠ bn := fun hh => hsub.1 (by rw [hh, ← hb]; exact List.mem_map.2 ⟨_, List.getElem_mem hi', rfl⟩)
      rw [List.eraseIdx_cons_succ, List.filter_cons, if_pos (by simp [hne]), ih hi' hsub.2 hb]

theorem e_nx {m : Operand} {r b : Nat} {l left : List (Int × Int)} (hm : (toO m).ev ρ = some (.pointer (some ⟨r, 0, none⟩))) (h : ItAt w r b l left) (hrb : r ≠ b)
    (h0 : left = [] → K (.tuple #[.bool false]) w)
    (h1 : ∀ i (hi : i < left.length) w', ItAt w' r b l (left.eraseIdx i) → CurAt w' r b left[i] → Mod (· = r) w w' → w'.heap.size = w.heap.size → K (.tuple #[.bool true, I left[i].1, I left[i].2]) w') :
    E.wp P w ρ K (.raw ⟨d, .next m false, ty, pos, af, none⟩) := by
  obtain ⟨es, clock, since, seen, c0, k1, k2, k3, k4, k5, k6, k7, k8⟩ := h
  have hll : left.length = (leftOf es seen).toList.length := by have := congrArg List.length k8; simpa using this.symm
  rcases run_next_at (P := P) w ty r b since c0 seen es clock k1 k2 k4 k5 with ⟨z1, z2⟩ | ⟨e, he, w1, hw1, z2⟩
  · refine opWp_of_run fun a ha => ⟨_, _, ?_, h0 (List.eq_nil_of_length_eq_zero (by rw [hll]; simpa using z1))⟩
    simp only [execOp, Sem.run_bind, ha m _ hm, z2, Result.andThen]
    rfl
  · obtain ⟨i, hi, hie⟩ := List.getElem_of_mem he
    have hil : i < left.length := by rw [hll]; exact hi
    have hkv : kv e = I2 left[i] := by
      have := congrArg (fun z => z[i]?) k8
      simp only [List.getElem?_map, List.getElem?_eq_getElem hi, List.getElem?_eq_getElem hil, Option.map_some, Option.some.injEq] at this
      rw [← hie]; exact this
    have hm1 : Mod (· = r) w (setBlock w1 r (.mapIter (some b) since (seen.push e.born) clock)) := by
      rcases hw1 with rfl | rfl
      · exact ⟨by simp [setBlock], fun j hj hn => by simp only [setBlock]; rw [Array.getElem?_setIfInBounds, if_neg (fun hh => hn hh.symm)], rfl, rfl, rfl⟩
      · exact ⟨by simp [setBlock], fun j hj hn => by simp only [setBlock]; rw [Array.getElem?_setIfInBounds, if_neg (fun hh => hn hh.symm)]; rfl, rfl, rfl, rfl⟩
    have hrl := lt_of_heap k1
    have hr' : (setBlock w1 r (.mapIter (some b) since (seen.push e.born) clock)).heap[r]? = some (.mapIter (some b) since (seen.push e.born) clock) := by
      rcases hw1 with rfl | rfl <;> simp [setBlock, hrl]
    have hb' := hm1.at k2 (fun hh => hrb hh.symm)
    have hsz : (setBlock w1 r (.mapIter (some b) since (seen.push e.born) clock)).heap.size = w.heap.size := by
      rcases hw1 with rfl | rfl <;> simp [setBlock]
    have e2 : (.tuple #[.bool true, I left[i].1, I left[i].2] : Value) = .tuple #[.bool true, e.key, e.val] := by
      have q := hkv
      simp only [kv, I2, Prod.mk.injEq] at q
      rw [q.1, q.2]
    refine opWp_of_run fun a ha => ⟨_, _, ?_, h1 i hil (setBlock w1 r (.mapIter (some b) since (seen.push e.born) clock)) ⟨es, clock, since, seen.push e.born, clock, hr', hb', k3, k4, k6, k6, k7, ?_⟩ ⟨es, clock, since, seen, e, hr', hb', ?_, k7, hkv⟩ hm1 hsz⟩
    · rw [e2]
      simp only [execOp, Sem.run_bind, ha m _ hm, z2, Result.andThen]
      rfl
    · have := left_push es seen k7 hi
      rw [hie] at this
      rw [this, map_eraseIdx, k8, map_eraseIdx]
    · have hL : (leftOf es seen).toList = es.toList.filter (fun e => !seen.contains e.born) := by simp [leftOf]
      rw [hL] at he
      exact (List.mem_filter.1 he).1

theorem e_en {m : Operand} {r b : Nat} {p : Int × Int} (hm : (toO m).ev ρ = some (.pointer (some ⟨r, 0, none⟩))) (h : CurAt w r b p) (hk : K (.tuple #[I p.1, I p.2]) w) : E.wp P w ρ K (.raw ⟨d, .entry m, ty, pos, af, none⟩) := by
  obtain ⟨es, clock, since, seen, e, h1, h2, h3, h4, h5⟩ := h
  have := run_entry_at (P := P) w r b since seen es clock e h1 h2 h3 h4
  simp only [kv, I2, Prod.mk.injEq] at h5
  rw [h5.1, h5.2] at this
  refine opWp_of_run fun a ha => ⟨_, _, ?_, hk⟩
  simp only [execOp, Sem.run_bind, ha m _ hm, this, Result.andThen]
  rfl

/-- A slice of nothing, in a block of its own. -/
theorem e_b0 {t el : TypeId} {n : Nat} (ht : P.underlying t = some (.slice el)) (hn : szOf P el = some n) (hk : ∀ w', w'.heap[w.heap.size]? = some (.cells #[] el (0, 0)) → Mod (fun _ => False) w w' → w'.heap.size = w.heap.size + 1 → K (.slice (some ⟨w.heap.size, 0, none⟩) 0 0) w') :
    E.wp P w ρ K (.raw ⟨d, .buildSlice t 0 #[], ty, pos, af, none⟩) := by
  refine opWp_of_run fun a ha => ⟨_, _, ?_, hk (w.alloc (.cells #[] el)) (heap_alloc_new w _) (mod_alloc _ w _) (by simp)⟩
  have g1 : ro P w (underlying t) = some (.slice el) := by rw [ro_underlying, ht]
  have g2 : ro P w (sizeOf el) = some n := by rw [ro_sizeOf]; exact hn
  simp only [execOp, Instr.buildSlice, Sem.run_bind, ro_run g1, ro_run g2, Result.andThen_ok, Sem.run_pure, Nat.zero_mul]
  simp [newRow, Instr.fill, show Array.range 0 = #[] from rfl]
end
end Go.W
