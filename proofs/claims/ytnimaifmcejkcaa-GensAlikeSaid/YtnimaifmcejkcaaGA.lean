/- Gens: the mover: places. -/
import Derived.Test.YtnimaifmcejkcaaS2
import Derived.Test.YtnimaifmcejkcaaHH
section
set_option linter.unusedSimpArgs false
set_option linter.unusedVariables false
set_option maxRecDepth 100000
namespace Go.Proofs.Ytnimaifmcejkcaa
open Go Go.W

theorem gmay_ok (k n : Int) (v : Value) (xs : List Int) (w : World) (hx : Ints w v xs) :
    CallsR Try.prog 40 [.agg #[I k, I n, v]] w fun r w' => r = .bool (mayB k n xs.length) ∧ Mod (fun _ => False) w w' := by
  obtain ⟨a, c, rfl, hl, _⟩ := hx
  refine fit40.calls rfl ?_
  unfold ir40
  (try simp only [go_sem, Nat.reduceAdd, Nat.reduceEqDiff, Nat.reduceLT, Nat.reduceLeDiff, Nat.reduceMul, reduceCtorEq, ↓reduceIte])
  refine e_bx rfl ?_
  intro w1 hb hm _
  have hlt := lt_of_heap hb
  (try simp only [go_sem, Nat.reduceAdd, Nat.reduceEqDiff, Nat.reduceLT, Nat.reduceLeDiff, Nat.reduceMul, reduceCtorEq, ↓reduceIte, cell_of hb])
  repeat' (first | (refine ir_cond rfl (fun h => ?_) (fun h => ?_) <;> (try simp only [go_sem, Nat.reduceAdd, Nat.reduceEqDiff, Nat.reduceLT, Nat.reduceLeDiff, Nat.reduceMul, reduceCtorEq, ↓reduceIte, cell_of hb, h])) | (refine wpS_gr rfl (fun h => ?_) (fun h => ?_) <;> (try simp only [go_sem, Nat.reduceAdd, Nat.reduceEqDiff, Nat.reduceLT, Nat.reduceLeDiff, Nat.reduceMul, reduceCtorEq, ↓reduceIte, cell_of hb, h])))
  all_goals (refine ⟨?_, hm⟩; congr 1; rw [Bool.eq_iff_iff]; unfold mayB; simp only [decide_eq_true_eq, decide_eq_false_iff_not, beq_iff_eq, beq_eq_false_iff_ne, bne_iff_ne, bne_eq_false_iff_eq, ne_eq, Bool.false_eq_true, Bool.true_eq_false, iff_true, iff_false, true_iff, false_iff, Decidable.not_not] at *; omega)

theorem sz3 : szOf Try.prog 3 = some 1 := by kernel_rfl
theorem clone_ok (v : Value) (xs : List Int) (w : World) (hx : Ints w v xs) :
    CallsR Try.prog 42 [v] w fun r w' => Mod (fun _ => False) w w' ∧ NewOwn w w' r xs := by
  have hx' := hx
  obtain ⟨a, c, rfl, hl, hxx⟩ := hx
  refine fit42.calls rfl ?_
  unfold ir42
  cases a with
  | none =>
    have e : xs = [] := by
      cases xs with
      | nil => rfl
      | cons y l => obtain ⟨ad, h, _⟩ := hxx 0 (by simp); cases h
    subst e
    (try simp only [go_sem, Nat.reduceAdd, Nat.reduceEqDiff, Nat.reduceLT, Nat.reduceLeDiff, Nat.reduceMul, reduceCtorEq, ↓reduceIte, Option.isNone_none])
    exact ⟨Mod.refl _ _, none, Own.nil _ _ _, fun b hb => by cases hb⟩
  | some ad =>
    (try simp only [go_sem, Nat.reduceAdd, Nat.reduceEqDiff, Nat.reduceLT, Nat.reduceLeDiff, Nat.reduceMul, reduceCtorEq, ↓reduceIte, Option.isNone_some])
    refine e_b0 (t := 33) (el := 3) (n := 1) Try.underlying33 sz3 ?_
    intro w1 hb1 hm1 hs1
    have ho1 : Own w1 3 1 (.slice (some ⟨w.heap.size, 0, none⟩) 0 0) [] 0 (some w.heap.size) := Own.of_block (xs := []) hb1 (by simp)
    obtain ⟨_, hr, hn⟩ := (hx'.mod hm1 (fun _ _ h => h)).rd
    (try simp only [go_sem, Nat.reduceAdd, Nat.reduceEqDiff, Nat.reduceLT, Nat.reduceLeDiff, Nat.reduceMul, reduceCtorEq, ↓reduceIte])
    refine e_ap (m := xs.length) (news := xs.map I) rfl ho1 rfl (fun h => by cases h) hr (oneI xs) rfl (by omega) (by omega) ?_
    intro v2 w2 fp2 ho2 hm2 hf2
    obtain ⟨va, vc, rfl, _, _⟩ := ho2.val
    (try simp only [go_sem, Nat.reduceAdd, Nat.reduceEqDiff, Nat.reduceLT, Nat.reduceLeDiff, Nat.reduceMul, reduceCtorEq, ↓reduceIte])
    refine ⟨hm1.step hm2 (fun x hx hlt => by cases hx; omega), fp2, by simpa using ho2, fun b hb => ?_⟩
    rcases hf2 b hb with h | h
    · cases h; omega
    · omega

/-- The library's IndexFunc at a function value that answers for each element. -/
theorem index_ok (v : Value) (xs : List Int) (w : World) (hx : Ints w v xs) (f : FuncId) (fn : Func) (cap : Array Value) (p : Int → Bool) (hfn : Try.prog.funcs[f]? = some fn) (hbody : fn.body.isSome = true) (hname : (fn.name == "runtime.NumGoroutine") = false)
    (hf : ∀ x ∈ xs, CallsR Try.prog f ([I x] ++ cap.toList) w fun r w' => r = .bool (p x) ∧ w = w') :
    CallsR Try.prog 66 [v, .func (.func f) #[] cap] w fun r w' => (∃ i : Int, r = I i ∧ (0 ≤ i ↔ xs.any p = true)) ∧ w = w' := by
  obtain ⟨a, c, rfl, hl, hxx⟩ := hx
  refine fit66.calls rfl ?_
  unfold ir66
  (try simp only [go_sem, Nat.reduceAdd, Nat.reduceEqDiff, Nat.reduceLT, Nat.reduceLeDiff, Nat.reduceMul, reduceCtorEq, ↓reduceIte])
  refine ir_loop (fun m ρ w' => ∃ k : Nat, m = xs.length - k ∧ k ≤ xs.length ∧ w = w' ∧ (xs.take k).any p = false ∧
    ρ = [(0, .slice a xs.length c), (1, .func (.func f) #[] cap), (7, I xs.length), (8, I k)]) xs.length ⟨0, rfl, by omega, rfl, by simp, rfl⟩ ?_
  rintro m ρ _ ⟨k, rfl, hk, rfl, hall, rfl⟩
  unfold ir66L1
  (try simp only [go_sem, Nat.reduceAdd, Nat.reduceEqDiff, Nat.reduceLT, Nat.reduceLeDiff, Nat.reduceMul, reduceCtorEq, ↓reduceIte])
  refine ir_cond rfl (fun h => ?_) (fun h => ?_)
  · have hlt : k < xs.length := by simpa using h
    obtain ⟨ad, rfl, hc⟩ := hxx k hlt
    have c1 : (0 : Int) ≤ k ∧ (k : Int) < xs.length := by omega
    (try simp only [go_sem, Nat.reduceAdd, Nat.reduceEqDiff, Nat.reduceLT, Nat.reduceLeDiff, Nat.reduceMul, reduceCtorEq, ↓reduceIte, Nat.mul_one, Int.toNat_natCast, Int.toNat_zero, Nat.sub_zero, Nat.sub_self, c1, hc])
    refine e_cv rfl (by rfl) hfn hbody hname ?_
    refine (hf xs[k] (List.getElem_mem _)).mono ?_
    rintro r _ ⟨rfl, rfl⟩
    (try simp only [go_sem, Nat.reduceAdd, Nat.reduceEqDiff, Nat.reduceLT, Nat.reduceLeDiff, Nat.reduceMul, reduceCtorEq, ↓reduceIte])
    refine ir_cond rfl (fun h2 => ?_) (fun h2 => ?_)
    · (try simp only [go_sem, Nat.reduceAdd, Nat.reduceEqDiff, Nat.reduceLT, Nat.reduceLeDiff, Nat.reduceMul, reduceCtorEq, ↓reduceIte])
      refine ⟨_, rfl, fun _ => ?_, fun _ => by omega⟩
      exact List.any_eq_true.2 ⟨_, List.getElem_mem _, h2⟩
    · have hw : IntKind.i64.wrap ((k : Int) + 1) = ((k + 1 : Nat) : Int) := by rw [wrap_in] <;> omega
      (try simp only [go_sem, Nat.reduceAdd, Nat.reduceEqDiff, Nat.reduceLT, Nat.reduceLeDiff, Nat.reduceMul, reduceCtorEq, ↓reduceIte, hw])
      refine ⟨_, ?_, k + 1, rfl, hlt, ?_, rfl⟩
      · omega
      · rw [List.take_succ_eq_append_getElem hlt, List.any_append, hall]
        simp [h2]
  · have hk' : k = xs.length := by simp at h; omega
    subst hk'
    (try simp only [go_sem, Nat.reduceAdd, Nat.reduceEqDiff, Nat.reduceLT, Nat.reduceLeDiff, Nat.reduceMul, reduceCtorEq, ↓reduceIte])
    rw [List.take_length] at hall
    exact ⟨_, rfl, fun h => by omega, fun h => by rw [hall] at h; cases h⟩
theorem contains_ok (v : Value) (xs : List Int) (w : World) (hx : Ints w v xs) (f : FuncId) (fn : Func) (cap : Array Value) (p : Int → Bool) (hfn : Try.prog.funcs[f]? = some fn) (hbody : fn.body.isSome = true) (hname : (fn.name == "runtime.NumGoroutine") = false)
    (hf : ∀ x ∈ xs, CallsR Try.prog f ([I x] ++ cap.toList) w fun r w' => r = .bool (p x) ∧ w = w') :
    CallsR Try.prog 48 [v, .func (.func f) #[] cap] w fun r w' => r = .bool (xs.any p) ∧ w = w' := by
  refine fit48.calls rfl ?_
  unfold ir48
  (try simp only [go_sem, Nat.reduceAdd, Nat.reduceEqDiff, Nat.reduceLT, Nat.reduceLeDiff, Nat.reduceMul, reduceCtorEq, ↓reduceIte])
  refine e_call (by rfl) ?_
  refine (index_ok v xs w hx f fn cap p hfn hbody hname hf).mono ?_
  rintro r _ ⟨⟨i, rfl, hi⟩, rfl⟩
  (try simp only [go_sem, Nat.reduceAdd, Nat.reduceEqDiff, Nat.reduceLT, Nat.reduceLeDiff, Nat.reduceMul, reduceCtorEq, ↓reduceIte])
  congr 1
  rw [Bool.eq_iff_iff, decide_eq_true_eq]
  exact hi
end Go.Proofs.Ytnimaifmcejkcaa
end

section
set_option linter.unusedSimpArgs false
set_option linter.unusedVariables false
set_option maxRecDepth 100000
namespace Go.Proofs.Ytnimaifmcejkcaa
open Go Go.W

/-- The argument lists of nodes, each in a block of its own. -/
def ArgsD (w : World) (ps : List (Nd × Value)) (fp : Nat → Option Nat) (F : Nat → Prop) : Prop :=
  (∀ i (h : i < ps.length), Own w 3 1 ps[i].2 (ps[i].1.args.map I) ps[i].1.args.length (fp i) ∧ ∀ b, fp i = some b → F b) ∧ ∀ i j b, i < ps.length → j < ps.length → i ≠ j → fp i = some b → fp j ≠ some b
theorem argsD_args {w : World} {ps : List (Nd × Value)} {fp : Nat → Option Nat} {F : Nat → Prop} (h : ArgsD w ps fp F) : Args w ps F := by
  intro p hp
  obtain ⟨i, hi, rfl⟩ := List.getElem_of_mem hp
  exact ⟨fp i, h.1 i hi⟩
theorem argsD_mod {w w' : World} {ps : List (Nd × Value)} {fp : Nat → Option Nat} {F S : Nat → Prop} (h : ArgsD w ps fp F) (hm : Mod S w w') (hd : ∀ i b, i < ps.length → fp i = some b → ¬ S b) : ArgsD w' ps fp F :=
  ⟨fun i hi => ⟨(h.1 i hi).1.mod hm (fun b hb => hd i b hi hb), (h.1 i hi).2⟩, h.2⟩
theorem argsD_weak {w : World} {ps : List (Nd × Value)} {fp : Nat → Option Nat} {F F' : Nat → Prop} (h : ArgsD w ps fp F) (hf : ∀ b, F b → F' b) : ArgsD w ps fp F' :=
  ⟨fun i hi => ⟨(h.1 i hi).1, fun b hb => hf b ((h.1 i hi).2 b hb)⟩, h.2⟩
theorem argsD_nil (w : World) (F : Nat → Prop) : ArgsD w [] (fun _ => none) F := ⟨fun i hi => absurd hi (by simp), fun i j b hi => absurd hi (by simp)⟩
/-- One more. -/
theorem argsD_app {w : World} {ps : List (Nd × Value)} {fp : Nat → Option Nat} {F : Nat → Prop} (h : ArgsD w ps fp F) {nd : Nd} {v : Value} {f : Option Nat} (ho : Own w 3 1 v (nd.args.map I) nd.args.length f) (hF : ∀ b, f = some b → F b) (hn : ∀ i b, i < ps.length → fp i = some b → f ≠ some b) :
    ArgsD w (ps ++ [(nd, v)]) (fun i => if i < ps.length then fp i else f) F := by
  refine ⟨fun i hi => ?_, fun i j b hi hj hij h1 h2 => ?_⟩
  · by_cases hip : i < ps.length
    · rw [List.getElem_append_left hip]; simp only [if_pos hip]; exact h.1 i hip
    · have e : i = ps.length := by simp at hi; omega
      subst e
      simp only [List.getElem_concat_length, Nat.lt_irrefl, if_false]
      exact ⟨ho, hF⟩
  · simp only [List.length_append, List.length_cons, List.length_nil] at hi hj
    simp only at h1 h2
    by_cases hip : i < ps.length
    · rw [if_pos hip] at h1
      by_cases hjp : j < ps.length
      · rw [if_pos hjp] at h2; exact h.2 i j b hip hjp hij h1 h2
      · rw [if_neg hjp] at h2; exact hn i b hip h1 h2
    · rw [if_neg hip] at h1
      by_cases hjp : j < ps.length
      · rw [if_pos hjp] at h2; exact hn j b hjp h2 h1
      · omega
/-- Another one in its place. -/
theorem argsD_set {w : World} {ps : List (Nd × Value)} {fp : Nat → Option Nat} {F : Nat → Prop} (h : ArgsD w ps fp F) {k : Nat} {nd : Nd} {v : Value} {f : Option Nat} (ho : Own w 3 1 v (nd.args.map I) nd.args.length f) (hF : ∀ b, f = some b → F b) (hn : ∀ i b, i < ps.length → i ≠ k → fp i = some b → f ≠ some b) :
    ArgsD w (ps.set k (nd, v)) (fun i => if i = k then f else fp i) F := by
  refine ⟨fun i hi => ?_, fun i j b hi hj hij h1 h2 => ?_⟩
  · have hi' : i < ps.length := by simpa using hi
    rw [List.getElem_set]
    by_cases hik : k = i
    · rw [if_pos hik]; simp only [hik.symm, if_true]; exact ⟨ho, hF⟩
    · have hik' : ¬ i = k := fun hh => hik hh.symm
      rw [if_neg hik]; simp only [if_neg hik']; exact h.1 i hi'
  · have hi' : i < ps.length := by simpa using hi
    have hj' : j < ps.length := by simpa using hj
    simp only at h1 h2
    by_cases hik : i = k
    · rw [if_pos hik] at h1
      rw [if_neg (by omega)] at h2
      exact hn j b hj' (by omega) h2 h1
    · rw [if_neg hik] at h1
      by_cases hjk : j = k
      · rw [if_pos hjk] at h2; exact hn i b hi' hik h1 h2
      · rw [if_neg hjk] at h2; exact h.2 i j b hi' hj' hij h1 h2

/-- Nodes in memory, each argument list in a block of its own. -/
def FromD (Tc : Nat) (w : World) (cf : Value) (ns : List Nd) (F : Nat → Prop) : Prop :=
  ∃ fpc ps fp, Own w Tc 3 cf (flat ps) ns.length fpc ∧ (∀ b, fpc = some b → F b) ∧ ArgsD w ps fp F ∧ ps.map Prod.fst = ns ∧ ∀ b, F b → b < w.heap.size
theorem fromD_from {Tc : Nat} {w : World} {cf : Value} {ns : List Nd} {F : Nat → Prop} (h : FromD Tc w cf ns F) : FromAt Tc w cf ns F := by
  obtain ⟨fpc, ps, fp, h1, h2, h3, h4, h5⟩ := h
  exact ⟨fpc, ps, h1, h2, argsD_args h3, h4, h5⟩
theorem fromD_mod {Tc : Nat} {w w' : World} {cf : Value} {ns : List Nd} {F S : Nat → Prop} (h : FromD Tc w cf ns F) (hm : Mod S w w') (hd : ∀ b, F b → ¬ S b) : FromD Tc w' cf ns F := by
  obtain ⟨fpc, ps, fp, h1, h2, h3, h4, h5⟩ := h
  exact ⟨fpc, ps, fp, h1.mod hm (fun b hb => hd b (h2 b hb)), h2, argsD_mod h3 hm (fun i b hi hb => hd b ((h3.1 i hi).2 b hb)), h4, fun b hb => Nat.lt_of_lt_of_le (h5 b hb) hm.size⟩
theorem fromD_val {Tc : Nat} {w : World} {cf : Value} {ns : List Nd} {F : Nat → Prop} (h : FromD Tc w cf ns F) : ∃ a c, cf = .slice a ns.length c := by
  obtain ⟨fpc, ps, fp, h1, _⟩ := h
  obtain ⟨a, c, e, _⟩ := h1.val
  exact ⟨a, c, e⟩

/-- The old nodes that lead to young ones. -/
def LeadOk (ns : List Nd) (old : Nat) (ld : List (Int × Int)) : Prop :=
  (ld.map (fun q => q.1)).Nodup ∧ ∀ k : Int, k ∈ ld.map (fun q => q.1) ↔ ∃ p : Nat, k = p ∧ p < old ∧ ∃ a ∈ (ndAt ns p).args, (old : Int) ≤ a

/-- The program's arena. -/
def GAt (w : World) (a : Nat) (size young : Int) (old : Nat) (times : Int) (ns : List Nd) (F : Nat → Prop) : Prop :=
  ∃ cv mb ld, w.heap[a]? = some (.cells #[I size, I young, cv, I old, .map (some mb), I times] 72 (0, 0)) ∧ F a ∧ FromD 38 w cv ns F ∧ MapAt w mb ld ∧ F mb ∧ LeadOk ns old ld
theorem gat_mod {w w' : World} {a : Nat} {size young : Int} {old : Nat} {times : Int} {ns : List Nd} {F S : Nat → Prop} (h : GAt w a size young old times ns F) (hm : Mod S w w') (hd : ∀ b, F b → ¬ S b) : GAt w' a size young old times ns F := by
  obtain ⟨cv, mb, ld, h1, h2, h3, h4, h5, h6⟩ := h
  exact ⟨cv, mb, ld, hm.at h1 (hd a h2), h2, fromD_mod h3 hm hd, map_mod h4 hm (hd mb h5), h5, h6⟩
theorem gat_lt {w : World} {a : Nat} {size young : Int} {old : Nat} {times : Int} {ns : List Nd} {F : Nat → Prop} (h : GAt w a size young old times ns F) : ∀ b, F b → b < w.heap.size := by
  obtain ⟨cv, mb, ld, h1, h2, ⟨_, _, _, _, _, _, _, h3⟩, h4, h5, h6⟩ := h
  exact h3
/-- What 'places' wants of it. -/
def GHas (w : World) (a n old : Nat) : Prop := ∃ c0 c1 ba c c4 c5, w.heap[a]? = some (.cells #[c0, c1, .slice ba n c, I old, c4, c5] 72 (0, 0))
theorem gat_has {w : World} {a : Nat} {size young : Int} {old : Nat} {times : Int} {ns : List Nd} {F : Nat → Prop} (h : GAt w a size young old times ns F) : GHas w a ns.length old := by
  obtain ⟨cv, mb, ld, h1, h2, h3, h4⟩ := h
  obtain ⟨x, c, rfl⟩ := fromD_val h3
  exact ⟨_, _, x, c, _, _, h1⟩
theorem ghas_mod {w w' : World} {a n old : Nat} {S : Nat → Prop} (h : GHas w a n old) (hm : Mod S w w') (ha : ¬ S a) : GHas w' a n old := by
  obtain ⟨c0, c1, ba, c, c4, c5, h1⟩ := h
  exact ⟨c0, c1, ba, c, c4, c5, hm.at h1 ha⟩

theorem fn64 : Try.f64.body.isSome = true ∧ (Try.f64.name == "runtime.NumGoroutine") = false := ⟨by kernel_rfl, by kernel_rfl⟩
theorem fn49 : Try.f49.body.isSome = true ∧ (Try.f49.name == "runtime.NumGoroutine") = false := ⟨by kernel_rfl, by kernel_rfl⟩

theorem placesF_ok (w : World) (a n old bx : Nat) (x : Int) (h : GHas w a n old) (hb : w.heap[bx]? = some (.cells #[.pointer (some ⟨a, 0, none⟩)] 24 (0, 0))) :
    CallsR Try.prog 64 [I x, .pointer (some ⟨bx, 0, none⟩)] w fun r w' => r = .bool (decide (x < 0) || decide (x ≥ n)) ∧ w = w' := by
  obtain ⟨c0, c1, ba, c, c4, c5, h1⟩ := h
  refine fit64.calls rfl ?_
  unfold ir64
  (try simp only [go_sem, Nat.reduceAdd, Nat.reduceEqDiff, Nat.reduceLT, Nat.reduceLeDiff, Nat.reduceMul, reduceCtorEq, ↓reduceIte])
  refine wpS_gr rfl (fun hg => ?_) (fun hg => ?_)
  · (try simp only [go_sem, Nat.reduceAdd, Nat.reduceEqDiff, Nat.reduceLT, Nat.reduceLeDiff, Nat.reduceMul, reduceCtorEq, ↓reduceIte, hg])
    simp
  · (try simp only [go_sem, Nat.reduceAdd, Nat.reduceEqDiff, Nat.reduceLT, Nat.reduceLeDiff, Nat.reduceMul, reduceCtorEq, ↓reduceIte, hg, cell_of hb, cell_of h1])
    simp
theorem setF_ok (w : World) (a n old bx : Nat) (x : Int) (h : GHas w a n old) (hb : w.heap[bx]? = some (.cells #[.pointer (some ⟨a, 0, none⟩)] 24 (0, 0))) :
    CallsR Try.prog 49 [I x, .pointer (some ⟨bx, 0, none⟩)] w fun r w' => r = .bool (decide (x ≥ old)) ∧ w = w' := by
  obtain ⟨c0, c1, ba, c, c4, c5, h1⟩ := h
  refine fit49.calls rfl ?_
  unfold ir49
  (try simp only [go_sem, Nat.reduceAdd, Nat.reduceEqDiff, Nat.reduceLT, Nat.reduceLeDiff, Nat.reduceMul, reduceCtorEq, ↓reduceIte, cell_of hb, cell_of h1])

theorem gplaces_ok (w : World) (a n old : Nat) (l : Value) (xs : List Int) (h : GHas w a n old) (hx : Ints w l xs) :
    CallsR Try.prog 41 [.pointer (some ⟨a, 0, none⟩), l] w fun r w' => r = .bool (okPl n xs) ∧ Mod (fun _ => False) w w' := by
  have hx0 := hx
  obtain ⟨va, vc, rfl, _, _⟩ := hx0
  refine fit41.calls rfl ?_
  unfold ir41
  (try simp only [go_sem, Nat.reduceAdd, Nat.reduceEqDiff, Nat.reduceLT, Nat.reduceLeDiff, Nat.reduceMul, reduceCtorEq, ↓reduceIte])
  refine e_bx rfl ?_
  intro w1 hb1 hm1 hs1
  have hb1 : w1.heap[w.heap.size]? = some (.cells #[.pointer (some ⟨a, 0, none⟩)] 24 (0, 0)) := hb1
  have h1 := ghas_mod h hm1 (fun h => h)
  (try simp only [go_sem, Nat.reduceAdd, Nat.reduceEqDiff, Nat.reduceLT, Nat.reduceLeDiff, Nat.reduceMul, reduceCtorEq, ↓reduceIte])
  refine e_call (by rfl) ?_
  refine (contains_ok _ xs w1 (hx.mod hm1 (fun _ _ h => h)) 64 Try.f64 #[.pointer (some ⟨w.heap.size, 0, none⟩)] (fun x => decide (x < 0) || decide (x ≥ n)) Try.func64 fn64.1 fn64.2 (fun x _ => placesF_ok w1 a n old w.heap.size x h1 hb1)).mono ?_
  rintro q _ ⟨rfl, rfl⟩
  (try simp only [go_sem, Nat.reduceAdd, Nat.reduceEqDiff, Nat.reduceLT, Nat.reduceLeDiff, Nat.reduceMul, reduceCtorEq, ↓reduceIte])
  refine ⟨?_, hm1⟩
  congr 1
  unfold okPl
  rw [Bool.eq_iff_iff]
  simp [List.any_eq_true, List.all_eq_true]

theorem gnew_ok (size young : Int) (w : World) :
    CallsR Try.prog 7 [I size, I young] w fun r w' => (1 ≤ size ∧ size ≤ 1048576 ∧ 1 ≤ young ∧ young ≤ size → ∃ a F, r = .tuple #[.pointer (some ⟨a, 0, none⟩), I 0] ∧ GAt w' a size young 0 0 [] F ∧ Mod (fun _ => False) w w' ∧ (∀ x, F x → w.heap.size ≤ x)) ∧
      (¬ (1 ≤ size ∧ size ≤ 1048576 ∧ 1 ≤ young ∧ young ≤ size) → r = .tuple #[.pointer none, I 210] ∧ w = w') := by
  refine fit7.calls rfl ?_
  unfold ir7
  by_cases g : 1 ≤ size ∧ size ≤ 1048576 ∧ 1 ≤ young ∧ young ≤ size
  · have e1 : decide (size < 1) = false := by simp; omega
    have e2 : decide (size > 1048576) = false := by simp; omega
    have e3 : decide (young < 1) = false := by simp; omega
    have e4 : decide (young > size) = false := by simp; omega
    (try simp only [go_sem, Nat.reduceAdd, Nat.reduceEqDiff, Nat.reduceLT, Nat.reduceLeDiff, Nat.reduceMul, reduceCtorEq, ↓reduceIte, e1, e2, e3, e4])
    refine e_mm ?_
    intro w1 hb1 hm1 hs1
    (try simp only [go_sem, Nat.reduceAdd, Nat.reduceEqDiff, Nat.reduceLT, Nat.reduceLeDiff, Nat.reduceMul, reduceCtorEq, ↓reduceIte])
    refine e_bx rfl ?_
    intro w2 hb2 hm2 hs2
    have hb2 : w2.heap[w1.heap.size]? = some (.cells #[I size, I young, .slice none 0 0, I 0, .map (some w.heap.size), I 0] 72 (0, 0)) := hb2
    (try simp only [go_sem, Nat.reduceAdd, Nat.reduceEqDiff, Nat.reduceLT, Nat.reduceLeDiff, Nat.reduceMul, reduceCtorEq, ↓reduceIte])
    refine ⟨fun _ => ⟨w1.heap.size, fun x => x = w1.heap.size ∨ x = w.heap.size, rfl, ⟨_, _, [], hb2, .inl rfl, ⟨none, [], _, Own.nil _ _ _, (fun b hb => by cases hb), argsD_nil _ _, rfl, fun b hb => by omega⟩, map_mod hb1 hm2 (fun h => h), .inr rfl, ⟨by simp, fun k => ⟨fun h => by simp at h, fun ⟨p, _, hp, _⟩ => absurd hp (by omega)⟩⟩⟩, hm1.trans hm2, fun x hx => by omega⟩, fun hh => absurd g hh⟩
  · refine (fun h => h) ?_
    by_cases a1 : size < 1
    · have e1 : decide (size < 1) = true := by simp; omega
      (try simp only [go_sem, Nat.reduceAdd, Nat.reduceEqDiff, Nat.reduceLT, Nat.reduceLeDiff, Nat.reduceMul, reduceCtorEq, ↓reduceIte, e1])
      exact ⟨fun hh => absurd hh g, fun _ => trivial⟩
    have e1 : decide (size < 1) = false := by simp; omega
    by_cases a2 : size > 1048576
    · have e2 : decide (size > 1048576) = true := by simp; omega
      (try simp only [go_sem, Nat.reduceAdd, Nat.reduceEqDiff, Nat.reduceLT, Nat.reduceLeDiff, Nat.reduceMul, reduceCtorEq, ↓reduceIte, e1, e2])
      exact ⟨fun hh => absurd hh g, fun _ => trivial⟩
    have e2 : decide (size > 1048576) = false := by simp; omega
    by_cases a3 : young < 1
    · have e3 : decide (young < 1) = true := by simp; omega
      (try simp only [go_sem, Nat.reduceAdd, Nat.reduceEqDiff, Nat.reduceLT, Nat.reduceLeDiff, Nat.reduceMul, reduceCtorEq, ↓reduceIte, e1, e2, e3])
      exact ⟨fun hh => absurd hh g, fun _ => trivial⟩
    have e3 : decide (young < 1) = false := by simp; omega
    have e4 : decide (young > size) = true := by simp; omega
    (try simp only [go_sem, Nat.reduceAdd, Nat.reduceEqDiff, Nat.reduceLT, Nat.reduceLeDiff, Nat.reduceMul, reduceCtorEq, ↓reduceIte, e1, e2, e3, e4])
    exact ⟨fun hh => absurd hh g, fun _ => trivial⟩

theorem gused_ok (w : World) (a : Nat) (size young : Int) (old : Nat) (times : Int) (ns : List Nd) (F : Nat → Prop) (h : GAt w a size young old times ns F) : CallsR Try.prog 10 [.pointer (some ⟨a, 0, none⟩)] w fun r w' => r = I ns.length ∧ w = w' := by
  obtain ⟨c0, c1, ba, c, c4, c5, h1⟩ := gat_has h
  refine fit10.calls rfl ?_
  unfold ir10
  (try simp only [go_sem, Nat.reduceAdd, Nat.reduceEqDiff, Nat.reduceLT, Nat.reduceLeDiff, Nat.reduceMul, reduceCtorEq, ↓reduceIte, cell_of h1])
theorem gtimes_ok (w : World) (a : Nat) (size young : Int) (old : Nat) (times : Int) (ns : List Nd) (F : Nat → Prop) (h : GAt w a size young old times ns F) : CallsR Try.prog 12 [.pointer (some ⟨a, 0, none⟩)] w fun r w' => r = I times ∧ w = w' := by
  obtain ⟨cv, mb, ld, h1, _⟩ := h
  refine fit12.calls rfl ?_
  unfold ir12
  (try simp only [go_sem, Nat.reduceAdd, Nat.reduceEqDiff, Nat.reduceLT, Nat.reduceLeDiff, Nat.reduceMul, reduceCtorEq, ↓reduceIte, cell_of h1])
end Go.Proofs.Ytnimaifmcejkcaa
end

section
set_option linter.unusedSimpArgs false
set_option linter.unusedVariables false
set_option maxRecDepth 100000
namespace Go.Proofs.Ytnimaifmcejkcaa
open Go Go.W

theorem own_cells {w : World} {T sz n b : Nat} {v : Value} {xs : List Value} {fp : Option Nat} (h : Own w T sz v xs n fp) (hb : fp = some b) : ∃ cs, w.heap[b]? = some (.cells cs T (0, 0)) := by
  rcases h.2 with ⟨_, _, h⟩ | ⟨b', c, sp', _, h, hh, _⟩
  · rw [h] at hb; cases hb
  · rw [h] at hb; cases hb; exact ⟨_, hh⟩
theorem own_apart {w : World} {T sz n T' sz' n' b : Nat} {v v' : Value} {xs xs' : List Value} {fp fp' : Option Nat} (h : Own w T sz v xs n fp) (h' : Own w T' sz' v' xs' n' fp') (hne : T ≠ T') (hb : fp = some b) : fp' ≠ some b := by
  obtain ⟨cs, hc⟩ := own_cells h hb
  exact own_ne h' hc (fun e => hne e.symm)
def gaddS (size : Int) (ns : List Nd) (nd : Nd) : Int × Int × List Nd :=
  if nd.may = false then (0, 1, ns) else if okPl ns.length nd.args = false then (0, 212, ns) else if (ns.length : Int) ≥ size then (0, 211, ns) else (ns.length, 0, ns ++ [nd])

theorem leadOk_app {ns : List Nd} {old : Nat} {ld : List (Int × Int)} (h : LeadOk ns old ld) (ho : old ≤ ns.length) (nd : Nd) : LeadOk (ns ++ [nd]) old ld := by
  refine ⟨h.1, fun k => (h.2 k).trans ⟨fun ⟨p, h1, h2, h3⟩ => ⟨p, h1, h2, ?_⟩, fun ⟨p, h1, h2, h3⟩ => ⟨p, h1, h2, ?_⟩⟩⟩
  · simpa [ndAt, List.getElem?_append_left (show p < ns.length by omega)] using h3
  · simpa [ndAt, List.getElem?_append_left (show p < ns.length by omega)] using h3

theorem gadd_ok (w : World) (a : Nat) (size young : Int) (old : Nat) (times : Int) (ns : List Nd) (nd : Nd) (v : Value) (F : Nat → Prop) (h : GAt w a size young old times ns F) (ho : old ≤ ns.length) (hn : ns.length ≤ 1048576) (hx0 : Ints w v nd.args) :
    CallsR Try.prog 17 [.pointer (some ⟨a, 0, none⟩), .agg #[I nd.kind, I nd.num, v]] w fun r w' => r = .tuple #[I (gaddS size ns nd).1, I (gaddS size ns nd).2.1] ∧ ∃ F', GAt w' a size young old times (gaddS size ns nd).2.2 F' ∧ Grow F F' w w' := by
  have hx := hx0
  obtain ⟨va, vc, rfl, hl, _⟩ := hx0
  refine fit17.calls rfl ?_
  unfold ir17
  (try simp only [go_sem, Nat.reduceAdd, Nat.reduceEqDiff, Nat.reduceLT, Nat.reduceLeDiff, Nat.reduceMul, reduceCtorEq, ↓reduceIte])
  refine e_bx rfl ?_
  intro w1 hb1 hm1 hs1
  have hb1 : w1.heap[w.heap.size]? = some (.cells #[I nd.kind, I nd.num, .slice va nd.args.length vc] 38 (0, 0)) := hb1
  have h1 := gat_mod h hm1 (fun _ _ h => h)
  have hx1 := hx.mod hm1 (fun _ _ h => h)
  have hd : vLN w1 3 (.pointer (some ⟨w.heap.size, 0, none⟩)) = some (.agg #[I nd.kind, I nd.num, .slice va nd.args.length vc]) := ln_of hb1 (off := 0) (n := 3) (by simp)
  have same : ∀ w2, Mod (fun _ => False) w1 w2 → ∃ F', GAt w2 a size young old times ns F' ∧ Grow F F' w w2 := fun w2 hm2 =>
    ⟨F, gat_mod h1 hm2 (fun _ _ h => h), (hm1.trans hm2).weak (fun _ h => h.elim), fun b hb => .inl hb⟩
  (try simp only [go_sem, Nat.reduceAdd, Nat.reduceEqDiff, Nat.reduceLT, Nat.reduceLeDiff, Nat.reduceMul, reduceCtorEq, ↓reduceIte, hd])
  refine e_call (by rfl) ?_
  refine (gmay_ok nd.kind nd.num _ nd.args w1 hx1).mono ?_
  rintro r w2 ⟨rfl, hm2⟩
  have hb2 := hm2.at hb1 (fun h => h)
  (try simp only [go_sem, Nat.reduceAdd, Nat.reduceEqDiff, Nat.reduceLT, Nat.reduceLeDiff, Nat.reduceMul, reduceCtorEq, ↓reduceIte])
  refine ir_cond rfl (fun hc => ?_) (fun hc => ?_)
  · (try simp only [go_sem, Nat.reduceAdd, Nat.reduceEqDiff, Nat.reduceLT, Nat.reduceLeDiff, Nat.reduceMul, reduceCtorEq, ↓reduceIte])
    have hc' : nd.may = false := by simpa [Nd.may] using hc
    exact ⟨by simp [gaddS, hc'], by simpa [gaddS, hc'] using same w2 hm2⟩
  have hc1 : nd.may = true := by simpa [Nd.may] using hc
  have hx2 := hx1.mod hm2 (fun _ _ h => h)
  have h2 := gat_mod h1 hm2 (fun _ _ h => h)
  (try simp only [go_sem, Nat.reduceAdd, Nat.reduceEqDiff, Nat.reduceLT, Nat.reduceLeDiff, Nat.reduceMul, reduceCtorEq, ↓reduceIte, cell_of hb2])
  refine e_call (by rfl) ?_
  refine (gplaces_ok w2 a ns.length old _ nd.args (gat_has h2) hx2).mono ?_
  rintro r w3 ⟨rfl, hm3⟩
  have hm23 := hm2.trans hm3
  (try simp only [go_sem, Nat.reduceAdd, Nat.reduceEqDiff, Nat.reduceLT, Nat.reduceLeDiff, Nat.reduceMul, reduceCtorEq, ↓reduceIte])
  refine ir_cond rfl (fun hc => ?_) (fun hc => ?_)
  · (try simp only [go_sem, Nat.reduceAdd, Nat.reduceEqDiff, Nat.reduceLT, Nat.reduceLeDiff, Nat.reduceMul, reduceCtorEq, ↓reduceIte])
    have hc' : okPl ns.length nd.args = false := by simpa using hc
    exact ⟨by simp [gaddS, hc', hc1], by simpa [gaddS, hc', hc1] using same w3 hm23⟩
  have hc2 : okPl ns.length nd.args = true := by simpa using hc
  have h3 := gat_mod h2 hm3 (fun _ _ h => h)
  have h3' := h3
  obtain ⟨cv, mb, ld, g1, g2, g3, g4, g5, g6⟩ := h3
  obtain ⟨ca, cc, rfl⟩ := fromD_val g3
  (try simp only [go_sem, Nat.reduceAdd, Nat.reduceEqDiff, Nat.reduceLT, Nat.reduceLeDiff, Nat.reduceMul, reduceCtorEq, ↓reduceIte, cell_of g1])
  have hw3 : Mod (fun _ => False) w3 w3.drew := ⟨Nat.le_refl _, fun _ _ _ => rfl, rfl, rfl, rfl⟩
  refine ir_cond rfl (fun hc => ?_) (fun hc => ?_)
  · (try simp only [go_sem, Nat.reduceAdd, Nat.reduceEqDiff, Nat.reduceLT, Nat.reduceLeDiff, Nat.reduceMul, reduceCtorEq, ↓reduceIte])
    have hc' : (ns.length : Int) ≥ size := by simpa using hc
    exact ⟨by simp [gaddS, hc', hc1, hc2], by simpa [gaddS, hc', hc1, hc2] using same w3.drew (hm23.trans hw3)⟩
  have hc3 : ¬ (ns.length : Int) ≥ size := by simpa using hc
  have hb3 := (hm3.trans hw3).at hb2 (fun h => h)
  have hx3 := hx2.mod (hm3.trans hw3) (fun _ _ h => h)
  (try simp only [go_sem, Nat.reduceAdd, Nat.reduceEqDiff, Nat.reduceLT, Nat.reduceLeDiff, Nat.reduceMul, reduceCtorEq, ↓reduceIte, cell_of hb3, cell_of (hm3.at hb2 (fun h => h))])
  refine e_call (by rfl) ?_
  refine (clone_ok _ nd.args w3.drew hx3).mono ?_
  rintro q w4 ⟨hm4, f4, o4, n4⟩
  have hm4' := hw3.trans hm4
  obtain ⟨va4, vc4, rfl, _, _⟩ := o4.val
  have hb4 := hm4.at hb3 (fun h => h)
  (try simp only [go_sem, Nat.reduceAdd, Nat.reduceEqDiff, Nat.reduceLT, Nat.reduceLeDiff, Nat.reduceMul, reduceCtorEq, ↓reduceIte])
  refine e_st1 (off := 2) rfl rfl hb4 rfl (by simp) ?_
  intro w5 hb5 hm5 hs5
  have hb5 : w5.heap[w.heap.size]? = some (.cells #[I nd.kind, I nd.num, .slice va4 nd.args.length vc4] 38 (0, 0)) := hb5
  have lw := lt_of_heap hb1
  have s2 := hm2.size; have s3 := hm3.size; have s4 := hm4.size
  have hFl := gat_lt h
  have hF0 : ∀ b, F b → ¬ b = w.heap.size := fun b hb hh => by have := hFl b hb; omega
  have hm35 : Mod (fun x => x = w.heap.size) w3 w5 := (hm4'.weak (fun _ h => h.elim)).step hm5 (fun x hx _ => hx)
  have ga := hm35.at g1 (hF0 a g2)
  have gc := fromD_mod g3 hm35 hF0
  have gm := map_mod g4 hm35 (hF0 mb g5)
  have o5 := o4.mod hm5 (fun b hb hh => by have := n4 b hb; have : w3.drew.heap.size = w3.heap.size := rfl; omega)
  have hd5 : vLN w5.drew 3 (.pointer (some ⟨w.heap.size, 0, none⟩)) = some (.agg #[I nd.kind, I nd.num, .slice va4 nd.args.length vc4]) := ln_of (w := w5.drew) hb5 (off := 0) (n := 3) (by simp)
  (try simp only [go_sem, Nat.reduceAdd, Nat.reduceEqDiff, Nat.reduceLT, Nat.reduceLeDiff, Nat.reduceMul, reduceCtorEq, ↓reduceIte, cell_of ga, hd5])
  have hwd : Mod (fun _ => False) w5 w5.drew := ⟨Nat.le_refl _, fun _ _ _ => rfl, rfl, rfl, rfl⟩
  refine e_bs (by rfl) (by (try simp only [go_sem, Nat.reduceAdd, Nat.reduceEqDiff, Nat.reduceLT, Nat.reduceLeDiff, Nat.reduceMul, reduceCtorEq, ↓reduceIte]); rfl) ?_
  intro w6 hb6 hm6 hs6
  have hm56 := hwd.trans hm6
  have hm36 : Mod (fun x => x = w.heap.size) w3 w6 := hm35.step hm56 (fun _ h _ => h.elim)
  have ga6 := hm56.at ga (fun h => h)
  (try simp only [go_sem, Nat.reduceAdd, Nat.reduceEqDiff, Nat.reduceLT, Nat.reduceLeDiff, Nat.reduceMul, reduceCtorEq, ↓reduceIte])
  refine ⟨hm6.old _ (lt_of_heap ga) (fun h => h), ?_⟩
  have o6 := o5.mod hm56 (fun _ _ h => h)
  obtain ⟨fpc, ps, fp, c1, c2, c3, c4, c5⟩ := gc
  have c16 := c1.mod hm56 (fun _ _ h => h)
  have c36 := argsD_mod c3 hm56 (fun _ _ _ _ h => h)
  have hps : ps.length = ns.length := by rw [← c4]; simp
  refine e_ap (m := 1) (news := nc (nd, .slice va4 nd.args.length vc4)) rfl c16 rfl (fun h => by cases h) (rd_block hb6) (by simp [nc, Value.oneCell']) rfl (by omega) (by omega) ?_
  intro v7 w7 fp7 ho7 hm7 hf7
  have hne : fpc ≠ some a := own_ne c16 ga6 (by decide)
  have ga7 := hm7.at ga6 hne
  obtain ⟨va7, vc7, rfl, _⟩ := ho7.val
  have c37 := argsD_mod c36 hm7 (fun i b hi hb hh => own_apart (c36.1 i hi).1 c16 (by decide) hb hh)
  have o7 := o6.mod hm7 (fun b hb hh => own_apart o6 c16 (by decide) hb hh)
  (try simp only [go_sem, Nat.reduceAdd, Nat.reduceEqDiff, Nat.reduceLT, Nat.reduceLeDiff, Nat.reduceMul, reduceCtorEq, ↓reduceIte])
  refine e_st1 (off := 2) rfl rfl ga7 rfl (by simp) ?_
  intro w8 hb8 hm8 hs8
  have hb8 : w8.heap[a]? = some (.cells #[I size, I young, .slice va7 (ns.length + 1) vc7, I old, .map (some mb), I times] 72 (0, 0)) := hb8
  have hw : IntKind.i64.wrap (((ns.length + 1 : Nat) : Int) - 1) = ns.length := by rw [wrap_in] <;> omega
  (try simp only [go_sem, Nat.reduceAdd, Nat.reduceEqDiff, Nat.reduceLT, Nat.reduceLeDiff, Nat.reduceMul, reduceCtorEq, ↓reduceIte, cell_of hb8, hw])
  have hn7 : fp7 ≠ some a := own_ne ho7 ga7 (by decide)
  have c38 := argsD_mod c37 hm8 (fun i b hi hb hh => own_ne (c37.1 i hi).1 ga7 (by decide) (by rw [hb, hh]))
  have o8 := o7.mod hm8 (fun b hb hh => own_ne o7 ga7 (by decide) (by rw [hb, hh]))
  have s5 : w5.heap.size = w4.heap.size := hs5
  have s6 := hm56.size; have s7 := hm7.size; have s8 := hm8.size
  have gm6 := map_mod gm hm56 (fun h => h)
  have gm7 := map_mod gm6 hm7 (fun hh => by
    obtain ⟨es, c, q2, _⟩ := gm6
    obtain ⟨cs, q3⟩ := own_cells c16 hh
    rw [q2] at q3; cases q3)
  have gm8 := map_mod gm7 hm8 (fun hh => by
    obtain ⟨es, c, q2, _⟩ := gm7
    rw [hh] at q2; rw [ga7] at q2; cases q2)
  have hall : Mod F w w8 := ((((((hm1.weak (fun _ h => h.elim)).step hm2 (fun _ h _ => h.elim)).step hm3 (fun _ h _ => h.elim)).step hm35 (fun x hx hlt => by omega)).step hm56 (fun _ h _ => h.elim)).step hm7 (fun i h _ => c2 i h)).step hm8 (fun i h _ => h ▸ g2)
  have hadd : gaddS size ns nd = ((ns.length : Int), 0, ns ++ [nd]) := by
    unfold gaddS
    rw [if_neg (by simp [hc1]), if_neg (by simp [hc2]), if_neg hc3]
  have w30 : w3.drew.heap.size = w3.heap.size := rfl
  refine ⟨by rw [hadd], fun b => F b ∨ f4 = some b ∨ fp7 = some b, ?_, hall, ?_⟩
  · rw [hadd]
    refine ⟨_, mb, ld, hb8, .inl g2, ⟨fp7, ps ++ [(nd, .slice va4 nd.args.length vc4)], _, ?_, fun b hb => .inr (.inr hb), argsD_app (argsD_weak c38 (fun b hb => .inl hb)) o8 (fun b hb => .inr (.inl hb)) ?_, by simp [c4], ?_⟩, gm8, .inl g5, leadOk_app g6 ho nd⟩
    · rw [flat_app, flat_one]
      simpa using ho7.mod hm8 (fun b hb hh => hn7 (by rw [hb, hh]))
    · intro i b hi hb hh
      have := hFl b ((c3.1 i hi).2 b hb)
      have := n4 b hh
      omega
    · intro b hb
      rcases hb with hb | hb | hb
      · have := hFl b hb; omega
      · have := o8.lt hb; omega
      · have := ho7.lt hb; omega
  · intro b hb
    rcases hb with hb | hb | hb
    · exact .inl hb
    · have := n4 b hb; exact .inr (by omega)
    · rcases hf7 b hb with h | h
      · exact .inl (c2 b h)
      · exact .inr (by omega)
end Go.Proofs.Ytnimaifmcejkcaa
end

section
set_option linter.unusedSimpArgs false
set_option linter.unusedVariables false
set_option maxRecDepth 100000
namespace Go.Proofs.Ytnimaifmcejkcaa
open Go Go.W

def ggetS (ns : List Nd) (at' : Int) : Nd × Int := if 0 ≤ at' ∧ at' < ns.length then (ndAt ns at'.toNat, 0) else ({ kind := 0, num := 0, args := [] }, 212)
def GGetPost (w : World) (s : Nd × Int) (r : Value) (w' : World) : Prop :=
  Mod (fun _ => False) w w' ∧ ∃ v fp, r = .tuple #[.agg #[I s.1.kind, I s.1.num, v], I s.2] ∧ Own w' 3 1 v (s.1.args.map I) s.1.args.length fp ∧ ∀ b, fp = some b → w.heap.size ≤ b

theorem ln3 {w : World} {bc i : Nat} {k n : Int} {v : Value} (h0 : w.cell? ⟨bc, i, none⟩ = some (I k)) (h1 : w.cell? ⟨bc, i + 1, none⟩ = some (I n)) (h2 : w.cell? ⟨bc, i + 2, none⟩ = some v) : vLN w 3 (.pointer (some ⟨bc, i, none⟩)) = some (.agg #[I k, I n, v]) := by
  simp [vLN, cellsFrom, add_at, h0, h1, h2]

theorem gget_ok (w : World) (a : Nat) (size young : Int) (old : Nat) (times : Int) (ns : List Nd) (at' : Int) (F : Nat → Prop) (h : GAt w a size young old times ns F) (hargs : ∀ nd ∈ ns, nd.args.length ≤ 8) :
    CallsR Try.prog 29 [.pointer (some ⟨a, 0, none⟩), I at'] w (GGetPost w (ggetS ns at')) := by
  refine fit29.calls rfl ?_
  unfold ir29
  (try simp only [go_sem, Nat.reduceAdd, Nat.reduceEqDiff, Nat.reduceLT, Nat.reduceLeDiff, Nat.reduceMul, reduceCtorEq, ↓reduceIte])
  refine e_al ?_
  intro w1 hb1 hm1 hs1
  have hb1 : w1.heap[w.heap.size]? = some (.cells #[I 0, I 0, .slice none 0 0] 38 (0, 0)) := hb1
  (try simp only [go_sem, Nat.reduceAdd, Nat.reduceEqDiff, Nat.reduceLT, Nat.reduceLeDiff, Nat.reduceMul, reduceCtorEq, ↓reduceIte])
  refine e_bs (by rfl) (by (try simp only [go_sem, Nat.reduceAdd, Nat.reduceEqDiff, Nat.reduceLT, Nat.reduceLeDiff, Nat.reduceMul, reduceCtorEq, ↓reduceIte]); rfl) ?_
  intro w2 hb2 hm2 hs2
  have hm12 := hm1.trans hm2
  have h2 := gat_mod h hm12 (fun _ _ h => h)
  have hx : Ints w2 (.slice (some ⟨w1.heap.size, 0, none⟩) 1 1) [at'] := ints_block (xs := [at']) hb2 (by simp)
  (try simp only [go_sem, Nat.reduceAdd, Nat.reduceEqDiff, Nat.reduceLT, Nat.reduceLeDiff, Nat.reduceMul, reduceCtorEq, ↓reduceIte])
  refine e_call (by rfl) ?_
  refine (gplaces_ok w2 a ns.length old _ [at'] (gat_has h2) hx).mono ?_
  rintro r w3 ⟨rfl, hm3⟩
  rw [okPl_one]
  have hm13 := hm12.trans hm3
  have hb3 := (hm2.trans hm3).at hb1 (fun h => h)
  have h3 := gat_mod h2 hm3 (fun _ _ h => h)
  (try simp only [go_sem, Nat.reduceAdd, Nat.reduceEqDiff, Nat.reduceLT, Nat.reduceLeDiff, Nat.reduceMul, reduceCtorEq, ↓reduceIte])
  refine ir_cond rfl (fun hc => ?_) (fun hc => ?_)
  · have hc' : ¬ (0 ≤ at' ∧ at' < ns.length) := by simp at hc; omega
    (try simp only [go_sem, Nat.reduceAdd, Nat.reduceEqDiff, Nat.reduceLT, Nat.reduceLeDiff, Nat.reduceMul, reduceCtorEq, ↓reduceIte])
    refine e_sta rfl rfl hb3 rfl rfl (by simp [Value.oneCell']) ?_
    intro w4 hb4 hm4 hs4
    (try simp only [go_sem, Nat.reduceAdd, Nat.reduceEqDiff, Nat.reduceLT, Nat.reduceLeDiff, Nat.reduceMul, reduceCtorEq, ↓reduceIte, ln_of hb4 (off := 0) (n := 3) (by simp)])
    have e : ggetS ns at' = ({ kind := 0, num := 0, args := [] }, 212) := if_neg hc'
    rw [e]
    exact ⟨hm13.step hm4 (fun i hi hlt => by omega), _, none, rfl, Own.nil _ _ _, fun b hb => by cases hb⟩
  · have hc' : 0 ≤ at' ∧ at' < ns.length := by simpa using hc
    obtain ⟨i, rfl⟩ : ∃ i : Nat, at' = i := ⟨at'.toNat, by omega⟩
    have hi : i < ns.length := by omega
    have e : ggetS ns i = (ndAt ns i, 0) := if_pos hc'
    rw [e]
    obtain ⟨cv, mb, ld, g1, g2, g3, g4, g5, g6⟩ := h3
    obtain ⟨bc, cc, v, rfl, k0, k1, k2, kx, kb, _⟩ := from_at (fromD_from g3) hargs hi
    have kl := ln3 k0 k1 k2
    obtain ⟨xa, xc, rfl, hxl, _⟩ := id kx
    (try simp only [go_sem, Nat.reduceAdd, Nat.reduceEqDiff, Nat.reduceLT, Nat.reduceLeDiff, Nat.reduceMul, reduceCtorEq, ↓reduceIte, Nat.mul_one, Int.toNat_natCast, Int.toNat_zero, Nat.sub_zero, Nat.sub_self, cell_of g1, hc', kl])
    refine e_al ?_
    intro w4 hb4 hm4 hs4
    have hb4 : w4.heap[w3.heap.size]? = some (.cells #[I 0, I 0, .slice none 0 0] 38 (0, 0)) := hb4
    (try simp only [go_sem, Nat.reduceAdd, Nat.reduceEqDiff, Nat.reduceLT, Nat.reduceLeDiff, Nat.reduceMul, reduceCtorEq, ↓reduceIte])
    refine e_sta rfl rfl hb4 rfl rfl (by simp [Value.oneCell']) ?_
    intro w5 hb5 hm5 hs5
    have hm35 : Mod (fun _ => False) w3 w5 := hm4.step hm5 (fun i hi hlt => by omega)
    have hx5 := kx.mod hm35 (fun _ _ h => h)
    (try simp only [go_sem, Nat.reduceAdd, Nat.reduceEqDiff, Nat.reduceLT, Nat.reduceLeDiff, Nat.reduceMul, reduceCtorEq, ↓reduceIte, cell_of hb5])
    refine e_call (by rfl) ?_
    refine (clone_ok _ _ w5 hx5).mono ?_
    rintro q w6 ⟨hm6, f6, o6, n6⟩
    obtain ⟨va6, vc6, rfl, _, _⟩ := o6.val
    have hb6 := hm6.at hb5 (fun h => h)
    (try simp only [go_sem, Nat.reduceAdd, Nat.reduceEqDiff, Nat.reduceLT, Nat.reduceLeDiff, Nat.reduceMul, reduceCtorEq, ↓reduceIte])
    refine e_st1 (off := 2) rfl rfl hb6 rfl (by simp) ?_
    intro w7 hb7 hm7 hs7
    have hb7 : w7.heap[w3.heap.size]? = some (.cells #[I (ndAt ns i).kind, I (ndAt ns i).num, .slice va6 (ndAt ns i).args.length vc6] 38 (0, 0)) := hb7
    have s3 := hm13.size; have s5 := hm35.size; have s6 := hm6.size
    have hm57 : Mod (fun _ => False) w3 w7 := (hm35.trans hm6).step hm7 (fun x hx hlt => by omega)
    have hb8 := hm57.at hb3 (fun h => h)
    have l1 := lt_of_heap hb3
    (try simp only [go_sem, Nat.reduceAdd, Nat.reduceEqDiff, Nat.reduceLT, Nat.reduceLeDiff, Nat.reduceMul, reduceCtorEq, ↓reduceIte, ln_of hb7 (off := 0) (n := 3) (by simp)])
    refine e_sta rfl rfl hb8 rfl rfl (by simp [Value.oneCell']) ?_
    intro w8 hb9 hm8 hs8
    (try simp only [go_sem, Nat.reduceAdd, Nat.reduceEqDiff, Nat.reduceLT, Nat.reduceLeDiff, Nat.reduceMul, reduceCtorEq, ↓reduceIte, ln_of hb9 (off := 0) (n := 3) (by simp)])
    have l4 := lt_of_heap hb4
    exact ⟨(hm13.trans hm57).step hm8 (fun x hx hlt => by omega), _, f6, rfl, (o6.mod hm7 (fun b hb hh => by have := n6 b hb; omega)).mod hm8 (fun b hb hh => by have := n6 b hb; omega), fun b hb => by have := n6 b hb; omega⟩

def gsetS (ns : List Nd) (at' : Int) (nd : Nd) : Int × List Nd :=
  if ¬ (0 ≤ at' ∧ at' < ns.length) then (212, ns) else if nd.may = false then (1, ns) else if okPl ns.length nd.args = false then (212, ns) else (0, ns.set at'.toNat nd)
theorem ldel_keys {l : List (Int × Int)} (hn : (l.map (fun q => q.1)).Nodup) (k : Int) : ((ldel l k).map (fun q => q.1)).Nodup ∧ ∀ x, x ∈ (ldel l k).map (fun q => q.1) ↔ x ∈ l.map (fun q => q.1) ∧ x ≠ k := by
  unfold ldel
  cases hI : l.findIdx? (fun p => p.1 == k) with
  | none =>
    refine ⟨hn, fun x => ⟨fun hx => ⟨hx, fun he => ?_⟩, fun hx => hx.1⟩⟩
    rw [List.findIdx?_eq_none_iff] at hI
    obtain ⟨q, hq, rfl⟩ := List.mem_map.1 hx
    have := hI q hq
    simp [he] at this
  | some i =>
    have h1 := List.findIdx?_eq_some_iff_getElem.1 hI
    have hi := h1.1
    have hk : l[i].1 = k := by simpa using h1.2.1
    have e : (l.eraseIdx i).map (fun q => q.1) = (l.map (fun q => q.1)).eraseIdx i := Go.ChangeMaps.map_eraseIdx _ _ _
    rw [e]
    refine ⟨hn.sublist (List.eraseIdx_sublist _ _), fun x => ?_⟩
    generalize hL : l.map (fun q => q.1) = L at hn
    have hiL : i < L.length := by rw [← hL]; simpa using hi
    have hkL : L[i] = k := by simp [← hL, hk]
    clear e hI h1 hk hL
    induction L generalizing i with
    | nil => simp at hiL
    | cons y L ih =>
      rw [List.nodup_cons] at hn
      cases i with
      | zero =>
        simp only [List.getElem_cons_zero] at hkL
        subst hkL
        simp only [List.eraseIdx_cons_zero, List.mem_cons]
        exact ⟨fun hx => ⟨.inr hx, fun he => hn.1 (he ▸ hx)⟩, fun ⟨hx, hne⟩ => hx.resolve_left hne⟩
      | succ i =>
        simp only [List.getElem_cons_succ] at hkL
        have hi2 : i < L.length := by simpa using hiL
        have := ih i (by omega) hn.2 hi2 hkL
        simp only [List.eraseIdx_cons_succ, List.mem_cons, this]
        refine ⟨fun hx => ?_, fun ⟨hx, hne⟩ => hx.imp (fun h => h) (fun h => ⟨h, hne⟩)⟩
        rcases hx with rfl | ⟨hx, hne⟩
        · exact ⟨.inl rfl, fun he => hn.1 (by rw [he, ← hkL]; exact List.getElem_mem _)⟩
        · exact ⟨.inr hx, hne⟩
theorem lput_keys {l : List (Int × Int)} (hn : (l.map (fun q => q.1)).Nodup) (k v : Int) : ((lput l k v).map (fun q => q.1)).Nodup ∧ ∀ x, x ∈ (lput l k v).map (fun q => q.1) ↔ x ∈ l.map (fun q => q.1) ∨ x = k := by
  unfold lput
  cases hI : l.findIdx? (fun p => p.1 == k) with
  | none =>
    rw [List.findIdx?_eq_none_iff] at hI
    have hno : k ∉ l.map (fun q => q.1) := by
      intro hk
      obtain ⟨q, hq, he⟩ := List.mem_map.1 hk
      have := hI q hq
      simp [he] at this
    refine ⟨?_, fun x => by simp⟩
    simp only [List.map_append, List.map_cons, List.map_nil]
    rw [List.nodup_append]
    exact ⟨hn, by simp, fun a ha b hb hab => by simp at hb; exact hno (hb ▸ hab ▸ ha)⟩
  | some i =>
    have h1 := List.findIdx?_eq_some_iff_getElem.1 hI
    have hk : l[i]'h1.1 = (k, (l[i]'h1.1).2) := by
      have : (l[i]'h1.1).1 = k := by simpa using h1.2.1
      rw [← this]
    have e : (l.set i (k, v)).map (fun q => q.1) = l.map (fun q => q.1) := by
      rw [List.map_set]
      have h2 : (l.map (fun q => q.1))[i]'(by simpa using h1.1) = k := by simp; simpa using h1.2.1
      have h3 := List.set_getElem_self (show i < (l.map (fun q => q.1)).length by simpa using h1.1)
      rw [h2] at h3
      exact h3
    rw [e]
    refine ⟨hn, fun x => ⟨.inl, fun hx => hx.elim (fun h => h) (fun h => ?_)⟩⟩
    rw [h]
    exact List.mem_map.2 ⟨_, List.getElem_mem h1.1, by simpa using h1.2.1⟩

theorem ndAt_set {ns : List Nd} {i : Nat} {nd : Nd} (hi : i < ns.length) (p : Nat) : ndAt (ns.set i nd) p = if p = i then nd else ndAt ns p := by
  unfold ndAt
  rw [List.getD_eq_getElem?_getD, List.getElem?_set]
  by_cases h : i = p
  · subst h; simp [hi]
  · rw [if_neg h, if_neg (fun hh => h hh.symm), List.getD_eq_getElem?_getD]

theorem gset_ok (w : World) (a : Nat) (size young : Int) (old : Nat) (times : Int) (ns : List Nd) (at' : Int) (nd : Nd) (v : Value) (F : Nat → Prop) (h : GAt w a size young old times ns F) (ho : old ≤ ns.length) (hn : ns.length ≤ 1048576) (hargs : ∀ nd ∈ ns, nd.args.length ≤ 8) (hx0 : Ints w v nd.args) :
    CallsR Try.prog 23 [.pointer (some ⟨a, 0, none⟩), I at', .agg #[I nd.kind, I nd.num, v]] w fun r w' => r = I (gsetS ns at' nd).1 ∧ ∃ F', GAt w' a size young old times (gsetS ns at' nd).2 F' ∧ Grow F F' w w' := by
  have hx := hx0
  obtain ⟨va, vc, rfl, hl, _⟩ := hx0
  refine fit23.calls rfl ?_
  unfold ir23
  (try simp only [go_sem, Nat.reduceAdd, Nat.reduceEqDiff, Nat.reduceLT, Nat.reduceLeDiff, Nat.reduceMul, reduceCtorEq, ↓reduceIte])
  refine e_bx rfl ?_
  intro w1 hb1 hm1 hs1
  have hb1 : w1.heap[w.heap.size]? = some (.cells #[.pointer (some ⟨a, 0, none⟩)] 24 (0, 0)) := hb1
  (try simp only [go_sem, Nat.reduceAdd, Nat.reduceEqDiff, Nat.reduceLT, Nat.reduceLeDiff, Nat.reduceMul, reduceCtorEq, ↓reduceIte])
  refine e_bx rfl ?_
  intro w2 hb2 hm2 hs2
  have hb2 : w2.heap[w1.heap.size]? = some (.cells #[I nd.kind, I nd.num, .slice va nd.args.length vc] 38 (0, 0)) := hb2
  have hb12 := hm2.at hb1 (fun h => h)
  (try simp only [go_sem, Nat.reduceAdd, Nat.reduceEqDiff, Nat.reduceLT, Nat.reduceLeDiff, Nat.reduceMul, reduceCtorEq, ↓reduceIte, cell_of hb12])
  refine e_bs (by rfl) (by (try simp only [go_sem, Nat.reduceAdd, Nat.reduceEqDiff, Nat.reduceLT, Nat.reduceLeDiff, Nat.reduceMul, reduceCtorEq, ↓reduceIte]); rfl) ?_
  intro w3 hb3 hm3 hs3
  have hm13 := (hm1.trans hm2).trans hm3
  have h3 := gat_mod h hm13 (fun _ _ h => h)
  have hx3 : Ints w3 (.slice (some ⟨w2.heap.size, 0, none⟩) 1 1) [at'] := ints_block (xs := [at']) hb3 (by simp)
  have hx3n := hx.mod hm13 (fun _ _ h => h)
  (try simp only [go_sem, Nat.reduceAdd, Nat.reduceEqDiff, Nat.reduceLT, Nat.reduceLeDiff, Nat.reduceMul, reduceCtorEq, ↓reduceIte])
  refine e_call (by rfl) ?_
  refine (gplaces_ok w3 a ns.length old _ [at'] (gat_has h3) hx3).mono ?_
  rintro r w4 ⟨rfl, hm4⟩
  rw [okPl_one]
  have hm14 := hm13.trans hm4
  have same : ∀ w5, Mod (fun _ => False) w4 w5 → ∃ F', GAt w5 a size young old times ns F' ∧ Grow F F' w w5 := fun w5 hm5 =>
    ⟨F, gat_mod h (hm14.trans hm5) (fun _ _ h => h), (hm14.trans hm5).weak (fun _ h => h.elim), fun b hb => .inl hb⟩
  (try simp only [go_sem, Nat.reduceAdd, Nat.reduceEqDiff, Nat.reduceLT, Nat.reduceLeDiff, Nat.reduceMul, reduceCtorEq, ↓reduceIte])
  refine ir_cond rfl (fun hc => ?_) (fun hc => ?_)
  · have hc' : ¬ (0 ≤ at' ∧ at' < ns.length) := by simp at hc; omega
    (try simp only [go_sem, Nat.reduceAdd, Nat.reduceEqDiff, Nat.reduceLT, Nat.reduceLeDiff, Nat.reduceMul, reduceCtorEq, ↓reduceIte])
    have e : gsetS ns at' nd = (212, ns) := by unfold gsetS; rw [if_pos hc']
    rw [e]
    exact ⟨rfl, same w4 (Mod.refl _ _)⟩
  have hc' : 0 ≤ at' ∧ at' < ns.length := by simpa using hc
  obtain ⟨i, rfl⟩ : ∃ i : Nat, at' = i := ⟨at'.toNat, by omega⟩
  have hi : i < ns.length := by omega
  have hb14 := (hm3.trans hm4).at hb12 (fun h => h)
  have hb24 := (hm3.trans hm4).at hb2 (fun h => h)
  have hd4 : vLN w4 3 (.pointer (some ⟨w1.heap.size, 0, none⟩)) = some (.agg #[I nd.kind, I nd.num, .slice va nd.args.length vc]) := ln_of hb24 (off := 0) (n := 3) (by simp)
  (try simp only [go_sem, Nat.reduceAdd, Nat.reduceEqDiff, Nat.reduceLT, Nat.reduceLeDiff, Nat.reduceMul, reduceCtorEq, ↓reduceIte, hd4])
  refine e_call (by rfl) ?_
  refine (gmay_ok nd.kind nd.num _ nd.args w4 (hx.mod hm14 (fun _ _ h => h))).mono ?_
  rintro r w5 ⟨rfl, hm5⟩
  have hm15 := hm14.trans hm5
  have hb15 := hm5.at hb14 (fun h => h)
  have hb25 := hm5.at hb24 (fun h => h)
  (try simp only [go_sem, Nat.reduceAdd, Nat.reduceEqDiff, Nat.reduceLT, Nat.reduceLeDiff, Nat.reduceMul, reduceCtorEq, ↓reduceIte])
  refine ir_cond rfl (fun hm => ?_) (fun hm => ?_)
  · (try simp only [go_sem, Nat.reduceAdd, Nat.reduceEqDiff, Nat.reduceLT, Nat.reduceLeDiff, Nat.reduceMul, reduceCtorEq, ↓reduceIte])
    have hm' : nd.may = false := by simpa [Nd.may] using hm
    have e : gsetS ns i nd = (1, ns) := by unfold gsetS; rw [if_neg (by simpa using hc'), if_pos hm']
    rw [e]
    exact ⟨rfl, same w5 hm5⟩
  have hm1' : nd.may = true := by simpa [Nd.may] using hm
  have h5 := gat_mod h hm15 (fun _ _ h => h)
  (try simp only [go_sem, Nat.reduceAdd, Nat.reduceEqDiff, Nat.reduceLT, Nat.reduceLeDiff, Nat.reduceMul, reduceCtorEq, ↓reduceIte, cell_of hb15, cell_of hb25])
  refine e_call (by rfl) ?_
  refine (gplaces_ok w5 a ns.length old _ nd.args (gat_has h5) (hx.mod hm15 (fun _ _ h => h))).mono ?_
  rintro r w6 ⟨rfl, hm6⟩
  have hm16 := hm15.trans hm6
  have hb16 := hm6.at hb15 (fun h => h)
  have hb26 := hm6.at hb25 (fun h => h)
  (try simp only [go_sem, Nat.reduceAdd, Nat.reduceEqDiff, Nat.reduceLT, Nat.reduceLeDiff, Nat.reduceMul, reduceCtorEq, ↓reduceIte])
  refine ir_cond rfl (fun ho2 => ?_) (fun ho2 => ?_)
  · (try simp only [go_sem, Nat.reduceAdd, Nat.reduceEqDiff, Nat.reduceLT, Nat.reduceLeDiff, Nat.reduceMul, reduceCtorEq, ↓reduceIte])
    have ho' : okPl ns.length nd.args = false := by simpa using ho2
    have e : gsetS ns i nd = (212, ns) := by unfold gsetS; rw [if_neg (by simpa using hc'), if_neg (by simp [hm1']), if_pos ho']
    rw [e]
    exact ⟨rfl, same w6 (hm5.trans hm6)⟩
  have ho1 : okPl ns.length nd.args = true := by simpa using ho2
  have e : gsetS ns i nd = (0, ns.set i nd) := by unfold gsetS; rw [if_neg (by simpa using hc'), if_neg (by simp [hm1']), if_neg (by simp [ho1])]; simp
  rw [e]
  (try simp only [go_sem, Nat.reduceAdd, Nat.reduceEqDiff, Nat.reduceLT, Nat.reduceLeDiff, Nat.reduceMul, reduceCtorEq, ↓reduceIte, cell_of hb26])
  refine e_call (by rfl) ?_
  refine (clone_ok _ nd.args w6 (hx.mod hm16 (fun _ _ h => h))).mono ?_
  rintro q w7 ⟨hm7, f7, o7, n7⟩
  obtain ⟨va7, vc7, rfl, _, _⟩ := o7.val
  have hb27 := hm7.at hb26 (fun h => h)
  have hb17 := hm7.at hb16 (fun h => h)
  have hm17 := hm16.trans hm7
  (try simp only [go_sem, Nat.reduceAdd, Nat.reduceEqDiff, Nat.reduceLT, Nat.reduceLeDiff, Nat.reduceMul, reduceCtorEq, ↓reduceIte])
  refine e_st1 (off := 2) rfl rfl hb27 rfl (by simp) ?_
  intro w8 hb8 hm8 hs8
  have hb8 : w8.heap[w1.heap.size]? = some (.cells #[I nd.kind, I nd.num, .slice va7 nd.args.length vc7] 38 (0, 0)) := hb8
  have hb18 := hm8.at hb17 (by have := lt_of_heap hb1; omega)
  have s1 := hm1.size; have s2 := hm2.size; have s17 := hm17.size
  have hFl := gat_lt h
  have hm18 : Mod (fun _ => False) w w8 := hm17.step hm8 (fun x hx hlt => by omega)
  have h8 := gat_mod h hm18 (fun _ _ h => h)
  have s6 := hm16.size; have s3 := hm13.size; have s4 := hm4.size; have s5 := hm5.size; have s66 := hm6.size
  have l2 := lt_of_heap hb2
  have o8 := o7.mod hm8 (fun b hb hh => by have := n7 b hb; omega)
  have h8has := gat_has h8
  obtain ⟨cv, mb, ld, g1, g2, g3, g4, g5, g6⟩ := h8
  obtain ⟨fpc, ps, fp, c1, c2, c3, c4, c5⟩ := g3
  have hps : ps.length = ns.length := by rw [← c4]; simp
  obtain ⟨bc, cc, spc, rfl, rfl, gc, hcc, hcap⟩ := c1.pos (by omega)
  have hi' : i < ps.length := by omega
  have hflat := flat_len ps
  have hdd : vLN w8.drew 3 (.pointer (some ⟨w1.heap.size, 0, none⟩)) = some (.agg #[I nd.kind, I nd.num, .slice va7 nd.args.length vc7]) := ln_of (w := w8.drew) hb8 (off := 0) (n := 3) (by simp)
  have hwd : Mod (fun _ => False) w8 w8.drew := ⟨Nat.le_refl _, fun _ _ _ => rfl, rfl, rfl, rfl⟩
  have gcd := hwd.at gc (fun h => h)
  (try simp only [go_sem, Nat.reduceAdd, Nat.reduceEqDiff, Nat.reduceLT, Nat.reduceLeDiff, Nat.reduceMul, reduceCtorEq, ↓reduceIte, Nat.mul_one, Int.toNat_natCast, Int.toNat_zero, Nat.sub_zero, Nat.sub_self, cell_of hb18, cell_of g1, hdd, hc'])
  refine e_stg rfl rfl gcd rfl (by simp; omega) (by simp [Value.oneCell']) ?_
  intro w9 hb9 hm9 hs9
  have hne : a ≠ bc := fun hh => kind_ne g1 (hh ▸ gc) (by decide)
  have hsp := flat_set ps i (nd, .slice va7 nd.args.length vc7) hi' spc
  have hm89 : Mod (fun x => x = bc) w8 w9 := (hwd.weak (fun _ h => h.elim)).step hm9 (fun x hx _ => hx)
  have hFbc : F bc := c2 bc rfl
  have hb19 := hm89.at hb18 (fun hh => by have := hFl bc hFbc; omega)
  have hb29 := hm89.at hb8 (fun hh => by have := hFl bc hFbc; omega)
  have ga9 := hm89.at g1 hne
  have o9 := o8.mod hm89 (fun b hb hh => own_ne o8 gc (by decide) (by rw [hb, hh]))
  have gm9 := map_mod g4 hm89 (fun hh => by
    obtain ⟨es, c, q2, _⟩ := g4
    rw [hh, gc] at q2; cases q2)
  have d9 : FromD 38 w9 (.slice (some ⟨bc, 0, none⟩) ns.length cc) (ns.set i nd) (fun b => F b ∨ f7 = some b) := by
    refine ⟨some bc, ps.set i (nd, .slice va7 nd.args.length vc7), _, ?_, (fun b hb => .inl (c2 b hb)), argsD_set (argsD_weak (argsD_mod c3 hm89 (fun j b hj hb hh => own_ne (c3.1 j hj).1 gc (by decide) (by rw [hb, hh]))) (fun b hb => .inl hb)) o9 (fun b hb => .inr hb) (fun j b hj hjk hb hh => ?_), by rw [List.map_set, c4], fun b hb => ?_⟩
    · refine ⟨by rw [flat_len]; simp; omega, .inr ⟨bc, cc, spc, by simp, rfl, ?_, ?_, by simpa using hcc⟩⟩
      · rw [← hsp]; exact hb9
      · rw [List.length_append, flat_len, List.length_set, ← flat_len, ← List.length_append]; exact hcap
    · have := hFl b ((c3.1 j hj).2 b hb)
      have := n7 b hh
      omega
    · have := hm18.size; have := hm89.size
      rcases hb with hb | hb
      · have := hFl b hb; omega
      · exact o9.lt hb
  have hnF : ∀ b, (F b ∨ f7 = some b) → F b ∨ w.heap.size ≤ b := fun b hb => hb.imp (fun h => h) (fun h => by have := n7 b h; omega)
  have hm0 : Mod F w w9 := (hm18.weak (fun _ h => h.elim)).step hm89 (fun x hx _ => hx ▸ hFbc)
  (try simp only [go_sem, Nat.reduceAdd, Nat.reduceEqDiff, Nat.reduceLT, Nat.reduceLeDiff, Nat.reduceMul, reduceCtorEq, ↓reduceIte, cell_of hb19, cell_of ga9])
  refine ir_cond rfl (fun hlt => ?_) (fun hlt => ?_)
  · have hlt' : i < old := by simpa using hlt
    (try simp only [go_sem, Nat.reduceAdd, Nat.reduceEqDiff, Nat.reduceLT, Nat.reduceLeDiff, Nat.reduceMul, reduceCtorEq, ↓reduceIte, cell_of hb19, cell_of ga9])
    refine e_dl (t := 69) (kt := 3) (et := 3) rfl rfl rfl Try.underlying69 Try.underlying3 gm9 ?_
    intro w10 gm10 hm10 hs10
    have hma : a ≠ mb := fun hh => by
      obtain ⟨es, c, q2, _⟩ := gm9
      rw [← hh, ga9] at q2; cases q2
    have ga10 := hm10.at ga9 hma
    have hb110 := hm10.at hb19 (fun hh => by have := hFl mb g5; omega)
    have hb210 := hm10.at hb29 (fun hh => by have := hFl mb g5; omega)
    have kmap : ∀ b cs T, w9.heap[b]? = some (.cells cs T (0, 0)) → b ≠ mb := fun b cs T hb hh => by
      obtain ⟨es, c, q2, _⟩ := gm9
      rw [← hh, hb] at q2; cases q2
    have d10 : FromD 38 w10 (.slice (some ⟨bc, 0, none⟩) ns.length cc) (ns.set i nd) (fun b => F b ∨ f7 = some b) := by
      obtain ⟨fpc, ps, fp, q1, q2, q3, q4, q5⟩ := d9
      refine ⟨fpc, ps, fp, q1.mod hm10 (fun b hb => ?_), q2, argsD_mod q3 hm10 (fun j b hj hb => ?_), q4, fun b hb => by rw [hs10]; exact q5 b hb⟩
      · obtain ⟨cs, q6⟩ := own_cells q1 hb; exact kmap b cs _ q6
      · obtain ⟨cs, q6⟩ := own_cells (q3.1 j hj).1 hb; exact kmap b cs _ q6
    have o10 := o9.mod hm10 (fun b hb => by obtain ⟨cs, q6⟩ := own_cells o9 hb; exact kmap b cs _ q6)
    have hle8 : nd.args.length ≤ 17592186044416 := hl
    have hx10 := (o10.ints hle8).1
    obtain ⟨k1, k2⟩ := ldel_keys g6.1 (i : Int)
    have hm010 : Mod F w w10 := hm0.step hm10 (fun x hx _ => hx ▸ g5)
    (try simp only [go_sem, Nat.reduceAdd, Nat.reduceEqDiff, Nat.reduceLT, Nat.reduceLeDiff, Nat.reduceMul, reduceCtorEq, ↓reduceIte, cell_of hb210])
    refine e_call (by rfl) ?_
    have has10 : GHas w10 a ns.length old := ⟨_, _, _, _, _, _, ga10⟩
    refine (contains_ok _ nd.args w10 hx10 49 Try.f49 #[.pointer (some ⟨w.heap.size, 0, none⟩)] (fun x => decide (x ≥ old)) Try.func49 fn49.1 fn49.2 (fun x _ => setF_ok w10 a ns.length old w.heap.size x has10 hb110)).mono ?_
    rintro q _ ⟨rfl, rfl⟩
    (try simp only [go_sem, Nat.reduceAdd, Nat.reduceEqDiff, Nat.reduceLT, Nat.reduceLeDiff, Nat.reduceMul, reduceCtorEq, ↓reduceIte])
    have hany : (nd.args.any (fun x => decide (x ≥ (old : Int))) = true) ↔ ∃ x ∈ nd.args, (old : Int) ≤ x := by simp [List.any_eq_true]
    refine ir_cond rfl (fun hq => ?_) (fun hq => ?_)
    · (try simp only [go_sem, Nat.reduceAdd, Nat.reduceEqDiff, Nat.reduceLT, Nat.reduceLeDiff, Nat.reduceMul, reduceCtorEq, ↓reduceIte, cell_of hb110, cell_of ga10])
      refine e_mu (t := 69) (kt := 3) (et := 3) rfl rfl rfl Try.underlying69 Try.underlying3 gm10 ?_
      intro w11 gm11 hm11 hs11
      (try simp only [go_sem, Nat.reduceAdd, Nat.reduceEqDiff, Nat.reduceLT, Nat.reduceLeDiff, Nat.reduceMul, reduceCtorEq, ↓reduceIte])
      have kmap2 : ∀ b cs T, w10.heap[b]? = some (.cells cs T (0, 0)) → b ≠ mb := fun b cs T hb hh => by
        obtain ⟨es, c, q2, _⟩ := gm10
        rw [← hh, hb] at q2; cases q2
      obtain ⟨k3, k4⟩ := lput_keys k1 (i : Int) 1
      refine ⟨fun b => F b ∨ f7 = some b, ⟨_, mb, _, hm11.at ga10 hma, .inl g2, ?_, gm11, .inl g5, k3, fun k => ?_⟩, hm010.step hm11 (fun x hx _ => hx ▸ g5), hnF⟩
      · obtain ⟨fpc, ps, fp, q1, q2, q3, q4, q5⟩ := d10
        refine ⟨fpc, ps, fp, q1.mod hm11 (fun b hb => ?_), q2, argsD_mod q3 hm11 (fun j b hj hb => ?_), q4, fun b hb => by rw [hs11]; exact q5 b hb⟩
        · obtain ⟨cs, q6⟩ := own_cells q1 hb; exact kmap2 b cs _ q6
        · obtain ⟨cs, q6⟩ := own_cells (q3.1 j hj).1 hb; exact kmap2 b cs _ q6
      · rw [k4, k2, g6.2]
        constructor
        · rintro (⟨⟨p, rfl, hp, hp2⟩, hne2⟩ | rfl)
          · exact ⟨p, rfl, hp, by rw [ndAt_set hi, if_neg (fun hh => hne2 (by rw [hh]))]; exact hp2⟩
          · exact ⟨i, rfl, hlt', by rw [ndAt_set hi, if_pos rfl]; exact hany.1 hq⟩
        · rintro ⟨p, rfl, hp, hp2⟩
          by_cases hpi : p = i
          · exact .inr (by rw [hpi])
          · rw [ndAt_set hi, if_neg hpi] at hp2
            exact .inl ⟨⟨p, rfl, hp, hp2⟩, by omega⟩
    · (try simp only [go_sem, Nat.reduceAdd, Nat.reduceEqDiff, Nat.reduceLT, Nat.reduceLeDiff, Nat.reduceMul, reduceCtorEq, ↓reduceIte])
      refine ⟨fun b => F b ∨ f7 = some b, ⟨_, mb, _, ga10, .inl g2, d10, gm10, .inl g5, k1, fun k => ?_⟩, hm010, hnF⟩
      rw [k2, g6.2]
      constructor
      · rintro ⟨⟨p, rfl, hp, hp2⟩, hne2⟩
        exact ⟨p, rfl, hp, by rw [ndAt_set hi, if_neg (fun hh => hne2 (by rw [hh]))]; exact hp2⟩
      · rintro ⟨p, rfl, hp, hp2⟩
        by_cases hpi : p = i
        · rw [hpi, ndAt_set hi, if_pos rfl] at hp2
          rw [hany.2 hp2] at hq; cases hq
        · rw [ndAt_set hi, if_neg hpi] at hp2
          exact ⟨⟨p, rfl, hp, hp2⟩, by omega⟩
  · have hlt' : ¬ i < old := by simpa using hlt
    (try simp only [go_sem, Nat.reduceAdd, Nat.reduceEqDiff, Nat.reduceLT, Nat.reduceLeDiff, Nat.reduceMul, reduceCtorEq, ↓reduceIte])
    refine ⟨fun b => F b ∨ f7 = some b, ⟨_, mb, ld, ga9, .inl g2, d9, gm9, .inl g5, g6.1, fun k => ?_⟩, hm0, hnF⟩
    rw [g6.2]
    constructor
    · rintro ⟨p, rfl, hp, hp2⟩
      exact ⟨p, rfl, hp, by rw [ndAt_set hi, if_neg (by omega)]; exact hp2⟩
    · rintro ⟨p, rfl, hp, hp2⟩
      rw [ndAt_set hi, if_neg (by omega)] at hp2
      exact ⟨p, rfl, hp, hp2⟩
end Go.Proofs.Ytnimaifmcejkcaa
end

section
set_option linter.unusedSimpArgs false
set_option linter.unusedVariables false
set_option maxRecDepth 100000
namespace Go.Proofs.Ytnimaifmcejkcaa
open Go Go.W

/-- The least of a list. -/
def IsMin (m : Int) (xs : List Int) : Prop := m ∈ xs ∧ ∀ y ∈ xs, m ≤ y

theorem min_ok (v : Value) (xs : List Int) (w : World) (hx : Ints w v xs) (hne : xs ≠ []) : CallsR Try.prog 83 [v] w fun r w' => (∃ m, r = I m ∧ IsMin m xs) ∧ w = w' := by
  have hx0 := hx
  obtain ⟨a, c, rfl, hl, hxx⟩ := hx
  have hpos : 0 < xs.length := by cases xs with | nil => exact absurd rfl hne | cons y l => simp
  refine fit83.calls rfl ?_
  unfold ir83
  obtain ⟨ad, rfl, h0⟩ := hxx 0 hpos
  rw [add_zero'] at h0
  have e1 : decide ((xs.length : Int) < 1) = false := by simp; omega
  have c1 : (0 : Int) ≤ 0 ∧ (0 : Int) < xs.length := by omega
  (try simp only [go_sem, Nat.reduceAdd, Nat.reduceEqDiff, Nat.reduceLT, Nat.reduceLeDiff, Nat.reduceMul, reduceCtorEq, ↓reduceIte, Nat.mul_one, Int.toNat_natCast, Int.toNat_zero, Nat.sub_zero, Nat.sub_self, e1, c1, h0])
  refine ir_loop (fun m ρ w' => ∃ (k : Nat) (q : Int), m = xs.length - k ∧ 1 ≤ k ∧ k ≤ xs.length ∧ w = w' ∧ IsMin q (xs.take k) ∧ ρ = [(0, .slice (some ad) xs.length c), (3, I q), (4, I k)]) (xs.length - 1)
    ⟨1, xs[0], rfl, Nat.le_refl _, hpos, rfl, ?_, rfl⟩ ?_
  · have e : xs.take 1 = [xs[0]] := by rw [List.take_succ_eq_append_getElem hpos]; simp
    rw [e]
    exact ⟨by simp, fun y hy => by simp at hy; omega⟩
  rintro m ρ _ ⟨k, q, rfl, hk1, hk, rfl, hq, rfl⟩
  unfold ir83L1
  (try simp only [go_sem, Nat.reduceAdd, Nat.reduceEqDiff, Nat.reduceLT, Nat.reduceLeDiff, Nat.reduceMul, reduceCtorEq, ↓reduceIte])
  refine ir_cond rfl (fun h => ?_) (fun h => ?_)
  · have hlt : k < xs.length := by simpa using h
    obtain ⟨ad', he, hc⟩ := hxx k hlt
    cases he
    have c2 : (0 : Int) ≤ k ∧ (k : Int) < xs.length := by omega
    have hw : IntKind.i64.wrap ((k : Int) + 1) = ((k + 1 : Nat) : Int) := by rw [wrap_in] <;> omega
    (try simp only [go_sem, Nat.reduceAdd, Nat.reduceEqDiff, Nat.reduceLT, Nat.reduceLeDiff, Nat.reduceMul, reduceCtorEq, ↓reduceIte, Nat.mul_one, Int.toNat_natCast, Int.toNat_zero, Nat.sub_zero, Nat.sub_self, c2, hc, hw])
    refine ⟨_, ?_, k + 1, _, rfl, by omega, hlt, ?_, rfl⟩
    · omega
    · rw [List.take_succ_eq_append_getElem hlt]
      obtain ⟨q1, q2⟩ := hq
      by_cases hlq : xs[k] < q
      · rw [if_pos hlq]
        refine ⟨List.mem_append_right _ (by simp), fun y hy => ?_⟩
        rcases List.mem_append.1 hy with hy | hy
        · have := q2 y hy; omega
        · simp at hy; omega
      · rw [if_neg hlq]
        refine ⟨List.mem_append_left _ q1, fun y hy => ?_⟩
        rcases List.mem_append.1 hy with hy | hy
        · exact q2 y hy
        · simp at hy; omega
  · have hk' : k = xs.length := by simp at h; omega
    subst hk'
    rw [List.take_length] at hq
    (try simp only [go_sem, Nat.reduceAdd, Nat.reduceEqDiff, Nat.reduceLT, Nat.reduceLeDiff, Nat.reduceMul, reduceCtorEq, ↓reduceIte])
    exact ⟨_, rfl, hq⟩
theorem one_ok (pv v : Value) (xs : List Int) (w : World) (hx : Ints w v xs) (hne : xs ≠ []) : CallsR Try.prog 79 [pv, v] w fun r w' => (∃ m, r = I m ∧ IsMin m xs) ∧ w = w' := by
  refine fit79.calls rfl ?_
  unfold ir79
  (try simp only [go_sem, Nat.reduceAdd, Nat.reduceEqDiff, Nat.reduceLT, Nat.reduceLeDiff, Nat.reduceMul, reduceCtorEq, ↓reduceIte])
  refine e_call (by rfl) ?_
  refine (min_ok v xs w hx hne).mono ?_
  rintro q _ ⟨⟨m, rfl, hm⟩, rfl⟩
  (try simp only [go_sem, Nat.reduceAdd, Nat.reduceEqDiff, Nat.reduceLT, Nat.reduceLeDiff, Nat.reduceMul, reduceCtorEq, ↓reduceIte])
  exact ⟨_, rfl, hm⟩

/-- What is known of places: -1, or what each is; the rings that were met. -/
structure OfOk (ns : List Nd) (l : List Int) (R : List (Int × Int)) : Prop where
  len : l.length = ns.length
  val : ∀ i, i < ns.length → l.getD i 0 = -1 ∨ l.getD i 0 = over ns i
  nd : (R.map (fun q => q.1)).Nodup
  ring : ∀ k : Int, k ∈ R.map (fun q => q.1) ↔ ∃ i, i < ns.length ∧ k = over ns i ∧ l.getD i 0 ≠ -1 ∧ ind ns (over ns i) = true
theorem ofOk_set {ns : List Nd} (hw : WF ns) {l : List Int} {R : List (Int × Int)} (h : OfOk ns l R) {q p : Nat} (hq : q < ns.length) (hp : p < ns.length) (he : over ns q = over ns p) (hk : l.getD p 0 ≠ -1 ∨ ind ns (over ns p) = false) : OfOk ns (l.set q (over ns p : Nat)) R := by
  have hql : q < l.length := by rw [h.len]; exact hq
  refine ⟨by simpa using h.len, fun i hi => ?_, h.nd, fun k => ?_⟩
  · rw [getD_set l q i _ hql]
    split
    · rename_i e; subst e; exact .inr (by rw [he])
    · exact h.val i hi
  · rw [h.ring]
    constructor
    · rintro ⟨i, h1, h2, h3, h4⟩
      refine ⟨i, h1, h2, ?_, h4⟩
      rw [getD_set l q i _ hql]
      split
      · omega
      · exact h3
    · rintro ⟨i, h1, h2, h3, h4⟩
      rw [getD_set l q i _ hql] at h3
      split at h3
      · rename_i e; subst e
        rcases hk with hk | hk
        · exact ⟨p, hp, by rw [h2, he], hk, by rw [← he]; exact h4⟩
        · rw [he, hk] at h4; cases h4
      · exact ⟨i, h1, h2, h3, h4⟩
theorem ofOk_ring {ns : List Nd} (hw : WF ns) {l : List Int} {R : List (Int × Int)} (h : OfOk ns l R) {p : Nat} (hp : p < ns.length) (he : over ns p = p) (hi : ind ns p = true) : OfOk ns (l.set p (p : Nat)) (lput R p 1) := by
  have hql : p < l.length := by rw [h.len]; exact hp
  obtain ⟨k1, k2⟩ := lput_keys h.nd (p : Int) 1
  refine ⟨by simpa using h.len, fun i hi => ?_, k1, fun k => ?_⟩
  · rw [getD_set l p i _ hql]
    split
    · rename_i e; subst e; exact .inr (by rw [he])
    · exact h.val i hi
  · rw [k2, h.ring]
    constructor
    · rintro (⟨i, h1, h2, h3, h4⟩ | rfl)
      · refine ⟨i, h1, h2, ?_, h4⟩
        rw [getD_set l p i _ hql]
        split
        · omega
        · exact h3
      · refine ⟨p, hp, by rw [he], ?_, by rw [he]; exact hi⟩
        rw [getD_set l p p _ hql, if_pos rfl]; omega
    · rintro ⟨i, h1, h2, h3, h4⟩
      rw [getD_set l p i _ hql] at h3
      split at h3
      · rename_i e; subst e; exact .inr (by rw [h2, he])
      · exact .inl ⟨i, h1, h2, h3, h4⟩

theorem fit_mul {f : Nat → Nat} {c d : Nat} (h : fit f d c = c) : ∀ t, fit f (d * t) c = c := by
  intro t
  induction t with
  | zero => rfl
  | succ t ih => rw [Nat.mul_succ, fit_add, h, ih]
/-- The least of a ring is what its places are. -/
theorem ring_min {f : Nat → Nat} {n x j k : Nat} (hf : ∀ x, x < n → f x < n) (hx : x < n) (hjk : j < k) (hc : fit f k x = fit f j x) {m : Int} (hm : IsMin m (((List.range k).map (fun i => (fit f i x : Int))).drop j)) : m = (ov f n x : Nat) := by
  have hmem : ∀ y : Int, y ∈ ((List.range k).map (fun i => (fit f i x : Int))).drop j ↔ ∃ i, j ≤ i ∧ i < k ∧ y = (fit f i x : Nat) := by
    intro y
    rw [List.mem_iff_getElem?]
    constructor
    · rintro ⟨i, hi⟩
      rw [List.getElem?_drop, List.getElem?_map] at hi
      cases hr : (List.range k)[j + i]? with
      | none => rw [hr] at hi; cases hi
      | some t =>
        rw [hr] at hi
        have ht : j + i < k ∧ t = j + i := by
          have := List.getElem?_eq_some_iff.1 hr
          obtain ⟨h1, h2⟩ := this
          simp at h1 h2
          exact ⟨h1, h2.symm⟩
        simp only [Option.map_some, Option.some.injEq] at hi
        exact ⟨j + i, by omega, ht.1, by rw [← hi, ht.2]⟩
    · rintro ⟨i, h1, h2, rfl⟩
      refine ⟨i - j, ?_⟩
      rw [List.getElem?_drop, List.getElem?_map, show j + (i - j) = i by omega, List.getElem?_range h2]
      rfl
  obtain ⟨hm1, hm2⟩ := hm
  obtain ⟨i, hi1, hi2, rfl⟩ := (hmem m).1 hm1
  have hd : fit f (k - j) (fit f j x) = fit f j x := by rw [← fit_add, show k - j + j = k by omega, hc]
  have h1 : ov f n x ≤ fit f i x := by
    have hkj : 1 ≤ k - j := by omega
    have hmul := Nat.mul_le_mul_right n hkj
    have := ov_le' hf hx (i + (k - j) * n) (by omega)
    have e : fit f (i + (k - j) * n) x = fit f i x := by
      rw [show i + (k - j) * n = (i - j) + ((k - j) * n + j) by omega, fit_add, fit_add f ((k - j) * n) j, fit_mul hd, ← fit_add]
      congr 1; omega
    rwa [e] at this
  have h2 : (fit f i x : Int) ≤ (ov f n x : Nat) := by
    obtain ⟨M, _, hM⟩ := ov_mem f n (fit f j x)
    rw [ov_fit hf hx j] at hM
    refine hm2 _ ((hmem _).2 ⟨j + (M + n) % (k - j), by omega, by have := Nat.mod_lt (M + n) (show 0 < k - j by omega); omega, ?_⟩)
    rw [hM]
    have e : fit f (M + n) (fit f j x) = fit f ((M + n) % (k - j)) (fit f j x) := by
      conv => lhs; rw [← Nat.mod_add_div (M + n) (k - j)]
      rw [fit_add, fit_mul hd]
    rw [e, ← fit_add]
    congr 2; omega
  omega

/-- The way's own map. -/
def wayMap (g : Nat → Nat) (k : Nat) : List (Int × Int) := (List.range k).map fun j => ((g j : Int), (j : Int))
theorem wayMap_succ (g : Nat → Nat) (k : Nat) : wayMap g (k + 1) = wayMap g k ++ [((g k : Int), (k : Int))] := by simp [wayMap, List.range_succ]
theorem wayMap_none {g : Nat → Nat} {k : Nat} {c : Nat} (h : ∀ j, j < k → g j ≠ c) : lget (wayMap g k) c = none ∧ ∀ v, lput (wayMap g k) c v = wayMap g k ++ [((c : Int), v)] := by
  have hf : (wayMap g k).findIdx? (fun p => p.1 == (c : Int)) = none := by
    rw [List.findIdx?_eq_none_iff]
    intro q hq
    obtain ⟨j, hj, rfl⟩ := List.mem_map.1 hq
    have := h j (List.mem_range.1 hj)
    simp; omega
  refine ⟨by rw [lget_idx, hf]; rfl, fun v => by unfold lput; rw [hf]⟩
theorem wayMap_some {g : Nat → Nat} : ∀ (k : Nat), (∀ i j, i < k → j < k → g i = g j → i = j) → ∀ j, j < k → lget (wayMap g k) (g j) = some (j : Int) := by
  intro k
  induction k with
  | zero => intro _ j hj; omega
  | succ k ih =>
    intro hd j hj
    rw [wayMap_succ]
    unfold lget
    rw [List.find?_append]
    by_cases hjk : j < k
    · have := ih (fun i j hi hj => hd i j (by omega) (by omega)) j hjk
      unfold lget at this
      cases hq : (wayMap g k).find? (fun p => p.1 == (g j : Int)) with
      | none => rw [hq] at this; cases this
      | some q => rw [hq] at this; simpa using this
    · have e : j = k := by omega
      subst e
      have hn : (wayMap g j).find? (fun p => p.1 == (g j : Int)) = none := by
        rw [List.find?_eq_none]
        intro q hq
        obtain ⟨i, hi, rfl⟩ := List.mem_map.1 hq
        have hi' := List.mem_range.1 hi
        have : g i ≠ g j := fun hh => by have := hd i j (by omega) (by omega) hh; omega
        simp; omega
      rw [hn]
      simp
end Go.Proofs.Ytnimaifmcejkcaa
end

section
set_option linter.unusedSimpArgs false
set_option linter.unusedVariables false
set_option maxRecDepth 100000
namespace Go.Proofs.Ytnimaifmcejkcaa
open Go Go.W

theorem ir_bthen {P : Program} {N id : Nat} {a : IR} {next : Env → World → Prop} {Q : Post} {ρ : Env} {w : World} (Mid : Env → World → Prop) (h : irwp P N a (blkQ id (thenQ Mid Q)) ρ w) (hk : ∀ ρ w, Mid ρ w → next ρ w) : irwp P N a (blkQ id (thenQ next Q)) ρ w :=
  irwp_mono a _ _ (blkQ_le (thenQ_le hk (fun _ _ _ h => h))) ρ w h
def wayL (g : Nat → Nat) (k : Nat) : List Int := (List.range k).map fun i => (g i : Int)
theorem wayL_succ (g : Nat → Nat) (k : Nat) : wayL g (k + 1) = wayL g k ++ [(g k : Int)] := by simp [wayL, List.range_succ]
theorem wayL_len (g : Nat → Nat) (k : Nat) : (wayL g k).length = k := by simp [wayL]

theorem leads' {w : World} {va : Option Addr} {n vc : Nat} {xs : List Int} {q : Int} (h : Ints w (.slice va n vc) xs) (hx : xs = [q]) : ∃ ad, va = some ad ∧ w.cell? ad = some (I q) := by
  subst hx
  obtain ⟨xb, xd, ev, _, hxx⟩ := h
  obtain ⟨ad, h1, had⟩ := hxx 0 (by simp)
  cases ev
  rw [add_zero'] at had
  exact ⟨ad, h1, had⟩
theorem own_at' {w : World} {T n : Nat} {v : Value} {xs : List Value} {fp : Option Nat} (h : Own w T 1 v xs n fp) {i : Nat} (hi : i < n) {u : Value} (hu : xs[i]? = some u) : ∃ b c, v = .slice (some ⟨b, 0, none⟩) n c ∧ w.cell? ⟨b, i, none⟩ = some u := by
  have hl := h.1
  obtain ⟨b, c, sp', hv, _, hb, _, _⟩ := h.pos (by omega)
  refine ⟨b, c, hv, ?_⟩
  rw [cell_of hb, List.getElem?_toArray, List.getElem?_append_left (by omega)]
  exact hu
/-- The end of an owned slice reads as the end of its list. -/
theorem own_drop {w : World} {xs : List Int} {fp : Option Nat} {a : Option Addr} {c j : Nat} (h : Own w 3 1 (.slice a xs.length c) (xs.map I) xs.length fp) (hj : j < xs.length) (hl : xs.length ≤ 17592186044416) :
    Ints w (.slice (if c = j then a else a.map (fun x => x.add j)) (xs.length - j) (c - j)) (xs.drop j) := by
  obtain ⟨b, c', sp', he, _, hb, hc, hcap⟩ := h.pos (by omega)
  cases he
  have hcj : ¬ c = j := by omega
  rw [if_neg hcj]
  refine ⟨_, c - j, by rw [List.length_drop]; rfl, by rw [List.length_drop]; omega, fun i hi => ⟨_, rfl, ?_⟩⟩
  rw [List.length_drop] at hi
  show w.cell? ((Addr.add ⟨b, 0, none⟩ j).add i) = _
  rw [add_at, add_at, cell_of hb]
  rw [List.getElem?_toArray, List.getElem?_append_left (by simp; omega)]
  simp [Nat.mul_one, show j + i < xs.length by omega]

/-- Behind pass: what was known is known; the place is. -/
def GPassPost (ns : List Nd) (w : World) (bo br : Nat) (l : List Int) (p : Nat) (w' : World) : Prop :=
  ∃ l' R', OfOk ns l' R' ∧ l'.getD p 0 = over ns p ∧ (∀ i, i < ns.length → l.getD i 0 ≠ -1 → l'.getD i 0 ≠ -1) ∧ w'.heap[bo]? = some (.cells (l'.map I).toArray 3 (0, 0)) ∧ MapAt w' br R' ∧ Mod (fun x => x = bo ∨ x = br) w w'

theorem gpass_ok (ns : List Nd) (hw : WF ns) (hn : ns.length ≤ 1048576) (w : World) (a bo br : Nat) (c0 c1 cv c3 c4 c5 : Value) (l : List Int) (R : List (Int × Int)) (F : Nat → Prop)
    (ha : w.heap[a]? = some (.cells #[c0, c1, cv, c3, c4, c5] 72 (0, 0))) (hfr : FromAt 38 w cv ns F) (hb : w.heap[bo]? = some (.cells (l.map I).toArray 3 (0, 0))) (hr : MapAt w br R) (hok : OfOk ns l R) (hFb : ∀ x, F x → x ≠ bo ∧ x ≠ br) (p : Nat) (hp : p < ns.length) :
    CallsR Try.prog 75 [.pointer (some ⟨a, 0, none⟩), I p, .agg #[.slice (some ⟨bo, 0, none⟩) ns.length ns.length, .map (some br)]] w fun r w' => GPassPost ns w bo br l p w' := by
  have hargs := wf_args_le hw
  have hf := wf_nxt_lt hw
  have hlt : ∀ j, fit (nxt ns) j p < ns.length := fun j => fit_lt hf j hp
  have lb := lt_of_heap hb
  obtain ⟨res, crs, hrs, _⟩ := id hr
  have lr := lt_of_heap hrs
  refine fit75.calls rfl ?_
  unfold ir75
  (try simp only [go_sem, Nat.reduceAdd, Nat.reduceEqDiff, Nat.reduceLT, Nat.reduceLeDiff, Nat.reduceMul, reduceCtorEq, ↓reduceIte])
  refine e_bx rfl ?_
  intro w1 hb1 hm1 hs1
  have hb1 : w1.heap[w.heap.size]? = some (.cells #[.slice (some ⟨bo, 0, none⟩) ns.length ns.length, .map (some br)] 103 (0, 0)) := hb1
  (try simp only [go_sem, Nat.reduceAdd, Nat.reduceEqDiff, Nat.reduceLT, Nat.reduceLeDiff, Nat.reduceMul, reduceCtorEq, ↓reduceIte])
  refine e_mm ?_
  intro w2 hb2 hm2 hs2
  have hb12 := hm2.at hb1 (fun h => h)
  (try simp only [go_sem, Nat.reduceAdd, Nat.reduceEqDiff, Nat.reduceLT, Nat.reduceLeDiff, Nat.reduceMul, reduceCtorEq, ↓reduceIte])
  refine ir_bthen (fun ρ w' => ∃ (k pf : Nat) (l1 : List Int) (R1 : List (Int × Int)) (v : Value) (fp : Option Nat), k ≤ ns.length ∧ pf < ns.length ∧ OfOk ns l1 R1 ∧ l1.getD pf 0 = over ns p ∧ over ns pf = over ns p ∧ (k = 0 → pf = p) ∧ (∀ i, i < ns.length → l.getD i 0 ≠ -1 → l1.getD i 0 ≠ -1) ∧
      w'.heap[bo]? = some (.cells (l1.map I).toArray 3 (0, 0)) ∧ MapAt w' br R1 ∧ Mod (fun x => x = bo ∨ x = br) w w' ∧ w'.heap[w.heap.size]? = some (.cells #[.slice (some ⟨bo, 0, none⟩) ns.length ns.length, .map (some br)] 103 (0, 0)) ∧
      Own w' 3 1 v ((wayL (fun i => fit (nxt ns) i p) k).map I) k fp ∧ (∀ b, fp = some b → w.heap.size < b) ∧
      ρ.get 1 = some (I pf) ∧ ρ.get 5 = some (.pointer (some ⟨w.heap.size, 0, none⟩)) ∧ ρ.get 7 = some v) ?_ ?_
  · refine ir_loop (fun m ρ w' => ∃ (k : Nat) (v : Value) (fp : Option Nat), m = ns.length - k ∧ k ≤ ns.length ∧ (∀ j, j < k → ind ns (fit (nxt ns) j p) = true ∧ l.getD (fit (nxt ns) j p) 0 = -1) ∧ (∀ i j, i < k → j < k → fit (nxt ns) i p = fit (nxt ns) j p → i = j) ∧
        Mod (fun _ => False) w w' ∧ w'.heap[w.heap.size]? = some (.cells #[.slice (some ⟨bo, 0, none⟩) ns.length ns.length, .map (some br)] 103 (0, 0)) ∧ MapAt w' w1.heap.size (wayMap (fun i => fit (nxt ns) i p) k) ∧
        Own w' 3 1 v ((wayL (fun i => fit (nxt ns) i p) k).map I) k fp ∧ (∀ b, fp = some b → w1.heap.size < b) ∧
        ρ = [(0, .pointer (some ⟨a, 0, none⟩)), (1, I (fit (nxt ns) k p : Nat)), (5, .pointer (some ⟨w.heap.size, 0, none⟩)), (6, .map (some w1.heap.size)), (7, v)]) ns.length
      ⟨0, _, none, rfl, Nat.zero_le _, (fun j hj => by omega), (fun i j hi => by omega), hm1.trans hm2, hb12, hb2, Own.nil _ _ _, (fun b hb => by cases hb), rfl⟩ ?_
    rintro m ρ w3 ⟨k, v, fp, rfl, hk, hway, hdist, hm3, hb3, hmap, how, hfp, rfl⟩
    have hbo := hm3.at hb (fun h => h)
    have hbr := map_mod hr hm3 (fun h => h)
    have ha3 := hm3.at ha (fun h => h)
    have hfr3 := hfr.mod hm3 (fun _ _ h => h)
    obtain ⟨bc, cc, nv, rfl, d0, d1, d2, dx, db, _⟩ := from_at hfr3 hargs (hlt k)
    have hx := ints_at hbo (i := fit (nxt ns) k p) (by rw [hok.len]; exact hlt k)
    have b1 : (0 : Int) ≤ (fit (nxt ns) k p : Nat) ∧ ((fit (nxt ns) k p : Nat) : Int) < ns.length := by have := hlt k; omega
    have hov : over ns (fit (nxt ns) k p) = over ns p := ov_fit hf hp k
    obtain ⟨va, vc, rfl, _, _⟩ := how.val
    unfold ir75L1
    (try simp only [go_sem, Nat.reduceAdd, Nat.reduceEqDiff, Nat.reduceLT, Nat.reduceLeDiff, Nat.reduceMul, reduceCtorEq, ↓reduceIte, Nat.mul_one, Int.toNat_natCast, Int.toNat_zero, Nat.sub_zero, Nat.sub_self, cell_of hb3, b1, hx])
    refine ir_cond rfl (fun hc => ?_) (fun hc => ?_)
    · have hc' : l.getD (fit (nxt ns) k p) 0 = -1 := by
        have h1 : l.getD (fit (nxt ns) k p) 0 < 0 := by simpa using hc
        rcases hok.val _ (hlt k) with h | h
        · exact h
        · omega
      (try simp only [go_sem, Nat.reduceAdd, Nat.reduceEqDiff, Nat.reduceLT, Nat.reduceLeDiff, Nat.reduceMul, reduceCtorEq, ↓reduceIte, Nat.mul_one, Int.toNat_natCast, Int.toNat_zero, Nat.sub_zero, Nat.sub_self, cell_of ha3, b1, d0])
      refine ir_cond rfl (fun hi => ?_) (fun hi => ?_)
      · have hi' : ind ns (fit (nxt ns) k p) = false := by simpa [ind] using hi
        (try simp only [go_sem, Nat.reduceAdd, Nat.reduceEqDiff, Nat.reduceLT, Nat.reduceLeDiff, Nat.reduceMul, reduceCtorEq, ↓reduceIte, Nat.mul_one, Int.toNat_natCast, Int.toNat_zero, Nat.sub_zero, Nat.sub_self, cell_of hb3, b1])
        refine e_st1 (off := fit (nxt ns) k p) rfl rfl hbo rfl (by simp; rw [hok.len]; exact hlt k) ?_
        intro w4 hb4 hm4 hs4
        rw [map_set] at hb4
        have hovk : over ns (fit (nxt ns) k p) = fit (nxt ns) k p := ov_fix (nxt_fix hi')
        have hokk : OfOk ns (l.set (fit (nxt ns) k p) (fit (nxt ns) k p : Nat)) R := by
          have := ofOk_set hw hok (hlt k) (hlt k) rfl (.inr (by rw [hovk]; exact hi'))
          rwa [hovk] at this
        have hne : bo ≠ br := fun hh => by rw [hh, hrs] at hb; cases hb
        (try simp only [go_sem, Nat.reduceAdd, Nat.reduceEqDiff, Nat.reduceLT, Nat.reduceLeDiff, Nat.reduceMul, reduceCtorEq, ↓reduceIte])
        refine ⟨k, fit (nxt ns) k p, _, R, _, fp, hk, hlt k, hokk, ?_, hov, (fun h => by subst h; rfl), fun i hi2 h => ?_, hb4, map_mod hbr hm4 (fun hh => hne hh.symm), (hm3.weak (fun _ h => h.elim)).step hm4 (fun x hx _ => .inl hx), hm4.at hb3 (fun hh => by omega), how.mod hm4 (fun b hb hh => by have := hfp b hb; have := hm1.size; omega), fun b hb => by have := hfp b hb; omega, rfl, rfl⟩
        · rw [getD_set _ _ _ _ (by rw [hok.len]; exact hlt k), if_pos rfl, ← hov, hovk]
        · rw [getD_set _ _ _ _ (by rw [hok.len]; exact hlt k)]
          split
          · omega
          · exact h
      · have hi' : ind ns (fit (nxt ns) k p) = true := by simpa [ind] using hi
        obtain ⟨q', hq', haq, hnx⟩ := wf_ind hw (hlt k) hi'
        by_cases hseen : ∃ j, j < k ∧ fit (nxt ns) j p = fit (nxt ns) k p
        · obtain ⟨j, hjk, hje⟩ := hseen
          have hget : lget (wayMap (fun i => fit (nxt ns) i p) k) (fit (nxt ns) k p : Nat) = some (j : Int) := by
            rw [← hje]; exact wayMap_some k hdist j hjk
          (try simp only [go_sem, Nat.reduceAdd, Nat.reduceEqDiff, Nat.reduceLT, Nat.reduceLeDiff, Nat.reduceMul, reduceCtorEq, ↓reduceIte])
          refine e_lk (t := 69) (kt := 3) (et := 3) rfl rfl Try.underlying69 Try.underlying3 (Try.zeroValue3 _) hmap ?_
          rw [hget]
          have b2 : (0 : Int) ≤ j ∧ (j : Int) ≤ k := by omega
          have hwl := wayL_len (fun i => fit (nxt ns) i p) k
          (try simp only [go_sem, Nat.reduceAdd, Nat.reduceEqDiff, Nat.reduceLT, Nat.reduceLeDiff, Nat.reduceMul, reduceCtorEq, ↓reduceIte, Nat.mul_one, Int.toNat_natCast, Int.toNat_zero, Nat.sub_zero, Nat.sub_self, Option.getD_some, Option.isSome_some, b2])
          have hdrop := own_drop (xs := wayL (fun i => fit (nxt ns) i p) k) (a := va) (c := vc) (j := j) (by rw [hwl]; exact how) (by rw [hwl]; exact hjk) (by rw [hwl]; omega)
          rw [hwl] at hdrop
          have hdne : (wayL (fun i => fit (nxt ns) i p) k).drop j ≠ [] := fun hh => by
            have := congrArg List.length hh
            rw [List.length_drop, hwl] at this
            simp at this; omega
          refine e_call (by rfl) ?_
          refine (one_ok _ _ _ w3 hdrop hdne).mono ?_
          rintro q _ ⟨⟨mm, rfl, hmin⟩, rfl⟩
          have hmo : mm = (over ns p : Nat) := ring_min hf hp hjk hje.symm hmin
          have hol : over ns p < ns.length := ov_lt hf hp
          have hoo : over ns (over ns p) = over ns p := ov_ov hf hp
          have hoi : ind ns (over ns p) = true := by
            have h1 := List.mem_of_mem_drop hmin.1
            obtain ⟨i, hi3, hi4⟩ := List.mem_map.1 h1
            have hi5 := List.mem_range.1 hi3
            have hi6 : ((fit (nxt ns) i p : Nat) : Int) = mm := hi4
            have : over ns p = fit (nxt ns) i p := by rw [hmo] at hi6; omega
            rw [this]; exact (hway i hi5).1
          subst hmo
          (try simp only [go_sem, Nat.reduceAdd, Nat.reduceEqDiff, Nat.reduceLT, Nat.reduceLeDiff, Nat.reduceMul, reduceCtorEq, ↓reduceIte, cell_of hb3])
          refine e_mu (t := 69) (kt := 3) (et := 3) rfl rfl rfl Try.underlying69 Try.underlying3 hbr ?_
          intro w4 hbr4 hm4 hs4
          have hne : bo ≠ br := fun hh => by rw [hh, hrs] at hb; cases hb
          have hbo4 := hm4.at hbo hne
          have hb4 := hm4.at hb3 (fun hh => by omega)
          have b3 : (0 : Int) ≤ (over ns p : Nat) ∧ ((over ns p : Nat) : Int) < ns.length := by omega
          (try simp only [go_sem, Nat.reduceAdd, Nat.reduceEqDiff, Nat.reduceLT, Nat.reduceLeDiff, Nat.reduceMul, reduceCtorEq, ↓reduceIte, Nat.mul_one, Int.toNat_natCast, Int.toNat_zero, Nat.sub_zero, Nat.sub_self, cell_of hb4, b3])
          refine e_st1 (off := over ns p) rfl rfl hbo4 rfl (by simp; rw [hok.len]; exact hol) ?_
          intro w5 hb5 hm5 hs5
          rw [map_set] at hb5
          (try simp only [go_sem, Nat.reduceAdd, Nat.reduceEqDiff, Nat.reduceLT, Nat.reduceLeDiff, Nat.reduceMul, reduceCtorEq, ↓reduceIte])
          have s1 := hm1.size; have s3 := hm3.size
          have hm45 : Mod (fun x => x = bo ∨ x = br) w3 w5 := (hm4.weak (S' := fun x => x = bo ∨ x = br) (fun x hx => .inr hx)).step hm5 (fun x hx _ => .inl hx)
          refine ⟨k, over ns p, _, _, _, fp, hk, hol, ofOk_ring hw hok hol hoo hoi, ?_, hoo, (fun h => by omega), fun i hi2 h => ?_, hb5, map_mod hbr4 hm5 (fun hh => hne hh.symm), (hm3.weak (fun _ h => h.elim)).trans hm45, hm45.at hb3 (fun hh => by omega), how.mod hm45 (fun b hb hh => by have := hfp b hb; omega), fun b hb => by have := hfp b hb; omega, rfl, rfl⟩
          · rw [getD_set _ _ _ _ (by rw [hok.len]; exact hol), if_pos rfl]
          · rw [getD_set _ _ _ _ (by rw [hok.len]; exact hol)]
            split
            · omega
            · exact h
        · have hnone := wayMap_none (g := fun i => fit (nxt ns) i p) (k := k) (c := fit (nxt ns) k p) (fun j hj hh => hseen ⟨j, hj, hh⟩)
          (try simp only [go_sem, Nat.reduceAdd, Nat.reduceEqDiff, Nat.reduceLT, Nat.reduceLeDiff, Nat.reduceMul, reduceCtorEq, ↓reduceIte])
          refine e_lk (t := 69) (kt := 3) (et := 3) rfl rfl Try.underlying69 Try.underlying3 (Try.zeroValue3 _) hmap ?_
          rw [hnone.1]
          (try simp only [go_sem, Nat.reduceAdd, Nat.reduceEqDiff, Nat.reduceLT, Nat.reduceLeDiff, Nat.reduceMul, reduceCtorEq, ↓reduceIte, Nat.mul_one, Int.toNat_natCast, Int.toNat_zero, Nat.sub_zero, Nat.sub_self, Option.getD_none, Option.isSome_none])
          refine e_mu (t := 69) (kt := 3) (et := 3) rfl rfl rfl Try.underlying69 Try.underlying3 hmap ?_
          intro w4 hmap4 hm4 hs4
          rw [hnone.2, ← wayMap_succ (fun i => fit (nxt ns) i p) k] at hmap4
          have s1 := hm1.size; have s3 := hm3.size
          have lm := (by obtain ⟨es, c, h, _⟩ := hmap; exact lt_of_heap h : w1.heap.size < w3.heap.size)
          have hm04 : Mod (fun _ => False) w w4 := hm3.step hm4 (fun x hx hlt => by omega)
          have hb4 := hm4.at hb3 (fun hh => by omega)
          have how4 := how.mod hm4 (fun b hb hh => by have := hfp b hb; omega)
          (try simp only [go_sem, Nat.reduceAdd, Nat.reduceEqDiff, Nat.reduceLT, Nat.reduceLeDiff, Nat.reduceMul, reduceCtorEq, ↓reduceIte])
          refine e_bs (by rfl) (by (try simp only [go_sem, Nat.reduceAdd, Nat.reduceEqDiff, Nat.reduceLT, Nat.reduceLeDiff, Nat.reduceMul, reduceCtorEq, ↓reduceIte]); rfl) ?_
          intro w5 hb5 hm5 hs5
          have how5 := how4.mod hm5 (fun _ _ h => h)
          (try simp only [go_sem, Nat.reduceAdd, Nat.reduceEqDiff, Nat.reduceLT, Nat.reduceLeDiff, Nat.reduceMul, reduceCtorEq, ↓reduceIte])
          refine e_ap (m := 1) (news := [I (fit (nxt ns) k p : Nat)]) rfl how5 rfl (fun h => by cases h) (rd_block hb5) (by simp [Value.oneCell']) rfl (by omega) (by omega) ?_
          intro v6 w6 fp6 ho6 hm6 hf6
          obtain ⟨va6, vc6, rfl, _, _⟩ := ho6.val
          have s4 := hm4.size; have s5 := hm5.size; have s6 := hm6.size
          have hm06 : Mod (fun _ => False) w w6 := (hm04.trans hm5).step hm6 (fun x hx hlt => by have := hfp x hx; omega)
          have ha6 := hm06.at ha (fun h => h)
          obtain ⟨bc', cc', nv', ecv, e0, e1, e2, ex, eb, _⟩ := from_at (hfr.mod hm06 (fun _ _ h => h)) hargs (hlt k)
          cases ecv
          obtain ⟨xa, xc, rfl, _, _⟩ := id ex
          obtain ⟨ad, rfl, had⟩ := leads' ex haq
          have hl1 : (ndAt ns (fit (nxt ns) k p)).args.length = 1 := by rw [haq]; rfl
          have z3 : (0 : Int) ≤ 0 ∧ (0 : Int) < ((1 : Nat) : Int) := by omega
          (try simp only [go_sem, Nat.reduceAdd, Nat.reduceEqDiff, Nat.reduceLT, Nat.reduceLeDiff, Nat.reduceMul, reduceCtorEq, ↓reduceIte, Nat.mul_one, Int.toNat_natCast, Int.toNat_zero, Nat.sub_zero, Nat.sub_self, cell_of ha6, b1, e2, hl1, z3, had])
          have hk1 : k + 1 ≤ ns.length := by
            have hnd : ((List.range (k + 1)).map (fun i => fit (nxt ns) i p)).Nodup := by
              rw [List.range_succ, List.map_append, List.nodup_append]
              refine ⟨?_, by simp, fun x hx y hy hxy => ?_⟩
              · unfold List.Nodup
                rw [List.pairwise_map]
                refine List.Pairwise.imp_of_mem ?_ (List.nodup_range (n := k))
                intro i j hi hj hij hh
                exact hij (hdist i j (List.mem_range.1 hi) (List.mem_range.1 hj) hh)
              · obtain ⟨i, hi, rfl⟩ := List.mem_map.1 hx
                simp at hy
                exact hseen ⟨i, List.mem_range.1 hi, by rw [hxy, hy]⟩
            have := nodup_le ns.length _ hnd (fun x hx => by obtain ⟨i, _, rfl⟩ := List.mem_map.1 hx; exact hlt i)
            simpa using this
          have hfpne : ∀ b, fp = some b → w1.heap.size < b := hfp
          have hb6 := hm6.at (hm5.at hb4 (fun h => h)) (fun hh => by have := hfp _ hh; omega)
          have hmap6 := map_mod (map_mod hmap4 hm5 (fun h => h)) hm6 (fun hh => by have := hfp _ hh; omega)
          refine ⟨_, ?_, k + 1, .slice va6 (k + 1) vc6, fp6, rfl, hk1, fun j hj => ?_, fun i j hi hj hij => ?_, hm06, hb6, hmap6, ?_, fun b hb => ?_, ?_⟩
          · omega
          · rcases Nat.lt_or_ge j k with h | h
            · exact hway j h
            · obtain rfl : j = k := by omega
              exact ⟨hi', hc'⟩
          · rcases Nat.lt_or_ge i k with h1 | h1
            · rcases Nat.lt_or_ge j k with h2 | h2
              · exact hdist i j h1 h2 hij
              · obtain rfl : j = k := by omega
                exact absurd ⟨i, h1, hij⟩ hseen
            · obtain rfl : i = k := by omega
              rcases Nat.lt_or_ge j i with h2 | h2
              · exact absurd ⟨j, h2, hij.symm⟩ hseen
              · omega
          · rw [wayL_succ, List.map_append]; exact ho6
          · rcases hf6 b hb with h | h
            · exact hfp b h
            · omega
          · rw [fit_succ, hnx]
    · have hc' : l.getD (fit (nxt ns) k p) 0 ≠ -1 := fun h => by rw [h] at hc; simp at hc
      (try simp only [go_sem, Nat.reduceAdd, Nat.reduceEqDiff, Nat.reduceLT, Nat.reduceLeDiff, Nat.reduceMul, reduceCtorEq, ↓reduceIte])
      refine ⟨k, fit (nxt ns) k p, l, R, _, fp, hk, hlt k, hok, ?_, hov, (fun h => by subst h; rfl), fun i _ h => h, hbo, hbr, hm3.weak (fun _ h => h.elim), hb3, how, fun b hb => by have := hfp b hb; omega, rfl, rfl⟩
      rcases hok.val _ (hlt k) with h | h
      · exact absurd h hc'
      · rw [h, hov]
  · rintro ρ w3 ⟨k, pf, l1, R1, v, fp, hk, hpf, hok1, hval, hov, hk0, hmono, hbo, hbr, hm, hb3, how, hfp, r1, r5, r7⟩
    obtain ⟨va, vc, rfl, _, _⟩ := how.val
    (try simp only [go_sem, Nat.reduceAdd, Nat.reduceEqDiff, Nat.reduceLT, Nat.reduceLeDiff, Nat.reduceMul, reduceCtorEq, ↓reduceIte, r1, r5, r7])
    have lbo := lt_of_heap hbo
    have s1 := hm1.size
    refine ir_loop (fun m ρ w' => ∃ (t : Nat) (l2 : List Int), m = k - t ∧ t ≤ k ∧ OfOk ns l2 R1 ∧ l2.getD pf 0 = over ns p ∧ (∀ j, j < t → l2.getD (fit (nxt ns) j p) 0 = over ns p) ∧ (∀ i, i < ns.length → l1.getD i 0 ≠ -1 → l2.getD i 0 ≠ -1) ∧
        w'.heap[bo]? = some (.cells (l2.map I).toArray 3 (0, 0)) ∧ Mod (fun x => x = bo) w3 w' ∧
        ρ = [(1, I pf), (5, .pointer (some ⟨w.heap.size, 0, none⟩)), (71, .slice va k vc), (72, I k), (73, I t)]) k
      ⟨0, l1, rfl, Nat.zero_le _, hok1, hval, (fun j hj => by omega), (fun i _ h => h), hbo, Mod.refl _ _, rfl⟩ ?_
    rintro m ρ w4 ⟨t, l2, rfl, ht, hok2, hval2, hset, hmono2, hbo4, hm4, rfl⟩
    unfold ir75L2
    have hne : bo ≠ br := fun hh => by rw [hh, hrs] at hb; cases hb
    have how4 := how.mod hm4 (fun b hb' hh => by have := hfp b hb'; omega)
    have hb4 := hm4.at hb3 (fun hh => by omega)
    (try simp only [go_sem, Nat.reduceAdd, Nat.reduceEqDiff, Nat.reduceLT, Nat.reduceLeDiff, Nat.reduceMul, reduceCtorEq, ↓reduceIte])
    refine ir_cond rfl (fun hc => ?_) (fun hc => ?_)
    · have htk : t < k := by simpa using hc
      have b1 : (0 : Int) ≤ t ∧ (t : Int) < k := by omega
      obtain ⟨bw, cw, ew, tw⟩ := own_at' how4 htk (u := I (fit (nxt ns) t p : Nat)) (by simp [wayL, htk])
      cases ew
      have hwk : IntKind.i64.wrap ((t : Int) + 1) = ((t + 1 : Nat) : Int) := by rw [wrap_in] <;> omega
      have b2 : (0 : Int) ≤ (fit (nxt ns) t p : Nat) ∧ ((fit (nxt ns) t p : Nat) : Int) < ns.length := by have := hlt t; omega
      have b3 : (0 : Int) ≤ (pf : Nat) ∧ ((pf : Nat) : Int) < ns.length := by omega
      have hxp := ints_at hbo4 (i := pf) (by rw [hok2.len]; exact hpf)
      have hwd : Mod (fun _ => False) w4 w4.drew := ⟨Nat.le_refl _, fun _ _ _ => rfl, rfl, rfl, rfl⟩
      (try simp only [go_sem, Nat.reduceAdd, Nat.reduceEqDiff, Nat.reduceLT, Nat.reduceLeDiff, Nat.reduceMul, reduceCtorEq, ↓reduceIte, Nat.mul_one, Int.toNat_natCast, Int.toNat_zero, Nat.sub_zero, Nat.sub_self, b1, tw, cell_of hb4, b2, b3, hxp])
      refine e_st1 (off := fit (nxt ns) t p) rfl rfl (hwd.at hbo4 (fun h => h)) rfl (by simp; rw [hok2.len]; exact hlt t) ?_
      intro w5 hb5 hm5 hs5
      rw [map_set, hval2] at hb5
      (try simp only [go_sem, Nat.reduceAdd, Nat.reduceEqDiff, Nat.reduceLT, Nat.reduceLeDiff, Nat.reduceMul, reduceCtorEq, ↓reduceIte, hwk])
      have hovt : over ns (fit (nxt ns) t p) = over ns p := ov_fit hf hp t
      have hset1 : OfOk ns (l2.set (fit (nxt ns) t p) (over ns p : Nat)) R1 := by
        have := ofOk_set hw hok2 (hlt t) hpf (by rw [hovt, hov]) (.inl (by rw [hval2]; omega))
        rwa [hov] at this
      have hql : fit (nxt ns) t p < l2.length := by rw [hok2.len]; exact hlt t
      refine ⟨_, ?_, t + 1, _, rfl, htk, hset1, ?_, fun j hj => ?_, fun i hi h => ?_, hb5, hm4.trans ((hwd.weak (fun _ h => h.elim)).step hm5 (fun x hx _ => hx)), rfl⟩
      · omega
      · rw [getD_set _ _ _ _ hql]
        split
        · rfl
        · exact hval2
      · rw [getD_set _ _ _ _ hql]
        split
        · rfl
        · rename_i hne2
          rcases Nat.lt_or_ge j t with h | h
          · exact hset j h
          · obtain rfl : j = t := by omega
            exact absurd rfl hne2
      · rw [getD_set _ _ _ _ hql]
        split
        · omega
        · exact hmono2 i hi h
    · have htk : t = k := by simp at hc; omega
      subst htk
      (try simp only [go_sem, Nat.reduceAdd, Nat.reduceEqDiff, Nat.reduceLT, Nat.reduceLeDiff, Nat.reduceMul, reduceCtorEq, ↓reduceIte])
      refine ⟨l2, R1, hok2, ?_, fun i hi h => hmono2 i hi (hmono i hi h), hbo4, map_mod hbr hm4 (fun hh => hne hh.symm), hm.step hm4 (fun x hx _ => .inl hx)⟩
      rcases Nat.eq_zero_or_pos t with h0 | h0
      · have e := hk0 h0
        rw [e] at hval2
        exact hval2
      · exact hset 0 h0
end Go.Proofs.Ytnimaifmcejkcaa
end

section
set_option linter.unusedSimpArgs false
set_option linter.unusedVariables false
set_option maxRecDepth 100000
namespace Go.Proofs.Ytnimaifmcejkcaa
open Go Go.W

/-- What each place is, and the rings, in memory. -/
structure Things (w : World) (bo br : Nat) (ns : List Nd) (R : List (Int × Int)) : Prop where
  of : w.heap[bo]? = some (.cells (((List.range ns.length).map fun i => (over ns i : Int)).map I).toArray 3 (0, 0))
  ring : MapAt w br R
  nd : (R.map (fun q => q.1)).Nodup
  keys : ∀ k : Int, k ∈ R.map (fun q => q.1) ↔ ∃ i, i < ns.length ∧ k = over ns i ∧ ind ns (over ns i) = true

theorem over_list {ns : List Nd} {l : List Int} (hl : l.length = ns.length) (h : ∀ i, i < ns.length → l.getD i 0 = over ns i) : l = (List.range ns.length).map fun i => (over ns i : Int) := by
  apply List.ext_getElem?
  intro i
  by_cases hi : i < ns.length
  · have := h i hi
    rw [List.getD_eq_getElem?_getD, List.getElem?_eq_getElem (by omega)] at this
    rw [List.getElem?_eq_getElem (by omega), List.getElem?_map, List.getElem?_range hi]
    simpa using this
  · rw [List.getElem?_eq_none (by omega), List.getElem?_eq_none (by simp; omega)]

theorem gpassed_ok (ns : List Nd) (hw : WF ns) (hn : ns.length ≤ 1048576) (w : World) (a : Nat) (c0 c1 cv c3 c4 c5 : Value) (F : Nat → Prop) (ha : w.heap[a]? = some (.cells #[c0, c1, cv, c3, c4, c5] 72 (0, 0))) (hfr : FromAt 38 w cv ns F) :
    CallsR Try.prog 68 [.pointer (some ⟨a, 0, none⟩)] w fun r w' => ∃ bo br R, r = .agg #[.slice (some ⟨bo, 0, none⟩) ns.length ns.length, .map (some br)] ∧ Things w' bo br ns R ∧ w.heap.size ≤ bo ∧ w.heap.size ≤ br ∧ bo ≠ br ∧ Mod (fun _ => False) w w' := by
  obtain ⟨_, _, hown, _, _, _, hFl⟩ := id hfr
  obtain ⟨ca, cc, rfl, _, _⟩ := hown.val
  refine fit68.calls rfl ?_
  unfold ir68
  (try simp only [go_sem, Nat.reduceAdd, Nat.reduceEqDiff, Nat.reduceLT, Nat.reduceLeDiff, Nat.reduceMul, reduceCtorEq, ↓reduceIte])
  refine e_al ?_
  intro w1 hb1 hm1 hs1
  have hb1 : w1.heap[w.heap.size]? = some (.cells #[.slice none 0 0, .map none] 103 (0, 0)) := hb1
  have ha1 := hm1.at ha (fun h => h)
  (try simp only [go_sem, Nat.reduceAdd, Nat.reduceEqDiff, Nat.reduceLT, Nat.reduceLeDiff, Nat.reduceMul, reduceCtorEq, ↓reduceIte, cell_of ha1])
  refine e_ms1 (n := ns.length) rfl (by omega) (by omega) ?_
  intro w2 hb2 hm2 hs2
  have hb2 : w2.heap[w1.heap.size]? = some (.cells ((List.replicate ns.length (0 : Int)).map I).toArray 3 (0, 0)) := by simpa using hb2
  (try simp only [go_sem, Nat.reduceAdd, Nat.reduceEqDiff, Nat.reduceLT, Nat.reduceLeDiff, Nat.reduceMul, reduceCtorEq, ↓reduceIte])
  refine e_mm ?_
  intro w3 hb3 hm3 hs3
  (try simp only [go_sem, Nat.reduceAdd, Nat.reduceEqDiff, Nat.reduceLT, Nat.reduceLeDiff, Nat.reduceMul, reduceCtorEq, ↓reduceIte])
  refine e_al ?_
  intro w4 hb4 hm4 hs4
  have hb4 : w4.heap[w3.heap.size]? = some (.cells #[.slice none 0 0, .map none] 103 (0, 0)) := hb4
  (try simp only [go_sem, Nat.reduceAdd, Nat.reduceEqDiff, Nat.reduceLT, Nat.reduceLeDiff, Nat.reduceMul, reduceCtorEq, ↓reduceIte])
  refine e_sta rfl rfl hb4 rfl rfl (by simp [Value.oneCell']) ?_
  intro w5 hb5 hm5 hs5
  have s1 := hm1.size; have s2 := hm2.size; have s3 := hm3.size; have s4 := hm4.size
  have l2 := lt_of_heap hb2
  have hm25 : Mod (fun _ => False) w2 w5 := (hm3.trans hm4).step hm5 (fun x hx hlt => by omega)
  have hm05 : Mod (fun _ => False) w w5 := (hm1.trans hm2).trans hm25
  have hb25 := hm25.at hb2 (fun h => h)
  have hmap5 : MapAt w5 w2.heap.size [] := map_mod (map_mod hb3 hm4 (fun h => h)) hm5 (by omega)
  have hb15 := (hm2.trans hm25).at hb1 (fun h => h)
  (try simp only [go_sem, Nat.reduceAdd, Nat.reduceEqDiff, Nat.reduceLT, Nat.reduceLeDiff, Nat.reduceMul, reduceCtorEq, ↓reduceIte, cell_of hb5])
  refine ir_loop (fun m ρ w' => ∃ k : Nat, m = ns.length - k ∧ k ≤ ns.length ∧ w'.heap[w1.heap.size]? = some (.cells ((List.replicate k (-1 : Int) ++ List.replicate (ns.length - k) 0).map I).toArray 3 (0, 0)) ∧ Mod (fun x => x = w1.heap.size) w5 w' ∧ w'.heap.size = w5.heap.size ∧
      ρ = [(0, .pointer (some ⟨a, 0, none⟩)), (2, .pointer (some ⟨w.heap.size, 0, none⟩)), (3, .pointer (some ⟨w3.heap.size, 0, none⟩)), (16, I ns.length), (17, I k)]) ns.length
    ⟨0, rfl, Nat.zero_le _, by simpa using hb25, Mod.refl _ _, rfl, rfl⟩ ?_
  rintro m ρ w6 ⟨k, rfl, hk, hb6, hm6, hs6, rfl⟩
  have hb56 := hm6.at hb5 (by omega)
  unfold ir68L1
  (try simp only [go_sem, Nat.reduceAdd, Nat.reduceEqDiff, Nat.reduceLT, Nat.reduceLeDiff, Nat.reduceMul, reduceCtorEq, ↓reduceIte])
  refine ir_cond rfl (fun hc => ?_) (fun hc => ?_)
  · have hk' : k < ns.length := by simpa using hc
    have b1 : (0 : Int) ≤ k ∧ (k : Int) < ns.length := by omega
    have hwk : IntKind.i64.wrap ((k : Int) + 1) = ((k + 1 : Nat) : Int) := by rw [wrap_in] <;> omega
    (try simp only [go_sem, Nat.reduceAdd, Nat.reduceEqDiff, Nat.reduceLT, Nat.reduceLeDiff, Nat.reduceMul, reduceCtorEq, ↓reduceIte, Nat.mul_one, Int.toNat_natCast, Int.toNat_zero, Nat.sub_zero, Nat.sub_self, cell_of hb56, b1])
    refine e_st1 (off := k) rfl rfl hb6 rfl (by simp; omega) ?_
    intro w7 hb7 hm7 hs7
    rw [map_set] at hb7
    (try simp only [go_sem, Nat.reduceAdd, Nat.reduceEqDiff, Nat.reduceLT, Nat.reduceLeDiff, Nat.reduceMul, reduceCtorEq, ↓reduceIte, hwk])
    refine ⟨_, ?_, k + 1, rfl, hk', ?_, hm6.trans hm7, by omega, rfl⟩
    · omega
    · have e : (List.replicate k (-1 : Int) ++ List.replicate (ns.length - k) 0).set k (-1) = List.replicate (k + 1) (-1) ++ List.replicate (ns.length - (k + 1)) 0 := by
        rw [List.set_append, if_neg (by simp), List.length_replicate, Nat.sub_self, show ns.length - k = (ns.length - (k + 1)) + 1 by omega, List.replicate_succ, List.set_cons_zero, List.replicate_succ' (n := k)]
        simp
      rw [e] at hb7; exact hb7
  have hk' : k = ns.length := by simp at hc; omega
  subst hk'
  rw [Nat.sub_self, List.replicate_zero, List.append_nil] at hb6
  have hmap6 := map_mod hmap5 hm6 (by omega)
  have hm06 : Mod (fun _ => False) w w6 := hm05.step hm6 (fun x hx hlt => by omega)
  have ha6 := hm06.at ha (fun h => h)
  have hok0 : OfOk ns (List.replicate ns.length (-1)) [] := by
    refine ⟨by simp, fun i hi => .inl (by simp [List.getElem?_replicate, hi]), by simp, fun k => ⟨fun h => by simp at h, fun ⟨i, h1, _, h3, _⟩ => absurd (by simp [List.getElem?_replicate, h1]) h3⟩⟩
  (try simp only [go_sem, Nat.reduceAdd, Nat.reduceEqDiff, Nat.reduceLT, Nat.reduceLeDiff, Nat.reduceMul, reduceCtorEq, ↓reduceIte, cell_of ha6])
  refine ir_loop (fun m ρ w' => ∃ (k : Nat) (l : List Int) (R : List (Int × Int)), m = ns.length - k ∧ k ≤ ns.length ∧ OfOk ns l R ∧ (∀ i, i < k → l.getD i 0 = over ns i) ∧ w'.heap[w1.heap.size]? = some (.cells (l.map I).toArray 3 (0, 0)) ∧ MapAt w' w2.heap.size R ∧
      Mod (fun x => x = w1.heap.size ∨ x = w2.heap.size) w6 w' ∧
      ρ = [(0, .pointer (some ⟨a, 0, none⟩)), (2, .pointer (some ⟨w.heap.size, 0, none⟩)), (3, .pointer (some ⟨w3.heap.size, 0, none⟩)), (29, I ns.length), (30, I k)]) ns.length
    ⟨0, _, [], rfl, Nat.zero_le _, hok0, (fun i hi => by omega), hb6, hmap6, Mod.refl _ _, rfl⟩ ?_
  rintro m ρ w7 ⟨k, l, R, rfl, hk, hok, hall, hb7, hmap7, hm7, rfl⟩
  have hb57 := hm7.at hb56 (by omega)
  have hm07 : Mod (fun _ => False) w w7 := hm06.step hm7 (fun x hx hlt => by omega)
  unfold ir68L2
  (try simp only [go_sem, Nat.reduceAdd, Nat.reduceEqDiff, Nat.reduceLT, Nat.reduceLeDiff, Nat.reduceMul, reduceCtorEq, ↓reduceIte])
  refine ir_cond rfl (fun hc => ?_) (fun hc => ?_)
  · have hk' : k < ns.length := by simpa using hc
    have hwk : IntKind.i64.wrap ((k : Int) + 1) = ((k + 1 : Nat) : Int) := by rw [wrap_in] <;> omega
    (try simp only [go_sem, Nat.reduceAdd, Nat.reduceEqDiff, Nat.reduceLT, Nat.reduceLeDiff, Nat.reduceMul, reduceCtorEq, ↓reduceIte, ln_of hb57 (off := 0) (n := 2) (by simp)])
    refine e_call (by rfl) ?_
    refine (gpass_ok ns hw hn w7 a w1.heap.size w2.heap.size c0 c1 _ c3 c4 c5 l R F (hm07.at ha (fun h => h)) (hfr.mod hm07 (fun _ _ h => h)) hb7 hmap7 hok (fun x hx => by have := hFl x hx; omega) k hk').mono ?_
    rintro q w8 ⟨l8, R8, hok8, hv8, hmono8, hb8, hmap8, hm8⟩
    (try simp only [go_sem, Nat.reduceAdd, Nat.reduceEqDiff, Nat.reduceLT, Nat.reduceLeDiff, Nat.reduceMul, reduceCtorEq, ↓reduceIte, hwk])
    refine ⟨_, ?_, k + 1, l8, R8, rfl, hk', hok8, fun i hi => ?_, hb8, hmap8, hm7.trans hm8, rfl⟩
    · omega
    · rcases Nat.lt_or_ge i k with h | h
      · rcases hok8.val i (by omega) with h2 | h2
        · exact absurd h2 (hmono8 i (by omega) (by rw [hall i h]; omega))
        · exact h2
      · obtain rfl : i = k := by omega
        exact hv8
  · have hk' : k = ns.length := by simp at hc; omega
    subst hk'
    have el := over_list hok.len hall
    have hb17 := (hm6.weak (S' := fun x => x = w1.heap.size ∨ x = w2.heap.size) (fun x hx => .inl hx)).trans hm7 |>.at hb15 (by omega)
    (try simp only [go_sem, Nat.reduceAdd, Nat.reduceEqDiff, Nat.reduceLT, Nat.reduceLeDiff, Nat.reduceMul, reduceCtorEq, ↓reduceIte, ln_of hb57 (off := 0) (n := 2) (by simp)])
    refine e_sta rfl rfl hb17 rfl rfl (by simp [Value.oneCell']) ?_
    intro w8 hb8 hm8 hs8
    (try simp only [go_sem, Nat.reduceAdd, Nat.reduceEqDiff, Nat.reduceLT, Nat.reduceLeDiff, Nat.reduceMul, reduceCtorEq, ↓reduceIte, ln_of hb8 (off := 0) (n := 2) (by simp)])
    refine ⟨_, _, R, rfl, ⟨?_, map_mod hmap7 hm8 (by omega), hok.nd, fun k => ?_⟩, by omega, by omega, by omega, hm07.step hm8 (fun x hx hlt => by omega)⟩
    · rw [← el]; exact hm8.at hb7 (by omega)
    · rw [hok.ring]
      exact ⟨fun ⟨i, h1, h2, _, h4⟩ => ⟨i, h1, h2, h4⟩, fun ⟨i, h1, h2, h4⟩ => ⟨i, h1, h2, by rw [hall i h1]; omega, h4⟩⟩
end Go.Proofs.Ytnimaifmcejkcaa
end

section
set_option linter.unusedSimpArgs false
set_option linter.unusedVariables false
namespace Go.Proofs.Ytnimaifmcejkcaa
open Go Go.W

def meetF (ns : List Nd) (fr : Nat) (out : List Nat) (p : Nat) : List Nat := if over ns p < fr ∨ over ns p ∈ out then out else out ++ [over ns p]
def meetsF (ns : List Nd) (fr : Nat) (out : List Nat) (l : List Int) : List Nat := l.foldl (fun o (p : Int) => meetF ns fr o p.toNat) out
def numF (ns : List Nd) (fr : Nat) (out : List Nat) (p : Int) : Int := if over ns p.toNat < fr then over ns p.toNat else (fr + out.idxOf (over ns p.toNat) : Nat)
def reachF (ns : List Nd) (fr : Nat) : Nat → Nat → List Nat → List Nat
  | 0, _, out => out
  | f + 1, i, out => match out[i]? with
    | some x => reachF ns fr f (i + 1) (meetsF ns fr out (ndAt ns x).args)
    | none => out
/-- Met: all different, all young places, all what they are passed over. -/
def MetF (ns : List Nd) (fr : Nat) (out : List Nat) : Prop := out.Nodup ∧ ∀ x ∈ out, x < ns.length ∧ over ns x = x ∧ fr ≤ x
theorem metF_nil (ns : List Nd) (fr : Nat) : MetF ns fr [] := ⟨List.nodup_nil, fun x h => by cases h⟩
theorem metF_len {ns : List Nd} {fr : Nat} {out : List Nat} (h : MetF ns fr out) : out.length ≤ ns.length := nodup_le _ _ h.1 (fun x hx => (h.2 x hx).1)
theorem metF_meet {ns : List Nd} (hw : WF ns) {fr : Nat} {out : List Nat} (h : MetF ns fr out) {p : Nat} (hp : p < ns.length) : MetF ns fr (meetF ns fr out p) := by
  unfold meetF
  split
  · exact h
  · rename_i hn
    refine ⟨?_, ?_⟩
    · rw [List.nodup_append]
      refine ⟨h.1, by simp, ?_⟩
      intro a ha b hb hab
      simp at hb
      exact hn (.inr (hb ▸ hab ▸ ha))
    · intro x hx
      rcases List.mem_append.1 hx with hx | hx
      · exact h.2 x hx
      · simp at hx; subst hx
        exact ⟨ov_lt (wf_nxt_lt hw) hp, ov_ov (wf_nxt_lt hw) hp, by omega⟩
theorem meetF_pre (ns : List Nd) (fr : Nat) (out : List Nat) (p : Nat) : out <+: meetF ns fr out p := by
  unfold meetF; split
  · exact List.prefix_rfl
  · exact List.prefix_append _ _
theorem meetsF_pre (ns : List Nd) (fr : Nat) (l : List Int) : ∀ out, out <+: meetsF ns fr out l := by
  induction l with
  | nil => intro out; exact List.prefix_rfl
  | cons a l ih => intro out; exact (meetF_pre ns fr out a.toNat).trans (ih _)
theorem reachF_pre (ns : List Nd) (fr : Nat) : ∀ f i out, out <+: reachF ns fr f i out := by
  intro f
  induction f with
  | zero => intro i out; exact List.prefix_rfl
  | succ f ih =>
    intro i out
    unfold reachF
    split
    · exact (meetsF_pre ns fr _ _).trans (ih _ _)
    · exact List.prefix_rfl
theorem reachF_end (ns : List Nd) (fr f i : Nat) (out : List Nat) (h : out.length ≤ i) : reachF ns fr f i out = out := by
  cases f with
  | zero => rfl
  | succ f => simp [reachF, List.getElem?_eq_none h]
theorem reachF_step (ns : List Nd) (fr f i : Nat) (out : List Nat) (h : i < out.length) : reachF ns fr (f + 1) i out = reachF ns fr f (i + 1) (meetsF ns fr out (ndAt ns out[i]).args) := by
  simp [reachF, h]
theorem metF_meets {ns : List Nd} (hw : WF ns) {fr : Nat} : ∀ (l : List Int) {out : List Nat}, MetF ns fr out → okPl ns.length l = true → MetF ns fr (meetsF ns fr out l) := by
  intro l
  induction l with
  | nil => intro out h _; exact h
  | cons a l ih =>
    intro out h ho
    simp only [okPl, List.all_cons, Bool.and_eq_true, decide_eq_true_eq] at ho
    exact ih (metF_meet hw h (by omega)) (by simpa [okPl] using ho.2)
theorem memF_meet (ns : List Nd) (fr : Nat) (out : List Nat) (p : Nat) (h : fr ≤ over ns p) : over ns p ∈ meetF ns fr out p := by
  unfold meetF; split
  · rename_i hh; exact hh.resolve_left (by omega)
  · simp
theorem numF_pre {ns : List Nd} {fr : Nat} {a b : List Nat} (h : a <+: b) {p : Int} (hx : over ns p.toNat < fr ∨ over ns p.toNat ∈ a) : numF ns fr b p = numF ns fr a p := by
  unfold numF
  split
  · rfl
  · rename_i hn
    rw [idx_pre h (hx.resolve_left hn)]
theorem metF_in (ns : List Nd) (fr : Nat) (out : List Nat) (p : Nat) : over ns p < fr ∨ over ns p ∈ meetF ns fr out p := by
  rcases Nat.lt_or_ge (over ns p) fr with h | h
  · exact .inl h
  · exact .inr (memF_meet ns fr out p h)
theorem numF_meet {ns : List Nd} {fr : Nat} {out : List Nat} {p : Nat} (hn : ¬ over ns p < fr) (hno : over ns p ∉ out) : numF ns fr (meetF ns fr out p) p = (fr + out.length : Nat) := by
  unfold numF meetF
  rw [Int.toNat_natCast, if_neg hn, if_neg (by simp [hn, hno]), List.idxOf_append, if_neg hno]
  simp
theorem meetsF_cons (ns : List Nd) (fr : Nat) (out : List Nat) (a : Int) (l : List Int) : meetsF ns fr out (a :: l) = meetsF ns fr (meetF ns fr out a.toNat) l := rfl
theorem meetsF_take (ns : List Nd) (fr : Nat) (l : List Int) (out : List Nat) {k : Nat} {a : Int} (h : l[k]? = some a) : meetsF ns fr out (l.take (k + 1)) = meetF ns fr (meetsF ns fr out (l.take k)) a.toNat := by
  obtain ⟨hk, rfl⟩ := List.getElem?_eq_some_iff.1 h
  rw [List.take_succ_eq_append_getElem hk]
  unfold meetsF
  rw [List.foldl_append]
  rfl
theorem meetsF_take_pre (ns : List Nd) (fr : Nat) (l : List Int) (out : List Nat) (k : Nat) : meetsF ns fr out (l.take k) <+: meetsF ns fr out l := by
  have := meetsF_pre ns fr (l.drop k) (meetsF ns fr out (l.take k))
  have e : meetsF ns fr (meetsF ns fr out (l.take k)) (l.drop k) = meetsF ns fr out l := by
    conv => rhs; rw [← List.take_append_drop k l]
    unfold meetsF
    rw [List.foldl_append]
  rwa [e] at this
theorem meetsF_in (ns : List Nd) (fr : Nat) : ∀ (l : List Int) (out : List Nat) (a : Int), a ∈ l → over ns a.toNat < fr ∨ over ns a.toNat ∈ meetsF ns fr out l := by
  intro l
  induction l with
  | nil => intro out a h; cases h
  | cons b l ih =>
    intro out a h
    rw [meetsF_cons]
    rcases List.mem_cons.1 h with rfl | h
    · exact (metF_in ns fr out a.toNat).imp (fun h => h) (fun h => (meetsF_pre ns fr l _).subset h)
    · exact ih _ a h
end Go.Proofs.Ytnimaifmcejkcaa
end

section
set_option linter.unusedSimpArgs false
set_option linter.unusedVariables false
set_option maxRecDepth 100000
namespace Go.Proofs.Ytnimaifmcejkcaa
open Go Go.W

/-- The mover's own map. -/
def newMap (fr : Nat) (out : List Nat) : List (Int × Int) := (List.range out.length).map fun j => ((out.getD j 0 : Int), ((fr + j : Nat) : Int))
theorem newMap_app (fr : Nat) (out : List Nat) (x : Nat) : newMap fr (out ++ [x]) = newMap fr out ++ [((x : Int), ((fr + out.length : Nat) : Int))] := by
  unfold newMap
  rw [List.length_append, List.length_singleton, List.range_succ, List.map_append]
  congr 1
  · apply List.map_congr_left
    intro j hj
    have := List.mem_range.1 hj
    simp [List.getD_eq_getElem?_getD, List.getElem?_append_left this]
  · simp [List.getD_eq_getElem?_getD]
theorem newMap_none {fr : Nat} {out : List Nat} {x : Nat} (h : x ∉ out) : lget (newMap fr out) x = none ∧ ∀ v, lput (newMap fr out) x v = newMap fr out ++ [((x : Int), v)] := by
  have hf : (newMap fr out).findIdx? (fun p => p.1 == (x : Int)) = none := by
    rw [List.findIdx?_eq_none_iff]
    intro q hq
    obtain ⟨j, hj, rfl⟩ := List.mem_map.1 hq
    have hj' := List.mem_range.1 hj
    have : out.getD j 0 ≠ x := fun hh => h (by rw [← hh, List.getD_eq_getElem?_getD, List.getElem?_eq_getElem hj']; exact List.getElem_mem hj')
    simp only [beq_eq_false_iff_ne, ne_eq]
    omega
  refine ⟨by rw [lget_idx, hf]; rfl, fun v => by unfold lput; rw [hf]⟩
theorem newMap_some (fr : Nat) : ∀ (n : Nat) (out : List Nat) (x : Nat), out.length = n → x ∈ out → lget (newMap fr out) x = some ((fr + out.idxOf x : Nat) : Int) := by
  intro n
  induction n with
  | zero => intro out x h hx; rw [List.eq_nil_of_length_eq_zero h] at hx; cases hx
  | succ n ih =>
    intro out x hl h
    rcases List.eq_nil_or_concat out with rfl | ⟨out, y, rfl⟩
    · cases h
    rw [List.concat_eq_append] at *
    have hl' : out.length = n := by simpa using hl
    rw [newMap_app]
    by_cases hx : x ∈ out
    · have h1 := ih out x hl' hx
      unfold lget at h1 ⊢
      rw [List.find?_append, List.idxOf_append, if_pos hx]
      cases hq : (newMap fr out).find? (fun p => p.1 == (x : Int)) with
      | none => rw [hq] at h1; cases h1
      | some q => rw [hq] at h1; simpa using h1
    · have e : x = y := by simpa [hx] using h
      subst e
      have h1 := (newMap_none (fr := fr) hx).1
      unfold lget at h1 ⊢
      rw [List.find?_append, List.idxOf_append, if_neg hx]
      cases hq : (newMap fr out).find? (fun p => p.1 == (x : Int)) with
      | none => simp
      | some q => rw [hq] at h1; cases h1

/-- The mover in memory. -/
structure MvAt (w : World) (bm a bo br bn : Nat) (ns : List Nd) (fr : Nat) (out : List Nat) (vm : Value) (fp : Option Nat) : Prop where
  cells : w.heap[bm]? = some (.cells #[.pointer (some ⟨a, 0, none⟩), .slice (some ⟨bo, 0, none⟩) ns.length ns.length, .map (some br), I fr, .map (some bn), vm] 106 (0, 0))
  of : w.heap[bo]? = some (.cells (((List.range ns.length).map fun i => (over ns i : Int)).map I).toArray 3 (0, 0))
  new : MapAt w bn (newMap fr out)
  met : Own w 3 1 vm (out.map fun x => I (x : Nat)) out.length fp
  ne : fp ≠ some bo
theorem mv_mod {w w' : World} {bm a bo br bn : Nat} {ns : List Nd} {fr : Nat} {out : List Nat} {vm : Value} {fp : Option Nat} {S : Nat → Prop} (h : MvAt w bm a bo br bn ns fr out vm fp) (hm : Mod S w w') (h1 : ¬ S bm) (h2 : ¬ S bo) (h3 : ¬ S bn) (h4 : ∀ x, fp = some x → ¬ S x) : MvAt w' bm a bo br bn ns fr out vm fp :=
  ⟨hm.at h.cells h1, hm.at h.of h2, map_mod h.new hm h3, h.met.mod hm h4, h.ne⟩

theorem place_ok (w : World) (bm a bo br bn : Nat) (ns : List Nd) (hw : WF ns) (hn : ns.length ≤ 1048576) (fr : Nat) (hfr : fr ≤ ns.length) (out : List Nat) (vm : Value) (fp : Option Nat) (h : MvAt w bm a bo br bn ns fr out vm fp) (hm : MetF ns fr out) (p : Nat) (hp : p < ns.length) :
    CallsR Try.prog 72 [.pointer (some ⟨bm, 0, none⟩), I p] w fun r w' => r = I (numF ns fr (meetF ns fr out p) p) ∧ ∃ vm' fp', MvAt w' bm a bo br bn ns fr (meetF ns fr out p) vm' fp' ∧ Mod (fun x => x = bm ∨ x = bn ∨ fp = some x) w w' ∧ ∀ x, fp' = some x → fp = some x ∨ w.heap.size ≤ x := by
  obtain ⟨h1, h2, h3, h4, h5⟩ := h
  have hol : over ns p < ns.length := ov_lt (wf_nxt_lt hw) hp
  have hml := metF_len hm
  have b1 : (0 : Int) ≤ p ∧ (p : Int) < ns.length := by omega
  have hx := ints_at h2 (i := p) (by simp; exact hp)
  have hx2 : ((List.range ns.length).map fun i => (over ns i : Int)).getD p 0 = (over ns p : Nat) := by simp [List.getD_eq_getElem?_getD, hp]
  rw [hx2] at hx
  refine fit72.calls rfl ?_
  unfold ir72
  (try simp only [go_sem, Nat.reduceAdd, Nat.reduceEqDiff, Nat.reduceLT, Nat.reduceLeDiff, Nat.reduceMul, reduceCtorEq, ↓reduceIte, Nat.mul_one, Int.toNat_natCast, Int.toNat_zero, Nat.sub_zero, Nat.sub_self, cell_of h1, b1, hx])
  refine ir_cond rfl (fun hc => ?_) (fun hc => ?_)
  · have hc' : over ns p < fr := by simpa using hc
    (try simp only [go_sem, Nat.reduceAdd, Nat.reduceEqDiff, Nat.reduceLT, Nat.reduceLeDiff, Nat.reduceMul, reduceCtorEq, ↓reduceIte])
    have e : meetF ns fr out p = out := by simp [meetF, hc']
    rw [e]
    refine ⟨by unfold numF; rw [Int.toNat_natCast, if_pos hc'], vm, fp, ⟨h1, h2, h3, h4, h5⟩, Mod.refl _ _, fun x hx => .inl hx⟩
  · have hc' : ¬ over ns p < fr := by simpa using hc
    (try simp only [go_sem, Nat.reduceAdd, Nat.reduceEqDiff, Nat.reduceLT, Nat.reduceLeDiff, Nat.reduceMul, reduceCtorEq, ↓reduceIte, cell_of h1])
    refine e_lk (t := 69) (kt := 3) (et := 3) rfl rfl Try.underlying69 Try.underlying3 (Try.zeroValue3 _) h3 ?_
    by_cases hin : over ns p ∈ out
    · rw [newMap_some fr _ out _ rfl hin]
      (try simp only [go_sem, Nat.reduceAdd, Nat.reduceEqDiff, Nat.reduceLT, Nat.reduceLeDiff, Nat.reduceMul, reduceCtorEq, ↓reduceIte, Option.getD_some, Option.isSome_some, Bool.not_true, Bool.not_false])
      have e : meetF ns fr out p = out := by simp [meetF, hin]
      rw [e]
      refine ⟨by unfold numF; rw [Int.toNat_natCast, if_neg hc'], vm, fp, ⟨h1, h2, h3, h4, h5⟩, Mod.refl _ _, fun x hx => .inl hx⟩
    · have hnone := newMap_none (fr := fr) hin
      rw [hnone.1]
      obtain ⟨va, vc, rfl, _, _⟩ := h4.val
      have hws : IntKind.i64.wrap ((fr : Int) + out.length) = ((fr + out.length : Nat) : Int) := by rw [wrap_in] <;> omega
      (try simp only [go_sem, Nat.reduceAdd, Nat.reduceEqDiff, Nat.reduceLT, Nat.reduceLeDiff, Nat.reduceMul, reduceCtorEq, ↓reduceIte, Option.getD_none, Option.isSome_none, Bool.not_true, Bool.not_false, cell_of h1, hws])
      have hwd : Mod (fun _ => False) w w.drew := ⟨Nat.le_refl _, fun _ _ _ => rfl, rfl, rfl, rfl⟩
      have hbne : bm ≠ bn := fun hh => by
        obtain ⟨es, c, q2, _⟩ := h3
        rw [← hh, h1] at q2; cases q2
      have hbon : bo ≠ bn := fun hh => by
        obtain ⟨es, c, q2, _⟩ := h3
        rw [← hh, h2] at q2; cases q2
      have hbmo : bm ≠ bo := fun hh => kind_ne h1 (hh ▸ h2) (by decide)
      have hpn : ∀ x, fp = some x → x ≠ bn := fun x hx hh => by
        obtain ⟨es, c, q2, _⟩ := h3
        obtain ⟨cs, q3⟩ := own_cells h4 hx
        rw [hh, q2] at q3; cases q3
      have hpm : fp ≠ some bm := own_ne h4 h1 (by decide)
      refine e_mu (t := 69) (kt := 3) (et := 3) rfl rfl rfl Try.underlying69 Try.underlying3 (map_mod h3 hwd (fun h => h)) ?_
      intro w2 hm2 hmm2 hs2
      rw [hnone.2, ← newMap_app] at hm2
      have hmm02 := (hwd.weak (S' := fun x => x = bn) (fun _ h => h.elim)).trans hmm2
      have h12 := hmm02.at h1 hbne
      have h22 := hmm02.at h2 hbon
      have h42 := h4.mod hmm02 hpn
      (try simp only [go_sem, Nat.reduceAdd, Nat.reduceEqDiff, Nat.reduceLT, Nat.reduceLeDiff, Nat.reduceMul, reduceCtorEq, ↓reduceIte, cell_of h12])
      refine e_bs (by rfl) (by (try simp only [go_sem, Nat.reduceAdd, Nat.reduceEqDiff, Nat.reduceLT, Nat.reduceLeDiff, Nat.reduceMul, reduceCtorEq, ↓reduceIte]); rfl) ?_
      intro w3 hb3 hm3 hs3
      have h43 := h42.mod hm3 (fun _ _ h => h)
      (try simp only [go_sem, Nat.reduceAdd, Nat.reduceEqDiff, Nat.reduceLT, Nat.reduceLeDiff, Nat.reduceMul, reduceCtorEq, ↓reduceIte])
      refine e_ap (m := 1) (news := [I (over ns p : Nat)]) rfl h43 rfl (fun h => by cases h) (rd_block hb3) (by simp [Value.oneCell']) rfl (by omega) (by omega) ?_
      intro v4 w4 fp4 ho4 hm4 hf4
      obtain ⟨va4, vc4, rfl, _, _⟩ := ho4.val
      have h14 := hm4.at (hm3.at h12 (fun h => h)) hpm
      have h24 := hm4.at (hm3.at h22 (fun h => h)) h5
      have hn4 := map_mod (map_mod hm2 hm3 (fun h => h)) hm4 (fun hh => hpn bn hh rfl)
      have hs02 : w.heap.size = w2.heap.size := hs2.symm
      have s3 := hm3.size
      have lbm := lt_of_heap h1; have lbo := lt_of_heap h2
      have hf4' : ∀ x, fp4 = some x → fp = some x ∨ w.heap.size ≤ x := fun x hx => (hf4 x hx).imp (fun h => h) (fun h => by omega)
      (try simp only [go_sem, Nat.reduceAdd, Nat.reduceEqDiff, Nat.reduceLT, Nat.reduceLeDiff, Nat.reduceMul, reduceCtorEq, ↓reduceIte])
      refine e_st1 (off := 5) rfl rfl h14 rfl (by simp) ?_
      intro w5 hb5 hm5 hs5
      have hb5 : w5.heap[bm]? = some (.cells #[.pointer (some ⟨a, 0, none⟩), .slice (some ⟨bo, 0, none⟩) ns.length ns.length, .map (some br), I fr, .map (some bn), .slice va4 (out.length + 1) vc4] 106 (0, 0)) := hb5
      (try simp only [go_sem, Nat.reduceAdd, Nat.reduceEqDiff, Nat.reduceLT, Nat.reduceLeDiff, Nat.reduceMul, reduceCtorEq, ↓reduceIte])
      have e : meetF ns fr out p = out ++ [over ns p] := by simp [meetF, hc', hin]
      have enum : numF ns fr (meetF ns fr out p) p = (fr + out.length : Nat) := numF_meet hc' hin
      have hp4m : fp4 ≠ some bm := own_ne ho4 h14 (by decide)
      refine ⟨by rw [enum], .slice va4 (out.length + 1) vc4, fp4, ?_, ?_, hf4'⟩
      · rw [e]
        refine ⟨by simpa using hb5, hm5.at h24 (fun hh => hbmo hh.symm), map_mod hn4 hm5 (fun hh => hbne hh.symm), ?_, ?_⟩
        · have := ho4.mod hm5 (fun x hx hh => hp4m (by rw [hx, hh]))
          simpa using this
        · intro hh
          rcases hf4' bo hh with h | h
          · exact h5 h
          · omega
      · exact (((hmm02.weak (S' := fun x => x = bm ∨ x = bn ∨ fp = some x) (fun x hx => .inr (.inl hx))).step hm3 (fun _ h _ => h.elim)).step hm4 (fun x hx _ => .inr (.inr hx))).step hm5 (fun x hx _ => .inl hx)
end Go.Proofs.Ytnimaifmcejkcaa
end

section
set_option linter.unusedSimpArgs false
set_option linter.unusedVariables false
set_option maxRecDepth 100000
namespace Go.Proofs.Ytnimaifmcejkcaa
open Go Go.W

theorem ints_lt0 {w : World} {v : Value} {xs : List Int} (h : Ints w v xs) (hne : xs ≠ []) : ∀ b, vblk v = some b → b < w.heap.size := by
  obtain ⟨a, c, rfl, _, hx⟩ := h
  intro b hb
  obtain ⟨ad, rfl, h0⟩ := hx 0 (by cases xs with | nil => exact absurd rfl hne | cons => simp)
  have := World.block_lt_of_cell? w _ h0
  simp only [vblk, Option.some.injEq] at hb
  subst hb
  have e : (ad.add 0).block = ad.block := by simp [Addr.add]
  omega
theorem addr_block (a : Addr) (k : Nat) : (a.add k).block = a.block := by unfold Addr.add; split <;> rfl
theorem nums_take {ns : List Nd} {fr : Nat} {out : List Nat} {l : List Int} {k : Nat} (hk : k < l.length) : (l.take (k + 1)).map (numF ns fr (meetsF ns fr out (l.take (k + 1)))) = (l.take k).map (numF ns fr (meetsF ns fr out (l.take k))) ++ [numF ns fr (meetsF ns fr out (l.take (k + 1))) l[k]] := by
  rw [List.take_succ_eq_append_getElem hk, List.map_append]
  congr 1
  apply List.map_congr_left
  intro a ha
  refine numF_pre ?_ (meetsF_in ns fr _ _ a ha)
  have : meetsF ns fr out (l.take k ++ [l[k]]) = meetsF ns fr (meetsF ns fr out (l.take k)) [l[k]] := by unfold meetsF; rw [List.foldl_append]
  rw [this]
  exact meetsF_pre ns fr _ _

theorem mplaces_ok (w : World) (bm a bo br bn : Nat) (ns : List Nd) (hw : WF ns) (hn : ns.length ≤ 1048576) (fr : Nat) (hfr : fr ≤ ns.length) (out : List Nat) (vm : Value) (fp : Option Nat) (h : MvAt w bm a bo br bn ns fr out vm fp) (hm : MetF ns fr out) (v : Value) (l : List Int) (hl : Ints w v l) (hok : okPl ns.length l = true)
    (hlv : l ≠ [] → ∀ x, vblk v = some x → ¬ (x = bm ∨ x = bn ∨ fp = some x)) (hsm : l.length ≤ 17592186044416) :
    CallsR Try.prog 69 [.pointer (some ⟨bm, 0, none⟩), v] w fun r w' => ∃ vm' fp' fq, MvAt w' bm a bo br bn ns fr (meetsF ns fr out l) vm' fp' ∧ Mod (fun x => x = bm ∨ x = bn ∨ fp = some x) w w' ∧ (∀ x, fp' = some x → fp = some x ∨ w.heap.size ≤ x) ∧
      Own w' 3 1 r ((l.map (numF ns fr (meetsF ns fr out l))).map I) l.length fq ∧ ∀ x, fq = some x → w.heap.size ≤ x ∧ fp' ≠ some x := by
  have hl0 := hl
  obtain ⟨va, vc, rfl, _, hlx⟩ := hl0
  have lbm := lt_of_heap h.cells
  have lbn : bn < w.heap.size := by obtain ⟨es, c, q, _⟩ := h.new; exact lt_of_heap q
  have lbo := lt_of_heap h.of
  have lfp : ∀ x, fp = some x → x < w.heap.size := fun x hx => h.met.lt hx
  refine fit69.calls rfl ?_
  unfold ir69
  (try simp only [go_sem, Nat.reduceAdd, Nat.reduceEqDiff, Nat.reduceLT, Nat.reduceLeDiff, Nat.reduceMul, reduceCtorEq, ↓reduceIte])
  refine ir_loop (fun m ρ w' => ∃ (k : Nat) (vk vr : Value) (fk fq : Option Nat), m = l.length - k ∧ k ≤ l.length ∧ MvAt w' bm a bo br bn ns fr (meetsF ns fr out (l.take k)) vk fk ∧ Mod (fun x => x = bm ∨ x = bn ∨ fp = some x) w w' ∧ (∀ x, fk = some x → fp = some x ∨ w.heap.size ≤ x) ∧
      Own w' 3 1 vr (((l.take k).map (numF ns fr (meetsF ns fr out (l.take k)))).map I) k fq ∧ (∀ x, fq = some x → w.heap.size ≤ x ∧ fk ≠ some x) ∧
      ρ = [(0, .pointer (some ⟨bm, 0, none⟩)), (5, vr), (8, .slice va l.length vc), (9, I l.length), (10, I k)]) l.length
    ⟨0, vm, _, fp, none, rfl, Nat.zero_le _, by simpa [meetsF] using h, Mod.refl _ _, (fun x hx => .inl hx), Own.nil _ _ _, (fun x hx => by cases hx), rfl⟩ ?_
  rintro m ρ w1 ⟨k, vk, vr, fk, fq, rfl, hk, hmv, hm1, hfk, hor, hfq, rfl⟩
  unfold ir69L1
  have s1 := hm1.size
  (try simp only [go_sem, Nat.reduceAdd, Nat.reduceEqDiff, Nat.reduceLT, Nat.reduceLeDiff, Nat.reduceMul, reduceCtorEq, ↓reduceIte])
  refine ir_cond rfl (fun hc => ?_) (fun hc => ?_)
  · have hk' : k < l.length := by simpa using hc
    have hne : l ≠ [] := fun hh => by rw [hh] at hk'; simp at hk'
    obtain ⟨ad, rfl, hcell⟩ := hlx k hk'
    have hcell1 := hm1.cell hcell (fun hh => hlv hne ad.block rfl (by rwa [addr_block] at hh))
    have b1 : (0 : Int) ≤ k ∧ (k : Int) < l.length := by omega
    have hwk : IntKind.i64.wrap ((k : Int) + 1) = ((k + 1 : Nat) : Int) := by rw [wrap_in] <;> omega
    have hpk := List.all_eq_true.1 hok l[k] (List.getElem_mem hk')
    simp only [Bool.and_eq_true, decide_eq_true_eq] at hpk
    obtain ⟨p, hp⟩ : ∃ p : Nat, l[k] = (p : Int) := ⟨l[k].toNat, by omega⟩
    rw [hp] at hcell1
    have hstep : meetsF ns fr out (l.take (k + 1)) = meetF ns fr (meetsF ns fr out (l.take k)) p := by
      rw [meetsF_take ns fr l out (List.getElem?_eq_getElem hk'), hp, Int.toNat_natCast]
    have hnum := nums_take (ns := ns) (fr := fr) (out := out) hk'
    rw [hp] at hnum
    have hmk : MetF ns fr (meetsF ns fr out (l.take k)) := metF_meets hw _ hm (by
      rw [okPl, List.all_eq_true]
      intro y hy
      exact List.all_eq_true.1 hok y (List.mem_of_mem_take hy))
    (try simp only [go_sem, Nat.reduceAdd, Nat.reduceEqDiff, Nat.reduceLT, Nat.reduceLeDiff, Nat.reduceMul, reduceCtorEq, ↓reduceIte, Nat.mul_one, Int.toNat_natCast, Int.toNat_zero, Nat.sub_zero, Nat.sub_self, b1, hcell1])
    refine e_call (by rfl) ?_
    refine (place_ok w1 bm a bo br bn ns hw hn fr hfr _ vk fk hmv hmk p (by omega)).mono ?_
    rintro q w2 ⟨rfl, vk2, fk2, hmv2, hm2, hfk2⟩
    rw [← hstep] at hmv2 ⊢
    have hor2 := hor.mod hm2 (fun x hx hh => by
      have := hfq x hx
      rcases hh with hh | hh | hh
      · omega
      · omega
      · exact this.2 hh)
    obtain ⟨ra, rc, rfl, _, _⟩ := hor2.val
    (try simp only [go_sem, Nat.reduceAdd, Nat.reduceEqDiff, Nat.reduceLT, Nat.reduceLeDiff, Nat.reduceMul, reduceCtorEq, ↓reduceIte])
    refine e_bs (by rfl) (by (try simp only [go_sem, Nat.reduceAdd, Nat.reduceEqDiff, Nat.reduceLT, Nat.reduceLeDiff, Nat.reduceMul, reduceCtorEq, ↓reduceIte]); rfl) ?_
    intro w3 hb3 hm3 hs3
    have hor3 := hor2.mod hm3 (fun _ _ h => h)
    have hmv3 := mv_mod hmv2 hm3 (fun h => h) (fun h => h) (fun h => h) (fun _ _ h => h)
    (try simp only [go_sem, Nat.reduceAdd, Nat.reduceEqDiff, Nat.reduceLT, Nat.reduceLeDiff, Nat.reduceMul, reduceCtorEq, ↓reduceIte])
    refine e_ap (m := 1) (news := [I (numF ns fr (meetsF ns fr out (l.take (k + 1))) p)]) rfl hor3 rfl (fun h => by cases h) (rd_block hb3) (by simp [Value.oneCell']) rfl (by omega) (by omega) ?_
    intro v4 w4 fq4 ho4 hm4 hf4
    obtain ⟨v4a, v4c, rfl, _, _⟩ := ho4.val
    have s2 := hm2.size; have s3 := hm3.size
    have hfqn : ∀ x, fq = some x → x ≠ bm ∧ x ≠ bo ∧ x ≠ bn ∧ fk2 ≠ some x := fun x hx => by
      have h1 := hfq x hx
      refine ⟨by omega, by omega, by omega, fun hh => ?_⟩
      rcases hfk2 x hh with h | h
      · exact h1.2 h
      · have := hor.lt hx; omega
    have hmv4 := mv_mod hmv3 hm4 (fun hh => (hfqn bm hh).1 rfl) (fun hh => (hfqn bo hh).2.1 rfl) (fun hh => (hfqn bn hh).2.2.1 rfl) (fun x hx hh => (hfqn x hh).2.2.2 hx)
    (try simp only [go_sem, Nat.reduceAdd, Nat.reduceEqDiff, Nat.reduceLT, Nat.reduceLeDiff, Nat.reduceMul, reduceCtorEq, ↓reduceIte, hwk])
    refine ⟨_, ?_, k + 1, vk2, .slice v4a (k + 1) v4c, fk2, fq4, rfl, by omega, hmv4, ?_, fun x hx => ?_, ?_, fun x hx => ?_, rfl⟩
    · omega
    · refine ((hm1.step hm2 (fun x hx hlt => ?_)).step hm3 (fun _ h _ => h.elim)).step hm4 (fun x hx hlt => ?_)
      · rcases hx with hx | hx | hx
        · exact .inl hx
        · exact .inr (.inl hx)
        · exact .inr (.inr ((hfk x hx).elim (fun h => h) (fun h => by omega)))
      · have := hfq x hx; omega
    · rcases hfk2 x hx with h | h
      · exact hfk x h
      · exact .inr (by omega)
    · rw [hnum, List.map_append]; exact ho4
    · rcases hf4 x hx with h | h
      · exact ⟨(hfq x h).1, (hfqn x h).2.2.2⟩
      · refine ⟨by omega, fun hh => ?_⟩
        have := hmv3.met.lt hh
        omega
  · have hk' : k = l.length := by simp at hc; omega
    subst hk'
    rw [List.take_length] at hmv hor
    (try simp only [go_sem, Nat.reduceAdd, Nat.reduceEqDiff, Nat.reduceLT, Nat.reduceLeDiff, Nat.reduceMul, reduceCtorEq, ↓reduceIte])
    exact ⟨vk, fk, fq, hmv, hm1, hfk, hor, hfq⟩
end Go.Proofs.Ytnimaifmcejkcaa
end
