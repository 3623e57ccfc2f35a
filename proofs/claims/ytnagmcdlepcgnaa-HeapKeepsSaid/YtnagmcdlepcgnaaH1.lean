/- Heap: how arenas lie in memory; small functions. -/
import Derived.Test.YtnagmcdlepcgnaaIR
set_option linter.unusedSimpArgs false
set_option linter.unusedVariables false
namespace Go.Proofs.Ytnagmcdlepcgnaa
open Go Go.W

structure Nd where
  kind : Int
  num : Int
  args : List Int

def mayB (k n : Int) (a : Nat) : Bool :=
  decide ((k = 1 ∧ a = 0 ∧ -4611686018427387904 ≤ n ∧ n ≤ 4611686018427387903) ∨ (k = 2 ∧ a ≤ 8 ∧ 0 ≤ n) ∨ (k = 3 ∧ a = 2 ∧ n = 0) ∨ ((k = 4 ∨ k = 8) ∧ a = 0 ∧ 0 ≤ n) ∨
    (k = 5 ∧ a = 1 ∧ n = 0) ∨ ((k = 6 ∨ k = 7) ∧ a = 0 ∧ n = 0))
def Nd.may (n : Nd) : Bool := mayB n.kind n.num n.args.length
def okPl (len : Nat) (l : List Int) : Bool := l.all fun x => decide (0 ≤ x) && decide (x < len)

/-- A node's three cells, flattened. -/
def nc (p : Nd × Value) : List Value := [I p.1.kind, I p.1.num, p.2]
def flat (ps : List (Nd × Value)) : List Value := ps.flatMap nc
theorem flat_len (ps : List (Nd × Value)) : (flat ps).length = ps.length * 3 := by
  induction ps with
  | nil => rfl
  | cons p ps ih => simp only [flat, List.flatMap_cons, List.length_append] at *; simp only [nc, List.length_cons, List.length_nil] at *; omega
theorem flat_app (ps qs : List (Nd × Value)) : flat (ps ++ qs) = flat ps ++ flat qs := by simp [flat]
theorem flat_take_drop (ps : List (Nd × Value)) (i : Nat) (h : i < ps.length) : ((flat ps).drop (i * 3)).take 3 = nc ps[i] := by
  have h1 : ps = ps.take i ++ ps[i] :: ps.drop (i + 1) := by simp
  have h2 : flat ps = flat (ps.take i) ++ (nc ps[i] ++ flat (ps.drop (i + 1))) := by
    conv => lhs; rw [h1]
    rw [flat_app]; rfl
  have h3 : (flat (ps.take i)).length = i * 3 := by rw [flat_len]; simp; omega
  rw [h2, ← h3, List.drop_left]
  exact List.take_left' rfl
theorem flat_at (ps : List (Nd × Value)) (i k : Nat) (h : i < ps.length) (hk : k < 3) : (flat ps)[i * 3 + k]? = (nc ps[i])[k]? := by
  rw [← flat_take_drop ps i h, List.getElem?_take, if_pos hk, List.getElem?_drop]
theorem flat_set (ps : List (Nd × Value)) (i : Nat) (q : Nd × Value) (h : i < ps.length) (sp' : List Value) :
    sp (flat ps ++ sp').toArray (i * 3) (nc q) = (flat (ps.set i q) ++ sp').toArray := by
  have h1 : ps = ps.take i ++ ps[i] :: ps.drop (i + 1) := by simp
  have h2 : flat ps = flat (ps.take i) ++ (nc ps[i] ++ flat (ps.drop (i + 1))) := by
    conv => lhs; rw [h1]
    rw [flat_app]; rfl
  have h3 : (flat (ps.take i)).length = i * 3 := by rw [flat_len]; simp; omega
  have h4 : flat (ps.set i q) = flat (ps.take i) ++ (nc q ++ flat (ps.drop (i + 1))) := by
    rw [List.set_eq_take_append_cons_drop, if_pos h, flat_app]; rfl
  unfold sp
  rw [h2, h4]
  congr 1
  simp only [List.append_assoc]
  rw [← h3, List.take_left]
  congr 2
  have h5 : (flat (ps.take i) ++ (nc ps[i] ++ (flat (ps.drop (i + 1)) ++ sp'))).drop ((flat (ps.take i)).length + (nc q).length) = flat (ps.drop (i + 1)) ++ sp' := by
    rw [← List.drop_drop, List.drop_left]
    exact List.drop_left' rfl
  exact h5

/-- The argument lists of nodes, each in memory of F. -/
def Args (w : World) (ps : List (Nd × Value)) (F : Nat → Prop) : Prop :=
  ∀ p ∈ ps, ∃ fp, Own w 3 1 p.2 (p.1.args.map I) p.1.args.length fp ∧ ∀ b, fp = some b → F b
theorem Args.mod {w w' : World} {ps : List (Nd × Value)} {F S : Nat → Prop} (h : Args w ps F) (hm : Mod S w w') (hd : ∀ b, F b → ¬ S b) : Args w' ps F := by
  intro p hp
  obtain ⟨fp, h1, h2⟩ := h p hp
  exact ⟨fp, h1.mod hm (fun b hb => hd b (h2 b hb)), h2⟩
theorem Args.weak {w : World} {ps : List (Nd × Value)} {F F' : Nat → Prop} (h : Args w ps F) (hf : ∀ b, F b → F' b) : Args w ps F' := by
  intro p hp
  obtain ⟨fp, h1, h2⟩ := h p hp
  exact ⟨fp, h1, fun b hb => hf b (h2 b hb)⟩

theorem may_ok (k n : Int) (v : Value) (xs : List Int) (w : World) (hx : Ints w v xs) :
    CallsR Try.prog 34 [.agg #[I k, I n, v]] w fun r w' => r = .bool (mayB k n xs.length) ∧ Mod (fun _ => False) w w' := by
  obtain ⟨a, c, rfl, hl, _⟩ := hx
  refine fit34.calls rfl ?_
  unfold ir34
  (try simp only [go_sem, Nat.reduceAdd, Nat.reduceEqDiff, Nat.reduceLT, Nat.reduceLeDiff, Nat.reduceMul, Nat.zero_add, reduceCtorEq, ↓reduceIte, List.length_cons, List.length_nil, List.set_cons_zero, List.set_cons_succ, List.take_zero, List.take_succ_cons, List.drop_zero, List.drop_succ_cons, List.take_nil, List.drop_nil, List.nil_append, List.cons_append, List.append_nil, or_false, false_or, or_true, true_or, false_implies, true_implies, and_true, true_and, and_self, Bool.and_true, Bool.true_and])
  refine e_bx rfl ?_
  intro w1 hb hm _
  have hlt := lt_of_heap hb
  (try simp only [go_sem, Nat.reduceAdd, Nat.reduceEqDiff, Nat.reduceLT, Nat.reduceLeDiff, Nat.reduceMul, Nat.zero_add, reduceCtorEq, ↓reduceIte, List.length_cons, List.length_nil, List.set_cons_zero, List.set_cons_succ, List.take_zero, List.take_succ_cons, List.drop_zero, List.drop_succ_cons, List.take_nil, List.drop_nil, List.nil_append, List.cons_append, List.append_nil, or_false, false_or, or_true, true_or, false_implies, true_implies, and_true, true_and, and_self, Bool.and_true, Bool.true_and, cell_of hb])
  repeat' (first | (refine ir_cond rfl (fun h => ?_) (fun h => ?_) <;> (try simp only [go_sem, Nat.reduceAdd, Nat.reduceEqDiff, Nat.reduceLT, Nat.reduceLeDiff, Nat.reduceMul, Nat.zero_add, reduceCtorEq, ↓reduceIte, List.length_cons, List.length_nil, List.set_cons_zero, List.set_cons_succ, List.take_zero, List.take_succ_cons, List.drop_zero, List.drop_succ_cons, List.take_nil, List.drop_nil, List.nil_append, List.cons_append, List.append_nil, or_false, false_or, or_true, true_or, false_implies, true_implies, and_true, true_and, and_self, Bool.and_true, Bool.true_and, cell_of hb, h])) | (refine wpS_gr rfl (fun h => ?_) (fun h => ?_) <;> (try simp only [go_sem, Nat.reduceAdd, Nat.reduceEqDiff, Nat.reduceLT, Nat.reduceLeDiff, Nat.reduceMul, Nat.zero_add, reduceCtorEq, ↓reduceIte, List.length_cons, List.length_nil, List.set_cons_zero, List.set_cons_succ, List.take_zero, List.take_succ_cons, List.drop_zero, List.drop_succ_cons, List.take_nil, List.drop_nil, List.nil_append, List.cons_append, List.append_nil, or_false, false_or, or_true, true_or, false_implies, true_implies, and_true, true_and, and_self, Bool.and_true, Bool.true_and, cell_of hb, h])))
  all_goals (refine ⟨?_, hm⟩; congr 1; rw [Bool.eq_iff_iff]; unfold mayB; simp only [decide_eq_true_eq, decide_eq_false_iff_not, beq_iff_eq, beq_eq_false_iff_ne, bne_iff_ne, bne_eq_false_iff_eq, ne_eq, Bool.false_eq_true, Bool.true_eq_false, iff_true, iff_false, true_iff, false_iff, Decidable.not_not] at *; omega)

/-- A new row of ints, as long as it is. -/
def NewInts (w w' : World) (r : Value) (xs : List Int) : Prop :=
  ∃ b, r = .slice (some ⟨b, 0, none⟩) xs.length xs.length ∧ w'.heap[b]? = some (.cells (xs.map I).toArray 3 (0, 0)) ∧ w.heap.size ≤ b ∧ Mod (fun _ => False) w w'

theorem copied_ok (v : Value) (xs : List Int) (w : World) (hx : Ints w v xs) :
    CallsR Try.prog 24 [v] w fun r w' => NewInts w w' r xs := by
  have hx' := hx
  obtain ⟨a, c, rfl, hl, _⟩ := hx
  refine fit24.calls rfl ?_
  unfold ir24
  (try simp only [go_sem, Nat.reduceAdd, Nat.reduceEqDiff, Nat.reduceLT, Nat.reduceLeDiff, Nat.reduceMul, Nat.zero_add, reduceCtorEq, ↓reduceIte, List.length_cons, List.length_nil, List.set_cons_zero, List.set_cons_succ, List.take_zero, List.take_succ_cons, List.drop_zero, List.drop_succ_cons, List.take_nil, List.drop_nil, List.nil_append, List.cons_append, List.append_nil, or_false, false_or, or_true, true_or, false_implies, true_implies, and_true, true_and, and_self, Bool.and_true, Bool.true_and])
  refine e_ms1 (n := xs.length) rfl (by omega) (by omega) ?_
  intro w1 hb1 hm1 hs1
  obtain ⟨_, hr, hn⟩ := (hx'.mod hm1 (fun _ _ h => h)).rd
  (try simp only [go_sem, Nat.reduceAdd, Nat.reduceEqDiff, Nat.reduceLT, Nat.reduceLeDiff, Nat.reduceMul, Nat.zero_add, reduceCtorEq, ↓reduceIte, List.length_cons, List.length_nil, List.set_cons_zero, List.set_cons_succ, List.take_zero, List.take_succ_cons, List.drop_zero, List.drop_succ_cons, List.take_nil, List.drop_nil, List.nil_append, List.cons_append, List.append_nil, or_false, false_or, or_true, true_or, false_implies, true_implies, and_true, true_and, and_self, Bool.and_true, Bool.true_and])
  refine e_cp (cs := List.replicate xs.length (I 0)) rfl rfl hn (Nat.le_refl _) hr (oneI xs) hb1 (by simp) ?_
  intro w2 hb2 hm2 hs2
  (try simp only [go_sem, Nat.reduceAdd, Nat.reduceEqDiff, Nat.reduceLT, Nat.reduceLeDiff, Nat.reduceMul, Nat.zero_add, reduceCtorEq, ↓reduceIte, List.length_cons, List.length_nil, List.set_cons_zero, List.set_cons_succ, List.take_zero, List.take_succ_cons, List.drop_zero, List.drop_succ_cons, List.take_nil, List.drop_nil, List.nil_append, List.cons_append, List.append_nil, or_false, false_or, or_true, true_or, false_implies, true_implies, and_true, true_and, and_self, Bool.and_true, Bool.true_and])
  exact ⟨_, rfl, by simpa using hb2, Nat.le_refl _, hm1.step hm2 (fun i hi hlt => by omega)⟩

/-- What 'places' wants of an arena: its nodes' slice. -/
def HasNodes (w : World) (a : Nat) (n : Nat) : Prop := ∃ T sz ba c col, w.heap[a]? = some (.cells #[sz, .slice ba n c, col] T (0, 0))

theorem places_ok (a n : Nat) (l : Value) (xs : List Int) (w : World) (ha : HasNodes w a n) (hx : Ints w l xs) :
    CallsR Try.prog 20 [.pointer (some ⟨a, 0, none⟩), l] w fun v w' => v = .bool (okPl n xs) ∧ w = w' := by
  obtain ⟨T, sz, ba, c, col, ha⟩ := ha
  obtain ⟨la, lc, rfl, hl, hx⟩ := hx
  refine fit20.calls rfl ?_
  unfold ir20
  (try simp only [go_sem, Nat.reduceAdd, Nat.reduceEqDiff, Nat.reduceLT, Nat.reduceLeDiff, Nat.reduceMul, Nat.zero_add, reduceCtorEq, ↓reduceIte, List.length_cons, List.length_nil, List.set_cons_zero, List.set_cons_succ, List.take_zero, List.take_succ_cons, List.drop_zero, List.drop_succ_cons, List.take_nil, List.drop_nil, List.nil_append, List.cons_append, List.append_nil, or_false, false_or, or_true, true_or, false_implies, true_implies, and_true, true_and, and_self, Bool.and_true, Bool.true_and])
  refine ir_loop (fun m ρ w' => ∃ k : Nat, m = xs.length - k ∧ k ≤ xs.length ∧ w' = w ∧ okPl n (xs.take k) = true ∧
    ρ = [(0, .pointer (some ⟨a, 0, none⟩)), (7, .slice la xs.length lc), (8, .int .i64 xs.length), (9, .int .i64 k)]) xs.length ⟨0, rfl, by omega, rfl, by simp [okPl], rfl⟩ ?_
  rintro m ρ _ ⟨k, rfl, hk, rfl, hall, rfl⟩
  unfold ir20L1
  (try simp only [go_sem, Nat.reduceAdd, Nat.reduceEqDiff, Nat.reduceLT, Nat.reduceLeDiff, Nat.reduceMul, Nat.zero_add, reduceCtorEq, ↓reduceIte, List.length_cons, List.length_nil, List.set_cons_zero, List.set_cons_succ, List.take_zero, List.take_succ_cons, List.drop_zero, List.drop_succ_cons, List.take_nil, List.drop_nil, List.nil_append, List.cons_append, List.append_nil, or_false, false_or, or_true, true_or, false_implies, true_implies, and_true, true_and, and_self, Bool.and_true, Bool.true_and])
  refine ir_cond rfl (fun h => ?_) (fun h => ?_)
  · have hlt : k < xs.length := by simpa using h
    obtain ⟨ad, rfl, hc⟩ := hx k hlt
    have c1 : (0 : Int) ≤ k ∧ (k : Int) < xs.length := by omega
    (try simp only [go_sem, Nat.reduceAdd, Nat.reduceEqDiff, Nat.reduceLT, Nat.reduceLeDiff, Nat.reduceMul, Nat.zero_add, reduceCtorEq, ↓reduceIte, List.length_cons, List.length_nil, List.set_cons_zero, List.set_cons_succ, List.take_zero, List.take_succ_cons, List.drop_zero, List.drop_succ_cons, List.take_nil, List.drop_nil, List.nil_append, List.cons_append, List.append_nil, or_false, false_or, or_true, true_or, false_implies, true_implies, and_true, true_and, and_self, Bool.and_true, Bool.true_and, c1, hc, and_self, Int.toNat_natCast, Nat.mul_one])
    refine wpS_gr rfl (fun hg => ?_) (fun hg => ?_)
    · (try simp only [go_sem, Nat.reduceAdd, Nat.reduceEqDiff, Nat.reduceLT, Nat.reduceLeDiff, Nat.reduceMul, Nat.zero_add, reduceCtorEq, ↓reduceIte, List.length_cons, List.length_nil, List.set_cons_zero, List.set_cons_succ, List.take_zero, List.take_succ_cons, List.drop_zero, List.drop_succ_cons, List.take_nil, List.drop_nil, List.nil_append, List.cons_append, List.append_nil, or_false, false_or, or_true, true_or, false_implies, true_implies, and_true, true_and, and_self, Bool.and_true, Bool.true_and, hg])
      rw [okPl, List.all_eq_false.2 ⟨xs[k], List.getElem_mem _, by simp at hg; simp; omega⟩]
    · (try simp only [go_sem, Nat.reduceAdd, Nat.reduceEqDiff, Nat.reduceLT, Nat.reduceLeDiff, Nat.reduceMul, Nat.zero_add, reduceCtorEq, ↓reduceIte, List.length_cons, List.length_nil, List.set_cons_zero, List.set_cons_succ, List.take_zero, List.take_succ_cons, List.drop_zero, List.drop_succ_cons, List.take_nil, List.drop_nil, List.nil_append, List.cons_append, List.append_nil, or_false, false_or, or_true, true_or, false_implies, true_implies, and_true, true_and, and_self, Bool.and_true, Bool.true_and, hg, cell_of ha])
      refine ir_cond rfl (fun h2 => ?_) (fun h2 => ?_)
      · (try simp only [go_sem, Nat.reduceAdd, Nat.reduceEqDiff, Nat.reduceLT, Nat.reduceLeDiff, Nat.reduceMul, Nat.zero_add, reduceCtorEq, ↓reduceIte, List.length_cons, List.length_nil, List.set_cons_zero, List.set_cons_succ, List.take_zero, List.take_succ_cons, List.drop_zero, List.drop_succ_cons, List.take_nil, List.drop_nil, List.nil_append, List.cons_append, List.append_nil, or_false, false_or, or_true, true_or, false_implies, true_implies, and_true, true_and, and_self, Bool.and_true, Bool.true_and])
        rw [okPl, List.all_eq_false.2 ⟨xs[k], List.getElem_mem _, by simp at h2; simp; omega⟩]
      · have hw : IntKind.i64.wrap ((k : Int) + 1) = ((k + 1 : Nat) : Int) := by rw [wrap_in] <;> omega
        (try simp only [go_sem, Nat.reduceAdd, Nat.reduceEqDiff, Nat.reduceLT, Nat.reduceLeDiff, Nat.reduceMul, Nat.zero_add, reduceCtorEq, ↓reduceIte, List.length_cons, List.length_nil, List.set_cons_zero, List.set_cons_succ, List.take_zero, List.take_succ_cons, List.drop_zero, List.drop_succ_cons, List.take_nil, List.drop_nil, List.nil_append, List.cons_append, List.append_nil, or_false, false_or, or_true, true_or, false_implies, true_implies, and_true, true_and, and_self, Bool.and_true, Bool.true_and, hw])
        refine ⟨_, ?_, k + 1, rfl, hlt, ?_, rfl⟩
        · omega
        · unfold okPl at hall ⊢
          rw [List.take_succ_eq_append_getElem hlt, List.all_append, hall]
          simp at hg h2; simp; omega
  · have hk' : k = xs.length := by simp at h; omega
    subst hk'
    (try simp only [go_sem, Nat.reduceAdd, Nat.reduceEqDiff, Nat.reduceLT, Nat.reduceLeDiff, Nat.reduceMul, Nat.zero_add, reduceCtorEq, ↓reduceIte, List.length_cons, List.length_nil, List.set_cons_zero, List.set_cons_succ, List.take_zero, List.take_succ_cons, List.drop_zero, List.drop_succ_cons, List.take_nil, List.drop_nil, List.nil_append, List.cons_append, List.append_nil, or_false, false_or, or_true, true_or, false_implies, true_implies, and_true, true_and, and_self, Bool.and_true, Bool.true_and])
    rw [List.take_length] at hall
    rw [hall]

theorem cellOf_ok (k n : Int) (v : Value) (xs : List Int) (w : World) (hx0 : Ints w v xs) :
    CallsR Try.prog 35 [.agg #[I k, I n, v]] w fun r w' => ∃ b, r = .agg #[I k, I n, .slice (some ⟨b, 0, none⟩) xs.length xs.length] ∧
      w'.heap[b]? = some (.cells (xs.map I).toArray 3 (0, 0)) ∧ w.heap.size ≤ b ∧ Mod (fun _ => False) w w' := by
  have hx := hx0
  obtain ⟨a, c, rfl, hl, _⟩ := hx0
  refine fit35.calls rfl ?_
  unfold ir35
  (try simp only [go_sem, Nat.reduceAdd, Nat.reduceEqDiff, Nat.reduceLT, Nat.reduceLeDiff, Nat.reduceMul, Nat.zero_add, reduceCtorEq, ↓reduceIte, List.length_cons, List.length_nil, List.set_cons_zero, List.set_cons_succ, List.take_zero, List.take_succ_cons, List.drop_zero, List.drop_succ_cons, List.take_nil, List.drop_nil, List.nil_append, List.cons_append, List.append_nil, or_false, false_or, or_true, true_or, false_implies, true_implies, and_true, true_and, and_self, Bool.and_true, Bool.true_and])
  refine e_bx rfl ?_
  intro w1 hb1 hm1 hs1
  (try simp only [go_sem, Nat.reduceAdd, Nat.reduceEqDiff, Nat.reduceLT, Nat.reduceLeDiff, Nat.reduceMul, Nat.zero_add, reduceCtorEq, ↓reduceIte, List.length_cons, List.length_nil, List.set_cons_zero, List.set_cons_succ, List.take_zero, List.take_succ_cons, List.drop_zero, List.drop_succ_cons, List.take_nil, List.drop_nil, List.nil_append, List.cons_append, List.append_nil, or_false, false_or, or_true, true_or, false_implies, true_implies, and_true, true_and, and_self, Bool.and_true, Bool.true_and])
  refine e_al ?_
  intro w2 hb2 hm2 hs2
  have hb1' := hm2.at hb1 (fun h => h)
  (try simp only [go_sem, Nat.reduceAdd, Nat.reduceEqDiff, Nat.reduceLT, Nat.reduceLeDiff, Nat.reduceMul, Nat.zero_add, reduceCtorEq, ↓reduceIte, List.length_cons, List.length_nil, List.set_cons_zero, List.set_cons_succ, List.take_zero, List.take_succ_cons, List.drop_zero, List.drop_succ_cons, List.take_nil, List.drop_nil, List.nil_append, List.cons_append, List.append_nil, or_false, false_or, or_true, true_or, false_implies, true_implies, and_true, true_and, and_self, Bool.and_true, Bool.true_and, cell_of hb1'])
  have hx2 : Ints w2.drew (.slice a xs.length c) xs := (hx.mod (hm1.trans hm2.drew) (fun _ _ h => h))
  refine e_call (by rfl) ?_
  refine (copied_ok _ xs _ hx2).mono ?_
  rintro r w3 ⟨b, rfl, hb3, hge, hm3⟩
  have hm3 := hm3.of_drew
  have hlt := lt_of_heap hb1'
  (try simp only [go_sem, Nat.reduceAdd, Nat.reduceEqDiff, Nat.reduceLT, Nat.reduceLeDiff, Nat.reduceMul, Nat.zero_add, reduceCtorEq, ↓reduceIte, List.length_cons, List.length_nil, List.set_cons_zero, List.set_cons_succ, List.take_zero, List.take_succ_cons, List.drop_zero, List.drop_succ_cons, List.take_nil, List.drop_nil, List.nil_append, List.cons_append, List.append_nil, or_false, false_or, or_true, true_or, false_implies, true_implies, and_true, true_and, and_self, Bool.and_true, Bool.true_and])
  refine ⟨hm3.old _ hlt (fun h => h), ?_⟩
  have hb2' := hm3.at hb2 (fun h => h)
  have hge : w2.heap.size ≤ b := hge
  refine e_sta rfl rfl hb2' rfl rfl (by simp [Value.oneCell']) ?_
  intro w4 hb4 hm4 hs4
  have hl2 := lt_of_heap hb2
  (try simp only [go_sem, Nat.reduceAdd, Nat.reduceEqDiff, Nat.reduceLT, Nat.reduceLeDiff, Nat.reduceMul, Nat.zero_add, reduceCtorEq, ↓reduceIte, List.length_cons, List.length_nil, List.set_cons_zero, List.set_cons_succ, List.take_zero, List.take_succ_cons, List.drop_zero, List.drop_succ_cons, List.take_nil, List.drop_nil, List.nil_append, List.cons_append, List.append_nil, or_false, false_or, or_true, true_or, false_implies, true_implies, and_true, true_and, and_self, Bool.and_true, Bool.true_and, ln_of hb4 (off := 0) (n := 3) (by simp)])
  exact ⟨b, rfl, hm4.at hb3 (by omega), by omega, ((hm1.trans hm2).trans hm3).step hm4 (fun i hi hlt => by omega)⟩

theorem Args.mod' {w w' : World} {ps : List (Nd × Value)} {F S : Nat → Prop} (h : Args w ps F) (hm : Mod S w w') (hs : ∀ b cs fz, S b → w.heap[b]? = some (.cells cs 3 fz) → False) : Args w' ps F := by
  intro p hp
  obtain ⟨fp, h1, h2⟩ := h p hp
  exact ⟨fp, h1.mod' hm hs, h2⟩
theorem Args.app {w : World} {ps qs : List (Nd × Value)} {F : Nat → Prop} (h : Args w ps F) (k : Args w qs F) : Args w (ps ++ qs) F := by
  intro p hp
  rcases List.mem_append.1 hp with hp | hp
  · exact h p hp
  · exact k p hp

/-- An arena: its struct, its nodes' cells, their argument lists; F: all its blocks. -/
def ArenaAt (Ta Tc : Nat) (w : World) (a : Nat) (size times : Int) (ns : List Nd) (F : Nat → Prop) : Prop :=
  ∃ cv fpc ps, w.heap[a]? = some (.cells #[I size, cv, I times] Ta (0, 0)) ∧ F a ∧ Own w Tc 3 cv (flat ps) ns.length fpc ∧ (∀ b, fpc = some b → F b) ∧ Args w ps F ∧ ps.map Prod.fst = ns ∧ (∀ b, F b → b < w.heap.size)

theorem ArenaAt.mod {Ta Tc : Nat} {w w' : World} {a : Nat} {size times : Int} {ns : List Nd} {F S : Nat → Prop} (h : ArenaAt Ta Tc w a size times ns F) (hm : Mod S w w') (hd : ∀ b, F b → ¬ S b) :
    ArenaAt Ta Tc w' a size times ns F := by
  obtain ⟨cv, fpc, ps, h1, h2, h3, h4, h5, h6, h7⟩ := h
  exact ⟨cv, fpc, ps, hm.at h1 (hd a h2), h2, h3.mod hm (fun b hb => hd b (h4 b hb)), h4, h5.mod hm hd, h6, fun b hb => Nat.lt_of_lt_of_le (h7 b hb) hm.size⟩
/-- Behind a call: only blocks of F were written; what belongs to it now did, or is new. -/
def Grow (F F' : Nat → Prop) (w w' : World) : Prop := Mod F w w' ∧ ∀ b, F' b → F b ∨ w.heap.size ≤ b
theorem ArenaAt.has {Ta Tc : Nat} {w : World} {a : Nat} {size times : Int} {ns : List Nd} {F : Nat → Prop} (h : ArenaAt Ta Tc w a size times ns F) : HasNodes w a ns.length := by
  obtain ⟨cv, fpc, ps, h1, h2, h3, h4, h5, h6, h7⟩ := h
  obtain ⟨x, c, rfl, _⟩ := h3.val
  exact ⟨Ta, _, x, c, _, h1⟩

theorem used_ok (a : Nat) (size times : Int) (ns : List Nd) (F : Nat → Prop) (w : World) (h : ArenaAt 63 70 w a size times ns F) :
    CallsR Try.prog 10 [.pointer (some ⟨a, 0, none⟩)] w fun r w' => r = I ns.length ∧ w = w' := by
  obtain ⟨T, sz, x, c, col, h1⟩ := h.has
  refine fit10.calls rfl ?_
  unfold ir10
  (try simp only [go_sem, Nat.reduceAdd, Nat.reduceEqDiff, Nat.reduceLT, Nat.reduceLeDiff, Nat.reduceMul, Nat.zero_add, reduceCtorEq, ↓reduceIte, List.length_cons, List.length_nil, List.set_cons_zero, List.set_cons_succ, List.take_zero, List.take_succ_cons, List.drop_zero, List.drop_succ_cons, List.take_nil, List.drop_nil, List.nil_append, List.cons_append, List.append_nil, or_false, false_or, or_true, true_or, false_implies, true_implies, and_true, true_and, and_self, Bool.and_true, Bool.true_and, cell_of h1])
theorem times_ok (a : Nat) (size times : Int) (ns : List Nd) (F : Nat → Prop) (w : World) (h : ArenaAt 63 70 w a size times ns F) :
    CallsR Try.prog 32 [.pointer (some ⟨a, 0, none⟩)] w fun r w' => r = I times ∧ w = w' := by
  obtain ⟨cv, fpc, ps, h1, _⟩ := h
  refine fit32.calls rfl ?_
  unfold ir32
  (try simp only [go_sem, Nat.reduceAdd, Nat.reduceEqDiff, Nat.reduceLT, Nat.reduceLeDiff, Nat.reduceMul, Nat.zero_add, reduceCtorEq, ↓reduceIte, List.length_cons, List.length_nil, List.set_cons_zero, List.set_cons_succ, List.take_zero, List.take_succ_cons, List.drop_zero, List.drop_succ_cons, List.take_nil, List.drop_nil, List.nil_append, List.cons_append, List.append_nil, or_false, false_or, or_true, true_or, false_implies, true_implies, and_true, true_and, and_self, Bool.and_true, Bool.true_and, cell_of h1])
theorem new_ok (size : Int) (w : World) :
    CallsR Try.prog 13 [I size] w fun r w' => (1 ≤ size ∧ size ≤ 1048576 → r = .tuple #[.pointer (some ⟨w.heap.size, 0, none⟩), I 0] ∧ ArenaAt 63 70 w' w.heap.size size 0 [] (· = w.heap.size) ∧ Mod (fun _ => False) w w' ∧ w'.heap.size = w.heap.size + 1) ∧
      (¬ (1 ≤ size ∧ size ≤ 1048576) → r = .tuple #[.pointer none, I 200] ∧ w = w') := by
  refine fit13.calls rfl ?_
  unfold ir13
  (try simp only [go_sem, Nat.reduceAdd, Nat.reduceEqDiff, Nat.reduceLT, Nat.reduceLeDiff, Nat.reduceMul, Nat.zero_add, reduceCtorEq, ↓reduceIte, List.length_cons, List.length_nil, List.set_cons_zero, List.set_cons_succ, List.take_zero, List.take_succ_cons, List.drop_zero, List.drop_succ_cons, List.take_nil, List.drop_nil, List.nil_append, List.cons_append, List.append_nil, or_false, false_or, or_true, true_or, false_implies, true_implies, and_true, true_and, and_self, Bool.and_true, Bool.true_and])
  refine wpS_gr rfl (fun h => ?_) (fun h => ?_)
  · (try simp only [go_sem, Nat.reduceAdd, Nat.reduceEqDiff, Nat.reduceLT, Nat.reduceLeDiff, Nat.reduceMul, Nat.zero_add, reduceCtorEq, ↓reduceIte, List.length_cons, List.length_nil, List.set_cons_zero, List.set_cons_succ, List.take_zero, List.take_succ_cons, List.drop_zero, List.drop_succ_cons, List.take_nil, List.drop_nil, List.nil_append, List.cons_append, List.append_nil, or_false, false_or, or_true, true_or, false_implies, true_implies, and_true, true_and, and_self, Bool.and_true, Bool.true_and, h])
    have h' : size < 1 := by simpa using h
    exact ⟨fun hh => by omega, fun _ => trivial⟩
  · (try simp only [go_sem, Nat.reduceAdd, Nat.reduceEqDiff, Nat.reduceLT, Nat.reduceLeDiff, Nat.reduceMul, Nat.zero_add, reduceCtorEq, ↓reduceIte, List.length_cons, List.length_nil, List.set_cons_zero, List.set_cons_succ, List.take_zero, List.take_succ_cons, List.drop_zero, List.drop_succ_cons, List.take_nil, List.drop_nil, List.nil_append, List.cons_append, List.append_nil, or_false, false_or, or_true, true_or, false_implies, true_implies, and_true, true_and, and_self, Bool.and_true, Bool.true_and, h])
    have h' : ¬ size < 1 := by simpa using h
    refine ir_cond rfl (fun h2 => ?_) (fun h2 => ?_)
    · (try simp only [go_sem, Nat.reduceAdd, Nat.reduceEqDiff, Nat.reduceLT, Nat.reduceLeDiff, Nat.reduceMul, Nat.zero_add, reduceCtorEq, ↓reduceIte, List.length_cons, List.length_nil, List.set_cons_zero, List.set_cons_succ, List.take_zero, List.take_succ_cons, List.drop_zero, List.drop_succ_cons, List.take_nil, List.drop_nil, List.nil_append, List.cons_append, List.append_nil, or_false, false_or, or_true, true_or, false_implies, true_implies, and_true, true_and, and_self, Bool.and_true, Bool.true_and])
      have h2' : size > 1048576 := by simpa using h2
      exact ⟨fun hh => by omega, fun _ => trivial⟩
    · (try simp only [go_sem, Nat.reduceAdd, Nat.reduceEqDiff, Nat.reduceLT, Nat.reduceLeDiff, Nat.reduceMul, Nat.zero_add, reduceCtorEq, ↓reduceIte, List.length_cons, List.length_nil, List.set_cons_zero, List.set_cons_succ, List.take_zero, List.take_succ_cons, List.drop_zero, List.drop_succ_cons, List.take_nil, List.drop_nil, List.nil_append, List.cons_append, List.append_nil, or_false, false_or, or_true, true_or, false_implies, true_implies, and_true, true_and, and_self, Bool.and_true, Bool.true_and])
      have h2' : ¬ size > 1048576 := by simpa using h2
      refine e_bx rfl ?_
      intro w1 hb1 hm1 hs1
      (try simp only [go_sem, Nat.reduceAdd, Nat.reduceEqDiff, Nat.reduceLT, Nat.reduceLeDiff, Nat.reduceMul, Nat.zero_add, reduceCtorEq, ↓reduceIte, List.length_cons, List.length_nil, List.set_cons_zero, List.set_cons_succ, List.take_zero, List.take_succ_cons, List.drop_zero, List.drop_succ_cons, List.take_nil, List.drop_nil, List.nil_append, List.cons_append, List.append_nil, or_false, false_or, or_true, true_or, false_implies, true_implies, and_true, true_and, and_self, Bool.and_true, Bool.true_and])
      refine ⟨fun _ => ⟨⟨_, none, [], hb1, rfl, Own.nil w1 70 3, (fun b h => by cases h), (fun p hp => by cases hp), rfl, (fun b hb => by omega)⟩, hm1, hs1⟩, fun hh => by omega⟩

def addS (size : Int) (ns : List Nd) (nd : Nd) : Int × Int × List Nd :=
  if nd.may = false then (0, 1, ns) else if okPl ns.length nd.args = false then (0, 202, ns) else if (ns.length : Int) = size then (0, 201, ns) else (ns.length, 0, ns ++ [nd])

def AddPost (Ta Tc : Nat) (a : Nat) (size times : Int) (F : Nat → Prop) (w : World) (s : Int × Int × List Nd) (r : Value) (w' : World) : Prop :=
  r = .tuple #[I s.1, I s.2.1] ∧ ∃ F', ArenaAt Ta Tc w' a size times s.2.2 F' ∧ Grow F F' w w'

theorem flat_one (p : Nd × Value) : flat [p] = nc p := by simp [flat]

theorem add_ok (a : Nat) (size times : Int) (ns : List Nd) (nd : Nd) (v : Value) (F : Nat → Prop) (w : World) (h : ArenaAt 63 70 w a size times ns F) (hle : (ns.length : Int) ≤ size) (hsz : size ≤ 1048576) (hx0 : Ints w v nd.args) :
    CallsR Try.prog 17 [.pointer (some ⟨a, 0, none⟩), .agg #[I nd.kind, I nd.num, v]] w (AddPost 63 70 a size times F w (addS size ns nd)) := by
  have hx := hx0
  obtain ⟨va, vc, rfl, hl, _⟩ := hx0
  refine fit17.calls rfl ?_
  unfold ir17
  (try simp only [go_sem, Nat.reduceAdd, Nat.reduceEqDiff, Nat.reduceLT, Nat.reduceLeDiff, Nat.reduceMul, Nat.zero_add, reduceCtorEq, ↓reduceIte, List.length_cons, List.length_nil, List.set_cons_zero, List.set_cons_succ, List.take_zero, List.take_succ_cons, List.drop_zero, List.drop_succ_cons, List.take_nil, List.drop_nil, List.nil_append, List.cons_append, List.append_nil, or_false, false_or, or_true, true_or, false_implies, true_implies, and_true, true_and, and_self, Bool.and_true, Bool.true_and])
  refine e_bx rfl ?_
  intro w1 hb1 hm1 hs1
  have h1 := h.mod hm1 (fun _ _ h => h)
  have hx1 := hx.mod hm1 (fun _ _ h => h)
  have hd : vLN w1 3 (.pointer (some ⟨w.heap.size, 0, none⟩)) = some (.agg #[I nd.kind, I nd.num, .slice va nd.args.length vc]) := ln_of hb1 (off := 0) (n := 3) (by simp)
  have same : ∀ w2, Mod (fun _ => False) w1 w2 → ∃ F', ArenaAt 63 70 w2 a size times ns F' ∧ Grow F F' w w2 := fun w2 hm2 =>
    ⟨F, h1.mod hm2 (fun _ _ h => h), (hm1.trans hm2).weak (fun _ h => h.elim), fun b hb => .inl hb⟩
  (try simp only [go_sem, Nat.reduceAdd, Nat.reduceEqDiff, Nat.reduceLT, Nat.reduceLeDiff, Nat.reduceMul, Nat.zero_add, reduceCtorEq, ↓reduceIte, List.length_cons, List.length_nil, List.set_cons_zero, List.set_cons_succ, List.take_zero, List.take_succ_cons, List.drop_zero, List.drop_succ_cons, List.take_nil, List.drop_nil, List.nil_append, List.cons_append, List.append_nil, or_false, false_or, or_true, true_or, false_implies, true_implies, and_true, true_and, and_self, Bool.and_true, Bool.true_and, hd])
  refine e_call (by rfl) ?_
  refine (may_ok nd.kind nd.num _ nd.args w1 hx1).mono ?_
  rintro r w2 ⟨rfl, hm2⟩
  have hb2 := hm2.at hb1 (fun h => h)
  (try simp only [go_sem, Nat.reduceAdd, Nat.reduceEqDiff, Nat.reduceLT, Nat.reduceLeDiff, Nat.reduceMul, Nat.zero_add, reduceCtorEq, ↓reduceIte, List.length_cons, List.length_nil, List.set_cons_zero, List.set_cons_succ, List.take_zero, List.take_succ_cons, List.drop_zero, List.drop_succ_cons, List.take_nil, List.drop_nil, List.nil_append, List.cons_append, List.append_nil, or_false, false_or, or_true, true_or, false_implies, true_implies, and_true, true_and, and_self, Bool.and_true, Bool.true_and])
  refine ir_cond rfl (fun hc => ?_) (fun hc => ?_)
  · (try simp only [go_sem, Nat.reduceAdd, Nat.reduceEqDiff, Nat.reduceLT, Nat.reduceLeDiff, Nat.reduceMul, Nat.zero_add, reduceCtorEq, ↓reduceIte, List.length_cons, List.length_nil, List.set_cons_zero, List.set_cons_succ, List.take_zero, List.take_succ_cons, List.drop_zero, List.drop_succ_cons, List.take_nil, List.drop_nil, List.nil_append, List.cons_append, List.append_nil, or_false, false_or, or_true, true_or, false_implies, true_implies, and_true, true_and, and_self, Bool.and_true, Bool.true_and])
    have hc' : nd.may = false := by simpa [Nd.may] using hc
    exact ⟨by simp [addS, hc'], by simpa [addS, hc'] using same w2 hm2⟩
  have hc1 : nd.may = true := by simpa [Nd.may] using hc
  have hx2 := hx1.mod hm2 (fun _ _ h => h)
  have h2 := h1.mod hm2 (fun _ _ h => h)
  (try simp only [go_sem, Nat.reduceAdd, Nat.reduceEqDiff, Nat.reduceLT, Nat.reduceLeDiff, Nat.reduceMul, Nat.zero_add, reduceCtorEq, ↓reduceIte, List.length_cons, List.length_nil, List.set_cons_zero, List.set_cons_succ, List.take_zero, List.take_succ_cons, List.drop_zero, List.drop_succ_cons, List.take_nil, List.drop_nil, List.nil_append, List.cons_append, List.append_nil, or_false, false_or, or_true, true_or, false_implies, true_implies, and_true, true_and, and_self, Bool.and_true, Bool.true_and, cell_of hb2])
  refine e_call (by rfl) ?_
  refine (places_ok a ns.length _ nd.args w2 h2.has hx2).mono ?_
  rintro r _ ⟨rfl, rfl⟩
  (try simp only [go_sem, Nat.reduceAdd, Nat.reduceEqDiff, Nat.reduceLT, Nat.reduceLeDiff, Nat.reduceMul, Nat.zero_add, reduceCtorEq, ↓reduceIte, List.length_cons, List.length_nil, List.set_cons_zero, List.set_cons_succ, List.take_zero, List.take_succ_cons, List.drop_zero, List.drop_succ_cons, List.take_nil, List.drop_nil, List.nil_append, List.cons_append, List.append_nil, or_false, false_or, or_true, true_or, false_implies, true_implies, and_true, true_and, and_self, Bool.and_true, Bool.true_and])
  refine ir_cond rfl (fun hc => ?_) (fun hc => ?_)
  · (try simp only [go_sem, Nat.reduceAdd, Nat.reduceEqDiff, Nat.reduceLT, Nat.reduceLeDiff, Nat.reduceMul, Nat.zero_add, reduceCtorEq, ↓reduceIte, List.length_cons, List.length_nil, List.set_cons_zero, List.set_cons_succ, List.take_zero, List.take_succ_cons, List.drop_zero, List.drop_succ_cons, List.take_nil, List.drop_nil, List.nil_append, List.cons_append, List.append_nil, or_false, false_or, or_true, true_or, false_implies, true_implies, and_true, true_and, and_self, Bool.and_true, Bool.true_and])
    have hc' : okPl ns.length nd.args = false := by simpa using hc
    exact ⟨by simp [addS, hc', hc1], by simpa [addS, hc', hc1] using same w2 hm2⟩
  have hc2 : okPl ns.length nd.args = true := by simpa using hc
  obtain ⟨cv, fpc, ps, g1, g2, g3, g4, g5, g6, g7⟩ := h2
  obtain ⟨ca, cc, rfl, hcc, hca⟩ := g3.val
  (try simp only [go_sem, Nat.reduceAdd, Nat.reduceEqDiff, Nat.reduceLT, Nat.reduceLeDiff, Nat.reduceMul, Nat.zero_add, reduceCtorEq, ↓reduceIte, List.length_cons, List.length_nil, List.set_cons_zero, List.set_cons_succ, List.take_zero, List.take_succ_cons, List.drop_zero, List.drop_succ_cons, List.take_nil, List.drop_nil, List.nil_append, List.cons_append, List.append_nil, or_false, false_or, or_true, true_or, false_implies, true_implies, and_true, true_and, and_self, Bool.and_true, Bool.true_and, cell_of g1])
  refine ir_cond rfl (fun hc => ?_) (fun hc => ?_)
  · (try simp only [go_sem, Nat.reduceAdd, Nat.reduceEqDiff, Nat.reduceLT, Nat.reduceLeDiff, Nat.reduceMul, Nat.zero_add, reduceCtorEq, ↓reduceIte, List.length_cons, List.length_nil, List.set_cons_zero, List.set_cons_succ, List.take_zero, List.take_succ_cons, List.drop_zero, List.drop_succ_cons, List.take_nil, List.drop_nil, List.nil_append, List.cons_append, List.append_nil, or_false, false_or, or_true, true_or, false_implies, true_implies, and_true, true_and, and_self, Bool.and_true, Bool.true_and])
    have hc' : (ns.length : Int) = size := by simpa using hc
    exact ⟨by simp [addS, hc', hc1, hc2], by simpa [addS, hc', hc1, hc2] using same w2.drew hm2.drew⟩
  have hc3 : ¬ (ns.length : Int) = size := by simpa using hc
  have hd2 : vLN w2.drew.drew 3 (.pointer (some ⟨w.heap.size, 0, none⟩)) = some (.agg #[I nd.kind, I nd.num, .slice va nd.args.length vc]) := ln_of (w := w2.drew.drew) hb2 (off := 0) (n := 3) (by simp)
  (try simp only [go_sem, Nat.reduceAdd, Nat.reduceEqDiff, Nat.reduceLT, Nat.reduceLeDiff, Nat.reduceMul, Nat.zero_add, reduceCtorEq, ↓reduceIte, List.length_cons, List.length_nil, List.set_cons_zero, List.set_cons_succ, List.take_zero, List.take_succ_cons, List.drop_zero, List.drop_succ_cons, List.take_nil, List.drop_nil, List.nil_append, List.cons_append, List.append_nil, or_false, false_or, or_true, true_or, false_implies, true_implies, and_true, true_and, and_self, Bool.and_true, Bool.true_and, cell_of g1, hd2])
  refine e_call (by rfl) ?_
  refine (cellOf_ok nd.kind nd.num _ nd.args w2.drew.drew hx2).mono ?_
  rintro r w3 ⟨b3, rfl, hb3, hge3, hm3⟩
  have hm3 : Mod (fun _ => False) w2 w3 := hm3.of_drew.of_drew
  have hge3 : w2.heap.size ≤ b3 := hge3
  have ga := hm3.at g1 (fun h => h)
  have gc := g3.mod hm3 (fun _ _ h => h)
  (try simp only [go_sem, Nat.reduceAdd, Nat.reduceEqDiff, Nat.reduceLT, Nat.reduceLeDiff, Nat.reduceMul, Nat.zero_add, reduceCtorEq, ↓reduceIte, List.length_cons, List.length_nil, List.set_cons_zero, List.set_cons_succ, List.take_zero, List.take_succ_cons, List.drop_zero, List.drop_succ_cons, List.take_nil, List.drop_nil, List.nil_append, List.cons_append, List.append_nil, or_false, false_or, or_true, true_or, false_implies, true_implies, and_true, true_and, and_self, Bool.and_true, Bool.true_and])
  refine ⟨hm3.old _ (lt_of_heap g1) (fun h => h), ?_⟩
  refine e_bs (by rfl) (by (try simp only [go_sem, Nat.reduceAdd, Nat.reduceEqDiff, Nat.reduceLT, Nat.reduceLeDiff, Nat.reduceMul, Nat.zero_add, reduceCtorEq, ↓reduceIte, List.length_cons, List.length_nil, List.set_cons_zero, List.set_cons_succ, List.take_zero, List.take_succ_cons, List.drop_zero, List.drop_succ_cons, List.take_nil, List.drop_nil, List.nil_append, List.cons_append, List.append_nil, or_false, false_or, or_true, true_or, false_implies, true_implies, and_true, true_and, and_self, Bool.and_true, Bool.true_and]); rfl) ?_
  intro w4 hb4 hm4 hs4
  (try simp only [go_sem, Nat.reduceAdd, Nat.reduceEqDiff, Nat.reduceLT, Nat.reduceLeDiff, Nat.reduceMul, Nat.zero_add, reduceCtorEq, ↓reduceIte, List.length_cons, List.length_nil, List.set_cons_zero, List.set_cons_succ, List.take_zero, List.take_succ_cons, List.drop_zero, List.drop_succ_cons, List.take_nil, List.drop_nil, List.nil_append, List.cons_append, List.append_nil, or_false, false_or, or_true, true_or, false_implies, true_implies, and_true, true_and, and_self, Bool.and_true, Bool.true_and])
  refine ⟨hm4.old _ (lt_of_heap ga) (fun h => h), ?_⟩
  have ga4 := hm4.at ga (fun h => h)
  have gc4 := gc.mod hm4 (fun _ _ h => h)
  have hb4' := hm4.at hb3 (fun h => h)
  refine e_ap (m := 1) (news := nc (nd, .slice (some ⟨b3, 0, none⟩) nd.args.length nd.args.length)) rfl gc4 rfl (fun h => by cases h) (rd_block hb4) (by simp [nc, Value.oneCell']) rfl (by omega) (by omega) ?_
  intro v5 w5 fp5 ho5 hm5 hf5
  have hne : fpc ≠ some a := own_ne gc4 ga4 (by omega)
  have ga5 := hm5.at ga4 hne
  have hne3 : fpc ≠ some b3 := own_ne gc4 hb4' (by omega)
  have hb5' := hm5.at hb4' hne3
  obtain ⟨va5, vc5, rfl, _⟩ := ho5.val
  (try simp only [go_sem, Nat.reduceAdd, Nat.reduceEqDiff, Nat.reduceLT, Nat.reduceLeDiff, Nat.reduceMul, Nat.zero_add, reduceCtorEq, ↓reduceIte, List.length_cons, List.length_nil, List.set_cons_zero, List.set_cons_succ, List.take_zero, List.take_succ_cons, List.drop_zero, List.drop_succ_cons, List.take_nil, List.drop_nil, List.nil_append, List.cons_append, List.append_nil, or_false, false_or, or_true, true_or, false_implies, true_implies, and_true, true_and, and_self, Bool.and_true, Bool.true_and])
  refine e_st1 (off := 1) rfl rfl ga5 rfl (by simp) ?_
  intro w6 hb6 hm6 hs6
  have hw : IntKind.i64.wrap (((ns.length + 1 : Nat) : Int) - 1) = ns.length := by rw [wrap_in] <;> omega
  (try simp only [go_sem, Nat.reduceAdd, Nat.reduceEqDiff, Nat.reduceLT, Nat.reduceLeDiff, Nat.reduceMul, Nat.zero_add, reduceCtorEq, ↓reduceIte, List.length_cons, List.length_nil, List.set_cons_zero, List.set_cons_succ, List.take_zero, List.take_succ_cons, List.drop_zero, List.drop_succ_cons, List.take_nil, List.drop_nil, List.nil_append, List.cons_append, List.append_nil, or_false, false_or, or_true, true_or, false_implies, true_implies, and_true, true_and, and_self, Bool.and_true, Bool.true_and, cell_of hb6, hw])
  have la := lt_of_heap g1
  have hall : Mod F w w6 := (((((hm1.weak (fun _ h => h.elim)).step hm2 (fun _ h _ => h.elim)).step hm3 (fun _ h _ => h.elim)).step hm4 (fun _ h _ => h.elim)).step hm5 (fun i h _ => g4 i h)).step hm6 (fun i h _ => h ▸ g2)
  have hadd : addS size ns nd = ((ns.length : Int), 0, ns ++ [nd]) := by simp [addS, hc1, hc2, hc3]
  refine ⟨by rw [hadd], fun b => F b ∨ b = b3 ∨ fp5 = some b, ?_, hall, ?_⟩
  · rw [hadd]
    have hn5 : fp5 ≠ some a := own_ne ho5 ga5 (by omega)
    refine ⟨_, fp5, ps ++ [(nd, .slice (some ⟨b3, 0, none⟩) nd.args.length nd.args.length)], hb6, .inl g2, ?_, fun b hb => .inr (.inr hb), ?_, ?_, ?_⟩
    · rw [flat_app, flat_one]
      simpa using ho5.mod hm6 (fun b hb hh => hn5 (by rw [hb, hh]))
    · have e1 := ((g5.mod' (hm3.trans hm4) (fun _ _ _ h _ => h)).mod' hm5 (fun b cs fz hb hc => own_kind gc4 hb hc (by omega))).mod' hm6 (fun b cs fz hb hc => kind_ne ga5 (hb ▸ hc) (by omega))
      refine (e1.weak (fun b hb => .inl hb)).app ?_
      intro p hp
      simp only [List.mem_cons, List.not_mem_nil, or_false] at hp; subst hp
      refine ⟨some b3, Own.of_block (hm6.at hb5' (fun hh => kind_ne hb5' (hh ▸ ga5) (by omega))) (by simp), fun b hb => .inr (.inl (by cases hb; rfl))⟩
    · simp [g6]
    · intro b hb
      have := hm3.size; have := hm4.size; have := hm5.size; have := hm6.size; have := lt_of_heap hb3
      rcases hb with hb | hb | hb
      · have := g7 b hb; omega
      · omega
      · have := ho5.lt hb; omega
  · intro b hb
    have := hm1.size; have := hm2.size; have := hm3.size; have := hm4.size
    rcases hb with hb | hb | hb
    · exact .inl hb
    · exact .inr (by omega)
    · rcases hf5 b hb with hh | hh
      · exact .inl (g4 b hh)
      · exact .inr (by omega)
end Go.Proofs.Ytnagmcdlepcgnaa
