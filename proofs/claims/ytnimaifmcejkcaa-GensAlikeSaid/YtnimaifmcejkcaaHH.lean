/- Heap: Room. -/
import Derived.Test.YtnimaifmcejkcaaIR
import Derived.Test.YtnimaifmcejkcaaW8
import Derived.Test.YtnimaifmcejkcaaW9
section
set_option linter.unusedSimpArgs false
set_option linter.unusedVariables false
namespace Go.Proofs.Ytnimaifmcejkcaa
open Go Go.W

structure Nd where
  kind : Int
  num : Int
  args : List Int

def mayB (k n : Int) (a : Nat) : Bool :=
  decide ((k = 1 ∧ a = 0 ∧ -4611686018427387904 ≤ n ∧ n ≤ 4611686018427387903) ∨ (k = 2 ∧ a ≤ 8 ∧ 0 ≤ n) ∨ (k = 3 ∧ a = 2 ∧ n = 0) ∨ ((k = 4 ∨ k = 8) ∧ a = 0 ∧ 0 ≤ n) ∨
    (k = 5 ∧ a = 1 ∧ n = 0) ∨ ((k = 6 ∨ k = 7) ∧ a = 0 ∧ n = 0))
def Nd.may (n : Nd) : Bool := mayB n.kind n.num n.args.length
def okPl (len : Nat) (l : List Int) : Bool := l.all fun x => decide (0 ≤ x) && decide (x < len)

/-- A node's three cells, flattened. -/
def nc (p : Nd × Value) : List Value := [I p.1.kind, I p.1.num, p.2]
def flat (ps : List (Nd × Value)) : List Value := ps.flatMap nc
theorem flat_len (ps : List (Nd × Value)) : (flat ps).length = ps.length * 3 := by
  induction ps with
  | nil => rfl
  | cons p ps ih => simp only [flat, List.flatMap_cons, List.length_append] at *; simp only [nc, List.length_cons, List.length_nil] at *; omega
theorem flat_app (ps qs : List (Nd × Value)) : flat (ps ++ qs) = flat ps ++ flat qs := by simp [flat]
theorem flat_take_drop (ps : List (Nd × Value)) (i : Nat) (h : i < ps.length) : ((flat ps).drop (i * 3)).take 3 = nc ps[i] := by
  have h1 : ps = ps.take i ++ ps[i] :: ps.drop (i + 1) := by simp
  have h2 : flat ps = flat (ps.take i) ++ (nc ps[i] ++ flat (ps.drop (i + 1))) := by
    conv => lhs; rw [h1]
    rw [flat_app]; rfl
  have h3 : (flat (ps.take i)).length = i * 3 := by rw [flat_len]; simp; omega
  rw [h2, ← h3, List.drop_left]
  exact List.take_left' rfl
theorem flat_at (ps : List (Nd × Value)) (i k : Nat) (h : i < ps.length) (hk : k < 3) : (flat ps)[i * 3 + k]? = (nc ps[i])[k]? := by
  rw [← flat_take_drop ps i h, List.getElem?_take, if_pos hk, List.getElem?_drop]
theorem flat_set (ps : List (Nd × Value)) (i : Nat) (q : Nd × Value) (h : i < ps.length) (sp' : List Value) :
    sp (flat ps ++ sp').toArray (i * 3) (nc q) = (flat (ps.set i q) ++ sp').toArray := by
  have h1 : ps = ps.take i ++ ps[i] :: ps.drop (i + 1) := by simp
  have h2 : flat ps = flat (ps.take i) ++ (nc ps[i] ++ flat (ps.drop (i + 1))) := by
    conv => lhs; rw [h1]
    rw [flat_app]; rfl
  have h3 : (flat (ps.take i)).length = i * 3 := by rw [flat_len]; simp; omega
  have h4 : flat (ps.set i q) = flat (ps.take i) ++ (nc q ++ flat (ps.drop (i + 1))) := by
    rw [List.set_eq_take_append_cons_drop, if_pos h, flat_app]; rfl
  unfold sp
  rw [h2, h4]
  congr 1
  simp only [List.append_assoc]
  rw [← h3, List.take_left]
  congr 2
  have h5 : (flat (ps.take i) ++ (nc ps[i] ++ (flat (ps.drop (i + 1)) ++ sp'))).drop ((flat (ps.take i)).length + (nc q).length) = flat (ps.drop (i + 1)) ++ sp' := by
    rw [← List.drop_drop, List.drop_left]
    exact List.drop_left' rfl
  exact h5

/-- The argument lists of nodes, each in memory of F. -/
def Args (w : World) (ps : List (Nd × Value)) (F : Nat → Prop) : Prop :=
  ∀ p ∈ ps, ∃ fp, Own w 3 1 p.2 (p.1.args.map I) p.1.args.length fp ∧ ∀ b, fp = some b → F b
theorem Args.mod {w w' : World} {ps : List (Nd × Value)} {F S : Nat → Prop} (h : Args w ps F) (hm : Mod S w w') (hd : ∀ b, F b → ¬ S b) : Args w' ps F := by
  intro p hp
  obtain ⟨fp, h1, h2⟩ := h p hp
  exact ⟨fp, h1.mod hm (fun b hb => hd b (h2 b hb)), h2⟩
theorem Args.weak {w : World} {ps : List (Nd × Value)} {F F' : Nat → Prop} (h : Args w ps F) (hf : ∀ b, F b → F' b) : Args w ps F' := by
  intro p hp
  obtain ⟨fp, h1, h2⟩ := h p hp
  exact ⟨fp, h1, fun b hb => hf b (h2 b hb)⟩

theorem may_ok (k n : Int) (v : Value) (xs : List Int) (w : World) (hx : Ints w v xs) :
    CallsR Try.prog 43 [.agg #[I k, I n, v]] w fun r w' => r = .bool (mayB k n xs.length) ∧ Mod (fun _ => False) w w' := by
  obtain ⟨a, c, rfl, hl, _⟩ := hx
  refine fit43.calls rfl ?_
  unfold ir43
  (try simp only [go_sem, Nat.reduceAdd, Nat.reduceEqDiff, Nat.reduceLT, Nat.reduceLeDiff, Nat.reduceMul, reduceCtorEq, ↓reduceIte])
  refine e_bx rfl ?_
  intro w1 hb hm _
  have hlt := lt_of_heap hb
  (try simp only [go_sem, Nat.reduceAdd, Nat.reduceEqDiff, Nat.reduceLT, Nat.reduceLeDiff, Nat.reduceMul, reduceCtorEq, ↓reduceIte, cell_of hb])
  repeat' (first | (refine ir_cond rfl (fun h => ?_) (fun h => ?_) <;> (try simp only [go_sem, Nat.reduceAdd, Nat.reduceEqDiff, Nat.reduceLT, Nat.reduceLeDiff, Nat.reduceMul, reduceCtorEq, ↓reduceIte, cell_of hb, h])) | (refine wpS_gr rfl (fun h => ?_) (fun h => ?_) <;> (try simp only [go_sem, Nat.reduceAdd, Nat.reduceEqDiff, Nat.reduceLT, Nat.reduceLeDiff, Nat.reduceMul, reduceCtorEq, ↓reduceIte, cell_of hb, h])))
  all_goals (refine ⟨?_, hm⟩; congr 1; rw [Bool.eq_iff_iff]; unfold mayB; simp only [decide_eq_true_eq, decide_eq_false_iff_not, beq_iff_eq, beq_eq_false_iff_ne, bne_iff_ne, bne_eq_false_iff_eq, ne_eq, Bool.false_eq_true, Bool.true_eq_false, iff_true, iff_false, true_iff, false_iff, Decidable.not_not] at *; omega)

/-- A new row of ints, as long as it is. -/
def NewInts (w w' : World) (r : Value) (xs : List Int) : Prop :=
  ∃ b, r = .slice (some ⟨b, 0, none⟩) xs.length xs.length ∧ w'.heap[b]? = some (.cells (xs.map I).toArray 3 (0, 0)) ∧ w.heap.size ≤ b ∧ Mod (fun _ => False) w w'

theorem copied_ok (v : Value) (xs : List Int) (w : World) (hx : Ints w v xs) :
    CallsR Try.prog 65 [v] w fun r w' => NewInts w w' r xs := by
  have hx' := hx
  obtain ⟨a, c, rfl, hl, _⟩ := hx
  refine fit65.calls rfl ?_
  unfold ir65
  (try simp only [go_sem, Nat.reduceAdd, Nat.reduceEqDiff, Nat.reduceLT, Nat.reduceLeDiff, Nat.reduceMul, reduceCtorEq, ↓reduceIte])
  refine e_ms1 (n := xs.length) rfl (by omega) (by omega) ?_
  intro w1 hb1 hm1 hs1
  obtain ⟨_, hr, hn⟩ := (hx'.mod hm1 (fun _ _ h => h)).rd
  (try simp only [go_sem, Nat.reduceAdd, Nat.reduceEqDiff, Nat.reduceLT, Nat.reduceLeDiff, Nat.reduceMul, reduceCtorEq, ↓reduceIte])
  refine e_cp (cs := List.replicate xs.length (I 0)) rfl rfl hn (Nat.le_refl _) hr (oneI xs) hb1 (by simp) ?_
  intro w2 hb2 hm2 hs2
  (try simp only [go_sem, Nat.reduceAdd, Nat.reduceEqDiff, Nat.reduceLT, Nat.reduceLeDiff, Nat.reduceMul, reduceCtorEq, ↓reduceIte])
  exact ⟨_, rfl, by simpa using hb2, Nat.le_refl _, hm1.step hm2 (fun i hi hlt => by omega)⟩

/-- What 'places' wants of an arena: its nodes' slice. -/
def HasNodes (w : World) (a : Nat) (n : Nat) : Prop := ∃ T sz ba c col, w.heap[a]? = some (.cells #[sz, .slice ba n c, col] T (0, 0))

theorem places_ok (a n : Nat) (l : Value) (xs : List Int) (w : World) (ha : HasNodes w a n) (hx : Ints w l xs) :
    CallsR Try.prog 44 [.pointer (some ⟨a, 0, none⟩), l] w fun v w' => v = .bool (okPl n xs) ∧ w = w' := by
  obtain ⟨T, sz, ba, c, col, ha⟩ := ha
  obtain ⟨la, lc, rfl, hl, hx⟩ := hx
  refine fit44.calls rfl ?_
  unfold ir44
  (try simp only [go_sem, Nat.reduceAdd, Nat.reduceEqDiff, Nat.reduceLT, Nat.reduceLeDiff, Nat.reduceMul, reduceCtorEq, ↓reduceIte])
  refine ir_loop (fun m ρ w' => ∃ k : Nat, m = xs.length - k ∧ k ≤ xs.length ∧ w' = w ∧ okPl n (xs.take k) = true ∧
    ρ = [(0, .pointer (some ⟨a, 0, none⟩)), (7, .slice la xs.length lc), (8, .int .i64 xs.length), (9, .int .i64 k)]) xs.length ⟨0, rfl, by omega, rfl, by simp [okPl], rfl⟩ ?_
  rintro m ρ _ ⟨k, rfl, hk, rfl, hall, rfl⟩
  unfold ir44L1
  (try simp only [go_sem, Nat.reduceAdd, Nat.reduceEqDiff, Nat.reduceLT, Nat.reduceLeDiff, Nat.reduceMul, reduceCtorEq, ↓reduceIte])
  refine ir_cond rfl (fun h => ?_) (fun h => ?_)
  · have hlt : k < xs.length := by simpa using h
    obtain ⟨ad, rfl, hc⟩ := hx k hlt
    have c1 : (0 : Int) ≤ k ∧ (k : Int) < xs.length := by omega
    (try simp only [go_sem, Nat.reduceAdd, Nat.reduceEqDiff, Nat.reduceLT, Nat.reduceLeDiff, Nat.reduceMul, reduceCtorEq, ↓reduceIte, c1, hc, and_self, Int.toNat_natCast, Nat.mul_one])
    refine wpS_gr rfl (fun hg => ?_) (fun hg => ?_)
    · (try simp only [go_sem, Nat.reduceAdd, Nat.reduceEqDiff, Nat.reduceLT, Nat.reduceLeDiff, Nat.reduceMul, reduceCtorEq, ↓reduceIte, hg])
      rw [okPl, List.all_eq_false.2 ⟨xs[k], List.getElem_mem _, by simp at hg; simp; omega⟩]
    · (try simp only [go_sem, Nat.reduceAdd, Nat.reduceEqDiff, Nat.reduceLT, Nat.reduceLeDiff, Nat.reduceMul, reduceCtorEq, ↓reduceIte, hg, cell_of ha])
      refine ir_cond rfl (fun h2 => ?_) (fun h2 => ?_)
      · (try simp only [go_sem, Nat.reduceAdd, Nat.reduceEqDiff, Nat.reduceLT, Nat.reduceLeDiff, Nat.reduceMul, reduceCtorEq, ↓reduceIte])
        rw [okPl, List.all_eq_false.2 ⟨xs[k], List.getElem_mem _, by simp at h2; simp; omega⟩]
      · have hw : IntKind.i64.wrap ((k : Int) + 1) = ((k + 1 : Nat) : Int) := by rw [wrap_in] <;> omega
        (try simp only [go_sem, Nat.reduceAdd, Nat.reduceEqDiff, Nat.reduceLT, Nat.reduceLeDiff, Nat.reduceMul, reduceCtorEq, ↓reduceIte, hw])
        refine ⟨_, ?_, k + 1, rfl, hlt, ?_, rfl⟩
        · omega
        · unfold okPl at hall ⊢
          rw [List.take_succ_eq_append_getElem hlt, List.all_append, hall]
          simp at hg h2; simp; omega
  · have hk' : k = xs.length := by simp at h; omega
    subst hk'
    (try simp only [go_sem, Nat.reduceAdd, Nat.reduceEqDiff, Nat.reduceLT, Nat.reduceLeDiff, Nat.reduceMul, reduceCtorEq, ↓reduceIte])
    rw [List.take_length] at hall
    rw [hall]

theorem cellOf_ok (k n : Int) (v : Value) (xs : List Int) (w : World) (hx0 : Ints w v xs) :
    CallsR Try.prog 45 [.agg #[I k, I n, v]] w fun r w' => ∃ b, r = .agg #[I k, I n, .slice (some ⟨b, 0, none⟩) xs.length xs.length] ∧
      w'.heap[b]? = some (.cells (xs.map I).toArray 3 (0, 0)) ∧ w.heap.size ≤ b ∧ Mod (fun _ => False) w w' := by
  have hx := hx0
  obtain ⟨a, c, rfl, hl, _⟩ := hx0
  refine fit45.calls rfl ?_
  unfold ir45
  (try simp only [go_sem, Nat.reduceAdd, Nat.reduceEqDiff, Nat.reduceLT, Nat.reduceLeDiff, Nat.reduceMul, reduceCtorEq, ↓reduceIte])
  refine e_bx rfl ?_
  intro w1 hb1 hm1 hs1
  (try simp only [go_sem, Nat.reduceAdd, Nat.reduceEqDiff, Nat.reduceLT, Nat.reduceLeDiff, Nat.reduceMul, reduceCtorEq, ↓reduceIte])
  refine e_al ?_
  intro w2 hb2 hm2 hs2
  have hb1' := hm2.at hb1 (fun h => h)
  (try simp only [go_sem, Nat.reduceAdd, Nat.reduceEqDiff, Nat.reduceLT, Nat.reduceLeDiff, Nat.reduceMul, reduceCtorEq, ↓reduceIte, cell_of hb1'])
  have hx2 : Ints w2.drew (.slice a xs.length c) xs := (hx.mod (hm1.trans hm2.drew) (fun _ _ h => h))
  refine e_call (by rfl) ?_
  refine (copied_ok _ xs _ hx2).mono ?_
  rintro r w3 ⟨b, rfl, hb3, hge, hm3⟩
  have hm3 := hm3.of_drew
  have hlt := lt_of_heap hb1'
  (try simp only [go_sem, Nat.reduceAdd, Nat.reduceEqDiff, Nat.reduceLT, Nat.reduceLeDiff, Nat.reduceMul, reduceCtorEq, ↓reduceIte])
  refine ⟨hm3.old _ hlt (fun h => h), ?_⟩
  have hb2' := hm3.at hb2 (fun h => h)
  have hge : w2.heap.size ≤ b := hge
  refine e_sta rfl rfl hb2' rfl rfl (by simp [Value.oneCell']) ?_
  intro w4 hb4 hm4 hs4
  have hl2 := lt_of_heap hb2
  (try simp only [go_sem, Nat.reduceAdd, Nat.reduceEqDiff, Nat.reduceLT, Nat.reduceLeDiff, Nat.reduceMul, reduceCtorEq, ↓reduceIte, ln_of hb4 (off := 0) (n := 3) (by simp)])
  exact ⟨b, rfl, hm4.at hb3 (by omega), by omega, ((hm1.trans hm2).trans hm3).step hm4 (fun i hi hlt => by omega)⟩

theorem Args.mod' {w w' : World} {ps : List (Nd × Value)} {F S : Nat → Prop} (h : Args w ps F) (hm : Mod S w w') (hs : ∀ b cs fz, S b → w.heap[b]? = some (.cells cs 3 fz) → False) : Args w' ps F := by
  intro p hp
  obtain ⟨fp, h1, h2⟩ := h p hp
  exact ⟨fp, h1.mod' hm hs, h2⟩
theorem Args.app {w : World} {ps qs : List (Nd × Value)} {F : Nat → Prop} (h : Args w ps F) (k : Args w qs F) : Args w (ps ++ qs) F := by
  intro p hp
  rcases List.mem_append.1 hp with hp | hp
  · exact h p hp
  · exact k p hp

/-- An arena: its struct, its nodes' cells, their argument lists; F: all its blocks. -/
def ArenaAt (Ta Tc : Nat) (w : World) (a : Nat) (size times : Int) (ns : List Nd) (F : Nat → Prop) : Prop :=
  ∃ cv fpc ps, w.heap[a]? = some (.cells #[I size, cv, I times] Ta (0, 0)) ∧ F a ∧ Own w Tc 3 cv (flat ps) ns.length fpc ∧ (∀ b, fpc = some b → F b) ∧ Args w ps F ∧ ps.map Prod.fst = ns ∧ (∀ b, F b → b < w.heap.size)

theorem ArenaAt.mod {Ta Tc : Nat} {w w' : World} {a : Nat} {size times : Int} {ns : List Nd} {F S : Nat → Prop} (h : ArenaAt Ta Tc w a size times ns F) (hm : Mod S w w') (hd : ∀ b, F b → ¬ S b) :
    ArenaAt Ta Tc w' a size times ns F := by
  obtain ⟨cv, fpc, ps, h1, h2, h3, h4, h5, h6, h7⟩ := h
  exact ⟨cv, fpc, ps, hm.at h1 (hd a h2), h2, h3.mod hm (fun b hb => hd b (h4 b hb)), h4, h5.mod hm hd, h6, fun b hb => Nat.lt_of_lt_of_le (h7 b hb) hm.size⟩
/-- Behind a call: only blocks of F were written; what belongs to it now did, or is new. -/
def Grow (F F' : Nat → Prop) (w w' : World) : Prop := Mod F w w' ∧ ∀ b, F' b → F b ∨ w.heap.size ≤ b
theorem ArenaAt.has {Ta Tc : Nat} {w : World} {a : Nat} {size times : Int} {ns : List Nd} {F : Nat → Prop} (h : ArenaAt Ta Tc w a size times ns F) : HasNodes w a ns.length := by
  obtain ⟨cv, fpc, ps, h1, h2, h3, h4, h5, h6, h7⟩ := h
  obtain ⟨x, c, rfl, _⟩ := h3.val
  exact ⟨Ta, _, x, c, _, h1⟩

theorem used_ok (a : Nat) (size times : Int) (ns : List Nd) (F : Nat → Prop) (w : World) (h : ArenaAt 81 87 w a size times ns F) :
    CallsR Try.prog 47 [.pointer (some ⟨a, 0, none⟩)] w fun r w' => r = I ns.length ∧ w = w' := by
  obtain ⟨T, sz, x, c, col, h1⟩ := h.has
  refine fit47.calls rfl ?_
  unfold ir47
  (try simp only [go_sem, Nat.reduceAdd, Nat.reduceEqDiff, Nat.reduceLT, Nat.reduceLeDiff, Nat.reduceMul, reduceCtorEq, ↓reduceIte, cell_of h1])
theorem new_ok (size : Int) (w : World) :
    CallsR Try.prog 15 [I size] w fun r w' => (1 ≤ size ∧ size ≤ 1048576 → r = .tuple #[.pointer (some ⟨w.heap.size, 0, none⟩), I 0] ∧ ArenaAt 81 87 w' w.heap.size size 0 [] (· = w.heap.size) ∧ Mod (fun _ => False) w w' ∧ w'.heap.size = w.heap.size + 1) ∧
      (¬ (1 ≤ size ∧ size ≤ 1048576) → r = .tuple #[.pointer none, I 200] ∧ w = w') := by
  refine fit15.calls rfl ?_
  unfold ir15
  (try simp only [go_sem, Nat.reduceAdd, Nat.reduceEqDiff, Nat.reduceLT, Nat.reduceLeDiff, Nat.reduceMul, reduceCtorEq, ↓reduceIte])
  refine wpS_gr rfl (fun h => ?_) (fun h => ?_)
  · (try simp only [go_sem, Nat.reduceAdd, Nat.reduceEqDiff, Nat.reduceLT, Nat.reduceLeDiff, Nat.reduceMul, reduceCtorEq, ↓reduceIte, h])
    have h' : size < 1 := by simpa using h
    exact ⟨fun hh => by omega, fun _ => trivial⟩
  · (try simp only [go_sem, Nat.reduceAdd, Nat.reduceEqDiff, Nat.reduceLT, Nat.reduceLeDiff, Nat.reduceMul, reduceCtorEq, ↓reduceIte, h])
    have h' : ¬ size < 1 := by simpa using h
    refine ir_cond rfl (fun h2 => ?_) (fun h2 => ?_)
    · (try simp only [go_sem, Nat.reduceAdd, Nat.reduceEqDiff, Nat.reduceLT, Nat.reduceLeDiff, Nat.reduceMul, reduceCtorEq, ↓reduceIte])
      have h2' : size > 1048576 := by simpa using h2
      exact ⟨fun hh => by omega, fun _ => trivial⟩
    · (try simp only [go_sem, Nat.reduceAdd, Nat.reduceEqDiff, Nat.reduceLT, Nat.reduceLeDiff, Nat.reduceMul, reduceCtorEq, ↓reduceIte])
      have h2' : ¬ size > 1048576 := by simpa using h2
      refine e_bx rfl ?_
      intro w1 hb1 hm1 hs1
      (try simp only [go_sem, Nat.reduceAdd, Nat.reduceEqDiff, Nat.reduceLT, Nat.reduceLeDiff, Nat.reduceMul, reduceCtorEq, ↓reduceIte])
      refine ⟨fun _ => ⟨⟨_, none, [], hb1, rfl, Own.nil w1 87 3, (fun b h => by cases h), (fun p hp => by cases hp), rfl, (fun b hb => by omega)⟩, hm1, hs1⟩, fun hh => by omega⟩

def addS (size : Int) (ns : List Nd) (nd : Nd) : Int × Int × List Nd :=
  if nd.may = false then (0, 1, ns) else if okPl ns.length nd.args = false then (0, 202, ns) else if (ns.length : Int) = size then (0, 201, ns) else (ns.length, 0, ns ++ [nd])

def AddPost (Ta Tc : Nat) (a : Nat) (size times : Int) (F : Nat → Prop) (w : World) (s : Int × Int × List Nd) (r : Value) (w' : World) : Prop :=
  r = .tuple #[I s.1, I s.2.1] ∧ ∃ F', ArenaAt Ta Tc w' a size times s.2.2 F' ∧ Grow F F' w w'

theorem flat_one (p : Nd × Value) : flat [p] = nc p := by simp [flat]

theorem add_ok (a : Nat) (size times : Int) (ns : List Nd) (nd : Nd) (v : Value) (F : Nat → Prop) (w : World) (h : ArenaAt 81 87 w a size times ns F) (hle : (ns.length : Int) ≤ size) (hsz : size ≤ 1048576) (hx0 : Ints w v nd.args) :
    CallsR Try.prog 18 [.pointer (some ⟨a, 0, none⟩), .agg #[I nd.kind, I nd.num, v]] w (AddPost 81 87 a size times F w (addS size ns nd)) := by
  have hx := hx0
  obtain ⟨va, vc, rfl, hl, _⟩ := hx0
  refine fit18.calls rfl ?_
  unfold ir18
  (try simp only [go_sem, Nat.reduceAdd, Nat.reduceEqDiff, Nat.reduceLT, Nat.reduceLeDiff, Nat.reduceMul, reduceCtorEq, ↓reduceIte])
  refine e_bx rfl ?_
  intro w1 hb1 hm1 hs1
  have h1 := h.mod hm1 (fun _ _ h => h)
  have hx1 := hx.mod hm1 (fun _ _ h => h)
  have hd : vLN w1 3 (.pointer (some ⟨w.heap.size, 0, none⟩)) = some (.agg #[I nd.kind, I nd.num, .slice va nd.args.length vc]) := ln_of hb1 (off := 0) (n := 3) (by simp)
  have same : ∀ w2, Mod (fun _ => False) w1 w2 → ∃ F', ArenaAt 81 87 w2 a size times ns F' ∧ Grow F F' w w2 := fun w2 hm2 =>
    ⟨F, h1.mod hm2 (fun _ _ h => h), (hm1.trans hm2).weak (fun _ h => h.elim), fun b hb => .inl hb⟩
  (try simp only [go_sem, Nat.reduceAdd, Nat.reduceEqDiff, Nat.reduceLT, Nat.reduceLeDiff, Nat.reduceMul, reduceCtorEq, ↓reduceIte, hd])
  refine e_call (by rfl) ?_
  refine (may_ok nd.kind nd.num _ nd.args w1 hx1).mono ?_
  rintro r w2 ⟨rfl, hm2⟩
  have hb2 := hm2.at hb1 (fun h => h)
  (try simp only [go_sem, Nat.reduceAdd, Nat.reduceEqDiff, Nat.reduceLT, Nat.reduceLeDiff, Nat.reduceMul, reduceCtorEq, ↓reduceIte])
  refine ir_cond rfl (fun hc => ?_) (fun hc => ?_)
  · (try simp only [go_sem, Nat.reduceAdd, Nat.reduceEqDiff, Nat.reduceLT, Nat.reduceLeDiff, Nat.reduceMul, reduceCtorEq, ↓reduceIte])
    have hc' : nd.may = false := by simpa [Nd.may] using hc
    exact ⟨by simp [addS, hc'], by simpa [addS, hc'] using same w2 hm2⟩
  have hc1 : nd.may = true := by simpa [Nd.may] using hc
  have hx2 := hx1.mod hm2 (fun _ _ h => h)
  have h2 := h1.mod hm2 (fun _ _ h => h)
  (try simp only [go_sem, Nat.reduceAdd, Nat.reduceEqDiff, Nat.reduceLT, Nat.reduceLeDiff, Nat.reduceMul, reduceCtorEq, ↓reduceIte, cell_of hb2])
  refine e_call (by rfl) ?_
  refine (places_ok a ns.length _ nd.args w2 h2.has hx2).mono ?_
  rintro r _ ⟨rfl, rfl⟩
  (try simp only [go_sem, Nat.reduceAdd, Nat.reduceEqDiff, Nat.reduceLT, Nat.reduceLeDiff, Nat.reduceMul, reduceCtorEq, ↓reduceIte])
  refine ir_cond rfl (fun hc => ?_) (fun hc => ?_)
  · (try simp only [go_sem, Nat.reduceAdd, Nat.reduceEqDiff, Nat.reduceLT, Nat.reduceLeDiff, Nat.reduceMul, reduceCtorEq, ↓reduceIte])
    have hc' : okPl ns.length nd.args = false := by simpa using hc
    exact ⟨by simp [addS, hc', hc1], by simpa [addS, hc', hc1] using same w2 hm2⟩
  have hc2 : okPl ns.length nd.args = true := by simpa using hc
  obtain ⟨cv, fpc, ps, g1, g2, g3, g4, g5, g6, g7⟩ := h2
  obtain ⟨ca, cc, rfl, hcc, hca⟩ := g3.val
  (try simp only [go_sem, Nat.reduceAdd, Nat.reduceEqDiff, Nat.reduceLT, Nat.reduceLeDiff, Nat.reduceMul, reduceCtorEq, ↓reduceIte, cell_of g1])
  refine ir_cond rfl (fun hc => ?_) (fun hc => ?_)
  · (try simp only [go_sem, Nat.reduceAdd, Nat.reduceEqDiff, Nat.reduceLT, Nat.reduceLeDiff, Nat.reduceMul, reduceCtorEq, ↓reduceIte])
    have hc' : (ns.length : Int) = size := by simpa using hc
    exact ⟨by simp [addS, hc', hc1, hc2], by simpa [addS, hc', hc1, hc2] using same w2.drew hm2.drew⟩
  have hc3 : ¬ (ns.length : Int) = size := by simpa using hc
  have hd2 : vLN w2.drew.drew 3 (.pointer (some ⟨w.heap.size, 0, none⟩)) = some (.agg #[I nd.kind, I nd.num, .slice va nd.args.length vc]) := ln_of (w := w2.drew.drew) hb2 (off := 0) (n := 3) (by simp)
  (try simp only [go_sem, Nat.reduceAdd, Nat.reduceEqDiff, Nat.reduceLT, Nat.reduceLeDiff, Nat.reduceMul, reduceCtorEq, ↓reduceIte, cell_of g1, hd2])
  refine e_call (by rfl) ?_
  refine (cellOf_ok nd.kind nd.num _ nd.args w2.drew.drew hx2).mono ?_
  rintro r w3 ⟨b3, rfl, hb3, hge3, hm3⟩
  have hm3 : Mod (fun _ => False) w2 w3 := hm3.of_drew.of_drew
  have hge3 : w2.heap.size ≤ b3 := hge3
  have ga := hm3.at g1 (fun h => h)
  have gc := g3.mod hm3 (fun _ _ h => h)
  (try simp only [go_sem, Nat.reduceAdd, Nat.reduceEqDiff, Nat.reduceLT, Nat.reduceLeDiff, Nat.reduceMul, reduceCtorEq, ↓reduceIte])
  refine ⟨hm3.old _ (lt_of_heap g1) (fun h => h), ?_⟩
  refine e_bs (by rfl) (by (try simp only [go_sem, Nat.reduceAdd, Nat.reduceEqDiff, Nat.reduceLT, Nat.reduceLeDiff, Nat.reduceMul, reduceCtorEq, ↓reduceIte]); rfl) ?_
  intro w4 hb4 hm4 hs4
  (try simp only [go_sem, Nat.reduceAdd, Nat.reduceEqDiff, Nat.reduceLT, Nat.reduceLeDiff, Nat.reduceMul, reduceCtorEq, ↓reduceIte])
  refine ⟨hm4.old _ (lt_of_heap ga) (fun h => h), ?_⟩
  have ga4 := hm4.at ga (fun h => h)
  have gc4 := gc.mod hm4 (fun _ _ h => h)
  have hb4' := hm4.at hb3 (fun h => h)
  refine e_ap (m := 1) (news := nc (nd, .slice (some ⟨b3, 0, none⟩) nd.args.length nd.args.length)) rfl gc4 rfl (fun h => by cases h) (rd_block hb4) (by simp [nc, Value.oneCell']) rfl (by omega) (by omega) ?_
  intro v5 w5 fp5 ho5 hm5 hf5
  have hne : fpc ≠ some a := own_ne gc4 ga4 (by omega)
  have ga5 := hm5.at ga4 hne
  have hne3 : fpc ≠ some b3 := own_ne gc4 hb4' (by omega)
  have hb5' := hm5.at hb4' hne3
  obtain ⟨va5, vc5, rfl, _⟩ := ho5.val
  (try simp only [go_sem, Nat.reduceAdd, Nat.reduceEqDiff, Nat.reduceLT, Nat.reduceLeDiff, Nat.reduceMul, reduceCtorEq, ↓reduceIte])
  refine e_st1 (off := 1) rfl rfl ga5 rfl (by simp) ?_
  intro w6 hb6 hm6 hs6
  have hw : IntKind.i64.wrap (((ns.length + 1 : Nat) : Int) - 1) = ns.length := by rw [wrap_in] <;> omega
  (try simp only [go_sem, Nat.reduceAdd, Nat.reduceEqDiff, Nat.reduceLT, Nat.reduceLeDiff, Nat.reduceMul, reduceCtorEq, ↓reduceIte, cell_of hb6, hw])
  have la := lt_of_heap g1
  have hall : Mod F w w6 := (((((hm1.weak (fun _ h => h.elim)).step hm2 (fun _ h _ => h.elim)).step hm3 (fun _ h _ => h.elim)).step hm4 (fun _ h _ => h.elim)).step hm5 (fun i h _ => g4 i h)).step hm6 (fun i h _ => h ▸ g2)
  have hadd : addS size ns nd = ((ns.length : Int), 0, ns ++ [nd]) := by simp [addS, hc1, hc2, hc3]
  refine ⟨by rw [hadd], fun b => F b ∨ b = b3 ∨ fp5 = some b, ?_, hall, ?_⟩
  · rw [hadd]
    have hn5 : fp5 ≠ some a := own_ne ho5 ga5 (by omega)
    refine ⟨_, fp5, ps ++ [(nd, .slice (some ⟨b3, 0, none⟩) nd.args.length nd.args.length)], hb6, .inl g2, ?_, fun b hb => .inr (.inr hb), ?_, ?_, ?_⟩
    · rw [flat_app, flat_one]
      simpa using ho5.mod hm6 (fun b hb hh => hn5 (by rw [hb, hh]))
    · have e1 := ((g5.mod' (hm3.trans hm4) (fun _ _ _ h _ => h)).mod' hm5 (fun b cs fz hb hc => own_kind gc4 hb hc (by omega))).mod' hm6 (fun b cs fz hb hc => kind_ne ga5 (hb ▸ hc) (by omega))
      refine (e1.weak (fun b hb => .inl hb)).app ?_
      intro p hp
      simp only [List.mem_cons, List.not_mem_nil, or_false] at hp; subst hp
      refine ⟨some b3, Own.of_block (hm6.at hb5' (fun hh => kind_ne hb5' (hh ▸ ga5) (by omega))) (by simp), fun b hb => .inr (.inl (by cases hb; rfl))⟩
    · simp [g6]
    · intro b hb
      have := hm3.size; have := hm4.size; have := hm5.size; have := hm6.size; have := lt_of_heap hb3
      rcases hb with hb | hb | hb
      · have := g7 b hb; omega
      · omega
      · have := ho5.lt hb; omega
  · intro b hb
    have := hm1.size; have := hm2.size; have := hm3.size; have := hm4.size
    rcases hb with hb | hb | hb
    · exact .inl hb
    · exact .inr (by omega)
    · rcases hf5 b hb with hh | hh
      · exact .inl (g4 b hh)
      · exact .inr (by omega)
end Go.Proofs.Ytnimaifmcejkcaa
end

section
set_option linter.unusedSimpArgs false
set_option linter.unusedVariables false
namespace Go.Proofs.Ytnimaifmcejkcaa
open Go Go.W

theorem ints_block {w : World} {b T : Nat} {xs : List Int} (h : w.heap[b]? = some (.cells (xs.map I).toArray T (0, 0))) (hl : xs.length ≤ 17592186044416) :
    Ints w (.slice (some ⟨b, 0, none⟩) xs.length xs.length) xs := by
  refine ⟨some ⟨b, 0, none⟩, xs.length, rfl, hl, fun i hi => ⟨_, rfl, ?_⟩⟩
  rw [add_at, cell_of h]
  simp [hi]

theorem okPl_one (n : Nat) (x : Int) : okPl n [x] = decide (0 ≤ x ∧ x < n) := by
  simp [okPl]

/-- A slice in memory of its own, new since w. -/
def NewOwn (w w' : World) (v : Value) (xs : List Int) : Prop := ∃ fp, Own w' 3 1 v (xs.map I) xs.length fp ∧ ∀ b, fp = some b → w.heap.size ≤ b

def GetPost (w : World) (ns : List Nd) (at' : Int) (r : Value) (w' : World) : Prop :=
  Mod (fun _ => False) w w' ∧ (∀ i nd, at' = (i : Nat) → ns[i]? = some nd → ∃ v, r = .tuple #[.agg #[I nd.kind, I nd.num, v], I 0] ∧ NewOwn w w' v nd.args) ∧
    (¬ (0 ≤ at' ∧ at' < ns.length) → r = .tuple #[.agg #[I 0, I 0, .slice none 0 0], I 202])

theorem node_ln {w : World} {b T : Nat} {ps : List (Nd × Value)} {sp' : List Value} (h : w.heap[b]? = some (.cells (flat ps ++ sp').toArray T (0, 0))) {i : Nat} (hi : i < ps.length) :
    vLN w 3 (.pointer (some ⟨b, i * 3, none⟩)) = some (.agg #[I ps[i].1.kind, I ps[i].1.num, ps[i].2]) := by
  have hlen := flat_len ps
  rw [ln_of h (off := i * 3) (n := 3) (by simp; omega)]
  rw [List.drop_append_of_le_length (by omega), List.take_append_of_le_length (by simp; omega), flat_take_drop ps i hi]
  rfl
theorem node_cell {w : World} {b T : Nat} {ps : List (Nd × Value)} {sp' : List Value} (h : w.heap[b]? = some (.cells (flat ps ++ sp').toArray T (0, 0))) {i k : Nat} (hi : i < ps.length) (hk : k < 3) :
    w.cell? ⟨b, i * 3 + k, none⟩ = (nc ps[i])[k]? := by
  have hlen := flat_len ps
  rw [cell_of h, ← flat_at ps i k hi hk]
  simp only [List.getElem?_toArray]
  rw [List.getElem?_append_left (by omega)]

/-- An argument list reads as ints. -/
theorem Args.at {w : World} {ps : List (Nd × Value)} {F : Nat → Prop} (h : Args w ps F) {i : Nat} (hi : i < ps.length) (hl : ps[i].1.args.length ≤ 17592186044416) : Ints w ps[i].2 ps[i].1.args := by
  obtain ⟨fp, h1, _⟩ := h _ (List.getElem_mem hi)
  exact (h1.ints hl).1

theorem get_ok (a : Nat) (size times : Int) (ns : List Nd) (at' : Int) (F : Nat → Prop) (w : World) (h : ArenaAt 81 87 w a size times ns F) (hlen : ns.length ≤ 1048576) (hargs : ∀ nd ∈ ns, nd.args.length ≤ 8) :
    CallsR Try.prog 46 [.pointer (some ⟨a, 0, none⟩), I at'] w (GetPost w ns at') := by
  refine fit46.calls rfl ?_
  unfold ir46
  (try simp only [go_sem, Nat.reduceAdd, Nat.reduceEqDiff, Nat.reduceLT, Nat.reduceLeDiff, Nat.reduceMul, reduceCtorEq, ↓reduceIte])
  refine e_al ?_
  intro w1 hb1 hm1 hs1
  (try simp only [go_sem, Nat.reduceAdd, Nat.reduceEqDiff, Nat.reduceLT, Nat.reduceLeDiff, Nat.reduceMul, reduceCtorEq, ↓reduceIte])
  refine e_bs (by rfl) (by (try simp only [go_sem, Nat.reduceAdd, Nat.reduceEqDiff, Nat.reduceLT, Nat.reduceLeDiff, Nat.reduceMul, reduceCtorEq, ↓reduceIte]); rfl) ?_
  intro w2 hb2 hm2 hs2
  have hm12 := hm1.trans hm2
  have h2 := h.mod hm12 (fun _ _ h => h)
  have hx : Ints w2 (.slice (some ⟨w1.heap.size, 0, none⟩) 1 1) [at'] := ints_block (xs := [at']) hb2 (by simp)
  (try simp only [go_sem, Nat.reduceAdd, Nat.reduceEqDiff, Nat.reduceLT, Nat.reduceLeDiff, Nat.reduceMul, reduceCtorEq, ↓reduceIte])
  refine e_call (by rfl) ?_
  refine (places_ok a ns.length _ [at'] w2 h2.has hx).mono ?_
  rintro r _ ⟨rfl, rfl⟩
  rw [okPl_one]
  have hb1' := hm2.at hb1 (fun h => h)
  (try simp only [go_sem, Nat.reduceAdd, Nat.reduceEqDiff, Nat.reduceLT, Nat.reduceLeDiff, Nat.reduceMul, reduceCtorEq, ↓reduceIte])
  refine ir_cond rfl (fun hc => ?_) (fun hc => ?_)
  · have hc' : ¬ (0 ≤ at' ∧ at' < ns.length) := by simp at hc; omega
    (try simp only [go_sem, Nat.reduceAdd, Nat.reduceEqDiff, Nat.reduceLT, Nat.reduceLeDiff, Nat.reduceMul, reduceCtorEq, ↓reduceIte])
    refine e_sta rfl rfl hb1' rfl rfl (by simp [Value.oneCell']) ?_
    intro w3 hb3 hm3 hs3
    (try simp only [go_sem, Nat.reduceAdd, Nat.reduceEqDiff, Nat.reduceLT, Nat.reduceLeDiff, Nat.reduceMul, reduceCtorEq, ↓reduceIte, ln_of hb3 (off := 0) (n := 3) (by simp)])
    refine ⟨hm12.step hm3 (fun i hi hlt => by omega), fun i nd he hn => ?_, fun _ => rfl⟩
    exact absurd ⟨by omega, by have := (List.getElem?_eq_some_iff.1 hn).1; omega⟩ hc'
  · have hc' : 0 ≤ at' ∧ at' < ns.length := by simpa using hc
    obtain ⟨i, rfl⟩ : ∃ i : Nat, at' = i := ⟨at'.toNat, by omega⟩
    have hi : i < ns.length := by omega
    obtain ⟨cv, fpc, ps, g1, g2, g3, g4, g5, g6, g7⟩ := h2
    have hps : ps.length = ns.length := by rw [← g6]; simp
    obtain ⟨bc, cc, spc, rfl, rfl, gc, hcc, hcap⟩ := g3.pos (by omega)
    have hi' : i < ps.length := by omega
    have hnd : ps[i].1 = ns[i] := by simp [← g6]
    (try simp only [go_sem, Nat.reduceAdd, Nat.reduceEqDiff, Nat.reduceLT, Nat.reduceLeDiff, Nat.reduceMul, reduceCtorEq, ↓reduceIte, cell_of g1, hc', Int.toNat_natCast, node_ln gc hi'])
    refine e_al ?_
    intro w3 hb3 hm3 hs3
    (try simp only [go_sem, Nat.reduceAdd, Nat.reduceEqDiff, Nat.reduceLT, Nat.reduceLeDiff, Nat.reduceMul, reduceCtorEq, ↓reduceIte])
    have hav := g5.at hi' (by rw [hnd]; have := hargs ns[i] (List.getElem_mem hi); omega)
    obtain ⟨xa, xc, hav1, _, _⟩ := id hav
    rw [hav1]
    refine e_sta rfl rfl hb3 rfl rfl (by simp [Value.oneCell']) ?_
    intro w4 hb4 hm4 hs4
    have hx4 : Ints w4 (.slice xa ps[i].1.args.length xc) ps[i].1.args := by
      rw [hav1] at hav
      refine (hav.mod hm3 (fun _ _ h => h)).mod hm4 (fun b hb hh => ?_)
      obtain ⟨fp, k1, k2⟩ := g5 _ (List.getElem_mem hi')
      rw [hav1] at k1
      rcases k1.2 with ⟨k3, _, _⟩ | ⟨b', c', sp', k3, k4, k5, _⟩
      · simp only [Value.slice.injEq] at k3; obtain ⟨rfl, _⟩ := k3; simp [vblk] at hb
      · simp only [Value.slice.injEq] at k3; obtain ⟨rfl, _⟩ := k3
        simp only [vblk, Option.some.injEq] at hb; subst hb
        have := lt_of_heap k5
        omega
    (try simp only [go_sem, Nat.reduceAdd, Nat.reduceEqDiff, Nat.reduceLT, Nat.reduceLeDiff, Nat.reduceMul, reduceCtorEq, ↓reduceIte, cell_of hb4])
    refine e_call (by rfl) ?_
    refine (copied_ok _ _ w4.drew hx4).mono ?_
    rintro r w5 ⟨b5, rfl, hb5, hge5, hm5⟩
    have hm5 := hm5.of_drew
    have hge5 : w4.heap.size ≤ b5 := hge5
    (try simp only [go_sem, Nat.reduceAdd, Nat.reduceEqDiff, Nat.reduceLT, Nat.reduceLeDiff, Nat.reduceMul, reduceCtorEq, ↓reduceIte])
    refine ⟨hm5.old _ (lt_of_heap hb4) (fun h => h), ?_⟩
    have hb6 := hm5.at (hm4.at (hm3.at hb1' (fun h => h)) (by have := lt_of_heap hb1'; omega)) (fun h => h)
    refine e_sta rfl rfl hb6 rfl rfl (by simp [Value.oneCell']) ?_
    intro w6 hb7 hm6 hs6
    (try simp only [go_sem, Nat.reduceAdd, Nat.reduceEqDiff, Nat.reduceLT, Nat.reduceLeDiff, Nat.reduceMul, reduceCtorEq, ↓reduceIte, ln_of hb7 (off := 0) (n := 3) (by simp)])
    have l1 := lt_of_heap hb1'
    refine ⟨(((hm12.step hm3 (fun _ h _ => h)).step hm4 (fun j hj hlt => by omega)).step hm5 (fun _ h _ => h)).step hm6 (fun j hj hlt => by omega), fun j nd he hn => ?_, fun hh => absurd hc' hh⟩
    obtain rfl : i = j := by omega
    have e1 : nd = ps[i].1 := by
      rw [hnd]; rw [List.getElem?_eq_getElem hi] at hn; exact (Option.some.inj hn).symm
    subst e1
    refine ⟨_, rfl, some b5, Own.of_block (hm6.at hb5 (by omega)) (by simp), fun b hb => by cases hb; have := hm12.size; omega⟩

def setS (ns : List Nd) (at' : Int) (nd : Nd) : Int × List Nd :=
  if ¬ (0 ≤ at' ∧ at' < ns.length) then (202, ns) else if nd.may = false then (1, ns) else if okPl ns.length nd.args = false then (202, ns) else (0, ns.set at'.toNat nd)
def SetPost (Ta Tc : Nat) (a : Nat) (size times : Int) (F : Nat → Prop) (w : World) (s : Int × List Nd) (r : Value) (w' : World) : Prop :=
  r = I s.1 ∧ ∃ F', ArenaAt Ta Tc w' a size times s.2 F' ∧ Grow F F' w w'

theorem set_self (ns : List Nd) (i : Nat) (nd : Nd) (hi : i < ns.length) (h : ns[i] = nd) : ns.set i nd = ns := by
  subst h; exact List.set_getElem_self hi

theorem set_ok (a : Nat) (size times : Int) (ns : List Nd) (at' : Int) (nd : Nd) (v : Value) (F : Nat → Prop) (w : World) (h : ArenaAt 81 87 w a size times ns F) (hlen : ns.length ≤ 1048576)
    (hargs : ∀ nd ∈ ns, nd.args.length ≤ 8) (hx0 : Ints w v nd.args) :
    CallsR Try.prog 24 [.pointer (some ⟨a, 0, none⟩), I at', .agg #[I nd.kind, I nd.num, v]] w (SetPost 81 87 a size times F w (setS ns at' nd)) := by
  have hx := hx0
  obtain ⟨va, vc, rfl, hl, _⟩ := hx0
  refine fit24.calls rfl ?_
  unfold ir24
  (try simp only [go_sem, Nat.reduceAdd, Nat.reduceEqDiff, Nat.reduceLT, Nat.reduceLeDiff, Nat.reduceMul, reduceCtorEq, ↓reduceIte])
  refine e_bx rfl ?_
  intro w1 hb1 hm1 hs1
  (try simp only [go_sem, Nat.reduceAdd, Nat.reduceEqDiff, Nat.reduceLT, Nat.reduceLeDiff, Nat.reduceMul, reduceCtorEq, ↓reduceIte])
  refine e_bs (by rfl) (by (try simp only [go_sem, Nat.reduceAdd, Nat.reduceEqDiff, Nat.reduceLT, Nat.reduceLeDiff, Nat.reduceMul, reduceCtorEq, ↓reduceIte]); rfl) ?_
  intro w2 hb2 hm2 hs2
  have hm12 := hm1.trans hm2
  have h2 := h.mod hm12 (fun _ _ h => h)
  have hx1 : Ints w2 (.slice (some ⟨w1.heap.size, 0, none⟩) 1 1) [at'] := ints_block (xs := [at']) hb2 (by simp)
  have hx2 := hx.mod hm12 (fun _ _ h => h)
  have hb1' := hm2.at hb1 (fun h => h)
  have same : ∀ w3, Mod (fun _ => False) w2 w3 → ∃ F', ArenaAt 81 87 w3 a size times ns F' ∧ Grow F F' w w3 := fun w3 hm3 =>
    ⟨F, h2.mod hm3 (fun _ _ h => h), (hm12.trans hm3).weak (fun _ h => h.elim), fun b hb => .inl hb⟩
  (try simp only [go_sem, Nat.reduceAdd, Nat.reduceEqDiff, Nat.reduceLT, Nat.reduceLeDiff, Nat.reduceMul, reduceCtorEq, ↓reduceIte])
  refine e_call (by rfl) ?_
  refine (places_ok a ns.length _ [at'] w2 h2.has hx1).mono ?_
  rintro r _ ⟨rfl, rfl⟩
  rw [okPl_one]
  (try simp only [go_sem, Nat.reduceAdd, Nat.reduceEqDiff, Nat.reduceLT, Nat.reduceLeDiff, Nat.reduceMul, reduceCtorEq, ↓reduceIte])
  refine ir_cond rfl (fun hc => ?_) (fun hc => ?_)
  · have hc' : ¬ (0 ≤ at' ∧ at' < ns.length) := by simp at hc; omega
    (try simp only [go_sem, Nat.reduceAdd, Nat.reduceEqDiff, Nat.reduceLT, Nat.reduceLeDiff, Nat.reduceMul, reduceCtorEq, ↓reduceIte])
    have e : setS ns at' nd = (202, ns) := by unfold setS; rw [if_pos hc']
    rw [e]
    exact ⟨rfl, same w2 (Mod.refl _ _)⟩
  have hc' : 0 ≤ at' ∧ at' < ns.length := by simpa using hc
  obtain ⟨i, rfl⟩ : ∃ i : Nat, at' = i := ⟨at'.toNat, by omega⟩
  have hi : i < ns.length := by omega
  have hd : vLN w2 3 (.pointer (some ⟨w.heap.size, 0, none⟩)) = some (.agg #[I nd.kind, I nd.num, .slice va nd.args.length vc]) := ln_of hb1' (off := 0) (n := 3) (by simp)
  (try simp only [go_sem, Nat.reduceAdd, Nat.reduceEqDiff, Nat.reduceLT, Nat.reduceLeDiff, Nat.reduceMul, reduceCtorEq, ↓reduceIte, hd])
  refine e_call (by rfl) ?_
  refine (may_ok nd.kind nd.num _ nd.args w2 hx2).mono ?_
  rintro r w3 ⟨rfl, hm3⟩
  have hb3 := hm3.at hb1' (fun h => h)
  have h3 := h2.mod hm3 (fun _ _ h => h)
  have hx3 := hx2.mod hm3 (fun _ _ h => h)
  (try simp only [go_sem, Nat.reduceAdd, Nat.reduceEqDiff, Nat.reduceLT, Nat.reduceLeDiff, Nat.reduceMul, reduceCtorEq, ↓reduceIte])
  refine ir_cond rfl (fun hm => ?_) (fun hm => ?_)
  · (try simp only [go_sem, Nat.reduceAdd, Nat.reduceEqDiff, Nat.reduceLT, Nat.reduceLeDiff, Nat.reduceMul, reduceCtorEq, ↓reduceIte])
    have hm' : nd.may = false := by simpa [Nd.may] using hm
    have e : setS ns i nd = (1, ns) := by unfold setS; rw [if_neg (by simpa using hc'), if_pos hm']
    rw [e]
    exact ⟨rfl, same w3 hm3⟩
  have hm1' : nd.may = true := by simpa [Nd.may] using hm
  (try simp only [go_sem, Nat.reduceAdd, Nat.reduceEqDiff, Nat.reduceLT, Nat.reduceLeDiff, Nat.reduceMul, reduceCtorEq, ↓reduceIte, cell_of hb3])
  refine e_call (by rfl) ?_
  refine (places_ok a ns.length _ nd.args w3 h3.has hx3).mono ?_
  rintro r _ ⟨rfl, rfl⟩
  (try simp only [go_sem, Nat.reduceAdd, Nat.reduceEqDiff, Nat.reduceLT, Nat.reduceLeDiff, Nat.reduceMul, reduceCtorEq, ↓reduceIte])
  refine ir_cond rfl (fun ho => ?_) (fun ho => ?_)
  · (try simp only [go_sem, Nat.reduceAdd, Nat.reduceEqDiff, Nat.reduceLT, Nat.reduceLeDiff, Nat.reduceMul, reduceCtorEq, ↓reduceIte])
    have ho' : okPl ns.length nd.args = false := by simpa using ho
    have e : setS ns i nd = (202, ns) := by unfold setS; rw [if_neg (by simpa using hc'), if_neg (by simp [hm1']), if_pos ho']
    rw [e]
    exact ⟨rfl, same w3 hm3⟩
  have ho1 : okPl ns.length nd.args = true := by simpa using ho
  have e : setS ns i nd = (0, ns.set i nd) := by unfold setS; rw [if_neg (by simpa using hc'), if_neg (by simp [hm1']), if_neg (by simp [ho1])]; simp
  rw [e]
  obtain ⟨cv, fpc, ps, g1, g2, g3, g4, g5, g6, g7⟩ := h3
  have hps : ps.length = ns.length := by rw [← g6]; simp
  obtain ⟨bc, cc, spc, rfl, rfl, gc, hcc, hcap⟩ := g3.pos (by omega)
  have hi' : i < ps.length := by omega
  have hnd : ps[i].1 = ns[i] := by simp [← g6]
  have hflat := flat_len ps
  have hav := g5.at hi' (by rw [hnd]; have := hargs ns[i] (List.getElem_mem hi); omega)
  obtain ⟨xa, xc, hav1, _, _⟩ := id hav
  have c0 : w3.cell? ⟨bc, i * 3, none⟩ = some (I ps[i].1.kind) := by have := node_cell gc hi' (k := 0) (by omega); simpa [nc] using this
  have c1 : w3.cell? ⟨bc, i * 3 + 1, none⟩ = some (I ps[i].1.num) := by have := node_cell gc hi' (k := 1) (by omega); simpa [nc] using this
  have c2 : w3.cell? ⟨bc, i * 3 + 2, none⟩ = some (.slice xa ps[i].1.args.length xc) := by have := node_cell gc hi' (k := 2) (by omega); simpa [nc, hav1] using this
  have l2 : vLN w3.drew 2 (.pointer (some ⟨bc, i * 3, none⟩)) = some (.agg #[I ps[i].1.kind, I ps[i].1.num]) := by
    have := ln_of (w := w3.drew) gc (off := i * 3) (n := 2) (by simp; omega)
    rw [this, List.drop_append_of_le_length (by omega), List.take_append_of_le_length (by simp; omega)]
    have h3 := flat_take_drop ps i hi'
    have : ((flat ps).drop (i * 3)).take 2 = (nc ps[i]).take 2 := by rw [← h3, List.take_take]; rfl
    rw [this]
    rfl
  (try simp only [go_sem, Nat.reduceAdd, Nat.reduceEqDiff, Nat.reduceLT, Nat.reduceLeDiff, Nat.reduceMul, reduceCtorEq, ↓reduceIte, cell_of hb3])
  refine wpS_cut (fun ρ w' => w' = w3.drew ∧ ∃ q : Bool, (q = true → ns.set i nd = ns) ∧ ρ.get 0 = some (.pointer (some ⟨a, 0, none⟩)) ∧ ρ.get 1 = some (I i) ∧ ρ.get 5 = some (.pointer (some ⟨w.heap.size, 0, none⟩)) ∧ ρ.get 54 = some (.bool q)) ?_ ?_
  · refine wpS_gr rfl (fun hz => ?_) (fun hz => ?_)
    · have hz' : nd.args.length = 0 := Int.ofNat.inj (eq_of_beq hz)
      (try simp only [go_sem, Nat.reduceAdd, Nat.reduceEqDiff, Nat.reduceLT, Nat.reduceLeDiff, Nat.reduceMul, reduceCtorEq, ↓reduceIte, cell_of hb3, cell_of g1, hc', Int.toNat_natCast, l2, hz, c2])
      refine wpS_gr rfl (fun ht => ?_) (fun ht => ?_)
      · (try simp only [go_sem, Nat.reduceAdd, Nat.reduceEqDiff, Nat.reduceLT, Nat.reduceLeDiff, Nat.reduceMul, reduceCtorEq, ↓reduceIte, cell_of hb3, cell_of g1, hc', Int.toNat_natCast, l2, hz, c2, ht])
        refine ⟨_, fun hq => ?_, rfl⟩
        have q1 : ps[i].1.kind = nd.kind ∧ ps[i].1.num = nd.num := by simpa using ht
        have q2 : ps[i].1.args = [] := by
          have : (ps[i].1.args.length : Int) = 0 := by simpa using hq
          exact List.eq_nil_of_length_eq_zero (by omega)
        refine set_self ns i nd hi ?_
        rw [← hnd]
        have e3 : nd.args = [] := List.eq_nil_of_length_eq_zero hz'
        have : ∀ x y : Nd, x.kind = y.kind → x.num = y.num → x.args = y.args → x = y := by intro x y h1 h2 h3; cases x; cases y; simp_all
        exact this _ _ q1.1 q1.2 (by rw [q2, e3])
      · (try simp only [go_sem, Nat.reduceAdd, Nat.reduceEqDiff, Nat.reduceLT, Nat.reduceLeDiff, Nat.reduceMul, reduceCtorEq, ↓reduceIte, cell_of hb3, hz, ht])
        exact ⟨_, fun hq => (by cases hq), rfl⟩
    · (try simp only [go_sem, Nat.reduceAdd, Nat.reduceEqDiff, Nat.reduceLT, Nat.reduceLeDiff, Nat.reduceMul, reduceCtorEq, ↓reduceIte, cell_of hb3, hz])
      exact ⟨_, fun hq => (by cases hq), rfl⟩
  · rintro ρ _ ⟨rfl, q, hq, r0, r1, r5, r54⟩
    (try simp only [go_sem, Nat.reduceAdd, Nat.reduceEqDiff, Nat.reduceLT, Nat.reduceLeDiff, Nat.reduceMul, reduceCtorEq, ↓reduceIte, r0, r1, r5, r54])
    refine ir_cond rfl (fun ht => ?_) (fun ht => ?_)
    · (try simp only [go_sem, Nat.reduceAdd, Nat.reduceEqDiff, Nat.reduceLT, Nat.reduceLeDiff, Nat.reduceMul, reduceCtorEq, ↓reduceIte])
      rw [hq ht]
      exact ⟨rfl, same w3.drew hm3.drew⟩
    · have hd3 : vLN w3.drew.drew 3 (.pointer (some ⟨w.heap.size, 0, none⟩)) = some (.agg #[I nd.kind, I nd.num, .slice va nd.args.length vc]) := ln_of (w := w3.drew.drew) hb3 (off := 0) (n := 3) (by simp)
      (try simp only [go_sem, Nat.reduceAdd, Nat.reduceEqDiff, Nat.reduceLT, Nat.reduceLeDiff, Nat.reduceMul, reduceCtorEq, ↓reduceIte, cell_of g1, hd3])
      refine e_call (by rfl) ?_
      refine (cellOf_ok nd.kind nd.num _ nd.args w3.drew.drew hx3).mono ?_
      rintro r w4 ⟨b4, rfl, hb4, hge4, hm4⟩
      have hm4 : Mod (fun _ => False) w3 w4 := hm4.of_drew.of_drew
      have hge4 : w3.heap.size ≤ b4 := hge4
      (try simp only [go_sem, Nat.reduceAdd, Nat.reduceEqDiff, Nat.reduceLT, Nat.reduceLeDiff, Nat.reduceMul, reduceCtorEq, ↓reduceIte, hc', Int.toNat_natCast])
      refine ⟨hm4.old _ (lt_of_heap g1) (fun h => h), ?_⟩
      have gc4 := hm4.at gc (fun h => h)
      have ga4 := hm4.at g1 (fun h => h)
      refine e_stg rfl rfl gc4 rfl (by simp; omega) (by simp [Value.oneCell']) ?_
      intro w5 hb5 hm5 hs5
      (try simp only [go_sem, Nat.reduceAdd, Nat.reduceEqDiff, Nat.reduceLT, Nat.reduceLeDiff, Nat.reduceMul, reduceCtorEq, ↓reduceIte])
      have hne : a ≠ bc := fun hh => kind_ne ga4 (hh ▸ gc4) (by omega)
      have hsp := flat_set ps i (nd, .slice (some ⟨b4, 0, none⟩) nd.args.length nd.args.length) hi' spc
      have lc := lt_of_heap gc
      have la := lt_of_heap g1
      have l4 := lt_of_heap hb4
      have h45 := hm4.size; have h55 := hm5.size
      refine ⟨rfl, fun b => F b ∨ b = b4, ⟨_, some bc, ps.set i (nd, .slice (some ⟨b4, 0, none⟩) nd.args.length nd.args.length), hm5.at ga4 hne, .inl g2, ?_, fun b hb => .inl (g4 b hb), ?_, ?_, ?_⟩, ?_, ?_⟩
      · refine ⟨by rw [flat_len]; simp; omega, .inr ⟨bc, cc, spc, by simp, rfl, ?_, ?_, by simpa using hcc⟩⟩
        · rw [← hsp]; exact hb5
        · rw [List.length_append, flat_len, List.length_set, ← flat_len, ← List.length_append]; exact hcap
      · have e1 := (g5.mod' hm4 (fun _ _ _ h _ => h)).mod' hm5 (fun b cs fz hb hc => kind_ne gc4 (hb ▸ hc) (by omega))
        intro p hp
        rcases List.mem_or_eq_of_mem_set hp with hp | rfl
        · obtain ⟨fp, k1, k2⟩ := e1 p hp
          exact ⟨fp, k1, fun b hb => .inl (k2 b hb)⟩
        · exact ⟨some b4, Own.of_block (hm5.at hb4 (fun hh => kind_ne hb4 (hh ▸ gc4) (by omega))) (by simp), fun b hb => .inr (by cases hb; rfl)⟩
      · rw [List.map_set, g6]
      · intro b hb
        rcases hb with hb | hb
        · have := g7 b hb; omega
        · omega
      · exact (((hm12.trans hm3).weak (fun _ h => h.elim)).step hm4 (fun _ h _ => h.elim)).step hm5 (fun j hj _ => hj ▸ g4 bc rfl)
      · intro b hb
        have := (hm12.trans hm3).size
        rcases hb with hb | hb
        · exact .inl hb
        · exact .inr (by omega)
end Go.Proofs.Ytnimaifmcejkcaa
end

section
set_option linter.unusedSimpArgs false
set_option linter.unusedVariables false
namespace Go.Proofs.Ytnimaifmcejkcaa

def fit (f : Nat → Nat) : Nat → Nat → Nat
  | 0, x => x
  | k + 1, x => fit f k (f x)
theorem fit_add (f : Nat → Nat) (a b x : Nat) : fit f (a + b) x = fit f a (fit f b x) := by
  induction b generalizing x with
  | zero => rfl
  | succ b ih => exact ih (f x)
theorem fit_succ (f : Nat → Nat) (k x : Nat) : fit f (k + 1) x = f (fit f k x) := by
  rw [Nat.add_comm, fit_add]; rfl
theorem fit_lt {f : Nat → Nat} {n : Nat} (hf : ∀ x, x < n → f x < n) (k : Nat) {x : Nat} (hx : x < n) : fit f k x < n := by
  induction k generalizing x with
  | zero => exact hx
  | succ k ih => exact ih (hf x hx)

theorem nodup_le : ∀ (n : Nat) (l : List Nat), l.Nodup → (∀ x ∈ l, x < n) → l.length ≤ n := by
  intro n
  induction n with
  | zero =>
    intro l _ h
    cases l with
    | nil => simp
    | cons x l => exact absurd (h x List.mem_cons_self) (by omega)
  | succ n ih =>
    intro l hn h
    have h1 : (l.erase n).length ≤ n := by
      refine ih _ (hn.erase n) (fun x hx => ?_)
      have h2 := (hn.mem_erase_iff).1 hx
      have := h x h2.2
      have := h2.1
      omega
    by_cases hm : n ∈ l
    · rw [List.length_erase_of_mem hm] at h1; omega
    · rw [List.erase_of_not_mem hm] at h1; omega

theorem pigeon {f : Nat → Nat} {n x : Nat} (hf : ∀ x, x < n → f x < n) (hx : x < n) : ∃ i j, i < j ∧ j ≤ n ∧ fit f i x = fit f j x := by
  apply Classical.byContradiction
  intro hno
  have hnd : ((List.range (n + 1)).map (fun k => fit f k x)).Nodup := by
    unfold List.Nodup
    rw [List.pairwise_map]
    have hp : (List.range (n + 1)).Pairwise (· < ·) := List.pairwise_lt_range
    refine (hp.imp_of_mem ?_)
    intro i j hi hj hij he
    exact hno ⟨i, j, hij, by have := List.mem_range.1 hj; omega, he⟩
  have := nodup_le n _ hnd (by
    intro y hy
    obtain ⟨k, _, rfl⟩ := List.mem_map.1 hy
    exact fit_lt hf k hx)
  simp at this
  omega

section
variable {f : Nat → Nat} {n : Nat} (hf : ∀ x, x < n → f x < n)
include hf

theorem onRing {x : Nat} (hx : x < n) (m : Nat) (hm : n ≤ m) : ∃ d, 1 ≤ d ∧ d ≤ n ∧ fit f d (fit f m x) = fit f m x := by
  obtain ⟨i, j, hij, hj, he⟩ := pigeon hf hx
  refine ⟨j - i, by omega, by omega, ?_⟩
  have h1 : fit f m x = fit f (m - i) (fit f i x) := by rw [← fit_add]; congr 1; omega
  rw [← fit_add, show j - i + m = (m - i) + j by omega, fit_add, ← he, ← fit_add]
  congr 1; omega

omit hf in
theorem ring_mod {c d : Nat} (hd1 : 1 ≤ d) (hdn : d ≤ n) (hc : fit f d c = c) : ∀ m, ∃ k, k ≤ n ∧ fit f m c = fit f k c := by
  intro m
  induction m using Nat.strongRecOn with
  | _ m ih =>
    by_cases hm : m ≤ n
    · exact ⟨m, hm, rfl⟩
    · obtain ⟨k, hk, he⟩ := ih (m - d) (by omega)
      refine ⟨k, hk, ?_⟩
      rw [← he, show m = (m - d) + d by omega, fit_add, hc]
      congr 1; omega

omit hf in
theorem foldmin (l : List Nat) : ∀ a, (l.foldl min a = a ∨ l.foldl min a ∈ l) ∧ l.foldl min a ≤ a ∧ ∀ x ∈ l, l.foldl min a ≤ x := by
  induction l with
  | nil => intro a; simp
  | cons y l ih =>
    intro a
    obtain ⟨h1, h2, h3⟩ := ih (min a y)
    simp only [List.foldl_cons]
    refine ⟨?_, by omega, ?_⟩
    · rcases h1 with h1 | h1
      · by_cases hay : a ≤ y
        · left; rw [h1]; omega
        · right; rw [h1, show min a y = y by omega]; exact List.mem_cons_self
      · right; exact List.mem_cons_of_mem _ h1
    · intro x hx
      cases hx with
      | head => omega
      | tail _ hx => exact h3 x hx
omit hf

/-- The least number of the ring that x comes to. -/
def ov (f : Nat → Nat) (n x : Nat) : Nat := ((List.range (n + 1)).map (fun k => fit f k (fit f n x))).foldl min (fit f n x)

theorem ov_mem (f : Nat → Nat) (n x : Nat) : ∃ k, k ≤ n ∧ ov f n x = fit f (k + n) x := by
  have := (foldmin ((List.range (n + 1)).map (fun k => fit f k (fit f n x))) (fit f n x)).1
  unfold ov
  rcases this with h | h
  · exact ⟨0, by omega, by rw [h]; simp⟩
  · obtain ⟨k, hk, he⟩ := List.mem_map.1 h
    exact ⟨k, by have := List.mem_range.1 hk; omega, by rw [← he, fit_add]⟩
theorem ov_le (f : Nat → Nat) (n x k : Nat) (hk : k ≤ n) : ov f n x ≤ fit f k (fit f n x) :=
  (foldmin ((List.range (n + 1)).map (fun k => fit f k (fit f n x))) (fit f n x)).2.2 _ (List.mem_map.2 ⟨k, List.mem_range.2 (by omega), rfl⟩)

include hf
theorem ov_lt {x : Nat} (hx : x < n) : ov f n x < n := by
  obtain ⟨k, _, h⟩ := ov_mem f n x
  rw [h]; exact fit_lt hf _ hx
theorem ov_le' {x : Nat} (hx : x < n) (m : Nat) (hm : n ≤ m) : ov f n x ≤ fit f m x := by
  obtain ⟨d, h1, h2, h3⟩ := onRing hf hx n (Nat.le_refl _)
  obtain ⟨k, hk, he⟩ := ring_mod h1 h2 h3 (m - n)
  have : fit f m x = fit f k (fit f n x) := by rw [← he, ← fit_add]; congr 1; omega
  rw [this]; exact ov_le f n x k hk
theorem ov_f {x : Nat} (hx : x < n) : ov f n (f x) = ov f n x := by
  apply Nat.le_antisymm
  · obtain ⟨k, _, h⟩ := ov_mem f n x
    obtain ⟨d, h1, h2, h3⟩ := onRing hf hx (k + n) (by omega)
    rw [h, ← h3, ← fit_add, show d + (k + n) = (d + (k + n) - 1) + 1 by omega]
    exact ov_le' hf (hf x hx) (d + (k + n) - 1) (by omega)
  · obtain ⟨k, _, h⟩ := ov_mem f n (f x)
    rw [h]
    exact ov_le' hf hx (k + n + 1) (by omega)
theorem ov_fit {x : Nat} (hx : x < n) (k : Nat) : ov f n (fit f k x) = ov f n x := by
  induction k generalizing x with
  | zero => rfl
  | succ k ih => rw [show fit f (k + 1) x = fit f k (f x) from rfl, ih (hf x hx), ov_f hf hx]
theorem ov_ov {x : Nat} (hx : x < n) : ov f n (ov f n x) = ov f n x := by
  obtain ⟨k, _, h⟩ := ov_mem f n x
  conv => lhs; rw [h]
  exact ov_fit hf hx _
/-- Two that come to one ring come to one number. -/
theorem ov_eq {x y : Nat} (hx : x < n) (hy : y < n) : ov f n x = ov f n y ↔ ∃ a b, fit f a x = fit f b y := by
  constructor
  · intro h
    obtain ⟨a, _, ha⟩ := ov_mem f n x
    obtain ⟨b, _, hb⟩ := ov_mem f n y
    exact ⟨a + n, b + n, by rw [← ha, ← hb, h]⟩
  · rintro ⟨a, b, h⟩
    rw [← ov_fit hf hx a, h, ov_fit hf hy b]
omit hf
theorem fit_fix {t : Nat} (h : f t = t) : ∀ k, fit f k t = t := by
  intro k
  induction k with
  | zero => rfl
  | succ k ih => rw [fit_succ, ih, h]
theorem ov_fix {t : Nat} (h : f t = t) : ov f n t = t := by
  obtain ⟨k, _, he⟩ := ov_mem f n t
  rw [he, fit_fix h]
end
end Go.Proofs.Ytnimaifmcejkcaa
end

section
set_option linter.unusedSimpArgs false
set_option linter.unusedVariables false
namespace Go.Proofs.Ytnimaifmcejkcaa
open Go Go.W

def ndAt (ns : List Nd) (p : Nat) : Nd := ns.getD p ⟨0, 0, []⟩
def ind (ns : List Nd) (p : Nat) : Bool := decide ((ndAt ns p).kind = 5)
def nxt (ns : List Nd) (p : Nat) : Nat := if ind ns p then ((ndAt ns p).args.getD 0 0).toNat else p
/-- Every node may be, and leads to places. -/
def WF (ns : List Nd) : Prop := ∀ nd ∈ ns, nd.may = true ∧ okPl ns.length nd.args = true

theorem wf_at {ns : List Nd} (h : WF ns) {p : Nat} (hp : p < ns.length) : (ndAt ns p).may = true ∧ okPl ns.length (ndAt ns p).args = true := by
  have : ndAt ns p = ns[p] := by simp [ndAt, hp]
  rw [this]; exact h _ (List.getElem_mem hp)
theorem wf_ind {ns : List Nd} (h : WF ns) {p : Nat} (hp : p < ns.length) (hi : ind ns p = true) : ∃ q : Nat, q < ns.length ∧ (ndAt ns p).args = [(q : Int)] ∧ nxt ns p = q := by
  obtain ⟨h1, h2⟩ := wf_at h hp
  have hk : (ndAt ns p).kind = 5 := by simpa [ind] using hi
  simp only [Nd.may, mayB, hk, decide_eq_true_eq] at h1
  have hl : (ndAt ns p).args.length = 1 := by omega
  obtain ⟨x, hx⟩ := List.length_eq_one_iff.1 hl
  rw [hx] at h2
  rw [okPl_one] at h2
  simp only [decide_eq_true_eq] at h2
  refine ⟨x.toNat, by omega, by rw [hx]; congr 1; omega, by simp [nxt, hi, hx]⟩
theorem wf_nxt_lt {ns : List Nd} (h : WF ns) : ∀ p, p < ns.length → nxt ns p < ns.length := by
  intro p hp
  cases hi : ind ns p with
  | true => obtain ⟨q, h1, _, h2⟩ := wf_ind h hp hi; rw [h2]; exact h1
  | false => simp [nxt, hi, hp]
theorem nxt_fix {ns : List Nd} {p : Nat} (hi : ind ns p = false) : nxt ns p = p := by simp [nxt, hi]
theorem wf_args_le {ns : List Nd} (h : WF ns) : ∀ nd ∈ ns, nd.args.length ≤ 8 := by
  intro nd hn
  have := (h nd hn).1
  simp only [Nd.may, mayB, decide_eq_true_eq] at this
  omega

/-- What a place is, passed over. -/
def over (ns : List Nd) (p : Nat) : Nat := ov (nxt ns) ns.length p

/-- What 'over' may know: 0: nothing; else 1 and some place of the same thing, the same for all of them. -/
structure KI (ns : List Nd) (l : List Int) : Prop where
  len : l.length = ns.length
  rep : ∀ i, i < ns.length → l.getD i 0 ≠ 0 → ∃ e : Nat, l.getD i 0 = e + 1 ∧ e < ns.length ∧ over ns e = over ns i ∧ l.getD e 0 = e + 1 ∧ (ind ns e = true → ind ns (over ns i) = true)
  shut : ∀ i, i < ns.length → l.getD i 0 ≠ 0 → l.getD (nxt ns i) 0 ≠ 0
  one : ∀ i j, i < ns.length → j < ns.length → l.getD i 0 ≠ 0 → l.getD j 0 ≠ 0 → over ns i = over ns j → l.getD i 0 = l.getD j 0

theorem ki_fit {ns : List Nd} (hw : WF ns) {l : List Int} (h : KI ns l) {i : Nat} (hi : i < ns.length) (hk : l.getD i 0 ≠ 0) : ∀ k, l.getD (fit (nxt ns) k i) 0 ≠ 0 := by
  intro k
  induction k with
  | zero => exact hk
  | succ k ih => rw [fit_succ]; exact h.shut _ (fit_lt (wf_nxt_lt hw) k hi) ih

theorem ki_start (ns : List Nd) : KI ns (List.replicate ns.length 0) := by
  have h0 : ∀ i, (List.replicate ns.length (0 : Int)).getD i 0 = 0 := by intro i; simp [List.getElem?_replicate]; split <;> rfl
  refine ⟨by simp, fun i _ h => absurd (h0 i) h, fun i _ h => absurd (h0 i) h, fun i j _ _ h => absurd (h0 i) h⟩

/-- The way from p0 on: k places, none of them known, all different; x is where it ends; e is what they are. -/
theorem ki_pass {ns : List Nd} (hw : WF ns) {l l' : List Int} (h : KI ns l) {p0 k e : Nat} (hp : p0 < ns.length)
    (hun : ∀ j, j < k → ind ns (fit (nxt ns) j p0) = true ∧ l.getD (fit (nxt ns) j p0) 0 = 0)
    (hend : (e = fit (nxt ns) k p0 ∧ l.getD e 0 = 0 ∧ ((ind ns e = false) ∨ ∃ j, j < k ∧ e = fit (nxt ns) j p0)) ∨ (l.getD (fit (nxt ns) k p0) 0 = e + 1))
    (hl : l'.length = ns.length) (hl' : ∀ i, i < ns.length → l'.getD i 0 = if (∃ j, j ≤ k ∧ i = fit (nxt ns) j p0) then (e : Int) + 1 else l.getD i 0) :
    KI ns l' ∧ l'.getD p0 0 = e + 1 ∧ (∀ i, i < ns.length → l.getD i 0 ≠ 0 → l'.getD i 0 = l.getD i 0) := by
  have hf := (wf_nxt_lt hw)
  have onway : ∀ j, over ns (fit (nxt ns) j p0) = over ns p0 := fun j => ov_fit hf hp j
  have hxlt : ∀ j, fit (nxt ns) j p0 < ns.length := fun j => fit_lt hf j hp
  -- what is known of the same thing agrees with e
  have agree : ∀ i, i < ns.length → l.getD i 0 ≠ 0 → over ns i = over ns p0 → l.getD i 0 = e + 1 := by
    intro i hi hk ho
    rcases hend with ⟨he, h0, hor⟩ | hkn
    · exfalso
      obtain ⟨a, b, hab⟩ := (ov_eq hf hi (hxlt k)).1 (ho.trans (onway k).symm)
      have hka := ki_fit hw h hi hk a
      rw [hab] at hka
      rcases hor with hni | ⟨j, hj, hej⟩
      · rw [← he, fit_fix (nxt_fix hni) b] at hka
        exact hka h0
      · -- a ring: all its places are on the way
        have hring : ∀ b, ∃ j', j' < k ∧ fit (nxt ns) b (fit (nxt ns) k p0) = fit (nxt ns) j' p0 := by
          intro b
          have hper : fit (nxt ns) (k - j) (fit (nxt ns) j p0) = fit (nxt ns) j p0 := by
            rw [← fit_add, show k - j + j = k by omega, ← he, hej]
          induction b with
          | zero => exact ⟨j, hj, by show fit (nxt ns) k p0 = _; rw [← he, hej]⟩
          | succ b ihb =>
            obtain ⟨j', hj', hb⟩ := ihb
            rw [fit_succ, hb, ← fit_succ (nxt ns)]
            by_cases hlast : j' + 1 < k
            · exact ⟨j' + 1, hlast, rfl⟩
            · have : j' + 1 = k := by omega
              rw [this]
              exact ⟨j, hj, by rw [← he, hej]⟩
        obtain ⟨j', hj', hb⟩ := hring b
        rw [hb] at hka
        exact hka (hun j' hj').2
    · rw [← hkn]
      exact h.one _ _ hi (hxlt k) hk (by rw [hkn]; omega) (ho.trans (onway k).symm)
  have keep : ∀ i, i < ns.length → l.getD i 0 ≠ 0 → l'.getD i 0 = l.getD i 0 := by
    intro i hi hk
    rw [hl' i hi]
    split
    · rename_i hex
      obtain ⟨j, _, rfl⟩ := hex
      exact (agree _ hi hk (onway j)).symm
    · rfl
  have elt : e < ns.length ∧ over ns e = over ns p0 ∧ l'.getD e 0 = e + 1 ∧ (ind ns e = true → ind ns (over ns p0) = true) := by
    rcases hend with ⟨he, h0, hor⟩ | hkn
    · refine ⟨by rw [he]; exact hxlt k, by rw [he]; exact onway k, ?_, ?_⟩
      · rw [hl' e (by rw [he]; exact hxlt k), if_pos ⟨k, Nat.le_refl _, he⟩]
      · intro hi
        rcases hor with hni | ⟨j, hj, hej⟩
        · rw [hni] at hi; cases hi
        · -- over p0 is on the ring, whose places are all on the way
          obtain ⟨q, _, hq⟩ := ov_mem (nxt ns) ns.length p0
          have hallind : ∀ m, ind ns (fit (nxt ns) m p0) = true := by
            intro m
            have : ∃ j', j' < k ∧ fit (nxt ns) m p0 = fit (nxt ns) j' p0 := by
              induction m with
              | zero => exact ⟨0, by omega, rfl⟩
              | succ m ihm =>
                obtain ⟨j', hj', hm⟩ := ihm
                rw [fit_succ, hm, ← fit_succ (nxt ns)]
                by_cases hlast : j' + 1 < k
                · exact ⟨j' + 1, hlast, rfl⟩
                · have : j' + 1 = k := by omega
                  rw [this]
                  exact ⟨j, hj, by rw [← he, hej]⟩
            obtain ⟨j', hj', hm⟩ := this
            rw [hm]; exact (hun j' hj').1
          show ind ns (ov (nxt ns) ns.length p0) = true
          rw [hq]; exact hallind _
    · obtain ⟨e', h1, h2, h3, h4, h5⟩ := h.rep _ (hxlt k) (by rw [hkn]; omega)
      have : e' = e := by omega
      subst this
      refine ⟨h2, h3.trans (onway k), by rw [keep _ h2 (by rw [h4]; omega)]; exact h4, ?_⟩
      intro hi
      have := h5 hi
      rwa [onway k] at this
  refine ⟨⟨hl, ?_, ?_, ?_⟩, ?_, keep⟩
  · intro i hi hk
    rw [hl' i hi] at hk
    by_cases hex : ∃ j, j ≤ k ∧ i = fit (nxt ns) j p0
    · obtain ⟨j, hj, rfl⟩ := hex
      refine ⟨e, by rw [hl' _ hi, if_pos ⟨j, hj, rfl⟩], elt.1, elt.2.1.trans (onway j).symm, elt.2.2.1, fun hh => by rw [onway j]; exact elt.2.2.2 hh⟩
    · rw [if_neg hex] at hk
      obtain ⟨e', h1, h2, h3, h4, h5⟩ := h.rep i hi hk
      exact ⟨e', by rw [hl' i hi, if_neg hex, h1], h2, h3, by rw [keep e' h2 (by rw [h4]; omega), h4], h5⟩
  · intro i hi hk
    rw [hl' i hi] at hk
    rw [hl' _ (hf i hi)]
    by_cases hex2 : ∃ j, j ≤ k ∧ nxt ns i = fit (nxt ns) j p0
    · rw [if_pos hex2]; omega
    · rw [if_neg hex2]
      by_cases hex : ∃ j, j ≤ k ∧ i = fit (nxt ns) j p0
      · obtain ⟨j, hj, rfl⟩ := hex
        by_cases hjk : j < k
        · exact absurd ⟨j + 1, by omega, by rw [fit_succ]⟩ hex2
        · have : j = k := by omega
          subst this
          rcases hend with ⟨he, h0, hor⟩ | hkn
          · rcases hor with hni | ⟨j', hj', hej⟩
            · exact absurd ⟨j, Nat.le_refl _, by rw [← he]; exact nxt_fix hni⟩ hex2
            · exact absurd ⟨j' + 1, by omega, by rw [← he, hej, fit_succ]⟩ hex2
          · exact h.shut _ hi (by rw [hkn]; omega)
      · rw [if_neg hex] at hk
        exact h.shut i hi hk
  · intro i j hi hj hki hkj ho
    have val : ∀ i, i < ns.length → l'.getD i 0 ≠ 0 → over ns i = over ns p0 → l'.getD i 0 = e + 1 := by
      intro i hi hk ho
      rw [hl' i hi] at hk ⊢
      split
      · rfl
      · rename_i hex; rw [if_neg hex] at hk; exact agree i hi hk ho
    by_cases hpo : over ns i = over ns p0
    · rw [val i hi hki hpo, val j hj hkj (ho ▸ hpo)]
    · have hni : ∀ i, over ns i ≠ over ns p0 → ¬ ∃ j, j ≤ k ∧ i = fit (nxt ns) j p0 := by
        rintro i hne ⟨j, _, rfl⟩; exact hne (onway j)
      rw [hl' i hi, if_neg (hni i hpo)] at hki ⊢
      rw [hl' j hj, if_neg (hni j (ho ▸ hpo))] at hkj ⊢
      exact h.one i j hi hj hki hkj ho
  · rw [hl' p0 hp, if_pos ⟨0, by omega, rfl⟩]
end Go.Proofs.Ytnimaifmcejkcaa
end

section
set_option linter.unusedSimpArgs false
set_option linter.unusedVariables false
namespace Go.Proofs.Ytnimaifmcejkcaa
open Go Go.W

/-- Nodes that are read, all in blocks of F. -/
def FromAt (Tc : Nat) (w : World) (cf : Value) (ns : List Nd) (F : Nat → Prop) : Prop :=
  ∃ fpc ps, Own w Tc 3 cf (flat ps) ns.length fpc ∧ (∀ b, fpc = some b → F b) ∧ Args w ps F ∧ ps.map Prod.fst = ns ∧ ∀ b, F b → b < w.heap.size
theorem FromAt.mod {Tc : Nat} {w w' : World} {cf : Value} {ns : List Nd} {F S : Nat → Prop} (h : FromAt Tc w cf ns F) (hm : Mod S w w') (hd : ∀ b, F b → ¬ S b) : FromAt Tc w' cf ns F := by
  obtain ⟨fpc, ps, h1, h2, h3, h4, h5⟩ := h
  exact ⟨fpc, ps, h1.mod hm (fun b hb => hd b (h2 b hb)), h2, h3.mod hm hd, h4, fun b hb => Nat.lt_of_lt_of_le (h5 b hb) hm.size⟩

theorem from_at {Tc : Nat} {w : World} {cf : Value} {ns : List Nd} {F : Nat → Prop} (h : FromAt Tc w cf ns F) (hargs : ∀ nd ∈ ns, nd.args.length ≤ 8) {i : Nat} (hi : i < ns.length) :
    ∃ bc cc v, cf = .slice (some ⟨bc, 0, none⟩) ns.length cc ∧ w.cell? ⟨bc, i * 3, none⟩ = some (I (ndAt ns i).kind) ∧ w.cell? ⟨bc, i * 3 + 1, none⟩ = some (I (ndAt ns i).num) ∧
      w.cell? ⟨bc, i * 3 + 2, none⟩ = some v ∧ Ints w v (ndAt ns i).args ∧ (∀ b, vblk v = some b → F b) ∧ vLN w 2 (.pointer (some ⟨bc, i * 3, none⟩)) = some (.agg #[I (ndAt ns i).kind, I (ndAt ns i).num]) := by
  obtain ⟨fpc, ps, h1, h2, h3, h4, h5⟩ := h
  have hps : ps.length = ns.length := by rw [← h4]; simp
  obtain ⟨bc, cc, spc, rfl, rfl, gc, hcc, hcap⟩ := h1.pos (by omega)
  have hi' : i < ps.length := by omega
  have hnd : ps[i].1 = ndAt ns i := by
    have e1 : ndAt ns i = ns[i] := by simp [ndAt, hi]
    rw [e1]; simp [← h4]
  have hflat := flat_len ps
  have hle : ps[i].1.args.length ≤ 17592186044416 := by
    have := hargs ns[i] (List.getElem_mem hi)
    rw [hnd]; simp only [ndAt, List.getD_eq_getElem?_getD, List.getElem?_eq_getElem hi, Option.getD_some]; omega
  have hav := h3.at hi' hle
  refine ⟨bc, cc, ps[i].2, rfl, ?_, ?_, ?_, hnd ▸ hav, ?_, ?_⟩
  · have := node_cell gc hi' (k := 0) (by omega); rw [← hnd]; simpa [nc] using this
  · have := node_cell gc hi' (k := 1) (by omega); rw [← hnd]; simpa [nc] using this
  · have := node_cell gc hi' (k := 2) (by omega); simpa [nc] using this
  · intro b hb
    obtain ⟨fp, k1, k2⟩ := h3 _ (List.getElem_mem hi')
    refine k2 b ?_
    rcases k1.2 with ⟨k3, _, _⟩ | ⟨b', c', sp', k3, k4, _, _⟩
    · rw [k3] at hb; cases hb
    · rw [k3] at hb; cases hb; exact k4
  · have := ln_of (w := w) gc (off := i * 3) (n := 2) (by simp; omega)
    rw [this, List.drop_append_of_le_length (by omega), List.take_append_of_le_length (by simp; omega)]
    have h3 := flat_take_drop ps i hi'
    have : ((flat ps).drop (i * 3)).take 2 = (nc ps[i]).take 2 := by rw [← h3, List.take_take]; rfl
    rw [this, ← hnd]
    rfl

theorem own_cut {w : World} {T sz : Nat} {a : Option Addr} {n c : Nat} {xs : List Value} {fp : Option Nat} (h : Own w T sz (.slice a n c) xs n fp) : Own w T sz (.slice a 0 c) [] 0 fp := by
  refine ⟨by simp, ?_⟩
  rcases h.2 with ⟨h1, h2, h3⟩ | ⟨b, c', sp', h1, h2, h3, h4, h5⟩
  · cases h1; exact .inl ⟨rfl, rfl, h3⟩
  · cases h1
    exact .inr ⟨b, c, xs ++ sp', rfl, h2, by simpa using h3, by simpa using h4, Nat.zero_le _⟩

/-- What pass has to do with: the mover, 'over', the way. -/
def PW (w : World) (bm bo : Nat) (cf to mv pa : Value) (n : Nat) (l path : List Int) (pfp : Option Nat) : Prop :=
  w.heap[bm]? = some (.cells #[cf, to, .slice (some ⟨bo, 0, none⟩) n n, mv, pa] 100 (0, 0)) ∧ w.heap[bo]? = some (.cells (l.map I).toArray 3 (0, 0)) ∧ Own w 3 1 pa (path.map I) path.length pfp ∧ pfp ≠ some bo

def PassPost (ns : List Nd) (w : World) (bm bo : Nat) (cf to mv : Value) (l : List Int) (pfp : Option Nat) (p0 : Nat) (r : Value) (w' : World) : Prop :=
  ∃ (e : Nat) (l' : List Int) (pa' : Value) (path' : List Int) (pfp' : Option Nat), r = I e ∧ KI ns l' ∧ l'.getD p0 0 = e + 1 ∧ (∀ i, i < ns.length → l.getD i 0 ≠ 0 → l'.getD i 0 = l.getD i 0) ∧
    PW w' bm bo cf to mv pa' ns.length l' path' pfp' ∧ Mod (fun b => b = bm ∨ b = bo ∨ pfp = some b) w w' ∧ (∀ b, pfp' = some b → pfp = some b ∨ w.heap.size ≤ b) ∧ path'.length ≤ 1048576

theorem ints_at {w : World} {b T : Nat} {l : List Int} (h : w.heap[b]? = some (.cells (l.map I).toArray T (0, 0))) {i : Nat} (hi : i < l.length) : w.cell? ⟨b, i, none⟩ = some (I (l.getD i 0)) := by
  rw [cell_of h]; simp [hi]

def onWay (ns : List Nd) (p0 k i : Nat) : Prop := ∃ j, j < k ∧ i = fit (nxt ns) j p0

theorem getD_set (l : List Int) (i j : Nat) (v : Int) (hi : i < l.length) : (l.set i v).getD j 0 = if i = j then v else l.getD j 0 := by
  simp only [List.getD_eq_getElem?_getD, List.getElem?_set]
  split
  · rename_i h; subst h; simp [hi]
  · rfl
theorem map_set (l : List Int) (i : Nat) (v : Int) : (l.map I).set i (I v) = (l.set i v).map I := by simp [List.map_set]

theorem count_set (l : List Int) (i : Nat) (hi : i < l.length) (h0 : l.getD i 0 = 0) : (l.set i (-1)).count 0 + 1 = l.count 0 := by
  have h1 : l[i] = 0 := by simpa [hi] using h0
  have hpos : 0 < l.count 0 := List.count_pos_iff.2 (h1 ▸ List.getElem_mem hi)
  rw [List.count_set hi, h1]
  simp
  omega

theorem pass_ok (ns : List Nd) (hw : WF ns) (hn : ns.length ≤ 1048576) (w : World) (bm bo : Nat) (cf to mv pa : Value) (l path : List Int) (pfp : Option Nat) (F : Nat → Prop)
    (hfr : FromAt 87 w cf ns F) (hd : ∀ b, F b → ¬ (b = bm ∨ b = bo ∨ pfp = some b)) (hp : PW w bm bo cf to mv pa ns.length l path pfp) (hk : KI ns l) (p0 : Nat) (hp0 : p0 < ns.length) :
    CallsR Try.prog 74 [.pointer (some ⟨bm, 0, none⟩), I p0] w (PassPost ns w bm bo cf to mv l pfp p0) := by
  have hargs := wf_args_le hw
  have hf := wf_nxt_lt hw
  have hlt : ∀ j, fit (nxt ns) j p0 < ns.length := fun j => fit_lt hf j hp0
  obtain ⟨m1, m2, m3, m4⟩ := hp
  obtain ⟨xa, xc, rfl, hxc, _⟩ := m3.val
  have m3' := own_cut m3
  refine fit74.calls rfl ?_
  unfold ir74
  have z1 : (0 : Int) ≤ 0 ∧ (0 : Int) ≤ xc := by omega
  have z2 : (if xc = 0 then xa else Option.map (fun x => x) xa) = xa := by cases xa <;> simp
  (try simp only [go_sem, Nat.reduceAdd, Nat.reduceEqDiff, Nat.reduceLT, Nat.reduceLeDiff, Nat.reduceMul, reduceCtorEq, ↓reduceIte, cell_of m1, z1, z2, and_self, Int.toNat_zero, Nat.sub_zero, Nat.sub_self])
  refine e_st1 (off := 4) rfl rfl m1 rfl (by simp) ?_
  intro w1 hb1 hm1 hs1
  have hbmo : bm ≠ bo := fun h => by subst h; exact kind_ne m2 m1 (by omega)
  have n2 := hm1.at m2 (fun h => hbmo h.symm)
  have n3 := m3'.mod hm1 (fun b hb hh => own_kind m3' hb (hh ▸ m1) (by omega))
  (try simp only [go_sem, Nat.reduceAdd, Nat.reduceEqDiff, Nat.reduceLT, Nat.reduceLeDiff, Nat.reduceMul, reduceCtorEq, ↓reduceIte])
  refine ir_loop (fun m ρ w' => ∃ (k : Nat) (lk : List Int) (pa : Value) (pk : Option Nat), m = lk.count 0 ∧ lk.length = ns.length ∧ k + lk.count 0 = l.count 0 ∧
    (∀ i, i < ns.length → (onWay ns p0 k i → lk.getD i 0 = -1) ∧ (¬ onWay ns p0 k i → lk.getD i 0 = l.getD i 0)) ∧
    (∀ j, j < k → ind ns (fit (nxt ns) j p0) = true ∧ l.getD (fit (nxt ns) j p0) 0 = 0) ∧
    PW w' bm bo cf to mv pa ns.length lk ((List.range k).map (fun j => (fit (nxt ns) j p0 : Int))) pk ∧ Mod (fun b => b = bm ∨ b = bo ∨ pfp = some b) w w' ∧ (∀ b, pk = some b → pfp = some b ∨ w.heap.size ≤ b) ∧
    ρ = [(0, .pointer (some ⟨bm, 0, none⟩)), (1, I (fit (nxt ns) k p0 : Nat))]) (l.count 0)
    ⟨0, l, _, pfp, rfl, hk.len, by omega, fun i hi => ⟨fun ⟨j, hj, _⟩ => by omega, fun _ => rfl⟩, fun j hj => by omega, ⟨hb1, n2, n3, m4⟩, hm1.weak (fun b hb => .inl hb), fun b hb => .inl hb, rfl⟩ ?_
  rintro m ρ w2 ⟨k, lk, pk, pkf, rfl, hkl, hkc, hkv, hkn, ⟨p1, p2, p3, p4⟩, hm2, hpk, rfl⟩
  unfold ir74L1
  have hfr2 := hfr.mod hm2 hd
  obtain ⟨bc, cc, v, rfl, c0, c1, c2, cx, cb, cl⟩ := from_at hfr2 hargs (hlt k)
  have hx := ints_at p2 (i := fit (nxt ns) k p0) (by rw [hkl]; exact hlt k)
  have b1 : (0 : Int) ≤ (fit (nxt ns) k p0 : Nat) ∧ ((fit (nxt ns) k p0 : Nat) : Int) < ns.length := by have := hlt k; omega
  have hkx : lk.getD (fit (nxt ns) k p0) 0 = 0 ∨ lk.getD (fit (nxt ns) k p0) 0 ≠ 0 := by omega
  (try simp only [go_sem, Nat.reduceAdd, Nat.reduceEqDiff, Nat.reduceLT, Nat.reduceLeDiff, Nat.reduceMul, reduceCtorEq, ↓reduceIte, Nat.mul_one, Int.toNat_natCast, Int.toNat_zero, Nat.sub_zero, Nat.sub_self, cell_of p1, b1, hx])
  refine wpS_cut (fun ρ w' => w2 = w' ∧ ∃ q : Bool, (q = true → lk.getD (fit (nxt ns) k p0) 0 = 0 ∧ ind ns (fit (nxt ns) k p0) = true) ∧ (q = false → lk.getD (fit (nxt ns) k p0) 0 ≠ 0 ∨ ind ns (fit (nxt ns) k p0) = false) ∧
      ρ.get 0 = some (.pointer (some ⟨bm, 0, none⟩)) ∧ ρ.get 1 = some (I (fit (nxt ns) k p0 : Nat)) ∧ ρ.get 35 = some (.bool q)) ?_ ?_
  · refine wpS_gr rfl (fun hz => ?_) (fun hz => ?_)
    · (try simp only [go_sem, Nat.reduceAdd, Nat.reduceEqDiff, Nat.reduceLT, Nat.reduceLeDiff, Nat.reduceMul, reduceCtorEq, ↓reduceIte, Nat.mul_one, Int.toNat_natCast, Int.toNat_zero, Nat.sub_zero, Nat.sub_self, cell_of p1, b1, hz, c0])
      have hz' : lk.getD (fit (nxt ns) k p0) 0 = 0 := by simpa using hz
      exact ⟨_, fun h => ⟨hz', h⟩, fun h => .inr h, rfl⟩
    · (try simp only [go_sem, Nat.reduceAdd, Nat.reduceEqDiff, Nat.reduceLT, Nat.reduceLeDiff, Nat.reduceMul, reduceCtorEq, ↓reduceIte, Nat.mul_one, Int.toNat_natCast, Int.toNat_zero, Nat.sub_zero, Nat.sub_self, hz])
      have hz' : lk.getD (fit (nxt ns) k p0) 0 ≠ 0 := by simpa using hz
      exact ⟨_, fun h => (by cases h), fun _ => .inl hz', rfl⟩
  rintro ρ _ ⟨rfl, q, hq1, hq2, r0, r1, r35⟩
  (try simp only [go_sem, Nat.reduceAdd, Nat.reduceEqDiff, Nat.reduceLT, Nat.reduceLeDiff, Nat.reduceMul, reduceCtorEq, ↓reduceIte, r0, r1, r35])
  refine ir_cond rfl (fun hq => ?_) (fun hq => ?_)
  · obtain ⟨hz, hi⟩ := hq1 hq
    obtain ⟨q', hq', ha, hnx⟩ := wf_ind hw (hlt k) hi
    (try simp only [go_sem, Nat.reduceAdd, Nat.reduceEqDiff, Nat.reduceLT, Nat.reduceLeDiff, Nat.reduceMul, reduceCtorEq, ↓reduceIte, Nat.mul_one, Int.toNat_natCast, Int.toNat_zero, Nat.sub_zero, Nat.sub_self, cell_of p1, b1])
    refine e_st1 (off := fit (nxt ns) k p0) rfl rfl p2 rfl (by simp; rw [hkl]; exact hlt k) ?_
    intro w3 hb3 hm3 hs3
    rw [map_set] at hb3
    have hcount := count_set lk (fit (nxt ns) k p0) (by rw [hkl]; exact hlt k) hz
    have hkn' : k + 1 ≤ ns.length := by
      have := List.count_le_length (a := (0 : Int)) (l := l)
      rw [hk.len] at this; omega
    have q1 := hm3.at p1 hbmo
    have q3 := p3.mod hm3 (fun b hb hh => p4 (hh ▸ hb))
    obtain ⟨ya, yc, rfl, _, _⟩ := p3.val
    (try simp only [go_sem, Nat.reduceAdd, Nat.reduceEqDiff, Nat.reduceLT, Nat.reduceLeDiff, Nat.reduceMul, reduceCtorEq, ↓reduceIte, cell_of q1])
    refine e_bs (by rfl) (by (try simp only [go_sem, Nat.reduceAdd, Nat.reduceEqDiff, Nat.reduceLT, Nat.reduceLeDiff, Nat.reduceMul, reduceCtorEq, ↓reduceIte]); rfl) ?_
    intro w4 hb4 hm4 hs4
    have q4 := q3.mod hm4 (fun _ _ h => h)
    (try simp only [go_sem, Nat.reduceAdd, Nat.reduceEqDiff, Nat.reduceLT, Nat.reduceLeDiff, Nat.reduceMul, reduceCtorEq, ↓reduceIte])
    refine e_ap (m := 1) (news := [I (fit (nxt ns) k p0 : Nat)]) rfl q4 rfl (fun h => by cases h) (rd_block hb4) (by simp [Value.oneCell']) rfl (by simp; omega) (by simp; omega) ?_
    intro v5 w5 fp5 ho5 hm5 hf5
    (try simp only [go_sem, Nat.reduceAdd, Nat.reduceEqDiff, Nat.reduceLT, Nat.reduceLeDiff, Nat.reduceMul, reduceCtorEq, ↓reduceIte])
    have q14 := hm4.at q1 (fun h => h)
    have q15 := hm5.at q14 (own_ne q4 q14 (by omega))
    have hb5 := hm5.at (hm4.at hb3 (fun h => h)) p4
    refine e_st1 (off := 4) rfl rfl q15 (by obtain ⟨_, _, rfl, _⟩ := ho5.val; rfl) (by simp) ?_
    intro w6 hb6 hm6 hs6
    have hF : ∀ b, F b → b < w.heap.size := by obtain ⟨_, _, _, _, _, _, h⟩ := hfr; exact h
    have hdk : ∀ b, F b → pkf ≠ some b := fun b hb hh => by
      have h1 := hF b hb
      rcases hpk b hh with h2 | h2
      · exact hd b hb (.inr (.inr h2))
      · omega
    have hm26 : Mod (fun b => b = bm ∨ b = bo ∨ pkf = some b) w2 w6 := (((hm3.weak (fun b hb => .inr (.inl hb))).step hm4 (fun _ h _ => h.elim)).step hm5 (fun b hb _ => .inr (.inr hb))).step hm6 (fun b hb _ => .inl hb)
    have hfr6 := hfr2.mod hm26 (fun b hb hh => by
      rcases hh with hh | hh | hh
      · exact hd b hb (.inl hh)
      · exact hd b hb (.inr (.inl hh))
      · exact hdk b hb hh)
    obtain ⟨bc', cc', v', hbc, d0, d1, d2, dx, db, dl⟩ := from_at hfr6 hargs (hlt k)
    cases hbc
    rw [ha] at dx
    obtain ⟨xb, xd, rfl, _, hxx⟩ := dx
    obtain ⟨ad, rfl, had⟩ := hxx 0 (by simp)
    have had' : w6.cell? ad = some (I (q' : Nat)) := by rw [add_zero'] at had; exact had
    have z3 : (0 : Int) ≤ 0 ∧ (0 : Int) < ((1 : Nat) : Int) := by omega
    (try simp only [go_sem, Nat.reduceAdd, Nat.reduceEqDiff, Nat.reduceLT, Nat.reduceLeDiff, Nat.reduceMul, reduceCtorEq, ↓reduceIte, Nat.mul_one, Int.toNat_natCast, Int.toNat_zero, Nat.sub_zero, Nat.sub_self, cell_of hb6, b1, d2, z3, had'])
    have hway : ∀ i, onWay ns p0 (k + 1) i ↔ onWay ns p0 k i ∨ i = fit (nxt ns) k p0 := by
      intro i
      constructor
      · rintro ⟨j, hj, rfl⟩
        rcases Nat.lt_or_ge j k with h | h
        · exact .inl ⟨j, h, rfl⟩
        · obtain rfl : j = k := by omega
          exact .inr rfl
      · rintro (⟨j, hj, rfl⟩ | rfl)
        · exact ⟨j, by omega, rfl⟩
        · exact ⟨k, by omega, rfl⟩
    have hnotway : ¬ onWay ns p0 k (fit (nxt ns) k p0) := fun h => by
      have := (hkv _ (hlt k)).1 h
      omega
    refine ⟨_, ?_, k + 1, lk.set (fit (nxt ns) k p0) (-1), v5, fp5, rfl, by simp [hkl], by omega, ?_, ?_, ⟨hb6, hm6.at hb5 (fun h => hbmo h.symm), ?_, ?_⟩, ?_, ?_, ?_⟩
    · omega
    · intro i hi'
      rw [getD_set _ _ _ _ (by rw [hkl]; exact hlt k), hway]
      refine ⟨?_, ?_⟩
      · rintro (h | h)
        · split
          · rfl
          · exact (hkv i hi').1 h
        · rw [if_pos h.symm]
      · intro h
        rw [if_neg (fun hh => h (.inr hh.symm))]
        exact (hkv i hi').2 (fun hh => h (.inl hh))
    · intro j hj
      rcases Nat.lt_or_ge j k with h | h
      · exact hkn j h
      · obtain rfl : j = k := by omega
        exact ⟨hi, by rw [← (hkv _ (hlt j)).2 hnotway]; exact hz⟩
    · have := ho5.mod hm6 (fun b hb hh => own_kind ho5 hb (hh ▸ q15) (by omega))
      rw [List.range_succ]
      simpa using this
    · intro hh
      rcases hf5 bo hh with h1 | h1
      · exact p4 h1
      · have := lt_of_heap p2
        have := hm3.size; have := hm4.size
        omega
    · refine hm2.step hm26 (fun b hb hlt' => ?_)
      rcases hb with h | h | h
      · exact .inl h
      · exact .inr (.inl h)
      · rcases hpk b h with h | h
        · exact .inr (.inr h)
        · omega
    · intro b hb
      rcases hf5 b hb with h1 | h1
      · exact hpk b h1
      · have := hm2.size; have := hm3.size; have := hm4.size
        exact .inr (by omega)
    · rw [fit_succ, hnx]
  · have hz := hq2 hq
    have hxn : onWay ns p0 k (fit (nxt ns) k p0) ∨ ¬ onWay ns p0 k (fit (nxt ns) k p0) := Classical.em _
    (try simp only [go_sem, Nat.reduceAdd, Nat.reduceEqDiff, Nat.reduceLT, Nat.reduceLeDiff, Nat.reduceMul, reduceCtorEq, ↓reduceIte, Nat.mul_one, Int.toNat_natCast, Int.toNat_zero, Nat.sub_zero, Nat.sub_self, cell_of p1, b1, hx])
    refine ir_then (fun ρ w' => w2 = w' ∧ ∃ e : Nat, ((e = fit (nxt ns) k p0 ∧ l.getD e 0 = 0 ∧ ((ind ns e = false) ∨ ∃ j, j < k ∧ e = fit (nxt ns) j p0)) ∨ (l.getD (fit (nxt ns) k p0) 0 = e + 1)) ∧ e < ns.length ∧
      ρ.get 0 = some (.pointer (some ⟨bm, 0, none⟩)) ∧ ρ.get 1 = some (I (fit (nxt ns) k p0 : Nat)) ∧ ρ.get 5 = some (I e)) ?_ ?_
    · refine ir_cond rfl (fun hg => ?_) (fun hg => ?_)
      · have hg' : lk.getD (fit (nxt ns) k p0) 0 > 0 := by simpa using hg
        have hno : ¬ onWay ns p0 k (fit (nxt ns) k p0) := fun h => by have := (hkv _ (hlt k)).1 h; omega
        have hlk := (hkv _ (hlt k)).2 hno
        obtain ⟨e, he, hen, _⟩ := hk.rep _ (hlt k) (by omega)
        have hwr : IntKind.i64.wrap (lk.getD (fit (nxt ns) k p0) 0 - 1) = e := by rw [hlk, he, wrap_in] <;> omega
        (try simp only [go_sem, Nat.reduceAdd, Nat.reduceEqDiff, Nat.reduceLT, Nat.reduceLeDiff, Nat.reduceMul, reduceCtorEq, ↓reduceIte, Nat.mul_one, Int.toNat_natCast, Int.toNat_zero, Nat.sub_zero, Nat.sub_self, cell_of p1, b1, hx, hwr])
        exact ⟨e, .inr he, hen, rfl⟩
      · have hg' : ¬ lk.getD (fit (nxt ns) k p0) 0 > 0 := by simpa using hg
        (try simp only [go_sem, Nat.reduceAdd, Nat.reduceEqDiff, Nat.reduceLT, Nat.reduceLeDiff, Nat.reduceMul, reduceCtorEq, ↓reduceIte])
        refine ⟨fit (nxt ns) k p0, .inl ⟨rfl, ?_, ?_⟩, hlt k, rfl⟩
        · rcases hxn with h | h
          · obtain ⟨j, hj, he⟩ := h
            rw [he]; exact (hkn j hj).2
          · have hlk := (hkv _ (hlt k)).2 h
            rcases Classical.em (l.getD (fit (nxt ns) k p0) 0 = 0) with h0 | h0
            · exact h0
            · obtain ⟨e, he, _⟩ := hk.rep _ (hlt k) h0
              omega
        · rcases hxn with h | h
          · exact .inr h
          · left
            rcases hz with hz | hz
            · exfalso
              have hlk := (hkv _ (hlt k)).2 h
              obtain ⟨e, he, _⟩ := hk.rep _ (hlt k) (by omega)
              omega
            · exact hz
    rintro ρ _ ⟨rfl, e, hend, hen, r0, r1, r5⟩
    have hwe : IntKind.i64.wrap ((e : Int) + 1) = ((e : Int) + 1) := by rw [wrap_in] <;> omega
    (try simp only [go_sem, Nat.reduceAdd, Nat.reduceEqDiff, Nat.reduceLT, Nat.reduceLeDiff, Nat.reduceMul, reduceCtorEq, ↓reduceIte, Nat.mul_one, Int.toNat_natCast, Int.toNat_zero, Nat.sub_zero, Nat.sub_self, r0, r1, r5, cell_of p1, b1, hwe])
    refine e_st1 (off := fit (nxt ns) k p0) rfl rfl p2 rfl (by simp; rw [hkl]; exact hlt k) ?_
    intro w3 hb3 hm3 hs3
    rw [map_set] at hb3
    have q1 := hm3.at p1 hbmo
    have q3 := p3.mod hm3 (fun b hb hh => p4 (hh ▸ hb))
    obtain ⟨ya, yc, rfl, _, _⟩ := p3.val
    (try simp only [go_sem, Nat.reduceAdd, Nat.reduceEqDiff, Nat.reduceLT, Nat.reduceLeDiff, Nat.reduceMul, reduceCtorEq, ↓reduceIte, Nat.mul_one, Int.toNat_natCast, Int.toNat_zero, Nat.sub_zero, Nat.sub_self, cell_of q1])
    have hpl : ((List.range k).map (fun j => (fit (nxt ns) j p0 : Int))).length = k := by simp
    have hkn' : k ≤ ns.length := by
      have := List.count_le_length (a := (0 : Int)) (l := l)
      rw [hk.len] at this; omega
    refine ir_loop (fun m ρ w' => ∃ (t : Nat) (l2 : List Int), m = k - t ∧ t ≤ k ∧ l2.length = ns.length ∧ (∀ i, i < ns.length → (i = fit (nxt ns) k p0 ∨ onWay ns p0 t i → l2.getD i 0 = e + 1) ∧ (¬ (i = fit (nxt ns) k p0 ∨ onWay ns p0 t i) → l2.getD i 0 = lk.getD i 0)) ∧
      PW w' bm bo (.slice (some ⟨bc, 0, none⟩) ns.length cc) to mv (.slice ya ((List.range k).map (fun j => (fit (nxt ns) j p0 : Int))).length yc) ns.length l2 ((List.range k).map (fun j => (fit (nxt ns) j p0 : Int))) pkf ∧ Mod (· = bo) w2 w' ∧
      ρ = [(0, .pointer (some ⟨bm, 0, none⟩)), (5, I e), (90, .slice ya ((List.range k).map (fun j => (fit (nxt ns) j p0 : Int))).length yc), (91, I ((List.range k).map (fun j => (fit (nxt ns) j p0 : Int))).length), (92, I t)]) k
      ⟨0, lk.set (fit (nxt ns) k p0) (e + 1), rfl, by omega, by simp [hkl], ?_, ⟨q1, hb3, q3, p4⟩, hm3, rfl⟩ ?_
    · intro i hi
      rw [getD_set _ _ _ _ (by rw [hkl]; exact hlt k)]
      refine ⟨?_, ?_⟩
      · rintro (h | ⟨j, hj, _⟩)
        · rw [if_pos h.symm]
        · omega
      · intro h; rw [if_neg (fun hh => h (.inl hh.symm))]
    rintro m ρ w4 ⟨t, l2, rfl, htk, hl2, hv2, ⟨o1, o2, o3, o4⟩, hm4, rfl⟩
    unfold ir74L2
    have o1' := o1
    have o3' := o3
    rw [hpl] at o1 o3
    rw [hpl]
    (try simp only [go_sem, Nat.reduceAdd, Nat.reduceEqDiff, Nat.reduceLT, Nat.reduceLeDiff, Nat.reduceMul, reduceCtorEq, ↓reduceIte])
    refine ir_cond rfl (fun hc => ?_) (fun hc => ?_)
    · have hc' : t < k := by simpa using hc
      obtain ⟨⟨xb, xd, hxe, _, hxx⟩, _⟩ := o3'.ints (by rw [hpl]; omega)
      cases hxe
      obtain ⟨ad, rfl, had⟩ := hxx t (by rw [hpl]; exact hc')
      have b2 : (0 : Int) ≤ (t : Nat) ∧ (t : Int) < (k : Nat) := by omega
      have b3 : (0 : Int) ≤ (fit (nxt ns) t p0 : Nat) ∧ ((fit (nxt ns) t p0 : Nat) : Int) < ns.length := by have := hlt t; omega
      have had' : w4.cell? (ad.add t) = some (I (fit (nxt ns) t p0 : Nat)) := by rw [had]; simp
      (try simp only [go_sem, Nat.reduceAdd, Nat.reduceEqDiff, Nat.reduceLT, Nat.reduceLeDiff, Nat.reduceMul, reduceCtorEq, ↓reduceIte, Nat.mul_one, Int.toNat_natCast, Int.toNat_zero, Nat.sub_zero, Nat.sub_self, b2, had', cell_of o1, b3, hwe])
      refine e_st1 (off := fit (nxt ns) t p0) rfl rfl o2 rfl (by simp; rw [hl2]; exact hlt t) ?_
      intro w5 hb5 hm5 hs5
      rw [map_set] at hb5
      have hwt : IntKind.i64.wrap ((t : Int) + 1) = ((t + 1 : Nat) : Int) := by rw [wrap_in] <;> omega
      (try simp only [go_sem, Nat.reduceAdd, Nat.reduceEqDiff, Nat.reduceLT, Nat.reduceLeDiff, Nat.reduceMul, reduceCtorEq, ↓reduceIte, hwt])
      refine ⟨_, ?_, t + 1, l2.set (fit (nxt ns) t p0) (e + 1), rfl, by omega, by simp [hl2], ?_, ⟨hm5.at o1 hbmo, hb5, ?_, o4⟩, hm4.trans hm5, rfl⟩
      · omega
      · intro i hi
        rw [getD_set _ _ _ _ (by rw [hl2]; exact hlt t)]
        have hway : onWay ns p0 (t + 1) i ↔ onWay ns p0 t i ∨ i = fit (nxt ns) t p0 := by
          constructor
          · rintro ⟨j, hj, rfl⟩
            rcases Nat.lt_or_ge j t with h | h
            · exact .inl ⟨j, h, rfl⟩
            · obtain rfl : j = t := by omega
              exact .inr rfl
          · rintro (⟨j, hj, rfl⟩ | rfl)
            · exact ⟨j, by omega, rfl⟩
            · exact ⟨t, by omega, rfl⟩
        rw [hway]
        refine ⟨?_, ?_⟩
        · intro h
          split
          · rfl
          · rename_i hne
            rcases h with h | h | h
            · exact (hv2 i hi).1 (.inl h)
            · exact (hv2 i hi).1 (.inr h)
            · exact absurd h.symm hne
        · intro h
          rw [if_neg (fun hh => h (.inr (.inr hh.symm)))]
          exact (hv2 i hi).2 (fun hh => h (hh.elim .inl (fun h => .inr (.inl h))))
      · have := o3.mod hm5 (fun b hb hh => o4 (hh ▸ hb))
        simpa using this
    · have hc' : t = k := by simp at hc; omega
      subst hc'
      (try simp only [go_sem, Nat.reduceAdd, Nat.reduceEqDiff, Nat.reduceLT, Nat.reduceLeDiff, Nat.reduceMul, reduceCtorEq, ↓reduceIte])
      obtain ⟨g1, g2, g3⟩ := ki_pass hw hk (l' := l2) (e := e) hp0 hkn hend hl2 (by
        intro i hi
        obtain ⟨a1, a2⟩ := hv2 i hi
        split
        · rename_i hex
          obtain ⟨j, hj, he⟩ := hex
          refine a1 ?_
          rcases Nat.lt_or_ge j t with h | h
          · exact .inr ⟨j, h, he⟩
          · left; rw [he]; congr 1; omega
        · rename_i hex
          have hno : ¬ onWay ns p0 t i := fun ⟨j, hj, he⟩ => hex ⟨j, by omega, he⟩
          rw [a2 (fun h => by
            rcases h with h | h
            · exact hex ⟨t, Nat.le_refl _, h⟩
            · exact hno h)]
          exact (hkv i hi).2 hno)
      refine ⟨e, l2, _, _, pkf, rfl, g1, g2, g3, ⟨o1', o2, o3', o4⟩, hm2.step hm4 (fun b hb _ => .inr (.inl hb)), hpk, by rw [hpl]; omega⟩
end Go.Proofs.Ytnimaifmcejkcaa
end

section
set_option linter.unusedSimpArgs false
set_option linter.unusedVariables false
namespace Go.Proofs.Ytnimaifmcejkcaa
open Go Go.W

def meet (ns : List Nd) (out : List Nat) (p : Nat) : List Nat := if over ns p ∈ out then out else out ++ [over ns p]
def meets (ns : List Nd) (out : List Nat) (l : List Int) : List Nat := l.foldl (fun o (p : Int) => meet ns o p.toNat) out
/-- Nodes are met: what leads on from out[i], for i from i on. -/
def reach (ns : List Nd) : Nat → Nat → List Nat → List Nat
  | 0, _, out => out
  | f + 1, i, out => match out[i]? with
    | some x => reach ns f (i + 1) (meets ns out (ndAt ns x).args)
    | none => out
def reached (ns : List Nd) (roots : List Int) : List Nat := reach ns (ns.length + 1) 0 (meets ns [] roots)
/-- The number that a place has behind it. -/
def num (ns : List Nd) (out : List Nat) (p : Int) : Int := out.idxOf (over ns p.toNat)
def moveNd (ns : List Nd) (out : List Nat) (x : Nat) : Nd := ⟨(ndAt ns x).kind, (ndAt ns x).num, (ndAt ns x).args.map (num ns out)⟩
/-- Behind Collect: the nodes, where the roots are. -/
def colNs (ns : List Nd) (roots : List Int) : List Nd := (reached ns roots).map (moveNd ns (reached ns roots))
def colRoots (ns : List Nd) (roots : List Int) : List Int := roots.map (num ns (reached ns roots))

/-- Met: all different, all places, all what they are passed over. -/
def Met (ns : List Nd) (out : List Nat) : Prop := out.Nodup ∧ ∀ x ∈ out, x < ns.length ∧ over ns x = x
theorem met_nil (ns : List Nd) : Met ns [] := ⟨List.nodup_nil, fun x h => by cases h⟩
theorem met_len {ns : List Nd} {out : List Nat} (h : Met ns out) : out.length ≤ ns.length := nodup_le _ _ h.1 (fun x hx => (h.2 x hx).1)
theorem met_meet {ns : List Nd} (hw : WF ns) {out : List Nat} (h : Met ns out) {p : Nat} (hp : p < ns.length) : Met ns (meet ns out p) := by
  unfold meet
  split
  · exact h
  · rename_i hn
    refine ⟨?_, ?_⟩
    · rw [List.nodup_append]
      refine ⟨h.1, by simp, ?_⟩
      intro a ha b hb hab
      simp at hb
      exact hn (hb ▸ hab ▸ ha)
    · intro x hx
      rcases List.mem_append.1 hx with hx | hx
      · exact h.2 x hx
      · simp at hx; subst hx
        exact ⟨ov_lt (wf_nxt_lt hw) hp, ov_ov (wf_nxt_lt hw) hp⟩
theorem mem_meet (ns : List Nd) (out : List Nat) (p : Nat) : over ns p ∈ meet ns out p := by
  unfold meet; split
  · assumption
  · simp
theorem meet_pre (ns : List Nd) (out : List Nat) (p : Nat) : out <+: meet ns out p := by
  unfold meet; split
  · exact List.prefix_rfl
  · exact List.prefix_append _ _
theorem meets_pre (ns : List Nd) (l : List Int) : ∀ out, out <+: meets ns out l := by
  induction l with
  | nil => intro out; exact List.prefix_rfl
  | cons a l ih => intro out; exact (meet_pre ns out a.toNat).trans (ih _)
theorem reach_pre (ns : List Nd) : ∀ f i out, out <+: reach ns f i out := by
  intro f
  induction f with
  | zero => intro i out; exact List.prefix_rfl
  | succ f ih =>
    intro i out
    unfold reach
    split
    · exact (meets_pre ns _ _).trans (ih _ _)
    · exact List.prefix_rfl
theorem idx_pre {a b : List Nat} (h : a <+: b) {x : Nat} (hx : x ∈ a) : b.idxOf x = a.idxOf x := by
  obtain ⟨t, rfl⟩ := h
  rw [List.idxOf_append, if_pos hx]
theorem reach_end (ns : List Nd) (f i : Nat) (out : List Nat) (h : out.length ≤ i) : reach ns f i out = out := by
  cases f with
  | zero => rfl
  | succ f => simp [reach, List.getElem?_eq_none h]
theorem reach_step (ns : List Nd) (f i : Nat) (out : List Nat) (h : i < out.length) : reach ns (f + 1) i out = reach ns f (i + 1) (meets ns out (ndAt ns out[i]).args) := by
  simp [reach, h]
theorem met_meets {ns : List Nd} (hw : WF ns) : ∀ (l : List Int) {out : List Nat}, Met ns out → okPl ns.length l = true → Met ns (meets ns out l) := by
  intro l
  induction l with
  | nil => intro out h _; exact h
  | cons a l ih =>
    intro out h ho
    simp only [okPl, List.all_cons, Bool.and_eq_true, decide_eq_true_eq] at ho
    exact ih (met_meet hw h (by omega)) (by simpa [okPl] using ho.2)

/-- What 'moved' knows. -/
structure MI (ns : List Nd) (l md : List Int) (out : List Nat) : Prop where
  len : md.length = ns.length
  met : Met ns out
  old : ∀ i, i < ns.length → md.getD i 0 ≠ 0 → ∃ j : Nat, md.getD i 0 = j + 1 ∧ out[j]? = some (over ns i) ∧ l.getD i 0 = i + 1
  all : ∀ (j x : Nat), out[j]? = some x → ∃ e : Nat, e < ns.length ∧ md.getD e 0 = j + 1 ∧ l.getD e 0 = e + 1
theorem mi_start (ns : List Nd) (l : List Int) : MI ns l (List.replicate ns.length 0) [] := by
  have h0 : ∀ i, (List.replicate ns.length (0 : Int)).getD i 0 = 0 := by intro i; simp [List.getElem?_replicate]; split <;> rfl
  exact ⟨by simp, met_nil ns, fun i _ h => absurd (h0 i) h, fun j x h => by simp at h⟩
theorem mi_over {ns : List Nd} {l l' md : List Int} {out : List Nat} (h : MI ns l md out) (hm : ∀ i, i < ns.length → l.getD i 0 ≠ 0 → l'.getD i 0 = l.getD i 0) : MI ns l' md out := by
  refine ⟨h.len, h.met, ?_, ?_⟩
  · intro i hi hk
    obtain ⟨j, h1, h2, h3⟩ := h.old i hi hk
    exact ⟨j, h1, h2, by rw [hm i hi (by omega)]; exact h3⟩
  · intro j x hx
    obtain ⟨e, h1, h2, h3⟩ := h.all j x hx
    exact ⟨e, h1, h2, by rw [hm e h1 (by omega)]; exact h3⟩

theorem idx_of {out : List Nat} (hn : out.Nodup) {j x : Nat} (h : out[j]? = some x) : out.idxOf x = j := by
  obtain ⟨hj, hx⟩ := List.getElem?_eq_some_iff.1 h
  subst hx
  exact hn.idxOf_getElem j hj

/-- It is moved: nothing is new. -/
theorem mi_had {ns : List Nd} (hw : WF ns) {l md : List Int} {out : List Nat} (hk : KI ns l) (h : MI ns l md out) {p e : Nat} (hp : p < ns.length) (he : l.getD p 0 = e + 1) (hm : md.getD e 0 ≠ 0) :
    over ns p ∈ out ∧ meet ns out p = out ∧ md.getD e 0 = (out.idxOf (over ns p) : Nat) + 1 := by
  obtain ⟨e', h1, h2, h3, h4, _⟩ := hk.rep p hp (by omega)
  obtain rfl : e' = e := by omega
  obtain ⟨j, k1, k2, k3⟩ := h.old _ h2 hm
  rw [h3] at k2
  have hin : over ns p ∈ out := List.mem_of_getElem? k2
  refine ⟨hin, by simp [meet, hin], ?_⟩
  rw [idx_of h.met.1 k2]; exact k1
/-- It is not: it is moved now. -/
theorem mi_new {ns : List Nd} (hw : WF ns) {l md : List Int} {out : List Nat} (hk : KI ns l) (h : MI ns l md out) {p e : Nat} (hp : p < ns.length) (he : l.getD p 0 = e + 1) (hm : md.getD e 0 = 0) :
    over ns p ∉ out ∧ meet ns out p = out ++ [over ns p] ∧ MI ns l (md.set e ((out.length : Int) + 1)) (meet ns out p) ∧ e < ns.length ∧ over ns e = over ns p ∧ (ind ns e = true → ind ns (over ns p) = true) := by
  obtain ⟨e', h1, h2, h3, h4, h5⟩ := hk.rep p hp (by omega)
  obtain rfl : e' = e := by omega
  have hno : over ns p ∉ out := by
    intro hin
    obtain ⟨j, hj⟩ := List.getElem?_of_mem hin
    obtain ⟨i, k1, k2, k3⟩ := h.all j _ hj
    obtain ⟨j', q1, q2, q3⟩ := h.old i k1 (by omega)
    have : j' = j := by omega
    subst this
    rw [hj] at q2
    have hov : over ns i = over ns e' := by rw [h3]; exact (Option.some.inj q2).symm
    have := hk.one i e' k1 h2 (by omega) (by omega) hov
    have : i = e' := by omega
    subst this
    omega
  have hmeet : meet ns out p = out ++ [over ns p] := by simp [meet, hno]
  refine ⟨hno, hmeet, ⟨by simp [h.len], met_meet hw h.met hp, ?_, ?_⟩, h2, h3, h5⟩
  · intro i hi hi0
    have hel : e' < md.length := by rw [h.len]; exact h2
    by_cases hie : e' = i
    · subst hie
      refine ⟨out.length, by simp [hel], ?_, h4⟩
      rw [hmeet, h3]; simp
    · have hg : (md.set e' ((out.length : Int) + 1)).getD i 0 = md.getD i 0 := by simp [List.getElem?_set, hie]
      rw [hg] at hi0 ⊢
      obtain ⟨j, q1, q2, q3⟩ := h.old i hi hi0
      refine ⟨j, q1, ?_, q3⟩
      rw [hmeet, List.getElem?_append_left (List.getElem?_eq_some_iff.1 q2).1]
      exact q2
  · intro j x hx
    have hel : e' < md.length := by rw [h.len]; exact h2
    rw [hmeet] at hx
    rcases Nat.lt_or_ge j out.length with hj | hj
    · rw [List.getElem?_append_left hj] at hx
      obtain ⟨i, k1, k2, k3⟩ := h.all j x hx
      have hie : e' ≠ i := by rintro rfl; omega
      exact ⟨i, k1, by simp only [List.getD_eq_getElem?_getD, List.getElem?_set, if_neg hie] at k2 ⊢; exact k2, k3⟩
    · have : j = out.length := by
        have := (List.getElem?_eq_some_iff.1 hx).1
        simp at this; omega
      subst this
      exact ⟨e', h2, by simp [hel], h4⟩

/-- A copy of a place's node is as good as a copy of what it is passed over. -/
theorem same_nd {ns : List Nd} (hw : WF ns) {e x : Nat} (he : e < ns.length) (ho : over ns e = x) (hi : ind ns e = true → ind ns x = true) :
    (ndAt ns e).kind = (ndAt ns x).kind ∧ (ndAt ns e).num = (ndAt ns x).num ∧ (ndAt ns e).args.map (fun a : Int => over ns a.toNat) = (ndAt ns x).args.map (fun a : Int => over ns a.toNat) := by
  cases hie : ind ns e with
  | false =>
    have : over ns e = e := ov_fix (nxt_fix hie)
    rw [this] at ho; subst ho
    exact ⟨rfl, rfl, rfl⟩
  | true =>
    have hix := hi hie
    have hx : x < ns.length := ho ▸ ov_lt (wf_nxt_lt hw) he
    have hxx : over ns x = x := by rw [← ho]; exact ov_ov (wf_nxt_lt hw) he
    obtain ⟨q, a1, a2, a3⟩ := wf_ind hw he hie
    obtain ⟨q', b1, b2, b3⟩ := wf_ind hw hx hix
    have k1 : (ndAt ns e).kind = 5 := by simpa [ind] using hie
    have k2 : (ndAt ns x).kind = 5 := by simpa [ind] using hix
    have m1 := (wf_at hw he).1
    have m2 := (wf_at hw hx).1
    simp only [Nd.may, mayB, k1, k2, decide_eq_true_eq] at m1 m2
    refine ⟨by rw [k1, k2], by omega, ?_⟩
    rw [a2, b2]
    have e1 : over ns q = x := by rw [← a3]; exact (ov_f (wf_nxt_lt hw) he).trans ho
    have e2 : over ns q' = x := by rw [← b3]; exact (ov_f (wf_nxt_lt hw) hx).trans hxx
    simp [e1, e2]
end Go.Proofs.Ytnimaifmcejkcaa
end

section
set_option linter.unusedSimpArgs false
set_option linter.unusedVariables false
namespace Go.Proofs.Ytnimaifmcejkcaa
open Go Go.W

/-- A node that has been copied: its list lies in a block of its own. -/
def cpv (t : Nd × Nat) : Nd × Value := (t.1, .slice (some ⟨t.2, 0, none⟩) t.1.args.length t.1.args.length)
structure ToAt (w : World) (to : Value) (ts : List (Nd × Nat)) (tfp : Option Nat) : Prop where
  own : Own w 87 3 to (flat (ts.map cpv)) ts.length tfp
  row : ∀ t ∈ ts, w.heap[t.2]? = some (.cells (t.1.args.map I).toArray 3 (0, 0))
  nodup : (ts.map Prod.snd).Nodup
theorem ToAt.mod {w w' : World} {to : Value} {ts : List (Nd × Nat)} {tfp : Option Nat} {S : Nat → Prop} (h : ToAt w to ts tfp) (hm : Mod S w w') (h1 : ∀ b, tfp = some b → ¬ S b) (h2 : ∀ t ∈ ts, ¬ S t.2) : ToAt w' to ts tfp :=
  ⟨h.own.mod hm h1, fun t ht => hm.at (h.row t ht) (h2 t ht), h.nodup⟩

/-- The mover in memory; no block of X is one of its. -/
structure MW (w : World) (X : Nat → Prop) (bm bo bd : Nat) (cf to pa : Value) (n : Nat) (l md path : List Int) (ts : List (Nd × Nat)) (tfp pfp : Option Nat) : Prop where
  cells : w.heap[bm]? = some (.cells #[cf, to, .slice (some ⟨bo, 0, none⟩) n n, .slice (some ⟨bd, 0, none⟩) n n, pa] 100 (0, 0))
  over : w.heap[bo]? = some (.cells (l.map I).toArray 3 (0, 0))
  moved : w.heap[bd]? = some (.cells (md.map I).toArray 3 (0, 0))
  path : Own w 3 1 pa (path.map I) path.length pfp
  to : ToAt w to ts tfp
  od : bo ≠ bd
  po : pfp ≠ some bo
  pd : pfp ≠ some bd
  tr : ∀ t ∈ ts, t.2 ≠ bo ∧ t.2 ≠ bd ∧ pfp ≠ some t.2
  X1 : ¬ X bm ∧ ¬ X bo ∧ ¬ X bd
  X2 : ∀ b, pfp = some b → ¬ X b
  X3 : ∀ b, tfp = some b → ¬ X b
  X4 : ∀ t ∈ ts, ¬ X t.2
  X5 : ∀ b, X b → b < w.heap.size

def MovePost (ns : List Nd) (w : World) (X : Nat → Prop) (bm bo bd : Nat) (cf : Value) (out : List Nat) (ts : List (Nd × Nat)) (p : Nat) (r : Value) (w' : World) : Prop :=
  ∃ (l' md' path' : List Int) (to' pa' : Value) (ts' : List (Nd × Nat)) (tfp' pfp' : Option Nat), r = I ((meet ns out p).idxOf (over ns p)) ∧ KI ns l' ∧ MI ns l' md' (meet ns out p) ∧
    MW w' X bm bo bd cf to' pa' ns.length l' md' path' ts' tfp' pfp' ∧ Mod (fun b => ¬ X b) w w' ∧
    ((ts' = ts ∧ meet ns out p = out) ∨ ∃ e b, ts' = ts ++ [(ndAt ns e, b)] ∧ meet ns out p = out ++ [over ns p] ∧ e < ns.length ∧ over ns e = over ns p ∧ (ind ns e = true → ind ns (over ns p) = true))

theorem move_ok (ns : List Nd) (hw : WF ns) (hn : ns.length ≤ 1048576) (w : World) (X : Nat → Prop) (bm bo bd : Nat) (cf to pa : Value) (l md path : List Int) (ts : List (Nd × Nat)) (tfp pfp : Option Nat) (F : Nat → Prop) (out : List Nat)
    (hfr : FromAt 87 w cf ns F) (hFX : ∀ b, F b → X b) (hm : MW w X bm bo bd cf to pa ns.length l md path ts tfp pfp) (hk : KI ns l) (hi : MI ns l md out) (hts : ts.length = out.length) (p : Nat) (hp : p < ns.length) :
    CallsR Try.prog 67 [.pointer (some ⟨bm, 0, none⟩), I p] w (MovePost ns w X bm bo bd cf out ts p) := by
  have hargs := wf_args_le hw
  refine fit67.calls rfl ?_
  unfold ir67
  (try simp only [go_sem, Nat.reduceAdd, Nat.reduceEqDiff, Nat.reduceLT, Nat.reduceLeDiff, Nat.reduceMul, reduceCtorEq, ↓reduceIte])
  refine e_call (by rfl) ?_
  have hbmo : bm ≠ bo := fun h => by have h1 := hm.cells; subst h; exact kind_ne hm.over h1 (by omega)
  have hbmd : bm ≠ bd := fun h => by have h1 := hm.cells; subst h; exact kind_ne hm.moved h1 (by omega)
  refine (pass_ok ns hw hn w bm bo cf to _ pa l path pfp F hfr (fun b hb hh => ?_) ⟨hm.cells, hm.over, hm.path, hm.po⟩ hk p hp).mono ?_
  · have := hFX b hb
    rcases hh with rfl | rfl | hh
    · exact hm.X1.1 this
    · exact hm.X1.2.1 this
    · exact hm.X2 b hh this
  rintro r w1 ⟨e, l1, pa1, path1, pfp1, rfl, hk1, hle, hmono, ⟨p1, p2, p3, p4⟩, hm1, hpf, hpl⟩
  have hi1 := mi_over hi hmono
  have hm1X : Mod (fun b => ¬ X b) w w1 := hm1.weak (fun b hb => by
    rcases hb with rfl | rfl | hb
    · exact hm.X1.1
    · exact hm.X1.2.1
    · exact hm.X2 b hb)
  have hfr1 := hfr.mod hm1X (fun b hb h => h (hFX b hb))
  have hmd1 := hm1.at hm.moved (fun h => by
    rcases h with h | h | h
    · exact hbmd h.symm
    · exact hm.od h.symm
    · exact hm.pd h)
  have hto1 := hm.to.mod hm1 (fun b hb hh => by
    have k0 := hm.to.own
    rcases hh with rfl | rfl | hh
    · exact own_kind k0 hb hm.cells (by omega)
    · exact own_kind k0 hb hm.over (by omega)
    · rcases hm.path.2 with ⟨_, _, h⟩ | ⟨b', c', sp', _, h, h', _⟩
      · rw [h] at hh; cases hh
      · rw [h] at hh; cases hh; exact own_kind k0 hb h' (by omega)) (fun t ht hh => by
    have := hm.tr t ht
    rcases hh with h | h | h
    · have k1 := hm.to.row t ht
      rw [h] at k1
      exact kind_ne k1 hm.cells (by omega)
    · exact this.1 h
    · exact this.2.2 h)
  have hrep := hk1.rep p hp (by omega)
  obtain ⟨e', g1, g2, _⟩ := hrep
  obtain rfl : e' = e := by omega
  have hsz1 := hm1.size
  have hpd1 : pfp1 ≠ some bd := fun h => by
    rcases hpf bd h with h | h
    · exact hm.pd h
    · have := lt_of_heap hm.moved; omega
  have htr1 : ∀ t ∈ ts, t.2 ≠ bo ∧ t.2 ≠ bd ∧ pfp1 ≠ some t.2 := fun t ht => ⟨(hm.tr t ht).1, (hm.tr t ht).2.1, fun h => by
    rcases hpf t.2 h with h | h
    · exact (hm.tr t ht).2.2 h
    · have := lt_of_heap (hm.to.row t ht); omega⟩
  have hX2 : ∀ b, pfp1 = some b → ¬ X b := fun b hb hx => by
    rcases hpf b hb with h | h
    · exact hm.X2 b h hx
    · have := hm.X5 b hx; omega
  have hmd := ints_at hmd1 (i := e') (by rw [hi.len]; exact g2)
  have b1 : (0 : Int) ≤ (e' : Nat) ∧ ((e' : Nat) : Int) < ns.length := by omega
  (try simp only [go_sem, Nat.reduceAdd, Nat.reduceEqDiff, Nat.reduceLT, Nat.reduceLeDiff, Nat.reduceMul, reduceCtorEq, ↓reduceIte, Nat.mul_one, Int.toNat_natCast, Int.toNat_zero, Nat.sub_zero, Nat.sub_self, cell_of p1, b1, hmd])
  refine ir_then (fun ρ w2 => ∃ (md' : List Int) (to' : Value) (ts' : List (Nd × Nat)) (tfp' : Option Nat), MI ns l1 md' (meet ns out p) ∧ md'.getD e' 0 = ((meet ns out p).idxOf (over ns p) : Nat) + 1 ∧
     MW w2 X bm bo bd cf to' pa1 ns.length l1 md' path1 ts' tfp' pfp1 ∧ Mod (fun b => ¬ X b) w w2 ∧ ((ts' = ts ∧ meet ns out p = out) ∨ ∃ e b, ts' = ts ++ [(ndAt ns e, b)] ∧ meet ns out p = out ++ [over ns p] ∧ e < ns.length ∧ over ns e = over ns p ∧ (ind ns e = true → ind ns (over ns p) = true)) ∧
     ρ.get 0 = some (.pointer (some ⟨bm, 0, none⟩)) ∧ ρ.get 1 = some (I e')) ?_ ?_
  · refine ir_cond rfl (fun hc => ?_) (fun hc => ?_)
    · have hc' : md.getD e' 0 = 0 := by simpa using hc
      obtain ⟨n1, n2, n3, n4, n5, n6⟩ := mi_new hw hk1 hi1 hp hle hc'
      obtain ⟨bc, cc, v, rfl, c0, c1, c2, cx, cb, cl⟩ := from_at hfr1 hargs g2
      have cl' : vLN w1.drew 2 (.pointer (some ⟨bc, e' * 3, none⟩)) = some (.agg #[I (ndAt ns e').kind, I (ndAt ns e').num]) := cl
      (try simp only [go_sem, Nat.reduceAdd, Nat.reduceEqDiff, Nat.reduceLT, Nat.reduceLeDiff, Nat.reduceMul, reduceCtorEq, ↓reduceIte, Nat.mul_one, Int.toNat_natCast, Int.toNat_zero, Nat.sub_zero, Nat.sub_self, cell_of p1, b1, c2, cl'])
      refine e_call (by rfl) ?_
      obtain ⟨xa, xc, rfl, _, _⟩ := id cx
      refine (copied_ok _ (ndAt ns e').args w1.drew cx).mono ?_
      rintro r w3 ⟨b3, rfl, hb3, hge3, hm3⟩
      have hm3 : Mod (fun _ => False) w1 w3 := hm3.of_drew
      have hge3 : w1.heap.size ≤ b3 := hge3
      (try simp only [go_sem, Nat.reduceAdd, Nat.reduceEqDiff, Nat.reduceLT, Nat.reduceLeDiff, Nat.reduceMul, reduceCtorEq, ↓reduceIte])
      refine ⟨⟨hm3.old _ (World.block_lt_of_cell? _ _ c0) (fun h => h), hm3.old _ (lt_of_heap p1) (fun h => h)⟩, ?_⟩
      refine e_bs (by rfl) (by (try simp only [go_sem, Nat.reduceAdd, Nat.reduceEqDiff, Nat.reduceLT, Nat.reduceLeDiff, Nat.reduceMul, reduceCtorEq, ↓reduceIte]); rfl) ?_
      intro w4 hb4 hm4 hs4
      (try simp only [go_sem, Nat.reduceAdd, Nat.reduceEqDiff, Nat.reduceLT, Nat.reduceLeDiff, Nat.reduceMul, reduceCtorEq, ↓reduceIte])
      refine ⟨hm4.old _ (Nat.lt_of_lt_of_le (lt_of_heap p1) hm3.size) (fun h => h), ?_⟩
      have hm34 : Mod (fun _ => False) w1 w4 := hm3.trans hm4
      have t4 := hto1.mod hm34 (fun _ _ h => h) (fun _ _ h => h)
      have p14 := hm34.at p1 (fun h => h)
      have hb34 := hm4.at hb3 (fun h => h)
      have hmlen := met_len hi.met
      have hmlen' := met_len n3.met
      rw [n2] at hmlen'
      simp only [List.length_append, List.length_cons, List.length_nil] at hmlen'
      obtain ⟨ta, tc, htoe, _, _⟩ := t4.own.val
      refine e_ap (m := 1) (news := nc (cpv (ndAt ns e', b3))) rfl t4.own rfl (fun h => by cases h) (rd_block hb4) (by simp [nc, cpv, Value.oneCell']) rfl (by omega) (by omega) ?_
      intro v5 w5 fp5 ho5 hm5 hf5
      have htb : tfp ≠ some bm := own_ne t4.own p14 (by omega)
      have p15 := hm5.at p14 htb
      have htb3 : tfp ≠ some b3 := own_ne t4.own hb34 (by omega)
      have hb35 := hm5.at hb34 htb3
      obtain ⟨va5, vc5, rfl, _⟩ := ho5.val
      (try simp only [go_sem, Nat.reduceAdd, Nat.reduceEqDiff, Nat.reduceLT, Nat.reduceLeDiff, Nat.reduceMul, reduceCtorEq, ↓reduceIte])
      refine e_st1 (off := 1) rfl rfl p15 rfl (by simp) ?_
      intro w6 hb6 hm6 hs6
      (try simp only [go_sem, Nat.reduceAdd, Nat.reduceEqDiff, Nat.reduceLT, Nat.reduceLeDiff, Nat.reduceMul, reduceCtorEq, ↓reduceIte])
      have hm16 : Mod (fun b => b = bm ∨ tfp = some b) w1 w6 := ((hm34.weak (fun _ h => h.elim)).step hm5 (fun b hb _ => .inr hb)).step hm6 (fun b hb _ => .inl hb)
      have hno : ∀ b, b = bm ∨ tfp = some b → ∀ cs fz, w1.heap[b]? = some (.cells cs 3 fz) → False := by
        rintro b (rfl | hb) cs fz hc
        · exact kind_ne p1 hc (by omega)
        · exact own_kind hto1.own hb hc (by omega)
      have hmd6 := hm16.at hmd1 (fun h => hno _ h _ _ hmd1)
      (try simp only [go_sem, Nat.reduceAdd, Nat.reduceEqDiff, Nat.reduceLT, Nat.reduceLeDiff, Nat.reduceMul, reduceCtorEq, ↓reduceIte, Nat.mul_one, Int.toNat_natCast, Int.toNat_zero, Nat.sub_zero, Nat.sub_self, cell_of hb6, b1])
      refine e_st1 (off := e') rfl rfl hmd6 rfl (by simp; rw [hi.len]; exact g2) ?_
      intro w7 hb7 hm7 hs7
      have hm7 : Mod (· = bd) w6 w7 := hm7.of_drew
      rw [map_set] at hb7
      (try simp only [go_sem, Nat.reduceAdd, Nat.reduceEqDiff, Nat.reduceLT, Nat.reduceLeDiff, Nat.reduceMul, reduceCtorEq, ↓reduceIte])
      have hm7' : ∀ b, b ≠ bd → ∀ o, w6.heap[b]? = some o → w7.heap[b]? = some o := fun b hb o ho => hm7.at ho hb
      have hall : Mod (fun b => ¬ X b) w w7 := (hm1X.step hm16 (fun b hb _ hx => by
        rcases hb with rfl | hb
        · exact hm.X1.1 hx
        · exact hm.X3 b hb hx)).step hm7 (fun b hb _ hx => by rw [hb] at hx; exact hm.X1.2.2 hx)
      have hs16 := hm16.size; have hs34 := hm3.size; have hs14 := hm34.size
      have hlen : (ts.length : Int) + 1 = (out.length : Int) + 1 := by omega
      refine ⟨md.set e' ((out.length : Int) + 1), .slice va5 (ts.length + 1) vc5, ts ++ [(ndAt ns e', b3)], fp5, n3, ?_, ⟨?_, ?_, ?_, ?_, ⟨?_, ?_, ?_⟩, hm.od, p4, hpd1, ?_, hm.X1, hX2, ?_, ?_, ?_⟩, hall, .inr ⟨e', b3, rfl, n2, n4, n5, n6⟩⟩
      · rw [getD_set _ _ _ _ (by rw [hi.len]; exact g2), if_pos rfl, n2, List.idxOf_append, if_neg n1]
        simp
      · refine hm7' bm hbmd _ ?_
        simpa using hb6
      · exact hm7' bo hm.od _ (hm16.at p2 (fun h => hno _ h _ _ p2))
      · rw [← hlen]; simpa using hb7
      · refine (p3.mod hm16 (fun b hb hh => ?_)).mod hm7 (fun b hb hh => hpd1 (hh ▸ hb))
        rcases p3.2 with ⟨_, _, h⟩ | ⟨b', c', sp', _, h, h', _⟩
        · rw [h] at hb; cases hb
        · rw [h] at hb; cases hb; exact hno _ hh _ _ h'
      · have h1 := (ho5.mod hm6 (fun b hb hh => own_kind ho5 hb (hh ▸ p15) (by omega)))
        have h2 := h1.mod hm7 (fun b hb hh => own_kind h1 hb (hh ▸ hmd6) (by omega))
        simpa [flat_app, flat_one] using h2
      · intro t ht
        rcases List.mem_append.1 ht with ht | ht
        · exact hm7' t.2 (hm.tr t ht).2.1 _ (hm16.at (hto1.row t ht) (fun h => hno _ h _ _ (hto1.row t ht)))
        · simp only [List.mem_cons, List.not_mem_nil, or_false] at ht; subst ht
          refine hm7' b3 ?_ _ (hm6.at hb35 (fun hh => kind_ne hb35 (hh ▸ p15) (by omega)))
          have := lt_of_heap hmd1; omega
      · rw [List.map_append, List.nodup_append]
        refine ⟨hto1.nodup, by simp, ?_⟩
        intro a ha b hb hab
        obtain ⟨t, ht, rfl⟩ := List.mem_map.1 ha
        have := lt_of_heap (hto1.row t ht)
        simp at hb; omega
      · intro t ht
        rcases List.mem_append.1 ht with ht | ht
        · exact htr1 t ht
        · simp only [List.mem_cons, List.not_mem_nil, or_false] at ht; subst ht
          have := lt_of_heap hmd1; have := lt_of_heap p2
          refine ⟨by show b3 ≠ bo; omega, by show b3 ≠ bd; omega, fun h => ?_⟩
          have : b3 < w1.heap.size := p3.lt h
          omega
      · intro b hb hx
        have := hm.X5 b hx
        rcases hf5 b hb with h | h
        · exact hm.X3 b h hx
        · omega
      · intro t ht hx
        rcases List.mem_append.1 ht with ht | ht
        · exact hm.X4 t ht hx
        · simp only [List.mem_cons, List.not_mem_nil, or_false] at ht; subst ht
          have := hm.X5 _ hx
          have : b3 < w.heap.size := this
          omega
      · intro b hx
        have := hm.X5 b hx; have := hall.size; omega
    · have hc' : md.getD e' 0 ≠ 0 := by simpa using hc
      obtain ⟨n1, n2, n3⟩ := mi_had hw hk1 hi1 hp hle hc'
      (try simp only [go_sem, Nat.reduceAdd, Nat.reduceEqDiff, Nat.reduceLT, Nat.reduceLeDiff, Nat.reduceMul, reduceCtorEq, ↓reduceIte])
      refine ⟨md, to, ts, tfp, by rw [n2]; exact hi1, by rw [n2]; exact n3, ⟨p1, p2, hmd1, p3, hto1, hm.od, p4, hpd1, htr1, hm.X1, hX2, hm.X3, hm.X4, fun b hx => ?_⟩, hm1X, .inl ⟨rfl, n2⟩⟩
      have := hm.X5 b hx; omega
  · rintro ρ w2 ⟨md', to', ts', tfp', k1, k2, k3, k4, k5, r0, r1⟩
    have hmd2 := ints_at k3.moved (i := e') (by rw [k1.len]; exact g2)
    have hlen := met_len k1.met
    have hmem := List.idxOf_lt_length_iff.2 (mem_meet ns out p)
    have hwr : IntKind.i64.wrap (md'.getD e' 0 - 1) = ((meet ns out p).idxOf (over ns p) : Nat) := by rw [k2, wrap_in] <;> omega
    (try simp only [go_sem, Nat.reduceAdd, Nat.reduceEqDiff, Nat.reduceLT, Nat.reduceLeDiff, Nat.reduceMul, reduceCtorEq, ↓reduceIte, Nat.mul_one, Int.toNat_natCast, Int.toNat_zero, Nat.sub_zero, Nat.sub_self, r0, r1, cell_of k3.cells, b1, hmd2, hwr])
    exact ⟨l1, md', path1, to', pa1, ts', tfp', pfp1, rfl, hk1, k1, k3, k4, k5⟩
end Go.Proofs.Ytnimaifmcejkcaa
end

section
set_option linter.unusedSimpArgs false
set_option linter.unusedVariables false
namespace Go.Proofs.Ytnimaifmcejkcaa
open Go Go.W

/-- The copies so far, where those below i, and of i the first k, are renumbered. -/
structure Rel (ns : List Nd) (outF out : List Nat) (ts : List (Nd × Nat)) (i k : Nat) : Prop where
  len : ts.length = out.length
  nd : ∀ (j x : Nat), out[j]? = some x → ∃ nd b, ts[j]? = some (nd, b) ∧ nd.kind = (ndAt ns x).kind ∧ nd.num = (ndAt ns x).num ∧ nd.args.length = (ndAt ns x).args.length ∧
    ∀ (t : Nat) (a a0 : Int), nd.args[t]? = some a → (ndAt ns x).args[t]? = some a0 → if j < i ∨ (j = i ∧ t < k) then a = num ns outF a0 else (0 ≤ a ∧ a < ns.length ∧ over ns a.toNat = over ns a0.toNat)

theorem rel_nil (ns : List Nd) (outF : List Nat) : Rel ns outF [] [] 0 0 := ⟨rfl, fun j x h => by simp at h⟩

theorem rel_app {ns : List Nd} (hw : WF ns) {outF out : List Nat} {ts : List (Nd × Nat)} {i k : Nat} (h : Rel ns outF out ts i k) (hi : i ≤ out.length) (hik : i = out.length → k = 0) {e x b : Nat}
    (he : e < ns.length) (ho : over ns e = x) (hind : ind ns e = true → ind ns x = true) : Rel ns outF (out ++ [x]) (ts ++ [(ndAt ns e, b)]) i k := by
  refine ⟨by simp [h.len], ?_⟩
  intro j y hy
  rcases Nat.lt_or_ge j out.length with hj | hj
  · rw [List.getElem?_append_left hj] at hy
    obtain ⟨nd, b', h1, h2⟩ := h.nd j y hy
    exact ⟨nd, b', by rw [List.getElem?_append_left (by rw [h.len]; exact hj)]; exact h1, h2⟩
  · have hjl : j = out.length := by
      have := (List.getElem?_eq_some_iff.1 hy).1
      simp at this; omega
    subst hjl
    have hyx : y = x := by simpa using hy.symm
    subst hyx
    obtain ⟨s1, s2, s3⟩ := same_nd hw he ho hind
    have hl : (ndAt ns e).args.length = (ndAt ns y).args.length := by have := congrArg List.length s3; simpa using this
    refine ⟨ndAt ns e, b, by rw [← h.len]; simp, s1, s2, hl, ?_⟩
    intro t a a0 ha ha0
    rw [if_neg (by
      rintro (hh | ⟨hh, hk⟩)
      · omega
      · have := hik hh.symm; omega)]
    have hok := (wf_at hw he).2
    have hmem : a ∈ (ndAt ns e).args := List.mem_of_getElem? ha
    have := (List.all_eq_true.1 hok) a hmem
    simp at this
    refine ⟨this.1, this.2, ?_⟩
    have h3 := congrArg (fun l => l[t]?) s3
    simp [ha, ha0] at h3
    exact h3

theorem rel_next {ns : List Nd} {outF out : List Nat} {ts : List (Nd × Nat)} {i k x : Nat} (h : Rel ns outF out ts i k) (hx : out[i]? = some x) (hk : (ndAt ns x).args.length ≤ k) : Rel ns outF out ts (i + 1) 0 := by
  refine ⟨h.len, ?_⟩
  intro j y hy
  obtain ⟨nd, b, h1, h2, h3, h4, h5⟩ := h.nd j y hy
  refine ⟨nd, b, h1, h2, h3, h4, ?_⟩
  intro t a a0 ha ha0
  have := h5 t a a0 ha ha0
  by_cases hji : j = i
  · subst hji
    rw [hx] at hy; cases hy
    have ht : t < (ndAt ns x).args.length := (List.getElem?_eq_some_iff.1 ha0).1
    rw [if_pos (.inr ⟨rfl, by omega⟩)] at this
    rw [if_pos (.inl (by omega))]
    exact this
  · by_cases hlt : j < i
    · rw [if_pos (.inl hlt)] at this
      rw [if_pos (.inl (by omega))]; exact this
    · rw [if_neg (by omega)] at this
      rw [if_neg (by omega)]; exact this

theorem rel_set {ns : List Nd} {outF out : List Nat} {ts : List (Nd × Nat)} {i k x b : Nat} {nd : Nd} {a0 : Int} (h : Rel ns outF out ts i k) (hx : out[i]? = some x) (ht : ts[i]? = some (nd, b)) (ha0 : (ndAt ns x).args[k]? = some a0) :
    Rel ns outF out (ts.set i (⟨nd.kind, nd.num, nd.args.set k (num ns outF a0)⟩, b)) i (k + 1) := by
  refine ⟨by simp [h.len], ?_⟩
  intro j y hy
  obtain ⟨nd', b', h1, h2, h3, h4, h5⟩ := h.nd j y hy
  by_cases hji : i = j
  · subst hji
    rw [hx] at hy; cases hy
    rw [ht] at h1; cases h1
    have hi : i < ts.length := (List.getElem?_eq_some_iff.1 ht).1
    refine ⟨⟨nd.kind, nd.num, nd.args.set k (num ns outF a0)⟩, b, by rw [List.getElem?_set, if_pos rfl, if_pos hi], h2, h3, by simpa using h4, ?_⟩
    intro t a a1 ha ha1
    simp only [List.getElem?_set] at ha
    split at ha
    · rename_i hkt
      subst hkt
      rw [if_pos (.inr ⟨rfl, by omega⟩)]
      split at ha
      · rw [ha0] at ha1; cases ha1; exact (Option.some.inj ha).symm
      · cases ha
    · rename_i hkt
      have := h5 t a a1 ha ha1
      by_cases htk : t < k
      · rw [if_pos (.inr ⟨rfl, htk⟩)] at this
        rw [if_pos (.inr ⟨rfl, by omega⟩)]; exact this
      · rw [if_neg (by omega)] at this
        rw [if_neg (by omega)]; exact this
  · refine ⟨nd', b', by rw [List.getElem?_set, if_neg hji]; exact h1, h2, h3, h4, ?_⟩
    intro t a a1 ha ha1
    have := h5 t a a1 ha ha1
    by_cases hlt : j < i
    · rw [if_pos (.inl hlt)] at this
      rw [if_pos (.inl hlt)]; exact this
    · rw [if_neg (by omega)] at this
      rw [if_neg (by omega)]; exact this

theorem rel_done {ns : List Nd} {outF : List Nat} {ts : List (Nd × Nat)} {i : Nat} (h : Rel ns outF outF ts i 0) (hi : outF.length ≤ i) : ts.map Prod.fst = outF.map (moveNd ns outF) := by
  apply List.ext_getElem?
  intro j
  rcases Nat.lt_or_ge j outF.length with hj | hj
  · obtain ⟨nd, b, h1, h2, h3, h4, h5⟩ := h.nd j outF[j] (by simp [hj])
    simp only [List.getElem?_map, h1, Option.map_some, List.getElem?_eq_getElem hj]
    congr 1
    have : nd.args = (ndAt ns outF[j]).args.map (num ns outF) := by
      apply List.ext_getElem?
      intro t
      rcases Nat.lt_or_ge t nd.args.length with ht | ht
      · have e1 : nd.args[t]? = some nd.args[t] := List.getElem?_eq_getElem ht
        have e2 : (ndAt ns outF[j]).args[t]? = some ((ndAt ns outF[j]).args[t]'(by omega)) := List.getElem?_eq_getElem (by omega)
        have := h5 t _ _ e1 e2
        rw [if_pos (.inl (by omega))] at this
        rw [e1, List.getElem?_map, e2, Option.map_some, this]
      · rw [List.getElem?_eq_none ht, List.getElem?_eq_none (by simp; omega)]
    obtain ⟨k1, n1, a1⟩ := nd
    simp only [moveNd]
    simp only at h2 h3 this
    rw [h2, h3, this]
  · rw [List.getElem?_eq_none (by simp [h.len]; exact hj), List.getElem?_eq_none (by simpa using hj)]

theorem meets_app (ns : List Nd) (a b : List Int) (out : List Nat) : meets ns out (a ++ b) = meets ns (meets ns out a) b := by simp [meets]
theorem meets_take (ns : List Nd) (l : List Int) (out : List Nat) {k : Nat} {a : Int} (h : l[k]? = some a) : meets ns out (l.take (k + 1)) = meet ns (meets ns out (l.take k)) a.toNat := by
  obtain ⟨hk, rfl⟩ := List.getElem?_eq_some_iff.1 h
  rw [List.take_succ_eq_append_getElem hk, meets_app]; rfl
theorem meets_take_pre (ns : List Nd) (l : List Int) (out : List Nat) (k : Nat) : meets ns out (l.take k) <+: meets ns out l := by
  conv => rhs; rw [← List.take_append_drop k l, meets_app]
  exact meets_pre ns _ _
theorem meet_over (ns : List Nd) (out : List Nat) {p q : Nat} (h : over ns p = over ns q) : meet ns out p = meet ns out q := by simp [meet, h]
end Go.Proofs.Ytnimaifmcejkcaa
end

section
set_option linter.unusedSimpArgs false
set_option linter.unusedVariables false
namespace Go.Proofs.Ytnimaifmcejkcaa
open Go Go.W

def ColPost (Ta Tc : Nat) (a : Nat) (size times : Int) (F : Nat → Prop) (w : World) (ns : List Nd) (roots : List Int) (r : Value) (w' : World) : Prop :=
  (okPl ns.length roots = false → r = .tuple #[.slice none 0 0, I 202] ∧ Mod (fun _ => False) w w') ∧
  (okPl ns.length roots = true → ∃ v fp F', r = .tuple #[v, I 0] ∧ Own w' 3 1 v ((colRoots ns roots).map I) (colRoots ns roots).length fp ∧
    ArenaAt Ta Tc w' a size (IntKind.i64.wrap (times + 1)) (colNs ns roots) F' ∧ Grow F F' w w' ∧ ∀ b, fp = some b → w.heap.size ≤ b ∧ ¬ F' b)

theorem MW.modX {w w' : World} {X S : Nat → Prop} {bm bo bd : Nat} {cf to pa : Value} {n : Nat} {l md path : List Int} {ts : List (Nd × Nat)} {tfp pfp : Option Nat} (h : MW w X bm bo bd cf to pa n l md path ts tfp pfp)
    (hm : Mod S w w') (hs : ∀ b, S b → X b) : MW w' X bm bo bd cf to pa n l md path ts tfp pfp :=
  ⟨hm.at h.cells (fun hh => h.X1.1 (hs _ hh)), hm.at h.over (fun hh => h.X1.2.1 (hs _ hh)), hm.at h.moved (fun hh => h.X1.2.2 (hs _ hh)), h.path.mod hm (fun b hb hh => h.X2 b hb (hs _ hh)),
    h.to.mod hm (fun b hb hh => h.X3 b hb (hs _ hh)) (fun t ht hh => h.X4 t ht (hs _ hh)), h.od, h.po, h.pd, h.tr, h.X1, h.X2, h.X3, h.X4, fun b hb => Nat.lt_of_lt_of_le (h.X5 b hb) hm.size⟩

theorem fill_next (f : Int → Int) (l : List Int) (z : Value) (k : Nat) (hk : k < l.length) :
    (((l.take k).map f).map I ++ List.replicate (l.length - k) z).set k (I (f l[k])) = ((l.take (k + 1)).map f).map I ++ List.replicate (l.length - (k + 1)) z := by
  have h1 : (((l.take k).map f).map I).length = k := by simp; omega
  rw [List.set_append, if_neg (by omega), h1, Nat.sub_self, show l.length - k = (l.length - (k + 1)) + 1 by omega, List.replicate_succ, List.set_cons_zero, List.take_succ_eq_append_getElem hk]
  simp only [List.map_append, List.map_cons, List.map_nil, List.append_assoc, List.cons_append, List.nil_append]

theorem to_at {w : World} {to : Value} {ts : List (Nd × Nat)} {tfp : Option Nat} (h : ToAt w to ts tfp) {i b : Nat} {nd : Nd} (hi : ts[i]? = some (nd, b)) :
    ∃ tb tc, to = .slice (some ⟨tb, 0, none⟩) ts.length tc ∧ w.cell? ⟨tb, i * 3 + 2, none⟩ = some (.slice (some ⟨b, 0, none⟩) nd.args.length nd.args.length) ∧ w.heap[b]? = some (.cells (nd.args.map I).toArray 3 (0, 0)) := by
  obtain ⟨hlt, he⟩ := List.getElem?_eq_some_iff.1 hi
  obtain ⟨tb, tc, sp', rfl, rfl, h3, _, _⟩ := h.own.pos (by omega)
  refine ⟨tb, tc, rfl, ?_, ?_⟩
  · have := node_cell h3 (i := i) (k := 2) (by simpa using hlt) (by omega)
    rw [this]
    simp [nc, cpv, he]
  · have := h.row _ (List.getElem_mem hlt)
    rw [he] at this; exact this

theorem map_set_same {α β : Type} (f : α → β) (l : List α) (i : Nat) (y x : α) (hx : l[i]? = some x) (h : f y = f x) : (l.set i y).map f = l.map f := by
  apply List.ext_getElem?
  intro j
  simp only [List.getElem?_map, List.getElem?_set]
  split
  · rename_i hij; subst hij
    rw [if_pos (List.getElem?_eq_some_iff.1 hx).1, hx]; simp [h]
  · rfl

theorem MW.set {w w' : World} {X : Nat → Prop} {bm bo bd : Nat} {cf to pa : Value} {n : Nat} {l md path : List Int} {ts : List (Nd × Nat)} {tfp pfp : Option Nat} (h : MW w X bm bo bd cf to pa n l md path ts tfp pfp)
    {i b : Nat} {nd : Nd} (hi : ts[i]? = some (nd, b)) {xs : List Int} (hl : xs.length = nd.args.length) (hm : Mod (· = b) w w') (hb : w'.heap[b]? = some (.cells (xs.map I).toArray 3 (0, 0))) :
    MW w' X bm bo bd cf to pa n l md path (ts.set i (⟨nd.kind, nd.num, xs⟩, b)) tfp pfp := by
  have hmem := List.mem_of_getElem? hi
  obtain ⟨hlt, he⟩ := List.getElem?_eq_some_iff.1 hi
  have hrow := h.to.row _ hmem
  have htr := h.tr _ hmem
  have hsnd : (ts.set i (⟨nd.kind, nd.num, xs⟩, b)).map Prod.snd = ts.map Prod.snd := map_set_same _ _ _ _ _ hi rfl
  have hflat : flat ((ts.set i (⟨nd.kind, nd.num, xs⟩, b)).map cpv) = flat (ts.map cpv) := by
    simp only [flat, List.flatMap_map]
    have : (ts.set i (⟨nd.kind, nd.num, xs⟩, b)).map (fun t => nc (cpv t)) = ts.map (fun t => nc (cpv t)) := map_set_same _ _ _ _ _ hi (by simp [nc, cpv, hl])
    rw [List.flatMap_def, List.flatMap_def, this]
  have hset : ∀ t, t ∈ ts.set i (⟨nd.kind, nd.num, xs⟩, b) → t = (⟨nd.kind, nd.num, xs⟩, b) ∨ (t ∈ ts ∧ t.2 ≠ b) := by
    intro t ht
    obtain ⟨j, hj⟩ := List.getElem?_of_mem ht
    rw [List.getElem?_set] at hj
    split at hj
    · first
        | exact .inl (Option.some.inj hj).symm
        | (split at hj
           · exact .inl (Option.some.inj hj).symm
           · cases hj)
    · rename_i hij
      refine .inr ⟨List.mem_of_getElem? hj, fun hh => ?_⟩
      obtain ⟨hjl, hje⟩ := List.getElem?_eq_some_iff.1 hj
      have h1 : (ts.map Prod.snd)[i]'(by simpa using hlt) = (ts.map Prod.snd)[j]'(by simpa using hjl) := by simp [he, hje, hh]
      exact hij ((List.getElem_inj h.to.nodup).1 h1)
  refine ⟨hm.at h.cells (fun hh => by subst hh; exact kind_ne hrow h.cells (by omega)), hm.at h.over (fun hh => htr.1 hh.symm), hm.at h.moved (fun hh => htr.2.1 hh.symm), h.path.mod hm (fun b' hb' hh => htr.2.2 (by rw [hb', hh])),
    ⟨?_, ?_, by rw [hsnd]; exact h.to.nodup⟩, h.od, h.po, h.pd, ?_, h.X1, h.X2, h.X3, ?_, fun b hb => Nat.lt_of_lt_of_le (h.X5 b hb) hm.size⟩
  · rw [hflat]
    simpa using h.to.own.mod hm (fun b' hb' hh => own_kind h.to.own hb' (hh ▸ hrow) (by omega))
  · intro t ht
    rcases hset t ht with rfl | ⟨h1, h2⟩
    · exact hb
    · exact hm.at (h.to.row t h1) h2
  · intro t ht
    rcases hset t ht with rfl | ⟨h1, h2⟩
    · exact htr
    · exact h.tr t h1
  · intro t ht
    rcases hset t ht with rfl | ⟨h1, h2⟩
    · have := h.X4 _ hmem
      exact this
    · exact h.X4 t h1

/-- What stays true while Collect goes: w is the world at its beginning. -/
def CI (ns : List Nd) (outF : List Nat) (w w' : World) (bm bo bd bu : Nat) (cf : Value) (out : List Nat) (i k : Nat) (bi : Option Nat) (us : List Value) : Prop :=
  ∃ l md path to pa ts tfp pfp, MW w' (fun b => b < w.heap.size ∨ b = bu) bm bo bd cf to pa ns.length l md path ts tfp pfp ∧ KI ns l ∧ MI ns l md out ∧ Rel ns outF out ts i k ∧
    (∀ b, bi = some b → ∃ nd, ts[i]? = some (nd, b)) ∧ Mod (fun _ => False) w w' ∧ w'.heap[bu]? = some (.cells us.toArray 3 (0, 0)) ∧ w.heap.size ≤ bu

theorem ci_move {ns : List Nd} (hw : WF ns) (hn : ns.length ≤ 1048576) {outF : List Nat} {w w' : World} {bm bo bd bu : Nat} {cf : Value} {out : List Nat} {i k : Nat} {bi : Option Nat} {us : List Value} {F : Nat → Prop}
    (hfr : FromAt 87 w cf ns F) (h : CI ns outF w w' bm bo bd bu cf out i k bi us) (hi : i ≤ out.length) (hik : i = out.length → k = 0) {p : Nat} (hp : p < ns.length) (hpre : meet ns out p <+: outF) :
    CallsR Try.prog 67 [.pointer (some ⟨bm, 0, none⟩), I p] w' (fun r w2 => r = I (outF.idxOf (over ns p) : Nat) ∧ CI ns outF w w2 bm bo bd bu cf (meet ns out p) i k bi us) := by
  obtain ⟨l, md, path, to, pa, ts, tfp, pfp, h1, h2, h3, h4, h5, h6, h7, h8⟩ := h
  have hF : ∀ b, F b → b < w.heap.size := by obtain ⟨_, _, _, _, _, _, h⟩ := hfr; exact h
  refine (move_ok ns hw hn w' _ bm bo bd cf to pa l md path ts tfp pfp F out (hfr.mod h6 (fun _ _ h => h)) (fun b hb => .inl (hF b hb)) h1 h2 h3 h4.len p hp).mono ?_
  rintro r w2 ⟨l', md', path', to', pa', ts', tfp', pfp', rfl, k1, k2, k3, k4, k5⟩
  refine ⟨by rw [idx_pre hpre (mem_meet ns out p)], l', md', path', to', pa', ts', tfp', pfp', k3, k1, k2, ?_, ?_, h6.step k4 (fun b hb hlt => hb (.inl hlt)), k4.at h7 (fun hh => hh (.inr rfl)), h8⟩
  · rcases k5 with ⟨rfl, e⟩ | ⟨e, b, rfl, e1, e2, e3, e4⟩
    · rw [e]; exact h4
    · rw [e1]; exact rel_app hw h4 hi hik e2 e3 e4
  · intro b hb
    obtain ⟨nd, hnd⟩ := h5 b hb
    rcases k5 with ⟨rfl, e⟩ | ⟨e, b, rfl, e1, e2, e3, e4⟩
    · exact ⟨nd, hnd⟩
    · exact ⟨nd, by rw [List.getElem?_append_left (List.getElem?_eq_some_iff.1 hnd).1]; exact hnd⟩

theorem col_ok (a : Nat) (size times : Int) (ns : List Nd) (F : Nat → Prop) (w : World) (v : Value) (roots : List Int) (h : ArenaAt 81 87 w a size times ns F) (hn : ns.length ≤ 1048576) (hw : WF ns) (hx : Ints w v roots) :
    CallsR Try.prog 50 [.pointer (some ⟨a, 0, none⟩), v] w (ColPost 81 87 a size times F w ns roots) := by
  have hh := h.has
  have hx0 := hx
  obtain ⟨va, vc, rfl, hxl, _⟩ := hx0
  refine fit50.calls rfl ?_
  unfold ir50
  (try simp only [go_sem, Nat.reduceAdd, Nat.reduceEqDiff, Nat.reduceLT, Nat.reduceLeDiff, Nat.reduceMul, reduceCtorEq, ↓reduceIte])
  refine e_call (by rfl) ?_
  refine (places_ok a ns.length _ roots w hh hx).mono ?_
  rintro r _ ⟨rfl, rfl⟩
  (try simp only [go_sem, Nat.reduceAdd, Nat.reduceEqDiff, Nat.reduceLT, Nat.reduceLeDiff, Nat.reduceMul, reduceCtorEq, ↓reduceIte])
  refine ir_cond rfl (fun hc => ?_) (fun hc => ?_)
  · have hc' : okPl ns.length roots = false := by simpa using hc
    (try simp only [go_sem, Nat.reduceAdd, Nat.reduceEqDiff, Nat.reduceLT, Nat.reduceLeDiff, Nat.reduceMul, reduceCtorEq, ↓reduceIte])
    exact ⟨fun _ => ⟨rfl, Mod.refl _ _⟩, fun h => by rw [hc'] at h; cases h⟩
  have hc' : okPl ns.length roots = true := by simpa using hc
  obtain ⟨cv, fpc, ps, g1, g2, g3, g4, g5, g6, g7⟩ := id h
  have hFa : a < w.heap.size := lt_of_heap g1
  have hfr : FromAt 87 w cv ns F := ⟨fpc, ps, g3, g4, g5, g6, g7⟩
  obtain ⟨ca, cc, rfl, _, _⟩ := g3.val
  (try simp only [go_sem, Nat.reduceAdd, Nat.reduceEqDiff, Nat.reduceLT, Nat.reduceLeDiff, Nat.reduceMul, reduceCtorEq, ↓reduceIte, cell_of g1])
  refine wpD_cut (fun ρ w' => ∃ bo bd bm, ρ.get 0 = some (.pointer (some ⟨a, 0, none⟩)) ∧ ρ.get 1 = some (.slice va roots.length vc) ∧ ρ.get 6 = some (.pointer (some ⟨bm, 0, none⟩)) ∧
    w'.heap[bm]? = some (.cells #[.slice ca ns.length cc, .slice none 0 0, .slice (some ⟨bo, 0, none⟩) ns.length ns.length, .slice (some ⟨bd, 0, none⟩) ns.length ns.length, .slice none 0 0] 100 (0, 0)) ∧
    w'.heap[bo]? = some (.cells (List.replicate ns.length (I 0)).toArray 3 (0, 0)) ∧ w'.heap[bd]? = some (.cells (List.replicate ns.length (I 0)).toArray 3 (0, 0)) ∧ bo ≠ bd ∧ w.heap.size ≤ bo ∧ w.heap.size ≤ bd ∧ w.heap.size ≤ bm ∧
    Mod (fun _ => False) w w') ?_ ?_
  · rw [wpD_e2]
    refine ⟨?_, ?_⟩
    · refine e_ms1 (n := ns.length) rfl (by omega) (by omega) ?_
      intro w1 hb1 hm1 hs1
      have hm1 : Mod (fun _ => False) w w1 := hm1.of_drew
      have hs1 : w1.heap.size = w.heap.size + 1 := hs1
      (try simp only [go_sem, Nat.reduceAdd, Nat.reduceEqDiff, Nat.reduceLT, Nat.reduceLeDiff, Nat.reduceMul, reduceCtorEq, ↓reduceIte])
      have ka := hm1.old a hFa (fun h => h)
      refine ⟨by simp only [drew_heap, ka, and_self, implies_true], ?_⟩
      refine e_ms1 (n := ns.length) rfl (by omega) (by omega) ?_
      intro w2 hb2 hm2 hs2
      have ka2 := hm2.old a (by omega) (fun h => h)
      (try simp only [go_sem, Nat.reduceAdd, Nat.reduceEqDiff, Nat.reduceLT, Nat.reduceLeDiff, Nat.reduceMul, reduceCtorEq, ↓reduceIte])
      refine ⟨by simp only [drew_heap, ka2, and_self, implies_true], ?_⟩
      refine e_bx rfl ?_
      intro w3 hb3 hm3 hs3
      (try simp only [go_sem, Nat.reduceAdd, Nat.reduceEqDiff, Nat.reduceLT, Nat.reduceLeDiff, Nat.reduceMul, reduceCtorEq, ↓reduceIte])
      refine ⟨w.heap.size, w1.heap.size, w2.heap.size, ?_⟩
      have hm23 := hm2.trans hm3
      refine ⟨rfl, hb3, hm23.at hb1 (fun h => h), hm3.at hb2 (fun h => h), ?_, ?_, ?_, ?_, (hm1.trans hm2).trans hm3⟩
      all_goals omega
    · refine e_ms1 (n := ns.length) rfl (by omega) (by omega) ?_
      intro w1 hb1 hm1 hs1
      have hm1 : Mod (fun _ => False) w w1 := hm1.of_drew
      have hs1 : w1.heap.size = w.heap.size + 1 := hs1
      (try simp only [go_sem, Nat.reduceAdd, Nat.reduceEqDiff, Nat.reduceLT, Nat.reduceLeDiff, Nat.reduceMul, reduceCtorEq, ↓reduceIte])
      have ka := hm1.old a hFa (fun h => h)
      refine ⟨by simp only [drew_heap, ka, and_self, implies_true], ?_⟩
      refine e_ms1 (n := ns.length) rfl (by omega) (by omega) ?_
      intro w2 hb2 hm2 hs2
      have ka2 := hm2.old a (by omega) (fun h => h)
      (try simp only [go_sem, Nat.reduceAdd, Nat.reduceEqDiff, Nat.reduceLT, Nat.reduceLeDiff, Nat.reduceMul, reduceCtorEq, ↓reduceIte])
      refine ⟨by simp only [drew_heap, ka2, and_self, implies_true], ?_⟩
      refine e_bx rfl ?_
      intro w3 hb3 hm3 hs3
      (try simp only [go_sem, Nat.reduceAdd, Nat.reduceEqDiff, Nat.reduceLT, Nat.reduceLeDiff, Nat.reduceMul, reduceCtorEq, ↓reduceIte])
      refine ⟨w1.heap.size, w.heap.size, w2.heap.size, ?_⟩
      have hm23 := hm2.trans hm3
      refine ⟨rfl, hb3, hm3.at hb2 (fun h => h), hm23.at hb1 (fun h => h), ?_, ?_, ?_, ?_, (hm1.trans hm2).trans hm3⟩
      all_goals omega
  rintro ρ w3 ⟨bo, bd, bm, r0, r1, r6, m1, m2, m3, mod, mo, md, mm, hm3⟩
  (try simp only [go_sem, Nat.reduceAdd, Nat.reduceEqDiff, Nat.reduceLT, Nat.reduceLeDiff, Nat.reduceMul, reduceCtorEq, ↓reduceIte, r0, r1, r6])
  refine e_ms1 (n := roots.length) rfl (by omega) (by omega) ?_
  intro w4 hb4 hm4 hs4
  have hm4w := hm3.trans hm4
  have hm4w := hm3.trans hm4
  have hokr : ∀ (k : Nat) (hk : k < roots.length), 0 ≤ roots[k] ∧ roots[k] < ns.length := fun k hk => by
    have := (List.all_eq_true.1 hc') roots[k] (List.getElem_mem hk)
    simpa using this
  have hbu : w.heap.size ≤ w3.heap.size := hm3.size
  have hrep0 : List.replicate ns.length (I 0) = (List.replicate ns.length (0 : Int)).map I := by simp
  have hne : ∀ b o, w3.heap[b]? = some o → b ≠ w3.heap.size := fun b o h => by have := lt_of_heap h; omega
  have hci0 : CI ns (reached ns roots) w w4 bm bo bd w3.heap.size (.slice ca ns.length cc) [] 0 0 none (List.replicate roots.length (I 0)) := by
    refine ⟨List.replicate ns.length 0, List.replicate ns.length 0, [], .slice none 0 0, .slice none 0 0, [], none, none, ?_, ki_start ns, mi_start ns _, rel_nil ns _, (fun b h => by cases h), hm4w, hb4, hbu⟩
    have n1 := hne _ _ m1; have n2 := hne _ _ m2; have n3 := hne _ _ m3
    refine ⟨hm4.at m1 (fun h => h), by rw [← hrep0]; exact hm4.at m2 (fun h => h), by rw [← hrep0]; exact hm4.at m3 (fun h => h), Own.nil _ _ _, ⟨Own.nil _ _ _, (fun t h => by cases h), List.nodup_nil⟩, mod, (fun h => by cases h), (fun h => by cases h), (fun t h => by cases h), ?_, (fun b h => by cases h), (fun b h => by cases h), (fun t h => by cases h), ?_⟩
    · omega
    · intro b hb; omega
  (try simp only [go_sem, Nat.reduceAdd, Nat.reduceEqDiff, Nat.reduceLT, Nat.reduceLeDiff, Nat.reduceMul, reduceCtorEq, ↓reduceIte])
  refine ir_loop (fun m ρ w' => ∃ k : Nat, m = roots.length - k ∧ k ≤ roots.length ∧ CI ns (reached ns roots) w w' bm bo bd w3.heap.size (.slice ca ns.length cc) (meets ns [] (roots.take k)) 0 0 none (((roots.take k).map (num ns (reached ns roots))).map I ++ List.replicate (roots.length - k) (I 0)) ∧
    ρ = [(0, .pointer (some ⟨a, 0, none⟩)), (6, .pointer (some ⟨bm, 0, none⟩)), (7, .slice (some ⟨w3.heap.size, 0, none⟩) roots.length roots.length), (39, .slice va roots.length vc), (40, I roots.length), (41, I k)]) roots.length
    ⟨0, rfl, by omega, by simpa [meets] using hci0, rfl⟩ ?_
  rintro m ρ w5 ⟨k, rfl, hk, hci, rfl⟩
  unfold ir50L1
  (try simp only [go_sem, Nat.reduceAdd, Nat.reduceEqDiff, Nat.reduceLT, Nat.reduceLeDiff, Nat.reduceMul, reduceCtorEq, ↓reduceIte])
  refine ir_cond rfl (fun hlt => ?_) (fun hlt => ?_)
  · have hlt' : k < roots.length := by simpa using hlt
    have hx5 : Ints w5 (.slice va roots.length vc) roots := by
      obtain ⟨_, _, _, _, _, _, _, _, _, _, _, _, _, hm, _⟩ := hci
      exact hx.mod hm (fun _ _ h => h)
    obtain ⟨_, _, hve, _, hxx⟩ := id hx5
    cases hve
    obtain ⟨ad, rfl, had⟩ := hxx k hlt'
    have b1 : (0 : Int) ≤ k ∧ (k : Int) < roots.length := by omega
    have hr := hokr k hlt'
    have hrn : roots[k] = ((roots[k].toNat : Nat) : Int) := by omega
    rw [hrn] at had
    (try simp only [go_sem, Nat.reduceAdd, Nat.reduceEqDiff, Nat.reduceLT, Nat.reduceLeDiff, Nat.reduceMul, reduceCtorEq, ↓reduceIte, Nat.mul_one, Int.toNat_natCast, Int.toNat_zero, Nat.sub_zero, Nat.sub_self, b1, had])
    have hpre : meet ns (meets ns [] (roots.take k)) roots[k].toNat <+: reached ns roots := by
      rw [← meets_take ns roots [] (a := roots[k]) (by simp [hlt'])]
      exact (meets_take_pre ns roots [] (k + 1)).trans (reach_pre ns _ _ _)
    refine e_call (by rfl) ?_
    refine (ci_move hw hn hfr hci (by omega) (fun _ => rfl) (by omega) hpre).mono ?_
    rintro r w6 ⟨rfl, l, md, path, to, pa, ts, tfp, pfp, q1, q2, q3, q4, q5, q6, q7, q8⟩
    (try simp only [go_sem, Nat.reduceAdd, Nat.reduceEqDiff, Nat.reduceLT, Nat.reduceLeDiff, Nat.reduceMul, reduceCtorEq, ↓reduceIte, Nat.mul_one, Int.toNat_natCast, Int.toNat_zero, Nat.sub_zero, Nat.sub_self, b1])
    refine e_st1 (off := k) rfl rfl q7 rfl (by simp; omega) ?_
    intro w7 hb7 hm7 hs7
    have hwt : IntKind.i64.wrap ((k : Int) + 1) = ((k + 1 : Nat) : Int) := by rw [wrap_in] <;> omega
    (try simp only [go_sem, Nat.reduceAdd, Nat.reduceEqDiff, Nat.reduceLT, Nat.reduceLeDiff, Nat.reduceMul, reduceCtorEq, ↓reduceIte, hwt])
    refine ⟨_, ?_, k + 1, rfl, by omega, ⟨l, md, path, to, pa, ts, tfp, pfp, q1.modX hm7 (fun b hb => .inr hb), q2, ?_, ?_, q5, q6.step hm7 (fun b hb hlt => by omega), ?_, q8⟩, rfl⟩
    · omega
    · rw [meets_take ns roots [] (a := roots[k]) (by simp [hlt'])]; exact q3
    · rw [meets_take ns roots [] (a := roots[k]) (by simp [hlt'])]; exact q4
    · rw [hb7]
      congr 3
      exact fill_next (num ns (reached ns roots)) roots (I 0) k hlt'
  · have hlt' : k = roots.length := by simp at hlt; omega
    subst hlt'
    (try simp only [go_sem, Nat.reduceAdd, Nat.reduceEqDiff, Nat.reduceLT, Nat.reduceLeDiff, Nat.reduceMul, reduceCtorEq, ↓reduceIte])
    have husl : ((roots.take roots.length).map (num ns (reached ns roots))).map I ++ List.replicate (roots.length - roots.length) (I 0) = (colRoots ns roots).map I := by simp [colRoots]
    rw [husl, List.take_length] at hci
    refine ir_loop (fun m ρ w' => ∃ (i f : Nat) (out : List Nat), m = ns.length + 1 - i ∧ f + i = ns.length + 1 ∧ i ≤ out.length ∧ reach ns f i out = reached ns roots ∧
      CI ns (reached ns roots) w w' bm bo bd w3.heap.size (.slice ca ns.length cc) out i 0 none ((colRoots ns roots).map I) ∧
      ρ = [(0, .pointer (some ⟨a, 0, none⟩)), (6, .pointer (some ⟨bm, 0, none⟩)), (7, .slice (some ⟨w3.heap.size, 0, none⟩) roots.length roots.length), (10, I i)]) (ns.length + 1)
      ⟨0, ns.length + 1, _, rfl, rfl, Nat.zero_le _, rfl, hci, rfl⟩ ?_
    rintro m ρ w6 ⟨i, f, out, rfl, hfi, hio, hrch, hci6, rfl⟩
    unfold ir50L3
    obtain ⟨l, md', path, to, pa, ts, tfp, pfp, q1, q2, q3, q4, q5, q6, q7, q8⟩ := id hci6
    obtain ⟨ta, tc, rfl, _, _⟩ := q1.to.own.val
    have hmetl := met_len q3.met
    (try simp only [go_sem, Nat.reduceAdd, Nat.reduceEqDiff, Nat.reduceLT, Nat.reduceLeDiff, Nat.reduceMul, reduceCtorEq, ↓reduceIte, Nat.mul_one, Int.toNat_natCast, Int.toNat_zero, Nat.sub_zero, Nat.sub_self, cell_of q1.cells])
    refine ir_cond rfl (fun hlt => ?_) (fun hlt => ?_)
    · have hlt' : i < ts.length := by simpa using hlt
      have hilt : i < out.length := by rw [← q4.len]; exact hlt'
      have hxo : out[i]? = some out[i] := by simp [hilt]
      obtain ⟨nd, b, t1, t2, t3, t4, t5⟩ := q4.nd i out[i] hxo
      obtain ⟨tb, tc', hte, tcell, trow⟩ := to_at q1.to t1
      cases hte
      have b1 : (0 : Int) ≤ i ∧ (i : Int) < ts.length := by omega
      (try simp only [go_sem, Nat.reduceAdd, Nat.reduceEqDiff, Nat.reduceLT, Nat.reduceLeDiff, Nat.reduceMul, reduceCtorEq, ↓reduceIte, Nat.mul_one, Int.toNat_natCast, Int.toNat_zero, Nat.sub_zero, Nat.sub_self, cell_of q1.cells, b1, tcell])
      have hAlen : nd.args.length = (ndAt ns out[i]).args.length := t4
      have hA8 : nd.args.length ≤ 8 := by
        rw [t4]
        have hx := q3.met.2 out[i] (List.getElem_mem hilt)
        have hm := (wf_at hw hx.1).1
        simp only [Nd.may, mayB, decide_eq_true_eq] at hm
        omega
      obtain ⟨f, rfl⟩ : ∃ f', f = f' + 1 := ⟨f - 1, by omega⟩
      have hstep := reach_step ns f i out hilt
      rw [hstep] at hrch
      have hpreF : meets ns out (ndAt ns out[i]).args <+: reached ns roots := by rw [← hrch]; exact reach_pre ns _ _ _
      have hx5 := out[i]
      refine ir_loop (fun m ρ w' => ∃ k : Nat, m = nd.args.length - k ∧ k ≤ nd.args.length ∧ CI ns (reached ns roots) w w' bm bo bd w3.heap.size (.slice ca ns.length cc) (meets ns out ((ndAt ns out[i]).args.take k)) i k (some b) ((colRoots ns roots).map I) ∧
        ρ = [(0, .pointer (some ⟨a, 0, none⟩)), (6, .pointer (some ⟨bm, 0, none⟩)), (7, .slice (some ⟨w3.heap.size, 0, none⟩) roots.length roots.length), (10, I i), (69, .slice (some ⟨b, 0, none⟩) nd.args.length nd.args.length), (70, I nd.args.length), (71, I k)]) nd.args.length
        ⟨0, rfl, Nat.zero_le _, ⟨l, md', path, _, pa, ts, tfp, pfp, q1, q2, q3, q4, (fun b' hb' => by cases hb'; exact ⟨nd, t1⟩), q6, q7, q8⟩, rfl⟩ ?_
      rintro m ρ w7 ⟨k, rfl, hk, hci7, rfl⟩
      have houtk : out <+: meets ns out ((ndAt ns out[i]).args.take k) := meets_pre ns _ _
      have hoklen := houtk.length_le
      have hxk : (meets ns out ((ndAt ns out[i]).args.take k))[i]? = some out[i] := by
        obtain ⟨tl, htl⟩ := houtk
        rw [← htl, List.getElem?_append_left hilt]; exact hxo
      unfold ir50L2
      (try simp only [go_sem, Nat.reduceAdd, Nat.reduceEqDiff, Nat.reduceLT, Nat.reduceLeDiff, Nat.reduceMul, reduceCtorEq, ↓reduceIte])
      refine ir_cond rfl (fun hkl => ?_) (fun hkl => ?_)
      · have hkl' : k < nd.args.length := by simpa using hkl
        obtain ⟨l2, md2, path2, to2, pa2, ts2, tfp2, pfp2, u1, u2, u3, u4, u5, u6, u7, u8⟩ := id hci7
        obtain ⟨nd2, v1⟩ := u5 b rfl
        obtain ⟨nd2', b2', v1', v2, v3, v4, v5⟩ := u4.nd i out[i] hxk
        rw [v1] at v1'; cases v1'
        have hkl2 : k < nd2.args.length := by omega
        have hA0 : (ndAt ns out[i]).args[k]? = some ((ndAt ns out[i]).args[k]'(by omega)) := List.getElem?_eq_getElem (by omega)
        obtain ⟨a1, ha1⟩ : ∃ a1, nd2.args[k]? = some a1 := ⟨_, List.getElem?_eq_getElem hkl2⟩
        obtain ⟨a0, ha0⟩ : ∃ a0, (ndAt ns out[i]).args[k]? = some a0 := ⟨_, hA0⟩
        have hraw := v5 k a1 a0 ha1 ha0
        rw [if_neg (by omega)] at hraw
        obtain ⟨r1', r2', r3'⟩ := hraw
        obtain ⟨_, _, _, _, trow2⟩ := to_at u1.to v1
        have hcell : w7.cell? ⟨b, k, none⟩ = some (I ((a1.toNat : Nat) : Int)) := by
          rw [cell_of trow2]
          have : ((a1.toNat : Nat) : Int) = a1 := by omega
          rw [this]
          simp [ha1]
        have b2 : (0 : Int) ≤ k ∧ (k : Int) < nd.args.length := by omega
        (try simp only [go_sem, Nat.reduceAdd, Nat.reduceEqDiff, Nat.reduceLT, Nat.reduceLeDiff, Nat.reduceMul, reduceCtorEq, ↓reduceIte, Nat.mul_one, Int.toNat_natCast, Int.toNat_zero, Nat.sub_zero, Nat.sub_self, b2, hcell])
        have hmk : meet ns (meets ns out ((ndAt ns out[i]).args.take k)) a1.toNat = meets ns out ((ndAt ns out[i]).args.take (k + 1)) := by
          rw [meets_take ns _ _ ha0]; exact meet_over ns _ r3'
        refine e_call (by rfl) ?_
        refine (ci_move hw hn hfr hci7 (by omega) (fun hh => by omega) (by omega) (by rw [hmk]; exact (meets_take_pre ns _ _ _).trans hpreF)).mono ?_
        rintro r w8 ⟨rfl, hci8⟩
        rw [hmk] at hci8
        obtain ⟨l3, md3, path3, to3, pa3, ts3, tfp3, pfp3, x1, x2, x3, x4, x5, x6, x7, x8⟩ := hci8
        obtain ⟨nd3, y1⟩ := x5 b rfl
        obtain ⟨tb3, tc3, rfl, tcell3, trow3⟩ := to_at x1.to y1
        have hx3k : (meets ns out ((ndAt ns out[i]).args.take (k + 1)))[i]? = some out[i] := by
          obtain ⟨tl, htl⟩ := meets_pre ns ((ndAt ns out[i]).args.take (k + 1)) out
          rw [← htl, List.getElem?_append_left hilt]; exact hxo
        obtain ⟨nd3', b3', y1', y2, y3, y4, y5⟩ := x4.nd i out[i] hx3k
        rw [y1] at y1'; cases y1'
        have hilt3 : i < ts3.length := (List.getElem?_eq_some_iff.1 y1).1
        have b3 : (0 : Int) ≤ i ∧ (i : Int) < ts3.length := by omega
        have b4 : (0 : Int) ≤ k ∧ (k : Int) < nd3.args.length := by omega
        (try simp only [go_sem, Nat.reduceAdd, Nat.reduceEqDiff, Nat.reduceLT, Nat.reduceLeDiff, Nat.reduceMul, reduceCtorEq, ↓reduceIte, Nat.mul_one, Int.toNat_natCast, Int.toNat_zero, Nat.sub_zero, Nat.sub_self, cell_of x1.cells, b3, tcell3, b4])
        refine e_st1 (off := k) rfl rfl trow3 rfl (by simp; omega) ?_
        intro w9 hb9 hm9 hs9
        rw [map_set] at hb9
        have hwt : IntKind.i64.wrap ((k : Int) + 1) = ((k + 1 : Nat) : Int) := by rw [wrap_in] <;> omega
        (try simp only [go_sem, Nat.reduceAdd, Nat.reduceEqDiff, Nat.reduceLT, Nat.reduceLeDiff, Nat.reduceMul, reduceCtorEq, ↓reduceIte, hwt])
        have hnum : ((reached ns roots).idxOf (over ns a1.toNat) : Int) = num ns (reached ns roots) a0 := by simp [num, r3']
        rw [hnum] at hb9
        have hXb := x1.X4 _ (List.mem_of_getElem? y1)
        have hXb' : ¬ (b < w.heap.size ∨ b = w3.heap.size) := hXb
        refine ⟨_, ?_, k + 1, rfl, by omega, ⟨l3, md3, path3, _, pa3, ts3.set i (⟨nd3.kind, nd3.num, nd3.args.set k (num ns (reached ns roots) a0)⟩, b), tfp3, pfp3, x1.set y1 (by simp) hm9 hb9, x2, x3, rel_set x4 hx3k y1 ha0, ?_, x6.step hm9 (fun b' hb' hlt => by omega), hm9.at x7 (fun hh => by omega), x8⟩, rfl⟩
        · omega
        · intro b' hb'
          cases hb'
          exact ⟨_, by rw [List.getElem?_set, if_pos rfl, if_pos hilt3]⟩
      · have hkl' : k = nd.args.length := by simp at hkl; omega
        have hwi : IntKind.i64.wrap ((i : Int) + 1) = ((i + 1 : Nat) : Int) := by rw [wrap_in] <;> omega
        (try simp only [go_sem, Nat.reduceAdd, Nat.reduceEqDiff, Nat.reduceLT, Nat.reduceLeDiff, Nat.reduceMul, reduceCtorEq, ↓reduceIte, hwi])
        have htk : (ndAt ns out[i]).args.take k = (ndAt ns out[i]).args := List.take_of_length_le (by omega)
        rw [htk] at hci7 hxk hoklen
        obtain ⟨l2, md2, path2, to2, pa2, ts2, tfp2, pfp2, u1, u2, u3, u4, u5, u6, u7, u8⟩ := hci7
        refine ⟨_, ?_, i + 1, f, meets ns out (ndAt ns out[i]).args, rfl, by omega, by omega, hrch, ⟨l2, md2, path2, to2, pa2, ts2, tfp2, pfp2, u1, u2, u3, rel_next u4 hxk (by omega), (fun b h => by cases h), u6, u7, u8⟩, rfl⟩
        omega
    · have hlt' : ¬ i < ts.length := by simpa using hlt
      have hie : out.length ≤ i := by rw [← q4.len]; omega
      rw [reach_end ns f i out hie] at hrch
      subst hrch
      have hdone := rel_done q4 hie
      have g16 := q6.at g1 (fun h => h)
      (try simp only [go_sem, Nat.reduceAdd, Nat.reduceEqDiff, Nat.reduceLT, Nat.reduceLeDiff, Nat.reduceMul, reduceCtorEq, ↓reduceIte, Nat.mul_one, Int.toNat_natCast, Int.toNat_zero, Nat.sub_zero, Nat.sub_self, cell_of q1.cells, cell_of g16])
      refine e_st1 (off := 1) rfl rfl g16 rfl (by simp) ?_
      intro w7 hb7 hm7 hs7
      (try simp only [go_sem, Nat.reduceAdd, Nat.reduceEqDiff, Nat.reduceLT, Nat.reduceLeDiff, Nat.reduceMul, reduceCtorEq, ↓reduceIte, cell_of hb7])
      refine e_st1 (off := 2) rfl rfl hb7 rfl (by simp) ?_
      intro w8 hb8 hm8 hs8
      (try simp only [go_sem, Nat.reduceAdd, Nat.reduceEqDiff, Nat.reduceLT, Nat.reduceLeDiff, Nat.reduceMul, reduceCtorEq, ↓reduceIte])
      refine ⟨fun h => (by rw [hc'] at h; cases h), fun _ => ⟨_, some w3.heap.size, fun b => b = a ∨ tfp = some b ∨ ∃ t ∈ ts, t.2 = b, rfl, ?_, ?_, ?_, ?_⟩⟩
      · have hne1 : w3.heap.size ≠ a := by omega
        have := Own.of_block (sz := 1) (n := roots.length) (hm8.at (hm7.at q7 hne1) hne1) (by simp [colRoots])
        have hl : (colRoots ns roots).length = roots.length := by simp [colRoots]
        rw [hl]; exact this
      · have hts : ts.length = (colNs ns roots).length := by rw [colNs, ← hdone]; simp
        have htne : ∀ b, tfp = some b → ¬ b = a := fun b hb hh => q1.X3 b hb (.inl (by omega))
        have hrne : ∀ t ∈ ts, ¬ t.2 = a := fun t ht hh => q1.X4 t ht (.inl (by omega))
        have hs8 : w8.heap.size = w6.heap.size := hs8.trans hs7
        have hrow : ∀ t ∈ ts, w8.heap[t.2]? = some (.cells (t.1.args.map I).toArray 3 (0, 0)) := fun t ht => hm8.at (hm7.at (q1.to.row t ht) (hrne t ht)) (hrne t ht)
        refine ⟨.slice ta ts.length tc, tfp, ts.map cpv, by simpa using hb8, .inl rfl, ?_, (fun b hb => .inr (.inl hb)), ?_, ?_, ?_⟩
        · rw [← hts]
          exact (q1.to.own.mod hm7 htne).mod hm8 htne
        · intro p hp
          obtain ⟨t, ht, rfl⟩ := List.mem_map.1 hp
          exact ⟨some t.2, Own.of_block (hrow t ht) (by simp [cpv]), fun b hb => .inr (.inr ⟨t, ht, by cases hb; rfl⟩)⟩
        · rw [List.map_map, colNs, ← hdone]; rfl
        · intro b hb
          rcases hb with rfl | hb | ⟨t, ht, rfl⟩
          · have := q6.size; omega
          · have := q1.to.own.lt hb; omega
          · exact lt_of_heap (hrow t ht)
      · refine ⟨((q6.weak (fun _ h => h.elim)).step hm7 (fun b hb _ => hb ▸ g2)).step hm8 (fun b hb _ => hb ▸ g2), ?_⟩
        rintro b (rfl | hb | ⟨t, ht, rfl⟩)
        · exact .inl g2
        · have := q1.X3 b hb; exact .inr (by omega)
        · have := q1.X4 t ht; exact .inr (by omega)
      · intro b hb
        cases hb
        refine ⟨hbu, ?_⟩
        rintro (hh | hb | ⟨t, ht, hh⟩)
        · omega
        · exact q1.X3 _ hb (.inr rfl)
        · exact q1.X4 t ht (.inr hh)
end Go.Proofs.Ytnimaifmcejkcaa
end

section
set_option linter.unusedSimpArgs false
set_option linter.unusedVariables false
namespace Go.Proofs.Ytnimaifmcejkcaa
open Go Go.W

structure RoomR where
  out : Option (List Int)
  err : Int
  ns : List Nd
  times : Int
def roomS (size times : Int) (ns : List Nd) (n : Int) (roots : List Int) : RoomR :=
  if n < 0 then ⟨none, 1, ns, times⟩ else if okPl ns.length roots = false then ⟨none, 202, ns, times⟩ else if n ≤ size - ns.length then ⟨some roots, 0, ns, times⟩
  else if n > size - (colNs ns roots).length then ⟨none, 201, colNs ns roots, IntKind.i64.wrap (times + 1)⟩ else ⟨some (colRoots ns roots), 0, colNs ns roots, IntKind.i64.wrap (times + 1)⟩
def RoomPost (Ta Tc : Nat) (a : Nat) (size : Int) (F : Nat → Prop) (w : World) (s : RoomR) (r : Value) (w' : World) : Prop :=
  ∃ F', ArenaAt Ta Tc w' a size s.times s.ns F' ∧ Grow F F' w w' ∧ (s.out = none → r = .tuple #[.slice none 0 0, I s.err]) ∧
    (∀ l, s.out = some l → ∃ v fp, r = .tuple #[v, I s.err] ∧ Own w' 3 1 v (l.map I) l.length fp ∧ ∀ b, fp = some b → w.heap.size ≤ b ∧ ¬ F' b)

theorem col_len {ns : List Nd} (hw : WF ns) (roots : List Int) (ho : okPl ns.length roots = true) : (colNs ns roots).length ≤ ns.length := by
  have key : ∀ f i out, Met ns out → Met ns (reach ns f i out) := by
    intro f
    induction f with
    | zero => intro i out h; exact h
    | succ f ih =>
      intro i out h
      unfold reach
      split
      · rename_i x hx
        exact ih _ _ (met_meets hw _ h (wf_at hw (h.2 x (List.mem_of_getElem? hx)).1).2)
      · exact h
  have := met_len (key (ns.length + 1) 0 _ (met_meets hw roots (met_nil ns) ho))
  simpa [colNs, reached] using this

theorem room_ok (a : Nat) (size times : Int) (ns : List Nd) (F : Nat → Prop) (w : World) (n : Int) (v : Value) (roots : List Int) (h : ArenaAt 81 87 w a size times ns F) (hn : ns.length ≤ 1048576) (hs0 : 0 ≤ size) (hs : size ≤ 1048576) (hw : WF ns) (hx : Ints w v roots) :
    CallsR Try.prog 51 [.pointer (some ⟨a, 0, none⟩), I n, v] w (RoomPost 81 87 a size F w (roomS size times ns n roots)) := by
  have hx0 := hx
  obtain ⟨va, vc, rfl, hxl, _⟩ := hx0
  have same : ∀ w', Mod (fun _ => False) w w' → ∃ F', ArenaAt 81 87 w' a size times ns F' ∧ Grow F F' w w' := fun w' hm =>
    ⟨F, h.mod hm (fun _ _ h => h), hm.weak (fun _ h => h.elim), fun b hb => .inl hb⟩
  refine fit51.calls rfl ?_
  unfold ir51
  (try simp only [go_sem, Nat.reduceAdd, Nat.reduceEqDiff, Nat.reduceLT, Nat.reduceLeDiff, Nat.reduceMul, reduceCtorEq, ↓reduceIte])
  refine ir_cond rfl (fun hc => ?_) (fun hc => ?_)
  · have hc' : n < 0 := by simpa using hc
    (try simp only [go_sem, Nat.reduceAdd, Nat.reduceEqDiff, Nat.reduceLT, Nat.reduceLeDiff, Nat.reduceMul, reduceCtorEq, ↓reduceIte])
    have e : roomS size times ns n roots = ⟨none, 1, ns, times⟩ := by unfold roomS; rw [if_pos hc']
    rw [e]
    exact ⟨F, h, ⟨Mod.refl _ _, fun b hb => .inl hb⟩, fun _ => rfl, fun l hl => (by cases hl)⟩
  have hc1 : ¬ n < 0 := by simpa using hc
  (try simp only [go_sem, Nat.reduceAdd, Nat.reduceEqDiff, Nat.reduceLT, Nat.reduceLeDiff, Nat.reduceMul, reduceCtorEq, ↓reduceIte])
  refine e_call (by rfl) ?_
  refine (places_ok a ns.length _ roots w h.has hx).mono ?_
  rintro r _ ⟨rfl, rfl⟩
  (try simp only [go_sem, Nat.reduceAdd, Nat.reduceEqDiff, Nat.reduceLT, Nat.reduceLeDiff, Nat.reduceMul, reduceCtorEq, ↓reduceIte])
  refine ir_cond rfl (fun hc => ?_) (fun hc => ?_)
  · have hc' : okPl ns.length roots = false := by simpa using hc
    (try simp only [go_sem, Nat.reduceAdd, Nat.reduceEqDiff, Nat.reduceLT, Nat.reduceLeDiff, Nat.reduceMul, reduceCtorEq, ↓reduceIte])
    have e : roomS size times ns n roots = ⟨none, 202, ns, times⟩ := by unfold roomS; rw [if_neg hc1, if_pos hc']
    rw [e]
    exact ⟨F, h, ⟨Mod.refl _ _, fun b hb => .inl hb⟩, fun _ => rfl, fun l hl => (by cases hl)⟩
  have hc2 : okPl ns.length roots = true := by simpa using hc
  obtain ⟨cv, fpc, ps, g1, g2, g3, g4, g5, g6, g7⟩ := id h
  obtain ⟨ca, cc, rfl, _, _⟩ := g3.val
  have hw1 : IntKind.i64.wrap (size - (ns.length : Int)) = size - ns.length := by rw [wrap_in] <;> omega
  (try simp only [go_sem, Nat.reduceAdd, Nat.reduceEqDiff, Nat.reduceLT, Nat.reduceLeDiff, Nat.reduceMul, reduceCtorEq, ↓reduceIte, cell_of g1, hw1])
  refine ir_cond rfl (fun hc => ?_) (fun hc => ?_)
  · have hc' : n ≤ size - ns.length := by simpa using hc
    have e : roomS size times ns n roots = ⟨some roots, 0, ns, times⟩ := by unfold roomS; rw [if_neg hc1, if_neg (by simp [hc2]), if_pos hc']
    rw [e]
    (try simp only [go_sem, Nat.reduceAdd, Nat.reduceEqDiff, Nat.reduceLT, Nat.reduceLeDiff, Nat.reduceMul, reduceCtorEq, ↓reduceIte])
    refine e_call (by rfl) ?_
    refine (copied_ok _ roots w.drew hx).mono ?_
    rintro r w2 ⟨b2, rfl, hb2, hge, hm2⟩
    have hm2 := hm2.of_drew
    have hge : w.heap.size ≤ b2 := hge
    (try simp only [go_sem, Nat.reduceAdd, Nat.reduceEqDiff, Nat.reduceLT, Nat.reduceLeDiff, Nat.reduceMul, reduceCtorEq, ↓reduceIte])
    refine ⟨F, h.mod hm2 (fun _ _ h => h), ⟨hm2.weak (fun _ h => h.elim), fun b hb => .inl hb⟩, fun hh => (by cases hh), fun l hl => ?_⟩
    cases hl
    exact ⟨_, some b2, rfl, Own.of_block hb2 (by simp), fun b hb => by cases hb; exact ⟨hge, fun hF => by have := g7 _ hF; omega⟩⟩
  have hc3 : ¬ n ≤ size - ns.length := by simpa using hc
  (try simp only [go_sem, Nat.reduceAdd, Nat.reduceEqDiff, Nat.reduceLT, Nat.reduceLeDiff, Nat.reduceMul, reduceCtorEq, ↓reduceIte])
  refine e_call (by rfl) ?_
  refine (col_ok a size times ns F w.drew _ roots h hn hw hx).mono ?_
  rintro r w2 ⟨_, k2⟩
  obtain ⟨v2, fp2, F2, rfl, k3, k4, ⟨k5, k6⟩, k7⟩ := k2 hc2
  have k5 : Mod F w w2 := k5.of_drew
  have k6 : ∀ b, F2 b → F b ∨ w.heap.size ≤ b := k6
  have k7 : ∀ b, fp2 = some b → w.heap.size ≤ b ∧ ¬ F2 b := k7
  have hcl := col_len hw roots hc2
  obtain ⟨cv2, fpc2, ps2, j1, j2, j3, j4, j5, j6, j7⟩ := id k4
  obtain ⟨ca2, cc2, rfl, _, _⟩ := j3.val
  have hw2 : IntKind.i64.wrap (size - ((colNs ns roots).length : Int)) = size - (colNs ns roots).length := by rw [wrap_in] <;> omega
  (try simp only [go_sem, Nat.reduceAdd, Nat.reduceEqDiff, Nat.reduceLT, Nat.reduceLeDiff, Nat.reduceMul, reduceCtorEq, ↓reduceIte, cell_of j1, hw2])
  refine ir_cond rfl (fun hc => ?_) (fun hc => ?_)
  · have hc' : n > size - (colNs ns roots).length := by simpa using hc
    have e : roomS size times ns n roots = ⟨none, 201, colNs ns roots, IntKind.i64.wrap (times + 1)⟩ := by unfold roomS; rw [if_neg hc1, if_neg (by simp [hc2]), if_neg hc3, if_pos hc']
    rw [e]
    (try simp only [go_sem, Nat.reduceAdd, Nat.reduceEqDiff, Nat.reduceLT, Nat.reduceLeDiff, Nat.reduceMul, reduceCtorEq, ↓reduceIte])
    exact ⟨F2, k4, ⟨k5.drew, k6⟩, fun _ => rfl, fun l hl => (by cases hl)⟩
  · have hc' : ¬ n > size - (colNs ns roots).length := by simpa using hc
    have e : roomS size times ns n roots = ⟨some (colRoots ns roots), 0, colNs ns roots, IntKind.i64.wrap (times + 1)⟩ := by unfold roomS; rw [if_neg hc1, if_neg (by simp [hc2]), if_neg hc3, if_neg hc']
    rw [e]
    (try simp only [go_sem, Nat.reduceAdd, Nat.reduceEqDiff, Nat.reduceLT, Nat.reduceLeDiff, Nat.reduceMul, reduceCtorEq, ↓reduceIte])
    refine ⟨F2, k4, ⟨k5.drew, k6⟩, fun hh => (by cases hh), fun l hl => ?_⟩
    cases hl
    exact ⟨v2, fp2, rfl, k3, k7⟩
end Go.Proofs.Ytnimaifmcejkcaa
end
