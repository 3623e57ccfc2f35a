/- Heap, the laws: HeapPlays walked. -/
import Derived.Test.YtnagmcdlepcgnaaL8
set_option linter.unusedSimpArgs false
set_option linter.unusedVariables false
namespace Go.Proofs.Ytnagmcdlepcgnaa
open Go Go.W

/-- A script's call, as it lies. -/
structure OpV where
  wh : Int
  dd : Int
  n : Int
  nd : Nd
  roots : List Int
  av : Value
  rv : Value
def OpV.cells (o : OpV) : List Value := [I o.wh, I o.dd, I o.n, I o.nd.kind, I o.nd.num, o.av, o.rv]
def OpV.reads (w : World) (o : OpV) : Prop := Ints w o.av o.nd.args ∧ Ints w o.rv o.roots ∧ o.nd.args.length + 2 ≤ 17592186044416 ∧ o.roots.length + 2 ≤ 17592186044416
def Ops (w : World) (v : Value) (os : List OpV) : Prop :=
  ∃ a c, v = .slice a os.length c ∧ os.length + 1 ≤ 4398046511104 ∧ ∀ i (h : i < os.length), ∃ ad, a = some ad ∧ (∀ k, k < 7 → w.cell? ((ad.add (i * 7)).add k) = os[i].cells[k]?) ∧ os[i].reads w

theorem ints_lt {w : World} {v : Value} {xs : List Int} (h : Ints w v xs) (hne : xs ≠ []) : ∀ b, vblk v = some b → b < w.heap.size := by
  obtain ⟨a, c, rfl, _, hx⟩ := h
  intro b hb
  obtain ⟨ad, rfl, h0⟩ := hx 0 (by cases xs with | nil => exact absurd rfl hne | cons => simp)
  have := World.block_lt_of_cell? w _ h0
  simp only [vblk, Option.some.injEq] at hb
  subst hb
  have e : (ad.add 0).block = ad.block := by simp [Addr.add]
  omega
theorem ops_mod {w w' : World} {v : Value} {os : List OpV} (h : Ops w v os) (hm : Mod (fun _ => False) w w') : Ops w' v os := by
  obtain ⟨a, c, rfl, hl, hx⟩ := h
  refine ⟨a, c, rfl, hl, fun i hi => ?_⟩
  obtain ⟨ad, rfl, h1, h2, h3, h4⟩ := hx i hi
  refine ⟨ad, rfl, fun k hk => ?_, h2.mod hm (fun _ _ h => h), h3.mod hm (fun _ _ h => h), h4⟩
  obtain ⟨u, hu⟩ : ∃ u, os[i].cells[k]? = some u := ⟨os[i].cells[k]'(by simpa [OpV.cells] using hk), List.getElem?_eq_getElem _⟩
  rw [hu]
  exact hm.cell ((h1 k hk).trans hu) (fun h => h)
theorem ln7 {w : World} {ad : Addr} {o : OpV} (h : ∀ k, k < 7 → w.cell? (ad.add k) = o.cells[k]?) : vLN w 7 (.pointer (some ad)) = some (.agg #[I o.wh, I o.dd, I o.n, I o.nd.kind, I o.nd.num, o.av, o.rv]) := by
  have h0 := h 0 (by omega)
  have h1 := h 1 (by omega)
  have h2 := h 2 (by omega)
  have h3 := h 3 (by omega)
  have h4 := h 4 (by omega)
  have h5 := h 5 (by omega)
  have h6 := h 6 (by omega)
  simp only [OpV.cells, List.getElem?_cons_zero, List.getElem?_cons_succ] at h0 h1 h2 h3 h4 h5 h6
  simp [vLN, cellsFrom, h0, h1, h2, h3, h4, h5, h6]

/-- Two arenas that are one plain arena, or none. -/
def Pair (w : World) (va vx : Value) (size : Int) (F G : Nat → Prop) : Prop :=
  (va = .pointer none ∧ vx = .pointer none) ∨ ∃ a r times ns, va = .pointer (some ⟨a, 0, none⟩) ∧ vx = .pointer (some ⟨r, 0, none⟩) ∧ ArenaAt 63 70 w a size times ns F ∧ ArenaAt 77 35 w r size times ns G ∧ Fine size ns ∧ ∀ x, F x → ¬ G x
theorem pair_mod {w w' : World} {va vx : Value} {size : Int} {F G S : Nat → Prop} (h : Pair w va vx size F G) (hm : Mod S w w') (hF : ∀ x, F x ∨ G x → ¬ S x) : Pair w' va vx size F G := by
  rcases h with h | ⟨a, r, times, ns, rfl, rfl, h1, h2, h3, h4⟩
  · exact .inl h
  · exact .inr ⟨a, r, times, ns, rfl, rfl, h1.mod hm (fun x hx => hF x (.inl hx)), h2.mod hm (fun x hx => hF x (.inr hx)), h3, h4⟩

/-- All that the script plays with. -/
structure All (w : World) (b : Nat) (es : List BE) (B : Nat → Prop) (v1 u1 : Value) (s1 : Int) (F1 G1 : Nat → Prop) (v2 u2 : Value) (s2 : Int) (F2 G2 : Nat → Prop) : Prop where
  book : BookAt w b es B
  one : Pair w v1 u1 s1 F1 G1
  two : Pair w v2 u2 s2 F2 G2
  b1 : ∀ x, B x → ¬ (F1 x ∨ G1 x)
  b2 : ∀ x, B x → ¬ (F2 x ∨ G2 x)
  f12 : ∀ x, F1 x ∨ G1 x → ¬ (F2 x ∨ G2 x)
  old1 : ∀ x, F1 x ∨ G1 x → x < w.heap.size
  old2 : ∀ x, F2 x ∨ G2 x → x < w.heap.size
  small : ∀ e ∈ es, e.n ≤ 17592186044416
theorem all_swap {w : World} {b : Nat} {es : List BE} {B : Nat → Prop} {v1 u1 : Value} {s1 : Int} {F1 G1 : Nat → Prop} {v2 u2 : Value} {s2 : Int} {F2 G2 : Nat → Prop} (h : All w b es B v1 u1 s1 F1 G1 v2 u2 s2 F2 G2) : All w b es B v2 u2 s2 F2 G2 v1 u1 s1 F1 G1 :=
  ⟨h.book, h.two, h.one, h.b2, h.b1, fun x hx hh => h.f12 x hh hx, h.old2, h.old1, h.small⟩

/-- What a call of the script leaves behind: of what was there, what is not of the play is as it was. -/
def Played (w : World) (b : Nat) (es : List BE) (B : Nat → Prop) (v1 u1 : Value) (s1 : Int) (F1 G1 : Nat → Prop) (v2 u2 : Value) (s2 : Int) (F2 G2 : Nat → Prop) (w' : World) : Prop :=
  ∃ es' B' F1' G1' F2' G2', All w' b es' B' v1 u1 s1 F1' G1' v2 u2 s2 F2' G2' ∧ es'.length ≤ es.length + 1 ∧ Mod (fun x => B x ∨ (F1 x ∨ G1 x) ∨ (F2 x ∨ G2 x)) w w' ∧
    ∀ x, B' x ∨ (F1' x ∨ G1' x) ∨ (F2' x ∨ G2' x) → (B x ∨ (F1 x ∨ G1 x) ∨ (F2 x ∨ G2 x)) ∨ w.heap.size ≤ x

theorem plays_one {w : World} {b : Nat} {es : List BE} {B : Nat → Prop} {v1 u1 : Value} {s1 : Int} {F1 G1 : Nat → Prop} {v2 u2 : Value} {s2 : Int} {F2 G2 : Nat → Prop} (h : All w b es B v1 u1 s1 F1 G1 v2 u2 s2 F2 G2) (hu : u1 ≠ .pointer none)
    (o : OpV) (ho : o.reads w) (hfar : ∀ v, (v = o.av ∧ o.nd.args ≠ []) ∨ (v = o.rv ∧ o.roots ≠ []) → ∀ x, vblk v = some x → ¬ (B x ∨ (F1 x ∨ G1 x) ∨ (F2 x ∨ G2 x))) (he : es.length + 1 ≤ 4398046511104) :
    CallsR Try.prog 15 [.pointer (some ⟨b, 0, none⟩), v1, u1, .agg #[I o.wh, I o.dd, I o.n, I o.nd.kind, I o.nd.num, o.av, o.rv]] w fun q w' => q = .bool true ∧ Played w b es B v1 u1 s1 F1 G1 v2 u2 s2 F2 G2 w' := by
  obtain ⟨hbk, h1, h2, hb1, hb2, hf, ho1, ho2, hsm⟩ := h
  rcases h1 with ⟨_, h1⟩ | ⟨a, r, times, ns, rfl, rfl, k1, k2, k3, k4⟩
  · exact absurd h1 hu
  have hB : Both w b a r es s1 times ns B F1 G1 := ⟨hbk, k1, k2, k3, fun x hx hh => hb1 x hx (.inl hh), fun x hx hh => hb1 x hx (.inr hh), k4, hsm⟩
  have hsz := hB.size
  obtain ⟨r1, r2, r3, r4⟩ := ho
  refine (bone_ok w b a r es s1 times ns B F1 G1 hB o.wh o.dd o.n o.nd o.av o.rv o.roots r1 r2 (fun hne x hx hh => hfar _ (.inl ⟨rfl, hne⟩) x hx (by rcases hh with hh | hh | hh; exact .inl hh; exact .inr (.inl (.inl hh)); exact .inr (.inl (.inr hh))))
    (fun hne x hx hh => hfar _ (.inr ⟨rfl, hne⟩) x hx (by rcases hh with hh | hh | hh; exact .inl hh; exact .inr (.inl (.inl hh)); exact .inr (.inl (.inr hh)))) r3 r4 he).mono ?_
  rintro q w' ⟨rfl, es', times', ns', ⟨B', F', G', j1, j2, j3, j4, j5⟩, hl⟩
  refine ⟨rfl, es', B', F', G', F2, G2, ?_, hl, j2.weak (fun x hx => by rcases hx with hx | hx | hx; exact .inl hx; exact .inr (.inl (.inl hx)); exact .inr (.inl (.inr hx))), fun x hx => ?_⟩
  · have old : ∀ x, F2 x ∨ G2 x → ¬ (B x ∨ F1 x ∨ G1 x) := fun x hx hh => by
      rcases hh with hh | hh
      · exact hb2 x hh hx
      · exact hf x hh hx
    obtain ⟨z1, z2, z3⟩ := j1.size
    refine ⟨j1.book, .inr ⟨a, r, times', ns', rfl, rfl, j1.one, j1.two, j1.fine, j1.fg⟩, pair_mod h2 j2 old, fun x hx hh => hh.elim (j1.bf x hx) (j1.bg x hx), fun x hx hh => ?_, fun x hx hh => ?_, fun x hx => hx.elim (z2 x) (z3 x), fun x hx => Nat.lt_of_lt_of_le (ho2 x hx) j2.size, j1.small⟩
    · rcases j3 x hx with h | h
      · exact hb2 x h hh
      · have := ho2 x hh; omega
    · rcases hx with hx | hx
      · rcases j4 x hx with h | h
        · exact hf x (.inl h) hh
        · have := ho2 x hh; omega
      · rcases j5 x hx with h | h
        · exact hf x (.inr h) hh
        · have := ho2 x hh; omega
  · rcases hx with hx | (hx | hx) | hx
    · exact (j3 x hx).imp .inl (fun h => h)
    · exact (j4 x hx).imp (fun h => .inr (.inl (.inl h))) (fun h => h)
    · exact (j5 x hx).imp (fun h => .inr (.inl (.inr h))) (fun h => h)
    · exact .inl (.inr (.inr hx))
theorem played_swap {w : World} {b : Nat} {es : List BE} {B : Nat → Prop} {v1 u1 : Value} {s1 : Int} {F1 G1 : Nat → Prop} {v2 u2 : Value} {s2 : Int} {F2 G2 : Nat → Prop} {w' : World} (h : Played w b es B v1 u1 s1 F1 G1 v2 u2 s2 F2 G2 w') : Played w b es B v2 u2 s2 F2 G2 v1 u1 s1 F1 G1 w' := by
  obtain ⟨es', B', F1', G1', F2', G2', h1, h2, h3, h4⟩ := h
  refine ⟨es', B', F2', G2', F1', G1', all_swap h1, h2, h3.weak (fun x hx => by rcases hx with h | h | h; exact .inl h; exact .inr (.inr h); exact .inr (.inl h)), fun x hx => ?_⟩
  have := h4 x (by rcases hx with h | h | h; exact .inl h; exact .inr (.inr h); exact .inr (.inl h))
  exact this.imp (fun hx => by rcases hx with h | h | h; exact .inl h; exact .inr (.inr h); exact .inr (.inl h)) (fun h => h)

theorem new_pr {Ta Tc : Nat} {w w' : World} {size : Int} {r : Value} (h : (1 ≤ size ∧ size ≤ 1048576 → r = .tuple #[.pointer (some ⟨w.heap.size, 0, none⟩), I 0] ∧ ArenaAt Ta Tc w' w.heap.size size 0 [] (· = w.heap.size) ∧ Mod (fun _ => False) w w' ∧ w'.heap.size = w.heap.size + 1) ∧
      (¬ (1 ≤ size ∧ size ≤ 1048576) → r = .tuple #[.pointer none, I 200] ∧ w = w')) :
    ∃ pa, r = .tuple #[.pointer pa, I (if 1 ≤ size ∧ size ≤ 1048576 then 0 else 200)] ∧ Mod (fun _ => False) w w' ∧ (1 ≤ size ∧ size ≤ 1048576 → pa = some ⟨w.heap.size, 0, none⟩ ∧ ArenaAt Ta Tc w' w.heap.size size 0 [] (· = w.heap.size) ∧ w'.heap.size = w.heap.size + 1) ∧ (¬ (1 ≤ size ∧ size ≤ 1048576) → pa = none) := by
  by_cases g : 1 ≤ size ∧ size ≤ 1048576
  · obtain ⟨rfl, h2, h3, h4⟩ := h.1 g
    exact ⟨_, by rw [if_pos g], h3, fun _ => ⟨rfl, h2, h4⟩, fun hh => absurd g hh⟩
  · obtain ⟨rfl, rfl⟩ := h.2 g
    exact ⟨_, by rw [if_neg g], Mod.refl _ _, fun hh => absurd hh g, fun _ => rfl⟩

/-- Fresh arenas, or none. -/
theorem new_pair {w0 w1 w2 w3 w4 : World} {size : Int} {pa px : Option Addr} (h1 : 1 ≤ size ∧ size ≤ 1048576 → pa = some ⟨w0.heap.size, 0, none⟩ ∧ ArenaAt 63 70 w1 w0.heap.size size 0 [] (· = w0.heap.size) ∧ w1.heap.size = w0.heap.size + 1) (n1 : ¬ (1 ≤ size ∧ size ≤ 1048576) → pa = none)
    (h2 : 1 ≤ size ∧ size ≤ 1048576 → px = some ⟨w2.heap.size, 0, none⟩ ∧ ArenaAt 77 35 w3 w2.heap.size size 0 [] (· = w2.heap.size) ∧ w3.heap.size = w2.heap.size + 1) (n2 : ¬ (1 ≤ size ∧ size ≤ 1048576) → px = none)
    (m12 : Mod (fun _ => False) w1 w2) (m23 : Mod (fun _ => False) w2 w3) (m34 : Mod (fun _ => False) w3 w4) :
    ∃ F G, Pair w4 (.pointer pa) (.pointer px) size F G ∧ (∀ x, F x → w0.heap.size ≤ x ∧ x < w1.heap.size) ∧ ∀ x, G x → w2.heap.size ≤ x ∧ x < w3.heap.size := by
  by_cases g : 1 ≤ size ∧ size ≤ 1048576
  · obtain ⟨rfl, a1, s1⟩ := h1 g
    obtain ⟨rfl, a2, s2⟩ := h2 g
    have := m12.size
    refine ⟨(· = w0.heap.size), (· = w2.heap.size), .inr ⟨_, _, 0, [], rfl, rfl, ((a1.mod m12 (fun _ _ h => h)).mod m23 (fun _ _ h => h)).mod m34 (fun _ _ h => h), a2.mod m34 (fun _ _ h => h), fine_new g, fun x hx hh => by omega⟩, fun x hx => by omega, fun x hx => by omega⟩
  · exact ⟨fun _ => False, fun _ => False, .inl ⟨by rw [n1 g], by rw [n2 g]⟩, fun _ h => h.elim, fun _ h => h.elim⟩

/-- The walk's frame at the script's head. -/
def plEnv (v : Value) (pa px pb py : Option Addr) (b : Nat) (i : Nat) : Env := [(2, v), (8, .pointer pa), (10, .pointer pb), (12, .pointer px), (14, .pointer py), (16, .pointer (some ⟨b, 0, none⟩)), (17, I i)]

theorem plays_ok (w : World) (one two : Int) (v : Value) (os : List OpV) (h : Ops w v os) :
    CallsR Try.prog 4 [I one, I two, v] w fun q w' => q = .bool true ∧ Mod (fun _ => False) w w' := by
  have h0 := h
  obtain ⟨va, vc, rfl, hol, hx⟩ := h0
  refine fit4.calls rfl ?_
  unfold ir4
  (try simp only [go_sem, Nat.reduceAdd, Nat.reduceEqDiff, Nat.reduceLT, Nat.reduceLeDiff, Nat.reduceMul, Nat.zero_add, reduceCtorEq, ↓reduceIte, List.length_cons, List.length_nil, List.set_cons_zero, List.set_cons_succ, List.take_zero, List.take_succ_cons, List.drop_zero, List.drop_succ_cons, List.take_nil, List.drop_nil, List.nil_append, List.cons_append, List.append_nil, or_false, false_or, or_true, true_or, false_implies, true_implies, and_true, true_and, and_self, Bool.and_true, Bool.true_and])
  refine e_call (by rfl) ?_
  refine (awake_ok w).mono ?_
  rintro q w1 ⟨rfl, hm1⟩
  (try simp only [go_sem, Nat.reduceAdd, Nat.reduceEqDiff, Nat.reduceLT, Nat.reduceLeDiff, Nat.reduceMul, Nat.zero_add, reduceCtorEq, ↓reduceIte, List.length_cons, List.length_nil, List.set_cons_zero, List.set_cons_succ, List.take_zero, List.take_succ_cons, List.drop_zero, List.drop_succ_cons, List.take_nil, List.drop_nil, List.nil_append, List.cons_append, List.append_nil, or_false, false_or, or_true, true_or, false_implies, true_implies, and_true, true_and, and_self, Bool.and_true, Bool.true_and])
  refine e_call (by rfl) ?_
  refine (new_ok one w1).mono ?_
  rintro q w2 k2
  obtain ⟨pa, rfl, hm2, a1, a2⟩ := new_pr k2
  generalize hE1 : (if 1 ≤ one ∧ one ≤ 1048576 then (0 : Int) else 200) = e1
  (try simp only [go_sem, Nat.reduceAdd, Nat.reduceEqDiff, Nat.reduceLT, Nat.reduceLeDiff, Nat.reduceMul, Nat.zero_add, reduceCtorEq, ↓reduceIte, List.length_cons, List.length_nil, List.set_cons_zero, List.set_cons_succ, List.take_zero, List.take_succ_cons, List.drop_zero, List.drop_succ_cons, List.take_nil, List.drop_nil, List.nil_append, List.cons_append, List.append_nil, or_false, false_or, or_true, true_or, false_implies, true_implies, and_true, true_and, and_self, Bool.and_true, Bool.true_and])
  refine e_call (by rfl) ?_
  refine (new_ok two w2).mono ?_
  rintro q w3 k3
  obtain ⟨pb, rfl, hm3, b1, b2⟩ := new_pr k3
  generalize hE2 : (if 1 ≤ two ∧ two ≤ 1048576 then (0 : Int) else 200) = e2
  (try simp only [go_sem, Nat.reduceAdd, Nat.reduceEqDiff, Nat.reduceLT, Nat.reduceLeDiff, Nat.reduceMul, Nat.zero_add, reduceCtorEq, ↓reduceIte, List.length_cons, List.length_nil, List.set_cons_zero, List.set_cons_succ, List.take_zero, List.take_succ_cons, List.drop_zero, List.drop_succ_cons, List.take_nil, List.drop_nil, List.nil_append, List.cons_append, List.append_nil, or_false, false_or, or_true, true_or, false_implies, true_implies, and_true, true_and, and_self, Bool.and_true, Bool.true_and])
  refine e_call (by rfl) ?_
  refine (rnew_ok one w3).mono ?_
  rintro q w4 k4
  obtain ⟨px, rfl, hm4, x1, x2⟩ := new_pr k4
  rw [hE1]
  (try simp only [go_sem, Nat.reduceAdd, Nat.reduceEqDiff, Nat.reduceLT, Nat.reduceLeDiff, Nat.reduceMul, Nat.zero_add, reduceCtorEq, ↓reduceIte, List.length_cons, List.length_nil, List.set_cons_zero, List.set_cons_succ, List.take_zero, List.take_succ_cons, List.drop_zero, List.drop_succ_cons, List.take_nil, List.drop_nil, List.nil_append, List.cons_append, List.append_nil, or_false, false_or, or_true, true_or, false_implies, true_implies, and_true, true_and, and_self, Bool.and_true, Bool.true_and])
  refine e_call (by rfl) ?_
  refine (rnew_ok two w4).mono ?_
  rintro q w5 k5
  obtain ⟨py, rfl, hm5, y1, y2⟩ := new_pr k5
  rw [hE2]
  (try simp only [go_sem, Nat.reduceAdd, Nat.reduceEqDiff, Nat.reduceLT, Nat.reduceLeDiff, Nat.reduceMul, Nat.zero_add, reduceCtorEq, ↓reduceIte, List.length_cons, List.length_nil, List.set_cons_zero, List.set_cons_succ, List.take_zero, List.take_succ_cons, List.drop_zero, List.drop_succ_cons, List.take_nil, List.drop_nil, List.nil_append, List.cons_append, List.append_nil, or_false, false_or, or_true, true_or, false_implies, true_implies, and_true, true_and, and_self, Bool.and_true, Bool.true_and])
  have z1 : (pa = none ∧ px = none) ∨ ∃ a x, pa = some a ∧ px = some x := by
    by_cases g : 1 ≤ one ∧ one ≤ 1048576
    · exact .inr ⟨_, _, (a1 g).1, (x1 g).1⟩
    · exact .inl ⟨a2 g, x2 g⟩
  have z2 : (pb = none ∧ py = none) ∨ ∃ a x, pb = some a ∧ py = some x := by
    by_cases g : 1 ≤ two ∧ two ≤ 1048576
    · exact .inr ⟨_, _, (b1 g).1, (y1 g).1⟩
    · exact .inl ⟨b2 g, y2 g⟩
  refine wpS_cut (fun ρ w' => w5 = w' ∧ ρ.get 65 = some (.bool false) ∧ ρ.get 2 = some (.slice va os.length vc) ∧ ρ.get 8 = some (.pointer pa) ∧ ρ.get 10 = some (.pointer pb) ∧ ρ.get 12 = some (.pointer px) ∧ ρ.get 14 = some (.pointer py)) ?_ ?_
  · have f1 : (e1 != e1) = false := by simp
    have f2 : (e2 != e2) = false := by simp
    rcases z1 with ⟨rfl, rfl⟩ | ⟨a, x, rfl, rfl⟩ <;> rcases z2 with ⟨rfl, rfl⟩ | ⟨b, y, rfl, rfl⟩ <;> (try simp only [go_sem, Nat.reduceAdd, Nat.reduceEqDiff, Nat.reduceLT, Nat.reduceLeDiff, Nat.reduceMul, Nat.zero_add, reduceCtorEq, ↓reduceIte, List.length_cons, List.length_nil, List.set_cons_zero, List.set_cons_succ, List.take_zero, List.take_succ_cons, List.drop_zero, List.drop_succ_cons, List.take_nil, List.drop_nil, List.nil_append, List.cons_append, List.append_nil, or_false, false_or, or_true, true_or, false_implies, true_implies, and_true, true_and, and_self, Bool.and_true, Bool.true_and, f1, f2, Bool.not_true, Bool.not_false, Option.isNone_none, Option.isNone_some, beq_self_eq_true])
  · rintro ρ w' ⟨rfl, r65, r2, r8, r10, r12, r14⟩
    (try simp only [go_sem, Nat.reduceAdd, Nat.reduceEqDiff, Nat.reduceLT, Nat.reduceLeDiff, Nat.reduceMul, Nat.zero_add, reduceCtorEq, ↓reduceIte, List.length_cons, List.length_nil, List.set_cons_zero, List.set_cons_succ, List.take_zero, List.take_succ_cons, List.drop_zero, List.drop_succ_cons, List.take_nil, List.drop_nil, List.nil_append, List.cons_append, List.append_nil, or_false, false_or, or_true, true_or, false_implies, true_implies, and_true, true_and, and_self, Bool.and_true, Bool.true_and, r65, r2, r8, r10, r12, r14])
    refine e_bx rfl ?_
    intro w6 hb6 hm6 hs6
    have hb6 : w6.heap[w5.heap.size]? = some (.cells #[.slice none 0 0, .slice none 0 0] 50 (0, 0)) := hb6
    have hm05 : Mod (fun _ => False) w w5 := (((hm1.trans hm2).trans hm3).trans hm4).trans hm5
    have hm06 := hm05.trans hm6
    obtain ⟨F1, G1, p1, p2, p3⟩ := new_pair a1 a2 x1 x2 hm3 hm4 (hm5.trans hm6)
    obtain ⟨F2, G2, q1, q2, q3⟩ := new_pair b1 b2 y1 y2 hm4 hm5 hm6
    have t1 := hm1.size; have t2 := hm2.size; have t3 := hm3.size; have t4 := hm4.size; have t5 := hm5.size
    have all0 : All w6 w5.heap.size [] (· = w5.heap.size) (.pointer pa) (.pointer px) one F1 G1 (.pointer pb) (.pointer py) two F2 G2 := by
      refine ⟨⟨_, _, none, none, hb6, Own.nil _ _ _, Own.nil _ _ _, (fun e he => by cases he), rfl, (fun x hx => by cases hx), (fun x hx => by cases hx), (fun x hx => by omega)⟩, p1, q1, fun x hx hh => ?_, fun x hx hh => ?_, fun x hx hh => ?_, fun x hx => ?_, fun x hx => ?_, fun e he => by cases he⟩
      · rcases hh with hh | hh
        · have := p2 x hh; omega
        · have := p3 x hh; omega
      · rcases hh with hh | hh
        · have := q2 x hh; omega
        · have := q3 x hh; omega
      · rcases hx with hx | hx <;> rcases hh with hh | hh
        · have := p2 x hx; have := q2 x hh; omega
        · have := p2 x hx; have := q3 x hh; omega
        · have := p3 x hx; have := q2 x hh; omega
        · have := p3 x hx; have := q3 x hh; omega
      · rcases hx with hx | hx
        · have := p2 x hx; omega
        · have := p3 x hx; omega
      · rcases hx with hx | hx
        · have := q2 x hx; omega
        · have := q3 x hx; omega
    refine ir_loop (fun m ρ w' => ∃ k : Nat, m = os.length - k ∧ k ≤ os.length ∧ Mod (fun _ => False) w w' ∧ (∃ es B F1 G1 F2 G2, All w' w5.heap.size es B (.pointer pa) (.pointer px) one F1 G1 (.pointer pb) (.pointer py) two F2 G2 ∧ es.length ≤ k ∧ ∀ x, B x ∨ (F1 x ∨ G1 x) ∨ (F2 x ∨ G2 x) → w.heap.size ≤ x) ∧
      ρ = [(2, .slice va os.length vc), (8, .pointer pa), (10, .pointer pb), (12, .pointer px), (14, .pointer py), (16, .pointer (some ⟨w5.heap.size, 0, none⟩)), (17, I k)]) os.length
      ⟨0, rfl, Nat.zero_le _, hm06, ⟨[], _, F1, G1, F2, G2, all0, Nat.zero_le _, fun x hx => ?_⟩, rfl⟩ ?_
    · rcases hx with hx | (hx | hx) | (hx | hx)
      · omega
      · have := p2 x hx; omega
      · have := p3 x hx; omega
      · have := q2 x hx; omega
      · have := q3 x hx; omega
    rintro m ρ w' ⟨k, rfl, hk, hm, ⟨es, B, F1, G1, F2, G2, hall, hel, hge⟩, rfl⟩
    unfold ir4L1
    (try simp only [go_sem, Nat.reduceAdd, Nat.reduceEqDiff, Nat.reduceLT, Nat.reduceLeDiff, Nat.reduceMul, Nat.zero_add, reduceCtorEq, ↓reduceIte, List.length_cons, List.length_nil, List.set_cons_zero, List.set_cons_succ, List.take_zero, List.take_succ_cons, List.drop_zero, List.drop_succ_cons, List.take_nil, List.drop_nil, List.nil_append, List.cons_append, List.append_nil, or_false, false_or, or_true, true_or, false_implies, true_implies, and_true, true_and, and_self, Bool.and_true, Bool.true_and])
    refine ir_cond rfl (fun hc => ?_) (fun hc => ?_)
    · have hc' : k < os.length := by simpa using hc
      obtain ⟨ad, rfl, hcs0, hrd0⟩ := hx k hc'
      obtain ⟨_, _, e0, _, hx'⟩ := ops_mod h hm
      obtain ⟨_, e1', hcs, hrd⟩ := hx' k hc'
      simp only [Value.slice.injEq] at e0
      obtain ⟨e0, _, _⟩ := e0
      rw [← e0] at e1'
      obtain rfl := Option.some.inj e1'
      generalize os[k] = o at hcs hrd hcs0 hrd0
      have hb1 : (0 : Int) ≤ k ∧ (k : Int) < os.length := by omega
      have hwk : IntKind.i64.wrap ((k : Int) + 1) = ((k + 1 : Nat) : Int) := by rw [wrap_in] <;> omega
      have hcell : w'.cell? (ad.add (k * 7)) = some (I o.wh) := by
        have := hcs 0 (by omega)
        rwa [show (ad.add (k * 7)).add 0 = ad.add (k * 7) by simp [Addr.add]] at this
      have hl7 := ln7 hcs
      have far : ∀ v, (v = o.av ∧ o.nd.args ≠ []) ∨ (v = o.rv ∧ o.roots ≠ []) → ∀ x, vblk v = some x → ¬ (B x ∨ (F1 x ∨ G1 x) ∨ (F2 x ∨ G2 x)) := by
        intro v hv x hx hh
        have h1 := hge x hh
        rcases hv with ⟨rfl, hne⟩ | ⟨rfl, hne⟩
        · have := ints_lt hrd0.1 hne x hx; omega
        · have := ints_lt hrd0.2.1 hne x hx; omega
      have fin : ∀ {w'' : World}, Played w' w5.heap.size es B (.pointer pa) (.pointer px) one F1 G1 (.pointer pb) (.pointer py) two F2 G2 w'' → Mod (fun _ => False) w w'' ∧ ∃ es B F1 G1 F2 G2, All w'' w5.heap.size es B (.pointer pa) (.pointer px) one F1 G1 (.pointer pb) (.pointer py) two F2 G2 ∧ es.length ≤ k + 1 ∧ ∀ x, B x ∨ (F1 x ∨ G1 x) ∨ (F2 x ∨ G2 x) → w.heap.size ≤ x := by
        rintro w'' ⟨es', B', F1', G1', F2', G2', j1, j2, j3, j4⟩
        have := hm.size
        exact ⟨hm.step j3 (fun x hx hlt => by have := hge x hx; omega), es', B', F1', G1', F2', G2', j1, by omega, fun x hx => (j4 x hx).elim (hge x) (fun h => by omega)⟩
      have idle : Played w' w5.heap.size es B (.pointer pa) (.pointer px) one F1 G1 (.pointer pb) (.pointer py) two F2 G2 w' := ⟨es, B, F1, G1, F2, G2, hall, Nat.le_succ _, Mod.refl _ _, fun x hx => .inl hx⟩
      by_cases hwh : o.wh = 0
      · have f1 : (o.wh == 0) = true := by simp [hwh]
        have f2 : (o.wh != 0) = false := by simp [hwh]
        rcases z1 with ⟨rfl, rfl⟩ | ⟨a, x, rfl, rfl⟩
        · (try simp only [go_sem, Nat.reduceAdd, Nat.reduceEqDiff, Nat.reduceLT, Nat.reduceLeDiff, Nat.reduceMul, Nat.zero_add, reduceCtorEq, ↓reduceIte, List.length_cons, List.length_nil, List.set_cons_zero, List.set_cons_succ, List.take_zero, List.take_succ_cons, List.drop_zero, List.drop_succ_cons, List.take_nil, List.drop_nil, List.nil_append, List.cons_append, List.append_nil, or_false, false_or, or_true, true_or, false_implies, true_implies, and_true, true_and, and_self, Bool.and_true, Bool.true_and, Nat.mul_one, Int.toNat_natCast, Int.toNat_zero, Nat.sub_zero, Nat.sub_self, hb1, hcell, f1, f2, hwk, Option.isNone_none, Option.isNone_some, Bool.not_true, Bool.not_false])
          obtain ⟨j1, j2⟩ := fin idle
          exact ⟨_, by omega, k + 1, rfl, hc', j1, j2, rfl⟩
        · (try simp only [go_sem, Nat.reduceAdd, Nat.reduceEqDiff, Nat.reduceLT, Nat.reduceLeDiff, Nat.reduceMul, Nat.zero_add, reduceCtorEq, ↓reduceIte, List.length_cons, List.length_nil, List.set_cons_zero, List.set_cons_succ, List.take_zero, List.take_succ_cons, List.drop_zero, List.drop_succ_cons, List.take_nil, List.drop_nil, List.nil_append, List.cons_append, List.append_nil, or_false, false_or, or_true, true_or, false_implies, true_implies, and_true, true_and, and_self, Bool.and_true, Bool.true_and, Nat.mul_one, Int.toNat_natCast, Int.toNat_zero, Nat.sub_zero, Nat.sub_self, hb1, hcell, f1, f2, hwk, hl7, Option.isNone_none, Option.isNone_some, Bool.not_true, Bool.not_false])
          refine e_call (by rfl) ?_
          refine (plays_one hall (by simp) o hrd far (by omega)).mono ?_
          rintro q w'' ⟨rfl, hp⟩
          obtain ⟨j1, j2⟩ := fin hp
          have hcell2 : w''.cell? (ad.add (k * 7)) = some (I o.wh) := by
            have := hcs0 0 (by omega)
            rw [show (ad.add (k * 7)).add 0 = ad.add (k * 7) by simp [Addr.add]] at this
            exact j1.cell this (fun h => h)
          (try simp only [go_sem, Nat.reduceAdd, Nat.reduceEqDiff, Nat.reduceLT, Nat.reduceLeDiff, Nat.reduceMul, Nat.zero_add, reduceCtorEq, ↓reduceIte, List.length_cons, List.length_nil, List.set_cons_zero, List.set_cons_succ, List.take_zero, List.take_succ_cons, List.drop_zero, List.drop_succ_cons, List.take_nil, List.drop_nil, List.nil_append, List.cons_append, List.append_nil, or_false, false_or, or_true, true_or, false_implies, true_implies, and_true, true_and, and_self, Bool.and_true, Bool.true_and, Nat.mul_one, Int.toNat_natCast, Int.toNat_zero, Nat.sub_zero, Nat.sub_self, hb1, hcell2, f1, f2, hwk, hl7, Option.isNone_none, Option.isNone_some, Bool.not_true, Bool.not_false])
          exact ⟨_, by omega, k + 1, rfl, hc', j1, j2, rfl⟩
      · have f1 : (o.wh == 0) = false := by simp [hwh]
        have f2 : (o.wh != 0) = true := by simp [hwh]
        rcases z2 with ⟨rfl, rfl⟩ | ⟨a, x, rfl, rfl⟩
        · (try simp only [go_sem, Nat.reduceAdd, Nat.reduceEqDiff, Nat.reduceLT, Nat.reduceLeDiff, Nat.reduceMul, Nat.zero_add, reduceCtorEq, ↓reduceIte, List.length_cons, List.length_nil, List.set_cons_zero, List.set_cons_succ, List.take_zero, List.take_succ_cons, List.drop_zero, List.drop_succ_cons, List.take_nil, List.drop_nil, List.nil_append, List.cons_append, List.append_nil, or_false, false_or, or_true, true_or, false_implies, true_implies, and_true, true_and, and_self, Bool.and_true, Bool.true_and, Nat.mul_one, Int.toNat_natCast, Int.toNat_zero, Nat.sub_zero, Nat.sub_self, hb1, hcell, f1, f2, hwk, Option.isNone_none, Option.isNone_some, Bool.not_true, Bool.not_false])
          obtain ⟨j1, j2⟩ := fin idle
          exact ⟨_, by omega, k + 1, rfl, hc', j1, j2, rfl⟩
        · (try simp only [go_sem, Nat.reduceAdd, Nat.reduceEqDiff, Nat.reduceLT, Nat.reduceLeDiff, Nat.reduceMul, Nat.zero_add, reduceCtorEq, ↓reduceIte, List.length_cons, List.length_nil, List.set_cons_zero, List.set_cons_succ, List.take_zero, List.take_succ_cons, List.drop_zero, List.drop_succ_cons, List.take_nil, List.drop_nil, List.nil_append, List.cons_append, List.append_nil, or_false, false_or, or_true, true_or, false_implies, true_implies, and_true, true_and, and_self, Bool.and_true, Bool.true_and, Nat.mul_one, Int.toNat_natCast, Int.toNat_zero, Nat.sub_zero, Nat.sub_self, hb1, hcell, f1, f2, hwk, hl7, Option.isNone_none, Option.isNone_some, Bool.not_true, Bool.not_false])
          refine e_call (by rfl) ?_
          refine (plays_one (all_swap hall) (by simp) o hrd (fun v hv x hx hh => far v hv x hx (by rcases hh with h | h | h; exact .inl h; exact .inr (.inr h); exact .inr (.inl h))) (by omega)).mono ?_
          rintro q w'' ⟨rfl, hp⟩
          obtain ⟨j1, j2⟩ := fin (played_swap hp)
          (try simp only [go_sem, Nat.reduceAdd, Nat.reduceEqDiff, Nat.reduceLT, Nat.reduceLeDiff, Nat.reduceMul, Nat.zero_add, reduceCtorEq, ↓reduceIte, List.length_cons, List.length_nil, List.set_cons_zero, List.set_cons_succ, List.take_zero, List.take_succ_cons, List.drop_zero, List.drop_succ_cons, List.take_nil, List.drop_nil, List.nil_append, List.cons_append, List.append_nil, or_false, false_or, or_true, true_or, false_implies, true_implies, and_true, true_and, and_self, Bool.and_true, Bool.true_and, Nat.mul_one, Int.toNat_natCast, Int.toNat_zero, Nat.sub_zero, Nat.sub_self, hwk, Bool.not_true, Bool.not_false])
          exact ⟨_, by omega, k + 1, rfl, hc', j1, j2, rfl⟩
    · (try simp only [go_sem, Nat.reduceAdd, Nat.reduceEqDiff, Nat.reduceLT, Nat.reduceLeDiff, Nat.reduceMul, Nat.zero_add, reduceCtorEq, ↓reduceIte, List.length_cons, List.length_nil, List.set_cons_zero, List.set_cons_succ, List.take_zero, List.take_succ_cons, List.drop_zero, List.drop_succ_cons, List.take_nil, List.drop_nil, List.nil_append, List.cons_append, List.append_nil, or_false, false_or, or_true, true_or, false_implies, true_implies, and_true, true_and, and_self, Bool.and_true, Bool.true_and])
      refine e_call (by rfl) ?_
      refine (still_ok w' w5.heap.size es B hall.book (by omega) hall.small).mono ?_
      rintro q w'' ⟨rfl, hm2⟩
      exact ⟨rfl, hm.trans hm2⟩
end Go.Proofs.Ytnagmcdlepcgnaa
