/- Gens, the laws: GensApart walked. -/
import Derived.Test.YtnimaifmcejkcaaLA
section
set_option linter.unusedSimpArgs false
set_option linter.unusedVariables false
set_option maxRecDepth 100000
namespace Go.Proofs.Ytnimaifmcejkcaa
open Go Go.W

/-- The arenas and the book, all of them new since a world. -/
def PlayAt (w w' : World) (b a r : Nat) (size young : Int) (k : Nat) : Prop :=
  Mod (fun _ => False) w w' ∧ ∃ es old times ns B F G, Both w' b a r es size young old times ns B F G ∧ es.length ≤ k ∧ ∀ x, B x ∨ F x ∨ G x → w.heap.size ≤ x
theorem playAt_step {w w' : World} {b a r : Nat} {size young : Int} {k : Nat} (h : PlayAt w w' b a r size young k) (cl n : Int) (nd : Nd) (av orv : Value) (roots : List Int)
    (hx : Ints w' av nd.args) (hy : Ints w' orv roots) (hxo : nd.args ≠ [] → ∀ x, vblk av = some x → x < w.heap.size) (hyo : roots ≠ [] → ∀ x, vblk orv = some x → x < w.heap.size) (hal : nd.args.length + 5 ≤ 17592186044416) (hrl : roots.length + 5 ≤ 17592186044416) (hk : k + 1 ≤ 4398046511104) :
    CallsR Try.prog 9 [.pointer (some ⟨b, 0, none⟩), .pointer (some ⟨a, 0, none⟩), .pointer (some ⟨r, 0, none⟩), .agg #[I cl, I n, I nd.kind, I nd.num, av, orv]] w' fun q w'' => q = .bool true ∧ PlayAt w w'' b a r size young (k + 1) := by
  obtain ⟨hm, es, old, times, ns, B, F, G, hB, hel, hge⟩ := h
  refine (step_ok w' b a r es size young old times ns B F G hB cl n nd av orv roots hx hy (fun hne x hv hh => ?_) (fun hne x hv hh => ?_) hal hrl (by omega)).mono ?_
  · have := hxo hne x hv; have := hge x hh; omega
  · have := hyo hne x hv; have := hge x hh; omega
  rintro q w'' ⟨rfl, es', old', times', ns', B', F', G', j1, j2, j3, j4, j5, j6⟩
  have := hm.size
  refine ⟨rfl, hm.step j3 (fun x hx hlt => by have := hge x hx; omega), es', old', times', ns', B', F', G', j1, by omega, fun x hx => ?_⟩
  rcases hx with hx | hx | hx
  · exact (j4 x hx).elim (fun h => hge x (.inl h)) (fun h => by omega)
  · exact (j5 x hx).elim (fun h => hge x (.inr (.inl h))) (fun h => by omega)
  · exact (j6 x hx).elim (fun h => hge x (.inr (.inr h))) (fun h => by omega)

theorem gplays_ok (w : World) (size young : Int) (v : Value) (os : List OpV) (h : Ops w v os) :
    CallsR Try.prog 3 [I size, I young, v] w fun q w' => q = .bool true ∧ Mod (fun _ => False) w w' := by
  have h0 := h
  obtain ⟨va, vc, rfl, hol, hx⟩ := h0
  refine fit3.calls rfl ?_
  unfold ir3
  (try simp only [go_sem, Nat.reduceAdd, Nat.reduceEqDiff, Nat.reduceLT, Nat.reduceLeDiff, Nat.reduceMul, reduceCtorEq, ↓reduceIte])
  refine e_call (by rfl) ?_
  refine (awake_ok w).mono ?_
  rintro q w1 ⟨rfl, hm1⟩
  (try simp only [go_sem, Nat.reduceAdd, Nat.reduceEqDiff, Nat.reduceLT, Nat.reduceLeDiff, Nat.reduceMul, reduceCtorEq, ↓reduceIte])
  refine e_call (by rfl) ?_
  refine (gnew_ok size young w1).mono ?_
  rintro q w2 k2
  obtain ⟨pa, F, rfl, hm2, a1, a2⟩ := new_pr (At := GAt) k2
  generalize hE1 : (if 1 ≤ size ∧ size ≤ 1048576 ∧ 1 ≤ young ∧ young ≤ size then (0 : Int) else 210) = e1
  (try simp only [go_sem, Nat.reduceAdd, Nat.reduceEqDiff, Nat.reduceLT, Nat.reduceLeDiff, Nat.reduceMul, reduceCtorEq, ↓reduceIte])
  refine e_call (by rfl) ?_
  refine (rnew_ok size young w2).mono ?_
  rintro q w3 k3
  obtain ⟨pb, G, rfl, hm3, b1, b2⟩ := new_pr (At := RAt) k3
  rw [hE1]
  have f1 : (e1 != e1) = false := by simp
  have hm03 := (hm1.trans hm2).trans hm3
  by_cases g : 1 ≤ size ∧ size ≤ 1048576 ∧ 1 ≤ young ∧ young ≤ size
  rotate_left
  · obtain rfl := a2 g
    obtain rfl := b2 g
    (try simp only [go_sem, Nat.reduceAdd, Nat.reduceEqDiff, Nat.reduceLT, Nat.reduceLeDiff, Nat.reduceMul, reduceCtorEq, ↓reduceIte, f1, Bool.not_true, Bool.not_false, Option.isNone_none, Option.isNone_some, beq_self_eq_true])
    exact hm03
  obtain ⟨a, rfl, a3, a4⟩ := a1 g
  obtain ⟨r, rfl, b3, b4⟩ := b1 g
  clear a1 a2 b1 b2 k2 k3
  (try simp only [go_sem, Nat.reduceAdd, Nat.reduceEqDiff, Nat.reduceLT, Nat.reduceLeDiff, Nat.reduceMul, reduceCtorEq, ↓reduceIte, f1, Bool.not_true, Bool.not_false, Option.isNone_none, Option.isNone_some, beq_self_eq_true])
  refine e_bx rfl ?_
  intro w4 hb4 hm4 hs4
  have hb4 : w4.heap[w3.heap.size]? = some (.cells #[.slice none 0 0, .slice none 0 0] 35 (0, 0)) := hb4
  have hm04 := hm03.trans hm4
  have t1 := hm1.size; have t2 := hm2.size; have t3 := hm3.size
  have la := gat_lt a3
  have lb := rat_lt b3
  have hB0 : Both w4 w3.heap.size a r [] size young 0 0 [] (· = w3.heap.size) F G :=
    ⟨⟨_, _, none, none, hb4, Own.nil _ _ _, Own.nil _ _ _, (fun e he => by cases he), rfl, (fun x hx => by cases hx), (fun x hx => by cases hx), (fun x hx => by omega)⟩,
      gat_mod (gat_mod a3 hm3 (fun _ _ h => h)) hm4 (fun _ _ h => h), rat_mod b3 hm4 (fun _ _ h => h), fine_new g, fun x hx hh => by have := la x hh; omega, fun x hx hh => by have := lb x hh; omega, fun x hx hh => by have := la x hx; have := b4 x hh; omega, fun e he => by cases he⟩
  have hP0 : PlayAt w w4 w3.heap.size a r size young 0 := ⟨hm04, [], 0, 0, [], _, F, G, hB0, Nat.le_refl _, fun x hx => by
    rcases hx with hx | hx | hx
    · omega
    · have := a4 x hx; omega
    · have := b4 x hx; omega⟩
  generalize w3.heap.size = b at hP0 ⊢
  clear hB0 hb4 a3 b3 a4 b4 la lb t1 t2 t3 hm4 hm3 hm2 hm1 hm03 hm04 hs4
  (try simp only [go_sem, Nat.reduceAdd, Nat.reduceEqDiff, Nat.reduceLT, Nat.reduceLeDiff, Nat.reduceMul, reduceCtorEq, ↓reduceIte])
  refine ir_loop (fun m ρ w' => ∃ k : Nat, m = os.length - k ∧ k ≤ os.length ∧ PlayAt w w' b a r size young k ∧
    ρ = [(2, .slice va os.length vc), (8, .pointer (some ⟨a, 0, none⟩)), (10, .pointer (some ⟨r, 0, none⟩)), (12, .pointer (some ⟨b, 0, none⟩)), (13, I k)]) os.length
    ⟨0, rfl, Nat.zero_le _, hP0, rfl⟩ ?_
  rintro m ρ w' ⟨k, rfl, hk, hP, rfl⟩
  unfold ir3L1
  (try simp only [go_sem, Nat.reduceAdd, Nat.reduceEqDiff, Nat.reduceLT, Nat.reduceLeDiff, Nat.reduceMul, reduceCtorEq, ↓reduceIte])
  refine ir_cond rfl (fun hc => ?_) (fun hc => ?_)
  · have hc' : k < os.length := by simpa using hc
    obtain ⟨ad, rfl, hcs0, hrd0⟩ := hx k hc'
    obtain ⟨_, _, e0, _, hx'⟩ := ops_mod h hP.1
    obtain ⟨_, e1', hcs, hrd⟩ := hx' k hc'
    simp only [Value.slice.injEq] at e0
    obtain ⟨e0, _, _⟩ := e0
    rw [← e0] at e1'
    obtain rfl := Option.some.inj e1'
    generalize os[k] = o at hcs hrd hcs0 hrd0
    have hb1 : (0 : Int) ≤ k ∧ (k : Int) < os.length := by omega
    have hwk : IntKind.i64.wrap ((k : Int) + 1) = ((k + 1 : Nat) : Int) := by rw [wrap_in] <;> omega
    have hl6 := ln6 hcs
    (try simp only [go_sem, Nat.reduceAdd, Nat.reduceEqDiff, Nat.reduceLT, Nat.reduceLeDiff, Nat.reduceMul, reduceCtorEq, ↓reduceIte, Nat.mul_one, Int.toNat_natCast, Int.toNat_zero, Nat.sub_zero, Nat.sub_self, hb1, hl6])
    refine e_call (by rfl) ?_
    refine (playAt_step hP o.cl o.n o.nd o.av o.rv o.roots hrd.1 hrd.2.1 (ints_lt1 hrd0.1) (ints_lt1 hrd0.2.1) hrd.2.2.1 hrd.2.2.2 (by omega)).mono ?_
    rintro q w'' ⟨rfl, hp⟩
    (try simp only [go_sem, Nat.reduceAdd, Nat.reduceEqDiff, Nat.reduceLT, Nat.reduceLeDiff, Nat.reduceMul, reduceCtorEq, ↓reduceIte, Nat.mul_one, Int.toNat_natCast, Int.toNat_zero, Nat.sub_zero, Nat.sub_self, hwk, Bool.not_true, Bool.not_false])
    exact ⟨_, by omega, k + 1, rfl, hc', hp, rfl⟩
  have hk' : k = os.length := by simp at hc; omega
  subst hk'
  obtain ⟨hm5, es, old, times, ns, B, F, G, hB, hel, hge⟩ := hP
  (try simp only [go_sem, Nat.reduceAdd, Nat.reduceEqDiff, Nat.reduceLT, Nat.reduceLeDiff, Nat.reduceMul, reduceCtorEq, ↓reduceIte])
  refine e_call (by rfl) ?_
  refine (gused_ok w' a size young old times ns F hB.one).mono ?_
  rintro q _ ⟨rfl, rfl⟩
  (try simp only [go_sem, Nat.reduceAdd, Nat.reduceEqDiff, Nat.reduceLT, Nat.reduceLeDiff, Nat.reduceMul, reduceCtorEq, ↓reduceIte])
  refine e_call (by rfl) ?_
  refine (rused_ok w' r size young old times ns G hB.two).mono ?_
  rintro q _ ⟨rfl, rfl⟩
  have f2 : ((ns.length : Int) != ns.length) = false := by simp
  have f3 : (times != times) = false := by simp
  (try simp only [go_sem, Nat.reduceAdd, Nat.reduceEqDiff, Nat.reduceLT, Nat.reduceLeDiff, Nat.reduceMul, reduceCtorEq, ↓reduceIte, f2])
  refine e_call (by rfl) ?_
  refine (gtimes_ok w' a size young old times ns F hB.one).mono ?_
  rintro q _ ⟨rfl, rfl⟩
  (try simp only [go_sem, Nat.reduceAdd, Nat.reduceEqDiff, Nat.reduceLT, Nat.reduceLeDiff, Nat.reduceMul, reduceCtorEq, ↓reduceIte])
  refine e_call (by rfl) ?_
  refine (rtimes_ok w' r size young old times ns G hB.two).mono ?_
  rintro q _ ⟨rfl, rfl⟩
  (try simp only [go_sem, Nat.reduceAdd, Nat.reduceEqDiff, Nat.reduceLT, Nat.reduceLeDiff, Nat.reduceMul, reduceCtorEq, ↓reduceIte, f3])
  have hP : PlayAt w w' b a r size young (os.length + 0) := ⟨hm5, es, old, times, ns, B, F, G, hB, hel, hge⟩
  clear hB hge hel hm5
  refine ir_loop (fun m ρ w' => ∃ k : Nat, m = 1048576 - k ∧ k ≤ 1048576 ∧ PlayAt w w' b a r size young (os.length + k) ∧
    ρ = [(8, .pointer (some ⟨a, 0, none⟩)), (10, .pointer (some ⟨r, 0, none⟩)), (12, .pointer (some ⟨b, 0, none⟩)), (15, I k)]) 1048576
    ⟨0, rfl, Nat.zero_le _, hP, rfl⟩ ?_
  rintro m ρ w5 ⟨k, rfl, hk, hP5, rfl⟩
  unfold ir3L2
  have hP6 := hP5
  obtain ⟨hm5, es, old, times, ns, B, F, G, hB, hel, hge⟩ := hP5
  have hfl := hB.fine.len
  (try simp only [go_sem, Nat.reduceAdd, Nat.reduceEqDiff, Nat.reduceLT, Nat.reduceLeDiff, Nat.reduceMul, reduceCtorEq, ↓reduceIte])
  refine e_call (by rfl) ?_
  refine (rused_ok w5 r size young old times ns G hB.two).mono ?_
  rintro q _ ⟨rfl, rfl⟩
  (try simp only [go_sem, Nat.reduceAdd, Nat.reduceEqDiff, Nat.reduceLT, Nat.reduceLeDiff, Nat.reduceMul, reduceCtorEq, ↓reduceIte])
  refine ir_cond rfl (fun hc => ?_) (fun hc => ?_)
  · have hc' : k < ns.length := by simpa using hc
    have hwk : IntKind.i64.wrap ((k : Int) + 1) = ((k + 1 : Nat) : Int) := by rw [wrap_in] <;> omega
    (try simp only [go_sem, Nat.reduceAdd, Nat.reduceEqDiff, Nat.reduceLT, Nat.reduceLeDiff, Nat.reduceMul, reduceCtorEq, ↓reduceIte])
    refine e_call (by rfl) ?_
    refine (playAt_step hP6 2 k ⟨0, 0, []⟩ _ _ [] (ints_nil0 _) (ints_nil0 _) (fun h => absurd rfl h) (fun h => absurd rfl h) (by simp) (by simp) (by omega)).mono ?_
    rintro q w6 ⟨rfl, hp⟩
    (try simp only [go_sem, Nat.reduceAdd, Nat.reduceEqDiff, Nat.reduceLT, Nat.reduceLeDiff, Nat.reduceMul, reduceCtorEq, ↓reduceIte, Nat.mul_one, Int.toNat_natCast, Int.toNat_zero, Nat.sub_zero, Nat.sub_self, hwk, Bool.not_true, Bool.not_false])
    exact ⟨_, by omega, k + 1, rfl, by omega, hp, rfl⟩
  · (try simp only [go_sem, Nat.reduceAdd, Nat.reduceEqDiff, Nat.reduceLT, Nat.reduceLeDiff, Nat.reduceMul, reduceCtorEq, ↓reduceIte])
    refine e_call (by rfl) ?_
    refine (still_ok w5 b es B hB.book (by omega) hB.small).mono ?_
    rintro q w6 ⟨rfl, hm6⟩
    exact ⟨rfl, hm5.trans hm6⟩
end Go.Proofs.Ytnimaifmcejkcaa
end

section
set_option linter.unusedSimpArgs false
set_option linter.unusedVariables false
set_option maxRecDepth 100000
namespace Go.Proofs.Ytnimaifmcejkcaa
open Go Go.W

theorem three_swap {p q r : Prop} (h : p ∨ q ∨ r) : p ∨ r ∨ q := by rcases h with h | h | h; exact .inl h; exact .inr (.inr h); exact .inr (.inl h)

/-- All that two scripts play with, all of it new since a world. -/
def TwoAt (w w' : World) (b : Nat) (v1 u1 v2 u2 : Value) (size young : Int) (k : Nat) : Prop :=
  Mod (fun _ => False) w w' ∧ ∃ es B F1 G1 F2 G2, All w' b es B v1 u1 size young F1 G1 v2 u2 size young F2 G2 ∧ es.length ≤ k ∧ ∀ x, B x ∨ (F1 x ∨ G1 x) ∨ (F2 x ∨ G2 x) → w.heap.size ≤ x
theorem twoAt_swap {w w' : World} {b : Nat} {v1 u1 v2 u2 : Value} {size young : Int} {k : Nat} (h : TwoAt w w' b v1 u1 v2 u2 size young k) : TwoAt w w' b v2 u2 v1 u1 size young k := by
  obtain ⟨h1, es, B, F1, G1, F2, G2, h2, h3, h4⟩ := h
  exact ⟨h1, es, B, F2, G2, F1, G1, all_swap h2, h3, fun x hx => h4 x (three_swap hx)⟩
theorem twoAt_step {w w' : World} {b : Nat} {v1 u1 v2 u2 : Value} {size young : Int} {k : Nat} (h : TwoAt w w' b v1 u1 v2 u2 size young k) (hu : u1 ≠ .pointer none) (o : OpV) (hr : o.reads w) (hk : k + 1 ≤ 4398046511104) :
    CallsR Try.prog 9 [.pointer (some ⟨b, 0, none⟩), v1, u1, .agg #[I o.cl, I o.n, I o.nd.kind, I o.nd.num, o.av, o.rv]] w' fun q w'' => q = .bool true ∧ TwoAt w w'' b v1 u1 v2 u2 size young (k + 1) := by
  obtain ⟨hm, es, B, F1, G1, F2, G2, h2, h3, h4⟩ := h
  have hr' : o.reads w' := ⟨hr.1.mod hm (fun _ _ h => h), hr.2.1.mod hm (fun _ _ h => h), hr.2.2⟩
  refine (plays_one h2 hu o hr' (fun v hv x hx hh => ?_) (by omega)).mono ?_
  · have h1 := h4 x hh
    rcases hv with ⟨rfl, hne⟩ | ⟨rfl, hne⟩
    · have := ints_lt1 hr.1 hne x hx; omega
    · have := ints_lt1 hr.2.1 hne x hx; omega
  rintro q w'' ⟨rfl, es', B', F1', G1', F2', G2', j1, j2, j3, j4⟩
  have := hm.size
  exact ⟨rfl, hm.step j3 (fun x hx hlt => by have := h4 x hx; omega), es', B', F1', G1', F2', G2', j1, by omega, fun x hx => (j4 x hx).elim (h4 x) (fun h => by omega)⟩

theorem op_at {w w' : World} {va : Option Addr} {vc : Nat} {os : List OpV} (h : Ops w (.slice va os.length vc) os) (hm : Mod (fun _ => False) w w') {i : Nat} (hi : i < os.length) :
    ∃ ad, va = some ad ∧ vLN w' 6 (.pointer (some (ad.add (i * 6)))) = some (.agg #[I os[i].cl, I os[i].n, I os[i].nd.kind, I os[i].nd.num, os[i].av, os[i].rv]) ∧ os[i].reads w := by
  have h' := ops_mod h hm
  obtain ⟨_, _, e0, _, hx⟩ := h
  cases e0
  obtain ⟨ad, rfl, _, h2⟩ := hx i hi
  obtain ⟨_, _, e0, _, hx'⟩ := h'
  cases e0
  obtain ⟨ad', e, h1, _⟩ := hx' i hi
  cases e
  exact ⟨ad, rfl, ln6 h1, h2⟩

theorem gapart_ok (w : World) (size young : Int) (u v : Value) (ps os : List OpV) (h1 : Ops w u ps) (h2 : Ops w v os) :
    CallsR Try.prog 4 [I size, I young, u, v] w fun q w' => q = .bool true ∧ Mod (fun _ => False) w w' := by
  have h10 := h1
  have h20 := h2
  obtain ⟨ua, uc, rfl, hpl, _⟩ := h10
  obtain ⟨va, vc, rfl, hol, _⟩ := h20
  refine fit4.calls rfl ?_
  unfold ir4
  (try simp only [go_sem, Nat.reduceAdd, Nat.reduceEqDiff, Nat.reduceLT, Nat.reduceLeDiff, Nat.reduceMul, reduceCtorEq, ↓reduceIte])
  refine e_call (by rfl) ?_
  refine (awake_ok w).mono ?_
  rintro q w1 ⟨rfl, hm1⟩
  (try simp only [go_sem, Nat.reduceAdd, Nat.reduceEqDiff, Nat.reduceLT, Nat.reduceLeDiff, Nat.reduceMul, reduceCtorEq, ↓reduceIte])
  refine e_call (by rfl) ?_
  refine (gnew_ok size young w1).mono ?_
  rintro q w2 k2
  obtain ⟨pa, F, rfl, hm2, a1, a2⟩ := new_pr (At := GAt) k2
  generalize hE1 : (if 1 ≤ size ∧ size ≤ 1048576 ∧ 1 ≤ young ∧ young ≤ size then (0 : Int) else 210) = e1
  (try simp only [go_sem, Nat.reduceAdd, Nat.reduceEqDiff, Nat.reduceLT, Nat.reduceLeDiff, Nat.reduceMul, reduceCtorEq, ↓reduceIte])
  refine e_call (by rfl) ?_
  refine (gnew_ok size young w2).mono ?_
  rintro q w3 k3
  obtain ⟨pb, F2, rfl, hm3, b1, b2⟩ := new_pr (At := GAt) k3
  rw [hE1]
  (try simp only [go_sem, Nat.reduceAdd, Nat.reduceEqDiff, Nat.reduceLT, Nat.reduceLeDiff, Nat.reduceMul, reduceCtorEq, ↓reduceIte])
  refine e_call (by rfl) ?_
  refine (rnew_ok size young w3).mono ?_
  rintro q w4 k4
  obtain ⟨px, G, rfl, hm4, x1, x2⟩ := new_pr (At := RAt) k4
  rw [hE1]
  (try simp only [go_sem, Nat.reduceAdd, Nat.reduceEqDiff, Nat.reduceLT, Nat.reduceLeDiff, Nat.reduceMul, reduceCtorEq, ↓reduceIte])
  refine e_call (by rfl) ?_
  refine (rnew_ok size young w4).mono ?_
  rintro q w5 k5
  obtain ⟨py, G2, rfl, hm5, y1, y2⟩ := new_pr (At := RAt) k5
  rw [hE1]
  have f1 : (e1 != e1) = false := by simp
  have hm05 := (((hm1.trans hm2).trans hm3).trans hm4).trans hm5
  (try simp only [go_sem, Nat.reduceAdd, Nat.reduceEqDiff, Nat.reduceLT, Nat.reduceLeDiff, Nat.reduceMul, reduceCtorEq, ↓reduceIte])
  refine wpS_cut (fun ρ w' => w5 = w' ∧ ρ.get 67 = some (.bool false) ∧ ρ.get 2 = some (.slice ua ps.length uc) ∧ ρ.get 3 = some (.slice va os.length vc) ∧ ρ.get 10 = some (.pointer pa) ∧ ρ.get 12 = some (.pointer pb) ∧ ρ.get 14 = some (.pointer px) ∧ ρ.get 16 = some (.pointer py)) ?_ ?_
  · by_cases g : 1 ≤ size ∧ size ≤ 1048576 ∧ 1 ≤ young ∧ young ≤ size
    · obtain ⟨a, rfl, _⟩ := a1 g
      obtain ⟨b, rfl, _⟩ := b1 g
      obtain ⟨x, rfl, _⟩ := x1 g
      obtain ⟨y, rfl, _⟩ := y1 g
      (try simp only [go_sem, Nat.reduceAdd, Nat.reduceEqDiff, Nat.reduceLT, Nat.reduceLeDiff, Nat.reduceMul, reduceCtorEq, ↓reduceIte, f1, Bool.not_true, Bool.not_false, Option.isNone_none, Option.isNone_some, beq_self_eq_true])
    · obtain rfl := a2 g
      obtain rfl := b2 g
      obtain rfl := x2 g
      obtain rfl := y2 g
      (try simp only [go_sem, Nat.reduceAdd, Nat.reduceEqDiff, Nat.reduceLT, Nat.reduceLeDiff, Nat.reduceMul, reduceCtorEq, ↓reduceIte, f1, Bool.not_true, Bool.not_false, Option.isNone_none, Option.isNone_some, beq_self_eq_true])
  rintro ρ w' ⟨rfl, r67, r2, r3, r10, r12, r14, r16⟩
  (try simp only [go_sem, Nat.reduceAdd, Nat.reduceEqDiff, Nat.reduceLT, Nat.reduceLeDiff, Nat.reduceMul, reduceCtorEq, ↓reduceIte, r67, r2, r3, r10, r12, r14, r16])
  refine e_bx rfl ?_
  intro w6 hb6 hm6 hs6
  have hb6 : w6.heap[w5.heap.size]? = some (.cells #[.slice none 0 0, .slice none 0 0] 35 (0, 0)) := hb6
  have hm06 := hm05.trans hm6
  obtain ⟨F1, G1, p1, p2, p3⟩ := new_pair a1 a2 x1 x2 hm3 hm4 (hm5.trans hm6)
  obtain ⟨F2, G2, q1, q2, q3⟩ := new_pair b1 b2 y1 y2 hm4 hm5 hm6
  have t1 := hm1.size; have t2 := hm2.size; have t3 := hm3.size; have t4 := hm4.size; have t5 := hm5.size
  have hcx : px = none ∨ (pa ≠ none ∧ px ≠ none ∧ pb ≠ none ∧ py ≠ none) := by
    by_cases g : 1 ≤ size ∧ size ≤ 1048576 ∧ 1 ≤ young ∧ young ≤ size
    · obtain ⟨a, rfl, _⟩ := a1 g
      obtain ⟨b, rfl, _⟩ := b1 g
      obtain ⟨x, rfl, _⟩ := x1 g
      obtain ⟨y, rfl, _⟩ := y1 g
      exact .inr ⟨by simp, by simp, by simp, by simp⟩
    · exact .inl (x2 g)
  have all0 : All w6 w5.heap.size [] (· = w5.heap.size) (.pointer pa) (.pointer px) size young F1 G1 (.pointer pb) (.pointer py) size young F2 G2 := by
    refine ⟨⟨_, _, none, none, hb6, Own.nil _ _ _, Own.nil _ _ _, (fun e he => by cases he), rfl, (fun x hx => by cases hx), (fun x hx => by cases hx), (fun x hx => by omega)⟩, p1, q1, fun x hx hh => ?_, fun x hx hh => ?_, fun x hx hh => ?_, fun x hx => ?_, fun x hx => ?_, fun e he => by cases he⟩
    · rcases hh with hh | hh
      · have := p2 x hh; omega
      · have := p3 x hh; omega
    · rcases hh with hh | hh
      · have := q2 x hh; omega
      · have := q3 x hh; omega
    · rcases hx with hx | hx <;> rcases hh with hh | hh
      · have := p2 x hx; have := q2 x hh; omega
      · have := p2 x hx; have := q3 x hh; omega
      · have := p3 x hx; have := q2 x hh; omega
      · have := p3 x hx; have := q3 x hh; omega
    · rcases hx with hx | hx
      · have := p2 x hx; omega
      · have := p3 x hx; omega
    · rcases hx with hx | hx
      · have := q2 x hx; omega
      · have := q3 x hx; omega
  have hT0 : TwoAt w w6 w5.heap.size (.pointer pa) (.pointer px) (.pointer pb) (.pointer py) size young 0 := by
    refine ⟨hm06, [], _, F1, G1, F2, G2, all0, Nat.le_refl _, fun x hx => ?_⟩
    rcases hx with hx | (hx | hx) | (hx | hx)
    · omega
    · have := p2 x hx; omega
    · have := p3 x hx; omega
    · have := q2 x hx; omega
    · have := q3 x hx; omega
  generalize w5.heap.size = b at hT0 ⊢
  clear all0 p1 q1 p2 p3 q2 q3 a1 a2 b1 b2 x1 x2 y1 y2 k2 k3 k4 k5 hm06 hm05 hm1 hm2 hm3 hm4 hm5 hm6 hb6 hs6 t1 t2 t3 t4 t5
  refine ir_loop (fun m ρ w' => ∃ k : Nat, m = (ps.length + os.length) - k ∧ k ≤ ps.length + os.length ∧ TwoAt w w' b (.pointer pa) (.pointer px) (.pointer pb) (.pointer py) size young (min k ps.length + min k os.length) ∧
    ρ = [(2, .slice ua ps.length uc), (3, .slice va os.length vc), (10, .pointer pa), (12, .pointer pb), (14, .pointer px), (16, .pointer py), (18, .pointer (some ⟨b, 0, none⟩)), (19, I k)]) (ps.length + os.length)
    ⟨0, rfl, Nat.zero_le _, by simpa using hT0, rfl⟩ ?_
  rintro m ρ w' ⟨k, rfl, hk, hT, rfl⟩
  unfold ir4L1
  have fin : CallsR Try.prog 14 [.pointer (some ⟨b, 0, none⟩)] w' fun q w'' => q = .bool true ∧ Mod (fun _ => False) w w'' := by
    obtain ⟨hm, es, B, F1, G1, F2, G2, hall, hel, hge⟩ := hT
    refine (still_ok w' b es B hall.book (by omega) hall.small).mono ?_
    rintro q w'' ⟨rfl, hm2⟩
    exact ⟨rfl, hm.trans hm2⟩
  by_cases hpx : px = none
  · subst hpx
    (try simp only [go_sem, Nat.reduceAdd, Nat.reduceEqDiff, Nat.reduceLT, Nat.reduceLeDiff, Nat.reduceMul, reduceCtorEq, ↓reduceIte, Option.isNone_none, Option.isNone_some, Bool.not_true, Bool.not_false])
    refine e_call (by rfl) ?_
    exact fin.mono (fun q w'' hq => hq)
  obtain ⟨n1, n2, n3, n4⟩ := hcx.resolve_left hpx
  obtain ⟨xx, rfl⟩ := Option.ne_none_iff_exists'.1 n2
  have hwk : k < ps.length + os.length → IntKind.i64.wrap ((k : Int) + 1) = ((k + 1 : Nat) : Int) := fun _ => by rw [wrap_in] <;> omega
  by_cases c1 : k < ps.length
  · have d1 : decide ((k : Int) < ps.length) = true := by simpa using c1
    have hwk := hwk (by omega)
    obtain ⟨ad, rfl, hl, hrd⟩ := op_at h1 hT.1 c1
    have hb1 : (0 : Int) ≤ k ∧ (k : Int) < ps.length := by omega
    (try simp only [go_sem, Nat.reduceAdd, Nat.reduceEqDiff, Nat.reduceLT, Nat.reduceLeDiff, Nat.reduceMul, reduceCtorEq, ↓reduceIte, Nat.mul_one, Int.toNat_natCast, Int.toNat_zero, Nat.sub_zero, Nat.sub_self, decide_true, d1, hb1, hl, Option.isNone_none, Option.isNone_some, Bool.not_true, Bool.not_false])
    refine e_call (by rfl) ?_
    refine (twoAt_step hT (by simp) _ hrd (by omega)).mono ?_
    rintro q w1 ⟨rfl, hT1⟩
    by_cases c2 : k < os.length
    · have d2 : decide ((k : Int) < os.length) = true := by simpa using c2
      obtain ⟨ad2, rfl, hl2, hrd2⟩ := op_at h2 hT1.1 c2
      have hb2 : (0 : Int) ≤ k ∧ (k : Int) < os.length := by omega
      (try simp only [go_sem, Nat.reduceAdd, Nat.reduceEqDiff, Nat.reduceLT, Nat.reduceLeDiff, Nat.reduceMul, reduceCtorEq, ↓reduceIte, Nat.mul_one, Int.toNat_natCast, Int.toNat_zero, Nat.sub_zero, Nat.sub_self, decide_true, d2, hb2, hl2, Bool.not_true, Bool.not_false])
      refine e_call (by rfl) ?_
      refine (twoAt_step (twoAt_swap hT1) (by simpa using n4) _ hrd2 (by omega)).mono ?_
      rintro q w2 ⟨rfl, hT2⟩
      (try simp only [go_sem, Nat.reduceAdd, Nat.reduceEqDiff, Nat.reduceLT, Nat.reduceLeDiff, Nat.reduceMul, reduceCtorEq, ↓reduceIte, Nat.mul_one, Int.toNat_natCast, Int.toNat_zero, Nat.sub_zero, Nat.sub_self, hwk, Bool.not_true, Bool.not_false])
      refine ⟨_, by omega, k + 1, rfl, by omega, ?_, rfl⟩
      have e : min (k + 1) ps.length + min (k + 1) os.length = min k ps.length + min k os.length + 1 + 1 := by omega
      rw [e]
      exact twoAt_swap hT2
    · have d2 : decide ((k : Int) < os.length) = false := by simpa using c2
      (try simp only [go_sem, Nat.reduceAdd, Nat.reduceEqDiff, Nat.reduceLT, Nat.reduceLeDiff, Nat.reduceMul, reduceCtorEq, ↓reduceIte, Nat.mul_one, Int.toNat_natCast, Int.toNat_zero, Nat.sub_zero, Nat.sub_self, d2, hwk, Bool.not_true, Bool.not_false])
      refine ⟨_, by omega, k + 1, rfl, by omega, ?_, rfl⟩
      have e : min (k + 1) ps.length + min (k + 1) os.length = min k ps.length + min k os.length + 1 := by omega
      rw [e]
      exact hT1
  · have d1 : decide ((k : Int) < ps.length) = false := by simpa using c1
    by_cases c2 : k < os.length
    · have hwk := hwk (by omega)
      have d2 : decide ((k : Int) < os.length) = true := by simpa using c2
      obtain ⟨ad2, rfl, hl2, hrd2⟩ := op_at h2 hT.1 c2
      have hb2 : (0 : Int) ≤ k ∧ (k : Int) < os.length := by omega
      (try simp only [go_sem, Nat.reduceAdd, Nat.reduceEqDiff, Nat.reduceLT, Nat.reduceLeDiff, Nat.reduceMul, reduceCtorEq, ↓reduceIte, Nat.mul_one, Int.toNat_natCast, Int.toNat_zero, Nat.sub_zero, Nat.sub_self, decide_true, d1, d2, hb2, hl2, Option.isNone_none, Option.isNone_some, Bool.not_true, Bool.not_false])
      refine e_call (by rfl) ?_
      refine (twoAt_step (twoAt_swap hT) (by simpa using n4) _ hrd2 (by omega)).mono ?_
      rintro q w2 ⟨rfl, hT2⟩
      (try simp only [go_sem, Nat.reduceAdd, Nat.reduceEqDiff, Nat.reduceLT, Nat.reduceLeDiff, Nat.reduceMul, reduceCtorEq, ↓reduceIte, Nat.mul_one, Int.toNat_natCast, Int.toNat_zero, Nat.sub_zero, Nat.sub_self, hwk, Bool.not_true, Bool.not_false])
      refine ⟨_, by omega, k + 1, rfl, by omega, ?_, rfl⟩
      have e : min (k + 1) ps.length + min (k + 1) os.length = min k ps.length + min k os.length + 1 := by omega
      rw [e]
      exact twoAt_swap hT2
    · have d2 : decide ((k : Int) < os.length) = false := by simpa using c2
      (try simp only [go_sem, Nat.reduceAdd, Nat.reduceEqDiff, Nat.reduceLT, Nat.reduceLeDiff, Nat.reduceMul, reduceCtorEq, ↓reduceIte, d1, d2, Option.isNone_none, Option.isNone_some, Bool.not_true, Bool.not_false])
      refine e_call (by rfl) ?_
      exact fin.mono (fun q w'' hq => hq)
end Go.Proofs.Ytnimaifmcejkcaa
end
