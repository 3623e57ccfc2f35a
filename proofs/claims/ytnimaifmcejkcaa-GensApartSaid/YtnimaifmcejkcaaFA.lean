/- GensApart: whatever the sizes of two arenas and whatever two scripts of calls are handed in, played by turns, the law answers true, and what was handed in reads as it did. No condition. -/
import Derived.Test.YtnimaifmcejkcaaLA
import Derived.Test.YtnimaifmcejkcaaW10
import Derived.Deep.Slices
import Derived.Test.YtnimaifmcejkcaaRows
section
set_option linter.unusedSimpArgs false
set_option linter.unusedVariables false
set_option maxRecDepth 100000
namespace Go.Proofs.Ytnimaifmcejkcaa
open Go Go.W

/-- The arenas and the book, all of them new since a world. -/
def PlayAt (w w' : World) (b a r : Nat) (size young : Int) (k : Nat) : Prop :=
  Mod (fun _ => False) w w' ∧ ∃ es old times ns B F G, Both w' b a r es size young old times ns B F G ∧ es.length ≤ k ∧ ∀ x, B x ∨ F x ∨ G x → w.heap.size ≤ x
theorem playAt_step {w w' : World} {b a r : Nat} {size young : Int} {k : Nat} (h : PlayAt w w' b a r size young k) (cl n : Int) (nd : Nd) (av orv : Value) (roots : List Int)
    (hx : Ints w' av nd.args) (hy : Ints w' orv roots) (hxo : nd.args ≠ [] → ∀ x, vblk av = some x → x < w.heap.size) (hyo : roots ≠ [] → ∀ x, vblk orv = some x → x < w.heap.size) (hal : nd.args.length + 5 ≤ 17592186044416) (hrl : roots.length + 5 ≤ 17592186044416) (hk : k + 1 ≤ 4398046511104) :
    CallsR Try.prog 9 [.pointer (some ⟨b, 0, none⟩), .pointer (some ⟨a, 0, none⟩), .pointer (some ⟨r, 0, none⟩), .agg #[I cl, I n, I nd.kind, I nd.num, av, orv]] w' fun q w'' => q = .bool true ∧ PlayAt w w'' b a r size young (k + 1) := by
  obtain ⟨hm, es, old, times, ns, B, F, G, hB, hel, hge⟩ := h
  refine (step_ok w' b a r es size young old times ns B F G hB cl n nd av orv roots hx hy (fun hne x hv hh => ?_) (fun hne x hv hh => ?_) hal hrl (by omega)).mono ?_
  · have := hxo hne x hv; have := hge x hh; omega
  · have := hyo hne x hv; have := hge x hh; omega
  rintro q w'' ⟨rfl, es', old', times', ns', B', F', G', j1, j2, j3, j4, j5, j6⟩
  have := hm.size
  refine ⟨rfl, hm.step j3 (fun x hx hlt => by have := hge x hx; omega), es', old', times', ns', B', F', G', j1, by omega, fun x hx => ?_⟩
  rcases hx with hx | hx | hx
  · exact (j4 x hx).elim (fun h => hge x (.inl h)) (fun h => by omega)
  · exact (j5 x hx).elim (fun h => hge x (.inr (.inl h))) (fun h => by omega)
  · exact (j6 x hx).elim (fun h => hge x (.inr (.inr h))) (fun h => by omega)

theorem gplays_ok (w : World) (size young : Int) (v : Value) (os : List OpV) (h : Ops w v os) :
    CallsR Try.prog 3 [I size, I young, v] w fun q w' => q = .bool true ∧ Mod (fun _ => False) w w' := by
  have h0 := h
  obtain ⟨va, vc, rfl, hol, hx⟩ := h0
  refine fit3.calls rfl ?_
  unfold ir3
  (try simp only [go_sem, Nat.reduceAdd, Nat.reduceEqDiff, Nat.reduceLT, Nat.reduceLeDiff, Nat.reduceMul, reduceCtorEq, ↓reduceIte])
  refine e_call (by rfl) ?_
  refine (awake_ok w).mono ?_
  rintro q w1 ⟨rfl, hm1⟩
  (try simp only [go_sem, Nat.reduceAdd, Nat.reduceEqDiff, Nat.reduceLT, Nat.reduceLeDiff, Nat.reduceMul, reduceCtorEq, ↓reduceIte])
  refine e_call (by rfl) ?_
  refine (gnew_ok size young w1).mono ?_
  rintro q w2 k2
  obtain ⟨pa, F, rfl, hm2, a1, a2⟩ := new_pr (At := GAt) k2
  generalize hE1 : (if 1 ≤ size ∧ size ≤ 1048576 ∧ 1 ≤ young ∧ young ≤ size then (0 : Int) else 210) = e1
  (try simp only [go_sem, Nat.reduceAdd, Nat.reduceEqDiff, Nat.reduceLT, Nat.reduceLeDiff, Nat.reduceMul, reduceCtorEq, ↓reduceIte])
  refine e_call (by rfl) ?_
  refine (rnew_ok size young w2).mono ?_
  rintro q w3 k3
  obtain ⟨pb, G, rfl, hm3, b1, b2⟩ := new_pr (At := RAt) k3
  rw [hE1]
  have f1 : (e1 != e1) = false := by simp
  have hm03 := (hm1.trans hm2).trans hm3
  by_cases g : 1 ≤ size ∧ size ≤ 1048576 ∧ 1 ≤ young ∧ young ≤ size
  rotate_left
  · obtain rfl := a2 g
    obtain rfl := b2 g
    (try simp only [go_sem, Nat.reduceAdd, Nat.reduceEqDiff, Nat.reduceLT, Nat.reduceLeDiff, Nat.reduceMul, reduceCtorEq, ↓reduceIte, f1, Bool.not_true, Bool.not_false, Option.isNone_none, Option.isNone_some, beq_self_eq_true])
    exact hm03
  obtain ⟨a, rfl, a3, a4⟩ := a1 g
  obtain ⟨r, rfl, b3, b4⟩ := b1 g
  clear a1 a2 b1 b2 k2 k3
  (try simp only [go_sem, Nat.reduceAdd, Nat.reduceEqDiff, Nat.reduceLT, Nat.reduceLeDiff, Nat.reduceMul, reduceCtorEq, ↓reduceIte, f1, Bool.not_true, Bool.not_false, Option.isNone_none, Option.isNone_some, beq_self_eq_true])
  refine e_bx rfl ?_
  intro w4 hb4 hm4 hs4
  have hb4 : w4.heap[w3.heap.size]? = some (.cells #[.slice none 0 0, .slice none 0 0] 35 (0, 0)) := hb4
  have hm04 := hm03.trans hm4
  have t1 := hm1.size; have t2 := hm2.size; have t3 := hm3.size
  have la := gat_lt a3
  have lb := rat_lt b3
  have hB0 : Both w4 w3.heap.size a r [] size young 0 0 [] (· = w3.heap.size) F G :=
    ⟨⟨_, _, none, none, hb4, Own.nil _ _ _, Own.nil _ _ _, (fun e he => by cases he), rfl, (fun x hx => by cases hx), (fun x hx => by cases hx), (fun x hx => by omega)⟩,
      gat_mod (gat_mod a3 hm3 (fun _ _ h => h)) hm4 (fun _ _ h => h), rat_mod b3 hm4 (fun _ _ h => h), fine_new g, fun x hx hh => by have := la x hh; omega, fun x hx hh => by have := lb x hh; omega, fun x hx hh => by have := la x hx; have := b4 x hh; omega, fun e he => by cases he⟩
  have hP0 : PlayAt w w4 w3.heap.size a r size young 0 := ⟨hm04, [], 0, 0, [], _, F, G, hB0, Nat.le_refl _, fun x hx => by
    rcases hx with hx | hx | hx
    · omega
    · have := a4 x hx; omega
    · have := b4 x hx; omega⟩
  generalize w3.heap.size = b at hP0 ⊢
  clear hB0 hb4 a3 b3 a4 b4 la lb t1 t2 t3 hm4 hm3 hm2 hm1 hm03 hm04 hs4
  (try simp only [go_sem, Nat.reduceAdd, Nat.reduceEqDiff, Nat.reduceLT, Nat.reduceLeDiff, Nat.reduceMul, reduceCtorEq, ↓reduceIte])
  refine ir_loop (fun m ρ w' => ∃ k : Nat, m = os.length - k ∧ k ≤ os.length ∧ PlayAt w w' b a r size young k ∧
    ρ = [(2, .slice va os.length vc), (8, .pointer (some ⟨a, 0, none⟩)), (10, .pointer (some ⟨r, 0, none⟩)), (12, .pointer (some ⟨b, 0, none⟩)), (13, I k)]) os.length
    ⟨0, rfl, Nat.zero_le _, hP0, rfl⟩ ?_
  rintro m ρ w' ⟨k, rfl, hk, hP, rfl⟩
  unfold ir3L1
  (try simp only [go_sem, Nat.reduceAdd, Nat.reduceEqDiff, Nat.reduceLT, Nat.reduceLeDiff, Nat.reduceMul, reduceCtorEq, ↓reduceIte])
  refine ir_cond rfl (fun hc => ?_) (fun hc => ?_)
  · have hc' : k < os.length := by simpa using hc
    obtain ⟨ad, rfl, hcs0, hrd0⟩ := hx k hc'
    obtain ⟨_, _, e0, _, hx'⟩ := ops_mod h hP.1
    obtain ⟨_, e1', hcs, hrd⟩ := hx' k hc'
    simp only [Value.slice.injEq] at e0
    obtain ⟨e0, _, _⟩ := e0
    rw [← e0] at e1'
    obtain rfl := Option.some.inj e1'
    generalize os[k] = o at hcs hrd hcs0 hrd0
    have hb1 : (0 : Int) ≤ k ∧ (k : Int) < os.length := by omega
    have hwk : IntKind.i64.wrap ((k : Int) + 1) = ((k + 1 : Nat) : Int) := by rw [wrap_in] <;> omega
    have hl6 := ln6 hcs
    (try simp only [go_sem, Nat.reduceAdd, Nat.reduceEqDiff, Nat.reduceLT, Nat.reduceLeDiff, Nat.reduceMul, reduceCtorEq, ↓reduceIte, Nat.mul_one, Int.toNat_natCast, Int.toNat_zero, Nat.sub_zero, Nat.sub_self, hb1, hl6])
    refine e_call (by rfl) ?_
    refine (playAt_step hP o.cl o.n o.nd o.av o.rv o.roots hrd.1 hrd.2.1 (ints_lt1 hrd0.1) (ints_lt1 hrd0.2.1) hrd.2.2.1 hrd.2.2.2 (by omega)).mono ?_
    rintro q w'' ⟨rfl, hp⟩
    (try simp only [go_sem, Nat.reduceAdd, Nat.reduceEqDiff, Nat.reduceLT, Nat.reduceLeDiff, Nat.reduceMul, reduceCtorEq, ↓reduceIte, Nat.mul_one, Int.toNat_natCast, Int.toNat_zero, Nat.sub_zero, Nat.sub_self, hwk, Bool.not_true, Bool.not_false])
    exact ⟨_, by omega, k + 1, rfl, hc', hp, rfl⟩
  have hk' : k = os.length := by simp at hc; omega
  subst hk'
  obtain ⟨hm5, es, old, times, ns, B, F, G, hB, hel, hge⟩ := hP
  (try simp only [go_sem, Nat.reduceAdd, Nat.reduceEqDiff, Nat.reduceLT, Nat.reduceLeDiff, Nat.reduceMul, reduceCtorEq, ↓reduceIte])
  refine e_call (by rfl) ?_
  refine (gused_ok w' a size young old times ns F hB.one).mono ?_
  rintro q _ ⟨rfl, rfl⟩
  (try simp only [go_sem, Nat.reduceAdd, Nat.reduceEqDiff, Nat.reduceLT, Nat.reduceLeDiff, Nat.reduceMul, reduceCtorEq, ↓reduceIte])
  refine e_call (by rfl) ?_
  refine (rused_ok w' r size young old times ns G hB.two).mono ?_
  rintro q _ ⟨rfl, rfl⟩
  have f2 : ((ns.length : Int) != ns.length) = false := by simp
  have f3 : (times != times) = false := by simp
  (try simp only [go_sem, Nat.reduceAdd, Nat.reduceEqDiff, Nat.reduceLT, Nat.reduceLeDiff, Nat.reduceMul, reduceCtorEq, ↓reduceIte, f2])
  refine e_call (by rfl) ?_
  refine (gtimes_ok w' a size young old times ns F hB.one).mono ?_
  rintro q _ ⟨rfl, rfl⟩
  (try simp only [go_sem, Nat.reduceAdd, Nat.reduceEqDiff, Nat.reduceLT, Nat.reduceLeDiff, Nat.reduceMul, reduceCtorEq, ↓reduceIte])
  refine e_call (by rfl) ?_
  refine (rtimes_ok w' r size young old times ns G hB.two).mono ?_
  rintro q _ ⟨rfl, rfl⟩
  (try simp only [go_sem, Nat.reduceAdd, Nat.reduceEqDiff, Nat.reduceLT, Nat.reduceLeDiff, Nat.reduceMul, reduceCtorEq, ↓reduceIte, f3])
  have hP : PlayAt w w' b a r size young (os.length + 0) := ⟨hm5, es, old, times, ns, B, F, G, hB, hel, hge⟩
  clear hB hge hel hm5
  refine ir_loop (fun m ρ w' => ∃ k : Nat, m = 1048576 - k ∧ k ≤ 1048576 ∧ PlayAt w w' b a r size young (os.length + k) ∧
    ρ = [(8, .pointer (some ⟨a, 0, none⟩)), (10, .pointer (some ⟨r, 0, none⟩)), (12, .pointer (some ⟨b, 0, none⟩)), (15, I k)]) 1048576
    ⟨0, rfl, Nat.zero_le _, hP, rfl⟩ ?_
  rintro m ρ w5 ⟨k, rfl, hk, hP5, rfl⟩
  unfold ir3L2
  have hP6 := hP5
  obtain ⟨hm5, es, old, times, ns, B, F, G, hB, hel, hge⟩ := hP5
  have hfl := hB.fine.len
  (try simp only [go_sem, Nat.reduceAdd, Nat.reduceEqDiff, Nat.reduceLT, Nat.reduceLeDiff, Nat.reduceMul, reduceCtorEq, ↓reduceIte])
  refine e_call (by rfl) ?_
  refine (rused_ok w5 r size young old times ns G hB.two).mono ?_
  rintro q _ ⟨rfl, rfl⟩
  (try simp only [go_sem, Nat.reduceAdd, Nat.reduceEqDiff, Nat.reduceLT, Nat.reduceLeDiff, Nat.reduceMul, reduceCtorEq, ↓reduceIte])
  refine ir_cond rfl (fun hc => ?_) (fun hc => ?_)
  · have hc' : k < ns.length := by simpa using hc
    have hwk : IntKind.i64.wrap ((k : Int) + 1) = ((k + 1 : Nat) : Int) := by rw [wrap_in] <;> omega
    (try simp only [go_sem, Nat.reduceAdd, Nat.reduceEqDiff, Nat.reduceLT, Nat.reduceLeDiff, Nat.reduceMul, reduceCtorEq, ↓reduceIte])
    refine e_call (by rfl) ?_
    refine (playAt_step hP6 2 k ⟨0, 0, []⟩ _ _ [] (ints_nil0 _) (ints_nil0 _) (fun h => absurd rfl h) (fun h => absurd rfl h) (by simp) (by simp) (by omega)).mono ?_
    rintro q w6 ⟨rfl, hp⟩
    (try simp only [go_sem, Nat.reduceAdd, Nat.reduceEqDiff, Nat.reduceLT, Nat.reduceLeDiff, Nat.reduceMul, reduceCtorEq, ↓reduceIte, Nat.mul_one, Int.toNat_natCast, Int.toNat_zero, Nat.sub_zero, Nat.sub_self, hwk, Bool.not_true, Bool.not_false])
    exact ⟨_, by omega, k + 1, rfl, by omega, hp, rfl⟩
  · (try simp only [go_sem, Nat.reduceAdd, Nat.reduceEqDiff, Nat.reduceLT, Nat.reduceLeDiff, Nat.reduceMul, reduceCtorEq, ↓reduceIte])
    refine e_call (by rfl) ?_
    refine (still_ok w5 b es B hB.book (by omega) hB.small).mono ?_
    rintro q w6 ⟨rfl, hm6⟩
    exact ⟨rfl, hm5.trans hm6⟩
end Go.Proofs.Ytnimaifmcejkcaa
end

section
set_option linter.unusedSimpArgs false
set_option linter.unusedVariables false
set_option maxRecDepth 100000
namespace Go.Proofs.Ytnimaifmcejkcaa
open Go Go.W

theorem three_swap {p q r : Prop} (h : p ∨ q ∨ r) : p ∨ r ∨ q := by rcases h with h | h | h; exact .inl h; exact .inr (.inr h); exact .inr (.inl h)

/-- All that two scripts play with, all of it new since a world. -/
def TwoAt (w w' : World) (b : Nat) (v1 u1 v2 u2 : Value) (size young : Int) (k : Nat) : Prop :=
  Mod (fun _ => False) w w' ∧ ∃ es B F1 G1 F2 G2, All w' b es B v1 u1 size young F1 G1 v2 u2 size young F2 G2 ∧ es.length ≤ k ∧ ∀ x, B x ∨ (F1 x ∨ G1 x) ∨ (F2 x ∨ G2 x) → w.heap.size ≤ x
theorem twoAt_swap {w w' : World} {b : Nat} {v1 u1 v2 u2 : Value} {size young : Int} {k : Nat} (h : TwoAt w w' b v1 u1 v2 u2 size young k) : TwoAt w w' b v2 u2 v1 u1 size young k := by
  obtain ⟨h1, es, B, F1, G1, F2, G2, h2, h3, h4⟩ := h
  exact ⟨h1, es, B, F2, G2, F1, G1, all_swap h2, h3, fun x hx => h4 x (three_swap hx)⟩
theorem twoAt_step {w w' : World} {b : Nat} {v1 u1 v2 u2 : Value} {size young : Int} {k : Nat} (h : TwoAt w w' b v1 u1 v2 u2 size young k) (hu : u1 ≠ .pointer none) (o : OpV) (hr : o.reads w) (hk : k + 1 ≤ 4398046511104) :
    CallsR Try.prog 9 [.pointer (some ⟨b, 0, none⟩), v1, u1, .agg #[I o.cl, I o.n, I o.nd.kind, I o.nd.num, o.av, o.rv]] w' fun q w'' => q = .bool true ∧ TwoAt w w'' b v1 u1 v2 u2 size young (k + 1) := by
  obtain ⟨hm, es, B, F1, G1, F2, G2, h2, h3, h4⟩ := h
  have hr' : o.reads w' := ⟨hr.1.mod hm (fun _ _ h => h), hr.2.1.mod hm (fun _ _ h => h), hr.2.2⟩
  refine (plays_one h2 hu o hr' (fun v hv x hx hh => ?_) (by omega)).mono ?_
  · have h1 := h4 x hh
    rcases hv with ⟨rfl, hne⟩ | ⟨rfl, hne⟩
    · have := ints_lt1 hr.1 hne x hx; omega
    · have := ints_lt1 hr.2.1 hne x hx; omega
  rintro q w'' ⟨rfl, es', B', F1', G1', F2', G2', j1, j2, j3, j4⟩
  have := hm.size
  exact ⟨rfl, hm.step j3 (fun x hx hlt => by have := h4 x hx; omega), es', B', F1', G1', F2', G2', j1, by omega, fun x hx => (j4 x hx).elim (h4 x) (fun h => by omega)⟩

theorem op_at {w w' : World} {va : Option Addr} {vc : Nat} {os : List OpV} (h : Ops w (.slice va os.length vc) os) (hm : Mod (fun _ => False) w w') {i : Nat} (hi : i < os.length) :
    ∃ ad, va = some ad ∧ vLN w' 6 (.pointer (some (ad.add (i * 6)))) = some (.agg #[I os[i].cl, I os[i].n, I os[i].nd.kind, I os[i].nd.num, os[i].av, os[i].rv]) ∧ os[i].reads w := by
  have h' := ops_mod h hm
  obtain ⟨_, _, e0, _, hx⟩ := h
  cases e0
  obtain ⟨ad, rfl, _, h2⟩ := hx i hi
  obtain ⟨_, _, e0, _, hx'⟩ := h'
  cases e0
  obtain ⟨ad', e, h1, _⟩ := hx' i hi
  cases e
  exact ⟨ad, rfl, ln6 h1, h2⟩

theorem gapart_ok (w : World) (size young : Int) (u v : Value) (ps os : List OpV) (h1 : Ops w u ps) (h2 : Ops w v os) :
    CallsR Try.prog 4 [I size, I young, u, v] w fun q w' => q = .bool true ∧ Mod (fun _ => False) w w' := by
  have h10 := h1
  have h20 := h2
  obtain ⟨ua, uc, rfl, hpl, _⟩ := h10
  obtain ⟨va, vc, rfl, hol, _⟩ := h20
  refine fit4.calls rfl ?_
  unfold ir4
  (try simp only [go_sem, Nat.reduceAdd, Nat.reduceEqDiff, Nat.reduceLT, Nat.reduceLeDiff, Nat.reduceMul, reduceCtorEq, ↓reduceIte])
  refine e_call (by rfl) ?_
  refine (awake_ok w).mono ?_
  rintro q w1 ⟨rfl, hm1⟩
  (try simp only [go_sem, Nat.reduceAdd, Nat.reduceEqDiff, Nat.reduceLT, Nat.reduceLeDiff, Nat.reduceMul, reduceCtorEq, ↓reduceIte])
  refine e_call (by rfl) ?_
  refine (gnew_ok size young w1).mono ?_
  rintro q w2 k2
  obtain ⟨pa, F, rfl, hm2, a1, a2⟩ := new_pr (At := GAt) k2
  generalize hE1 : (if 1 ≤ size ∧ size ≤ 1048576 ∧ 1 ≤ young ∧ young ≤ size then (0 : Int) else 210) = e1
  (try simp only [go_sem, Nat.reduceAdd, Nat.reduceEqDiff, Nat.reduceLT, Nat.reduceLeDiff, Nat.reduceMul, reduceCtorEq, ↓reduceIte])
  refine e_call (by rfl) ?_
  refine (gnew_ok size young w2).mono ?_
  rintro q w3 k3
  obtain ⟨pb, F2, rfl, hm3, b1, b2⟩ := new_pr (At := GAt) k3
  rw [hE1]
  (try simp only [go_sem, Nat.reduceAdd, Nat.reduceEqDiff, Nat.reduceLT, Nat.reduceLeDiff, Nat.reduceMul, reduceCtorEq, ↓reduceIte])
  refine e_call (by rfl) ?_
  refine (rnew_ok size young w3).mono ?_
  rintro q w4 k4
  obtain ⟨px, G, rfl, hm4, x1, x2⟩ := new_pr (At := RAt) k4
  rw [hE1]
  (try simp only [go_sem, Nat.reduceAdd, Nat.reduceEqDiff, Nat.reduceLT, Nat.reduceLeDiff, Nat.reduceMul, reduceCtorEq, ↓reduceIte])
  refine e_call (by rfl) ?_
  refine (rnew_ok size young w4).mono ?_
  rintro q w5 k5
  obtain ⟨py, G2, rfl, hm5, y1, y2⟩ := new_pr (At := RAt) k5
  rw [hE1]
  have f1 : (e1 != e1) = false := by simp
  have hm05 := (((hm1.trans hm2).trans hm3).trans hm4).trans hm5
  (try simp only [go_sem, Nat.reduceAdd, Nat.reduceEqDiff, Nat.reduceLT, Nat.reduceLeDiff, Nat.reduceMul, reduceCtorEq, ↓reduceIte])
  refine wpS_cut (fun ρ w' => w5 = w' ∧ ρ.get 67 = some (.bool false) ∧ ρ.get 2 = some (.slice ua ps.length uc) ∧ ρ.get 3 = some (.slice va os.length vc) ∧ ρ.get 10 = some (.pointer pa) ∧ ρ.get 12 = some (.pointer pb) ∧ ρ.get 14 = some (.pointer px) ∧ ρ.get 16 = some (.pointer py)) ?_ ?_
  · by_cases g : 1 ≤ size ∧ size ≤ 1048576 ∧ 1 ≤ young ∧ young ≤ size
    · obtain ⟨a, rfl, _⟩ := a1 g
      obtain ⟨b, rfl, _⟩ := b1 g
      obtain ⟨x, rfl, _⟩ := x1 g
      obtain ⟨y, rfl, _⟩ := y1 g
      (try simp only [go_sem, Nat.reduceAdd, Nat.reduceEqDiff, Nat.reduceLT, Nat.reduceLeDiff, Nat.reduceMul, reduceCtorEq, ↓reduceIte, f1, Bool.not_true, Bool.not_false, Option.isNone_none, Option.isNone_some, beq_self_eq_true])
    · obtain rfl := a2 g
      obtain rfl := b2 g
      obtain rfl := x2 g
      obtain rfl := y2 g
      (try simp only [go_sem, Nat.reduceAdd, Nat.reduceEqDiff, Nat.reduceLT, Nat.reduceLeDiff, Nat.reduceMul, reduceCtorEq, ↓reduceIte, f1, Bool.not_true, Bool.not_false, Option.isNone_none, Option.isNone_some, beq_self_eq_true])
  rintro ρ w' ⟨rfl, r67, r2, r3, r10, r12, r14, r16⟩
  (try simp only [go_sem, Nat.reduceAdd, Nat.reduceEqDiff, Nat.reduceLT, Nat.reduceLeDiff, Nat.reduceMul, reduceCtorEq, ↓reduceIte, r67, r2, r3, r10, r12, r14, r16])
  refine e_bx rfl ?_
  intro w6 hb6 hm6 hs6
  have hb6 : w6.heap[w5.heap.size]? = some (.cells #[.slice none 0 0, .slice none 0 0] 35 (0, 0)) := hb6
  have hm06 := hm05.trans hm6
  obtain ⟨F1, G1, p1, p2, p3⟩ := new_pair a1 a2 x1 x2 hm3 hm4 (hm5.trans hm6)
  obtain ⟨F2, G2, q1, q2, q3⟩ := new_pair b1 b2 y1 y2 hm4 hm5 hm6
  have t1 := hm1.size; have t2 := hm2.size; have t3 := hm3.size; have t4 := hm4.size; have t5 := hm5.size
  have hcx : px = none ∨ (pa ≠ none ∧ px ≠ none ∧ pb ≠ none ∧ py ≠ none) := by
    by_cases g : 1 ≤ size ∧ size ≤ 1048576 ∧ 1 ≤ young ∧ young ≤ size
    · obtain ⟨a, rfl, _⟩ := a1 g
      obtain ⟨b, rfl, _⟩ := b1 g
      obtain ⟨x, rfl, _⟩ := x1 g
      obtain ⟨y, rfl, _⟩ := y1 g
      exact .inr ⟨by simp, by simp, by simp, by simp⟩
    · exact .inl (x2 g)
  have all0 : All w6 w5.heap.size [] (· = w5.heap.size) (.pointer pa) (.pointer px) size young F1 G1 (.pointer pb) (.pointer py) size young F2 G2 := by
    refine ⟨⟨_, _, none, none, hb6, Own.nil _ _ _, Own.nil _ _ _, (fun e he => by cases he), rfl, (fun x hx => by cases hx), (fun x hx => by cases hx), (fun x hx => by omega)⟩, p1, q1, fun x hx hh => ?_, fun x hx hh => ?_, fun x hx hh => ?_, fun x hx => ?_, fun x hx => ?_, fun e he => by cases he⟩
    · rcases hh with hh | hh
      · have := p2 x hh; omega
      · have := p3 x hh; omega
    · rcases hh with hh | hh
      · have := q2 x hh; omega
      · have := q3 x hh; omega
    · rcases hx with hx | hx <;> rcases hh with hh | hh
      · have := p2 x hx; have := q2 x hh; omega
      · have := p2 x hx; have := q3 x hh; omega
      · have := p3 x hx; have := q2 x hh; omega
      · have := p3 x hx; have := q3 x hh; omega
    · rcases hx with hx | hx
      · have := p2 x hx; omega
      · have := p3 x hx; omega
    · rcases hx with hx | hx
      · have := q2 x hx; omega
      · have := q3 x hx; omega
  have hT0 : TwoAt w w6 w5.heap.size (.pointer pa) (.pointer px) (.pointer pb) (.pointer py) size young 0 := by
    refine ⟨hm06, [], _, F1, G1, F2, G2, all0, Nat.le_refl _, fun x hx => ?_⟩
    rcases hx with hx | (hx | hx) | (hx | hx)
    · omega
    · have := p2 x hx; omega
    · have := p3 x hx; omega
    · have := q2 x hx; omega
    · have := q3 x hx; omega
  generalize w5.heap.size = b at hT0 ⊢
  clear all0 p1 q1 p2 p3 q2 q3 a1 a2 b1 b2 x1 x2 y1 y2 k2 k3 k4 k5 hm06 hm05 hm1 hm2 hm3 hm4 hm5 hm6 hb6 hs6 t1 t2 t3 t4 t5
  refine ir_loop (fun m ρ w' => ∃ k : Nat, m = (ps.length + os.length) - k ∧ k ≤ ps.length + os.length ∧ TwoAt w w' b (.pointer pa) (.pointer px) (.pointer pb) (.pointer py) size young (min k ps.length + min k os.length) ∧
    ρ = [(2, .slice ua ps.length uc), (3, .slice va os.length vc), (10, .pointer pa), (12, .pointer pb), (14, .pointer px), (16, .pointer py), (18, .pointer (some ⟨b, 0, none⟩)), (19, I k)]) (ps.length + os.length)
    ⟨0, rfl, Nat.zero_le _, by simpa using hT0, rfl⟩ ?_
  rintro m ρ w' ⟨k, rfl, hk, hT, rfl⟩
  unfold ir4L1
  have fin : CallsR Try.prog 14 [.pointer (some ⟨b, 0, none⟩)] w' fun q w'' => q = .bool true ∧ Mod (fun _ => False) w w'' := by
    obtain ⟨hm, es, B, F1, G1, F2, G2, hall, hel, hge⟩ := hT
    refine (still_ok w' b es B hall.book (by omega) hall.small).mono ?_
    rintro q w'' ⟨rfl, hm2⟩
    exact ⟨rfl, hm.trans hm2⟩
  by_cases hpx : px = none
  · subst hpx
    (try simp only [go_sem, Nat.reduceAdd, Nat.reduceEqDiff, Nat.reduceLT, Nat.reduceLeDiff, Nat.reduceMul, reduceCtorEq, ↓reduceIte, Option.isNone_none, Option.isNone_some, Bool.not_true, Bool.not_false])
    refine e_call (by rfl) ?_
    exact fin.mono (fun q w'' hq => hq)
  obtain ⟨n1, n2, n3, n4⟩ := hcx.resolve_left hpx
  obtain ⟨xx, rfl⟩ := Option.ne_none_iff_exists'.1 n2
  have hwk : k < ps.length + os.length → IntKind.i64.wrap ((k : Int) + 1) = ((k + 1 : Nat) : Int) := fun _ => by rw [wrap_in] <;> omega
  by_cases c1 : k < ps.length
  · have d1 : decide ((k : Int) < ps.length) = true := by simpa using c1
    have hwk := hwk (by omega)
    obtain ⟨ad, rfl, hl, hrd⟩ := op_at h1 hT.1 c1
    have hb1 : (0 : Int) ≤ k ∧ (k : Int) < ps.length := by omega
    (try simp only [go_sem, Nat.reduceAdd, Nat.reduceEqDiff, Nat.reduceLT, Nat.reduceLeDiff, Nat.reduceMul, reduceCtorEq, ↓reduceIte, Nat.mul_one, Int.toNat_natCast, Int.toNat_zero, Nat.sub_zero, Nat.sub_self, decide_true, d1, hb1, hl, Option.isNone_none, Option.isNone_some, Bool.not_true, Bool.not_false])
    refine e_call (by rfl) ?_
    refine (twoAt_step hT (by simp) _ hrd (by omega)).mono ?_
    rintro q w1 ⟨rfl, hT1⟩
    by_cases c2 : k < os.length
    · have d2 : decide ((k : Int) < os.length) = true := by simpa using c2
      obtain ⟨ad2, rfl, hl2, hrd2⟩ := op_at h2 hT1.1 c2
      have hb2 : (0 : Int) ≤ k ∧ (k : Int) < os.length := by omega
      (try simp only [go_sem, Nat.reduceAdd, Nat.reduceEqDiff, Nat.reduceLT, Nat.reduceLeDiff, Nat.reduceMul, reduceCtorEq, ↓reduceIte, Nat.mul_one, Int.toNat_natCast, Int.toNat_zero, Nat.sub_zero, Nat.sub_self, decide_true, d2, hb2, hl2, Bool.not_true, Bool.not_false])
      refine e_call (by rfl) ?_
      refine (twoAt_step (twoAt_swap hT1) (by simpa using n4) _ hrd2 (by omega)).mono ?_
      rintro q w2 ⟨rfl, hT2⟩
      (try simp only [go_sem, Nat.reduceAdd, Nat.reduceEqDiff, Nat.reduceLT, Nat.reduceLeDiff, Nat.reduceMul, reduceCtorEq, ↓reduceIte, Nat.mul_one, Int.toNat_natCast, Int.toNat_zero, Nat.sub_zero, Nat.sub_self, hwk, Bool.not_true, Bool.not_false])
      refine ⟨_, by omega, k + 1, rfl, by omega, ?_, rfl⟩
      have e : min (k + 1) ps.length + min (k + 1) os.length = min k ps.length + min k os.length + 1 + 1 := by omega
      rw [e]
      exact twoAt_swap hT2
    · have d2 : decide ((k : Int) < os.length) = false := by simpa using c2
      (try simp only [go_sem, Nat.reduceAdd, Nat.reduceEqDiff, Nat.reduceLT, Nat.reduceLeDiff, Nat.reduceMul, reduceCtorEq, ↓reduceIte, Nat.mul_one, Int.toNat_natCast, Int.toNat_zero, Nat.sub_zero, Nat.sub_self, d2, hwk, Bool.not_true, Bool.not_false])
      refine ⟨_, by omega, k + 1, rfl, by omega, ?_, rfl⟩
      have e : min (k + 1) ps.length + min (k + 1) os.length = min k ps.length + min k os.length + 1 := by omega
      rw [e]
      exact hT1
  · have d1 : decide ((k : Int) < ps.length) = false := by simpa using c1
    by_cases c2 : k < os.length
    · have hwk := hwk (by omega)
      have d2 : decide ((k : Int) < os.length) = true := by simpa using c2
      obtain ⟨ad2, rfl, hl2, hrd2⟩ := op_at h2 hT.1 c2
      have hb2 : (0 : Int) ≤ k ∧ (k : Int) < os.length := by omega
      (try simp only [go_sem, Nat.reduceAdd, Nat.reduceEqDiff, Nat.reduceLT, Nat.reduceLeDiff, Nat.reduceMul, reduceCtorEq, ↓reduceIte, Nat.mul_one, Int.toNat_natCast, Int.toNat_zero, Nat.sub_zero, Nat.sub_self, decide_true, d1, d2, hb2, hl2, Option.isNone_none, Option.isNone_some, Bool.not_true, Bool.not_false])
      refine e_call (by rfl) ?_
      refine (twoAt_step (twoAt_swap hT) (by simpa using n4) _ hrd2 (by omega)).mono ?_
      rintro q w2 ⟨rfl, hT2⟩
      (try simp only [go_sem, Nat.reduceAdd, Nat.reduceEqDiff, Nat.reduceLT, Nat.reduceLeDiff, Nat.reduceMul, reduceCtorEq, ↓reduceIte, Nat.mul_one, Int.toNat_natCast, Int.toNat_zero, Nat.sub_zero, Nat.sub_self, hwk, Bool.not_true, Bool.not_false])
      refine ⟨_, by omega, k + 1, rfl, by omega, ?_, rfl⟩
      have e : min (k + 1) ps.length + min (k + 1) os.length = min k ps.length + min k os.length + 1 := by omega
      rw [e]
      exact twoAt_swap hT2
    · have d2 : decide ((k : Int) < os.length) = false := by simpa using c2
      (try simp only [go_sem, Nat.reduceAdd, Nat.reduceEqDiff, Nat.reduceLT, Nat.reduceLeDiff, Nat.reduceMul, reduceCtorEq, ↓reduceIte, d1, d2, Option.isNone_none, Option.isNone_some, Bool.not_true, Bool.not_false])
      refine e_call (by rfl) ?_
      exact fin.mono (fun q w'' hq => hq)
end Go.Proofs.Ytnimaifmcejkcaa
end

section
set_option linter.unusedSimpArgs false
set_option linter.unusedVariables false
set_option maxRecDepth 100000
namespace Go.Proofs.Ytnimaifmcejkcaa
open Go Go.W Go.ChangeShapes Go.WideShapes Go.ChangeAt Go.RowKit Go.Deep

theorem Try.cells40 : Try.prog.cellsOf 40 = 6 := by kernel_rfl
theorem Try.cells38 : Try.prog.cellsOf 38 = 3 := by kernel_rfl
theorem Try.cells33 : Try.prog.cellsOf 33 = 1 := by kernel_rfl
theorem Try.cells3 : Try.prog.cellsOf 3 = 1 := by kernel_rfl
theorem Try.bytes3 : Try.prog.bytesOf 3 = 8 := by kernel_rfl
theorem Try.bytes40 : Try.prog.bytesOf 40 = 80 := by kernel_rfl
theorem Try.own : ownKnob Try.prog.godebug = none := by kernel_rfl
theorem Try.laidOut : laidOutB Try.prog = true := by kernel_rfl

section
variable {H : Type} {enc : TypeId × Value → H}

instance : Inhabited OpV := ⟨⟨0, 0, ⟨0, 0, []⟩, [], .bool true, .bool true⟩⟩
theorem all_app {p : Nat → Bool} {l m : List Nat} (h : (l ++ m).all p = true) : l.all p = true ∧ m.all p = true := by
  simpa using h

theorem op_in {w : World} {base n : Nat} {held : Bool} {cs : List Value} {x : DataW H × List MemPlace} (h : DataW.trod enc Try.prog w base (fun _ => true) held n 40 cs = some x) (hw : (x.1.weights Try.prog 40).all (· ≤ reachBytes) = true) :
    ∃ o : OpV, cs = o.cells ∧ o.reads w := by
  obtain ⟨xs, m, rfl, rfl, hl, hxs, hf⟩ := DataW.trod_struct Try.underlying40 h
  rw [Try.cells40] at hl
  match cs, hl, xs, hxs with
  | [c0, c1, c2, c3, c4, c5], _, [x0, x1, x2, x3], _ =>
  have f0 := hf 0 _ rfl
  have f1 := hf 1 _ rfl
  have f2 := hf 2 _ rfl
  have f3 := hf 3 _ rfl
  simp only [Try.cells3, Try.cells38, Try.cells33, List.drop_zero, List.drop_succ_cons, List.take_succ_cons, List.take_zero, List.getElem?_cons_zero, List.getElem?_cons_succ] at f0 f1 f2 f3
  simp only [DataW.weights, Try.underlying40, List.map_cons, List.map_nil, DataW.weightsEach] at hw
  obtain ⟨_, hw⟩ := all_app hw
  obtain ⟨_, hw⟩ := all_app hw
  obtain ⟨hw3, hw⟩ := all_app hw
  obtain ⟨hw4, _⟩ := all_app hw
  obtain ⟨i0, e0, rfl, _⟩ := DataW.trod_int Try.underlying3 f0
  obtain ⟨i1, e1, rfl, _⟩ := DataW.trod_int Try.underlying3 f1
  obtain ⟨v6, roots, e6, hr, hrl⟩ := tr_ints Try.underlying33 Try.underlying3 Try.cells3 Try.bytes3 f3 hw4
  obtain ⟨ys, m', rfl, rfl, hl', hys, hg⟩ := DataW.trod_struct Try.underlying38 f2
  match ys, hys with
  | [y0, y1, y2], _ =>
  have g0 := hg 0 _ rfl
  have g1 := hg 1 _ rfl
  have g2 := hg 2 _ rfl
  simp only [Try.cells3, Try.cells33, List.drop_zero, List.drop_succ_cons, List.take_succ_cons, List.take_zero, List.getElem?_cons_zero, List.getElem?_cons_succ] at g0 g1 g2
  simp only [DataW.weights, Try.underlying38, List.map_cons, List.map_nil, DataW.weightsEach] at hw3
  obtain ⟨_, hu1⟩ := all_app hw3
  obtain ⟨_, hu2⟩ := all_app hu1
  obtain ⟨hu3, _⟩ := all_app hu2
  obtain ⟨i3, e3, rfl, _⟩ := DataW.trod_int Try.underlying3 g0
  obtain ⟨i4, e4, rfl, _⟩ := DataW.trod_int Try.underlying3 g1
  obtain ⟨v5, args, e5, ha, hal⟩ := tr_ints Try.underlying33 Try.underlying3 Try.cells3 Try.bytes3 g2 hu3
  cases e0; cases e1; cases e3; cases e4; cases e5; cases e6
  exact ⟨⟨i0, i1, ⟨i3, i4, args⟩, roots, c4, c5⟩, rfl, ha, hr, hal, hrl⟩

theorem ops_in {w : World} {base n : Nat} {held : Bool} {v : Value} {x : DataW H × List MemPlace} (h : DataW.trod enc Try.prog w base (fun _ => true) held n 22 [v] = some x) (hw : (x.1.weights Try.prog 22).all (· ≤ reachBytes) = true) :
    ∃ os, Ops w v os := by
  rcases open_slice Try.underlying22 h with ⟨e, rfl⟩ | ⟨a, len, cap, m, k, D, Pl, e, _, hl, _, hm, rfl, hel⟩
  · simp only [List.cons.injEq, and_true] at e
    subst e
    exact ⟨[], none, 0, rfl, by simp, fun i hi => absurd hi (by simp)⟩
  · simp only [List.cons.injEq, and_true] at e
    subst e
    simp only [if_true] at hm
    subst hm
    simp only [DataW.weights, Try.underlying22, Try.bytes40, List.length_map, List.length_range, List.all_cons, Bool.and_eq_true, decide_eq_true_eq] at hw
    obtain ⟨hw1, hw2⟩ := hw
    obtain ⟨hw2, _⟩ := all_app hw2
    have h2 : reachBytes = 140737488351232 := by decide
    have each : ∀ i, i < len → ∃ o : OpV, (∀ k, k < 6 → w.cell? ((a.add (i * 6)).add k) = o.cells[k]?) ∧ o.reads w := by
      intro i hi
      obtain ⟨cs, h3, h4⟩ := hel i (by omega)
      have hwi : ((D i).weights Try.prog 40).all (· ≤ reachBytes) = true := by
        have key : ∀ (l : List (DataW H)) d, d ∈ l → (DataW.weightsAll Try.prog 40 l).all (· ≤ reachBytes) = true → (d.weights Try.prog 40).all (· ≤ reachBytes) = true := by
          intro l
          induction l with
          | nil => intro d hd; cases hd
          | cons y l ih =>
            intro d hd hh
            rw [DataW.weightsAll] at hh
            obtain ⟨z1, z2⟩ := all_app hh
            rcases List.mem_cons.1 hd with rfl | hd
            · exact z1
            · exact ih d hd z2
        exact key _ _ (List.mem_map.2 ⟨i, List.mem_range.2 hi, rfl⟩) hw2
      obtain ⟨o, rfl, ho⟩ := op_in h4 hwi
      obtain ⟨_, _, h5⟩ := World.cells?_some h3
      rw [Try.cells40] at h5
      exact ⟨o, fun k hk => h5 k hk, ho⟩
    obtain ⟨f, hf⟩ := choose_lt (α := OpV) (h := each)
    refine ⟨(List.range len).map f, some a, m, by simp, by simp; omega, fun i hi => ⟨a, rfl, ?_⟩⟩
    have hi' : i < len := by simpa using hi
    simpa using hf i hi'
end
end Go.Proofs.Ytnimaifmcejkcaa
end

section
set_option linter.unusedSimpArgs false
set_option linter.unusedVariables false
set_option maxRecDepth 100000
namespace Go.Proofs.Ytnimaifmcejkcaa
open Go Go.W Go.ChangeShapes Go.WideShapes Go.ChangeAt Go.RowKit Go.Deep

theorem apart_in {H : Type} {enc : TypeId × Value → H} {w : World} {args : List Value} {ds : List (DataW H)} (h : LawIn enc Try.prog Try.f4.params.toList w args ds) : ∃ one two u v ps os, args = [I one, I two, u, v] ∧ Ops w u ps ∧ Ops w v os := by
  obtain ⟨⟨base, hval⟩, ⟨ps, hA⟩, hsz⟩ := h
  rw [Try.params4] at hval hA hsz
  obtain ⟨v0, v1, v2, v3, d0, d1, d2, d3, p0, p1, p2, p3, ha, rfl, rfl, h0, h1, h2, h3⟩ := trodAll_four (args := args.toArray) (by simpa using hA)
  have ha : args = [v0, v1, v2, v3] := by simpa using congrArg Array.toList ha
  subst ha
  obtain ⟨one, rfl, rfl, rfl, _⟩ := open_int Try.underlying3 (hval 0 3 v0 rfl rfl) h0
  obtain ⟨two, rfl, rfl, rfl, _⟩ := open_int Try.underlying3 (hval 1 3 v1 rfl rfl) h1
  obtain ⟨a0, len, cap, rfl⟩ := okWide_slice Try.underlying22 (hval 2 22 v2 rfl rfl)
  obtain ⟨a0', len', cap', rfl⟩ := okWide_slice Try.underlying22 (hval 3 22 v3 rfl rfl)
  obtain ⟨fuel, hf⟩ := h2
  obtain ⟨fuel', hf'⟩ := h3
  have hw : (d2.weights Try.prog 22).all (· ≤ reachBytes) = true := List.all_eq_true.2 (fun n hn => List.all_eq_true.1 hsz n (DataW.weights_mem_each (j := 2) rfl rfl n hn))
  have hw' : (d3.weights Try.prog 22).all (· ≤ reachBytes) = true := List.all_eq_true.2 (fun n hn => List.all_eq_true.1 hsz n (DataW.weights_mem_each (j := 3) rfl rfl n hn))
  obtain ⟨xs, hx⟩ := ops_in (x := (d2, p2)) (by simpa [Value.cells] using hf) hw
  obtain ⟨os, ho⟩ := ops_in (x := (d3, p3)) (by simpa [Value.cells] using hf') hw'
  exact ⟨one, two, _, _, xs, os, rfl, hx, ho⟩

set_option maxRecDepth 100000 in
theorem apart_lifted (os : Os) (started : os.Started) (H : Type) (enc : TypeId × Value → H) :
    ReturnsInHanded {} Try.checked os 4 .any (Rows.gensApartSpec.pre6 enc Try.prog Try.f4 Rows.gensApartRow.domain false) (Rows.gensApartSpec.post enc Try.prog Try.f4 false true false false) := by
  refine law_row (C := Try.checked) Try.own started (by kernel_rfl) Try.func4
    (ChangeSpec.witness6 (enc := enc) (C := Try.checked) false ⟨#[], #[.int .i64 0, .int .i64 0, .slice none 0 0, .slice none 0 0], []⟩ 8 (by kernel_rfl) (by kernel_rfl) (by kernel_rfl) (by kernel_rfl))
    Try.laidOut (by kernel_rfl) (tb := 4) (by kernel_rfl) Try.underlying4 rfl ?_ ?_
  · intro ds hd
    rw [Try.params4] at hd
    match ds, hd with
    | [_, _, _, _], _ => rfl
  · intro W args ds h
    obtain ⟨one, two, u, v, ps, os, rfl, hp, ho⟩ := apart_in h
    exact gapart_ok W one two u v ps os hp ho

theorem gensApart_holds : Rows.GensApartSaid :=
  OpenClaim.holds_of_wide 4 Try.f4 rfl rfl rfl rfl rfl rfl rfl ⟨rfl, rfl, rfl, rfl, rfl⟩ rfl rfl rfl rfl rfl (by kernel_rfl) Try.func4 (by kernel_rfl)
    (of_decide_eq_true (by kernel_rfl)) (by unfold Func.isWrapper; rw [if_neg (of_decide_eq_false (by kernel_rfl))]; exact ⟨rfl, rfl⟩)
    (fun os started H enc _ => apart_lifted os started H enc)
#print axioms gensApart_holds
end Go.Proofs.Ytnimaifmcejkcaa
end
