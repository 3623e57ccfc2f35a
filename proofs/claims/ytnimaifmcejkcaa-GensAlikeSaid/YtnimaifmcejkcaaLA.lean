/- Gens, the laws: GensPlays walked. -/
import Derived.Test.YtnimaifmcejkcaaRA
section
set_option linter.unusedSimpArgs false
set_option linter.unusedVariables false
set_option maxRecDepth 100000
namespace Go.Proofs.Ytnimaifmcejkcaa
open Go Go.W

/-- Of an empty list nothing is asked. -/
theorem ints_modn {w w' : World} {S : Nat → Prop} {v : Value} {xs : List Int} (h : Ints w v xs) (hm : Mod S w w') (hs : xs ≠ [] → ∀ b, vblk v = some b → ¬ S b) : Ints w' v xs := by
  by_cases he : xs = []
  · subst he
    obtain ⟨a, c, rfl, hl, hx⟩ := h
    exact ⟨a, c, rfl, hl, fun i hi => absurd hi (by simp)⟩
  · exact h.mod hm (hs he)

theorem sameInts_ok (u v : Value) (xs ys : List Int) (w : World) (hx : Ints w u xs) (hy : Ints w v ys) :
    CallsR Try.prog 37 [u, v] w fun r w' => r = .bool (decide (xs = ys)) ∧ Mod (fun _ => False) w w' := by
  have hx0 := hx
  have hy0 := hy
  obtain ⟨ua, uc, rfl, hxl, _⟩ := hx0
  obtain ⟨va, vc, rfl, hyl, _⟩ := hy0
  refine fit37.calls rfl ?_
  unfold ir37
  (try simp only [go_sem, Nat.reduceAdd, Nat.reduceEqDiff, Nat.reduceLT, Nat.reduceLeDiff, Nat.reduceMul, reduceCtorEq, ↓reduceIte])
  refine ir_cond rfl (fun hc => ?_) (fun hc => ?_)
  · have hc' : xs.length ≠ ys.length := fun h => by rw [h] at hc; simp at hc
    (try simp only [go_sem, Nat.reduceAdd, Nat.reduceEqDiff, Nat.reduceLT, Nat.reduceLeDiff, Nat.reduceMul, reduceCtorEq, ↓reduceIte])
    refine ⟨?_, Mod.refl _ _⟩
    have : xs ≠ ys := fun h => hc' (by rw [h])
    simp [this]
  have hle : xs.length = ys.length := by simp at hc; omega
  (try simp only [go_sem, Nat.reduceAdd, Nat.reduceEqDiff, Nat.reduceLT, Nat.reduceLeDiff, Nat.reduceMul, reduceCtorEq, ↓reduceIte])
  refine ir_loop (fun m ρ w' => ∃ k : Nat, m = xs.length - k ∧ k ≤ xs.length ∧ Mod (fun _ => False) w w' ∧ xs.take k = ys.take k ∧
    ρ = [(0, .slice ua xs.length uc), (1, .slice va ys.length vc), (5, I k)]) xs.length ⟨0, rfl, Nat.zero_le _, Mod.refl _ _, rfl, rfl⟩ ?_
  rintro m ρ w1 ⟨k, rfl, hk, hm, htk, rfl⟩
  unfold ir37L1
  (try simp only [go_sem, Nat.reduceAdd, Nat.reduceEqDiff, Nat.reduceLT, Nat.reduceLeDiff, Nat.reduceMul, reduceCtorEq, ↓reduceIte])
  refine ir_cond rfl (fun hkl => ?_) (fun hkl => ?_)
  · have hkl' : k < xs.length := by simpa using hkl
    obtain ⟨_, _, he1, _, hxx⟩ := hx.mod hm (fun _ _ h => h)
    obtain ⟨_, _, he2, _, hyy⟩ := hy.mod hm (fun _ _ h => h)
    cases he1
    cases he2
    obtain ⟨ad, rfl, had⟩ := hxx k hkl'
    obtain ⟨bd, rfl, hbd⟩ := hyy k (by omega)
    have b1 : (0 : Int) ≤ k ∧ (k : Int) < xs.length := by omega
    have b2 : (0 : Int) ≤ k ∧ (k : Int) < ys.length := by omega
    have hwk : IntKind.i64.wrap ((k : Int) + 1) = ((k + 1 : Nat) : Int) := by rw [wrap_in] <;> omega
    (try simp only [go_sem, Nat.reduceAdd, Nat.reduceEqDiff, Nat.reduceLT, Nat.reduceLeDiff, Nat.reduceMul, reduceCtorEq, ↓reduceIte, Nat.mul_one, Int.toNat_natCast, Int.toNat_zero, Nat.sub_zero, Nat.sub_self, b1, b2, had, hbd])
    refine ir_cond rfl (fun hne => ?_) (fun hne => ?_)
    · (try simp only [go_sem, Nat.reduceAdd, Nat.reduceEqDiff, Nat.reduceLT, Nat.reduceLeDiff, Nat.reduceMul, reduceCtorEq, ↓reduceIte])
      refine ⟨?_, hm.drew⟩
      have h1 : xs[k] ≠ ys[k]'(by omega) := by simpa using hne
      have : xs ≠ ys := fun h => h1 (by subst h; rfl)
      simp [this]
    · have h1 : xs[k] = ys[k]'(by omega) := by simpa using hne
      (try simp only [go_sem, Nat.reduceAdd, Nat.reduceEqDiff, Nat.reduceLT, Nat.reduceLeDiff, Nat.reduceMul, reduceCtorEq, ↓reduceIte, hwk])
      refine ⟨_, ?_, k + 1, rfl, hkl', hm.drew, ?_, rfl⟩
      · omega
      · rw [List.take_succ_eq_append_getElem hkl', List.take_succ_eq_append_getElem (by omega), htk, h1]
  · have hkl' : k = xs.length := by simp at hkl; omega
    subst hkl'
    (try simp only [go_sem, Nat.reduceAdd, Nat.reduceEqDiff, Nat.reduceLT, Nat.reduceLeDiff, Nat.reduceMul, reduceCtorEq, ↓reduceIte])
    have : xs = ys := by
      rw [List.take_length] at htk
      rw [htk, hle, List.take_length]
    exact ⟨by simp [this], hm⟩

def Nd.eqB (a b : Nd) : Bool := decide (a.args = b.args) && decide (a.kind = b.kind) && decide (a.num = b.num)
theorem same_ok (a b : Nd) (u v : Value) (w : World) (hx : Ints w u a.args) (hy : Ints w v b.args) :
    CallsR Try.prog 38 [.agg #[I a.kind, I a.num, u], .agg #[I b.kind, I b.num, v]] w fun r w' => r = .bool (a.eqB b) ∧ Mod (fun _ => False) w w' := by
  have hx0 := hx
  have hy0 := hy
  obtain ⟨ua, uc, rfl, hxl, _⟩ := hx0
  obtain ⟨va, vc, rfl, hyl, _⟩ := hy0
  refine fit38.calls rfl ?_
  unfold ir38
  (try simp only [go_sem, Nat.reduceAdd, Nat.reduceEqDiff, Nat.reduceLT, Nat.reduceLeDiff, Nat.reduceMul, reduceCtorEq, ↓reduceIte])
  refine e_bx rfl ?_
  intro w1 hb1 hm1 hs1
  (try simp only [go_sem, Nat.reduceAdd, Nat.reduceEqDiff, Nat.reduceLT, Nat.reduceLeDiff, Nat.reduceMul, reduceCtorEq, ↓reduceIte])
  refine e_bx rfl ?_
  intro w2 hb2 hm2 hs2
  have hm12 := hm1.trans hm2
  have hb12 := hm2.at hb1 (fun h => h)
  (try simp only [go_sem, Nat.reduceAdd, Nat.reduceEqDiff, Nat.reduceLT, Nat.reduceLeDiff, Nat.reduceMul, reduceCtorEq, ↓reduceIte, cell_of hb12, cell_of hb2])
  refine e_call (by rfl) ?_
  refine (sameInts_ok _ _ a.args b.args w2 (hx.mod hm12 (fun _ _ h => h)) (hy.mod hm12 (fun _ _ h => h))).mono ?_
  rintro r w3 ⟨rfl, hm3⟩
  have hb13 := hm3.at hb12 (fun h => h)
  have hb23 := hm3.at hb2 (fun h => h)
  have hm13 := hm12.trans hm3
  (try simp only [go_sem, Nat.reduceAdd, Nat.reduceEqDiff, Nat.reduceLT, Nat.reduceLeDiff, Nat.reduceMul, reduceCtorEq, ↓reduceIte, cell_of hb13, cell_of hb23])
  repeat' (first | (refine wpS_gr rfl (fun h => ?_) (fun h => ?_) <;> (try simp only [go_sem, Nat.reduceAdd, Nat.reduceEqDiff, Nat.reduceLT, Nat.reduceLeDiff, Nat.reduceMul, reduceCtorEq, ↓reduceIte, cell_of hb13, cell_of hb23, h])))
  all_goals (refine ⟨?_, hm13⟩; congr 1; rw [Bool.eq_iff_iff]; unfold Nd.eqB; simp at *; try simp [*])
end Go.Proofs.Ytnimaifmcejkcaa
end

section
set_option linter.unusedSimpArgs false
set_option linter.unusedVariables false
set_option maxRecDepth 100000
namespace Go.Proofs.Ytnimaifmcejkcaa
open Go Go.W

def lentL (xs : List Int) : List Int := xs ++ [-77, -77]
theorem lentL_len (xs : List Int) : (lentL xs).length = xs.length + 2 := by simp [lentL]
theorem lent_ok (v : Value) (xs : List Int) (w : World) (hx : Ints w v xs) :
    CallsR Try.prog 30 [v] w fun r w' => NewInts w w' r (lentL xs) := by
  have hx0 := hx
  obtain ⟨va, vc, rfl, hxl, _⟩ := hx0
  have hll := lentL_len xs
  refine fit30.calls rfl ?_
  unfold ir30
  have hwl : IntKind.i64.wrap ((xs.length : Int) + 2) = (((lentL xs).length : Nat) : Int) := by rw [wrap_in] <;> omega
  (try simp only [go_sem, Nat.reduceAdd, Nat.reduceEqDiff, Nat.reduceLT, Nat.reduceLeDiff, Nat.reduceMul, reduceCtorEq, ↓reduceIte, hwl])
  refine e_ms1 (n := (lentL xs).length) rfl (by omega) (by omega) ?_
  intro w1 hb1 hm1 hs1
  (try simp only [go_sem, Nat.reduceAdd, Nat.reduceEqDiff, Nat.reduceLT, Nat.reduceLeDiff, Nat.reduceMul, reduceCtorEq, ↓reduceIte])
  refine ir_loop (fun m ρ w' => ∃ k : Nat, m = (lentL xs).length - k ∧ k ≤ (lentL xs).length ∧ Mod (fun _ => False) w w' ∧ w.heap.size < w'.heap.size ∧
    w'.heap[w.heap.size]? = some (.cells ((((lentL xs).take k).map id).map I ++ List.replicate ((lentL xs).length - k) (I 0)).toArray 3 (0, 0)) ∧
    ρ = [(0, .slice va xs.length vc), (3, .slice (some ⟨w.heap.size, 0, none⟩) (lentL xs).length (lentL xs).length), (4, I k)]) (lentL xs).length ⟨0, rfl, Nat.zero_le _, hm1, by omega, by simpa using hb1, rfl⟩ ?_
  rintro m ρ w2 ⟨k, rfl, hk, hm2, hs2, hb2, rfl⟩
  unfold ir30L1
  (try simp only [go_sem, Nat.reduceAdd, Nat.reduceEqDiff, Nat.reduceLT, Nat.reduceLeDiff, Nat.reduceMul, reduceCtorEq, ↓reduceIte])
  refine ir_cond rfl (fun hkl => ?_) (fun hkl => ?_)
  · have hkl' : k < (lentL xs).length := by simpa using hkl
    have b1 : (0 : Int) ≤ k ∧ (k : Int) < (lentL xs).length := by omega
    have hwk : IntKind.i64.wrap ((k : Int) + 1) = ((k + 1 : Nat) : Int) := by rw [wrap_in] <;> omega
    have hfit : k < ((((lentL xs).take k).map id).map I ++ List.replicate ((lentL xs).length - k) (I 0)).length := by simp; omega
    (try simp only [go_sem, Nat.reduceAdd, Nat.reduceEqDiff, Nat.reduceLT, Nat.reduceLeDiff, Nat.reduceMul, reduceCtorEq, ↓reduceIte, Nat.mul_one, Int.toNat_natCast, Int.toNat_zero, Nat.sub_zero, Nat.sub_self, b1])
    refine e_st1 (off := k) rfl rfl hb2 rfl hfit ?_
    intro w3 hb3 hm3 hs3
    (try simp only [go_sem, Nat.reduceAdd, Nat.reduceEqDiff, Nat.reduceLT, Nat.reduceLeDiff, Nat.reduceMul, reduceCtorEq, ↓reduceIte])
    refine ir_cond rfl (fun hkx => ?_) (fun hkx => ?_)
    · have hkx' : k < xs.length := by simpa using hkx
      have hx3 := (hx.mod hm2 (fun _ _ h => h)).mod hm3 (fun b hb hh => by
        obtain ⟨_, _, he, _, hxx⟩ := hx
        cases he
        obtain ⟨ad, rfl, had⟩ := hxx k hkx'
        have := World.block_lt_of_cell? _ _ had
        rw [addr_block] at this
        cases hb
        omega)
      obtain ⟨_, _, he, _, hxx⟩ := hx3
      cases he
      obtain ⟨ad, rfl, had⟩ := hxx k hkx'
      have b2 : (0 : Int) ≤ k ∧ (k : Int) < xs.length := by omega
      (try simp only [go_sem, Nat.reduceAdd, Nat.reduceEqDiff, Nat.reduceLT, Nat.reduceLeDiff, Nat.reduceMul, reduceCtorEq, ↓reduceIte, Nat.mul_one, Int.toNat_natCast, Int.toNat_zero, Nat.sub_zero, Nat.sub_self, b1, b2, had])
      refine e_st1 (off := k) rfl rfl hb3 rfl (by rw [List.length_set]; exact hfit) ?_
      intro w4 hb4 hm4 hs4
      have hv : xs[k] = (lentL xs)[k] := by simp [lentL, List.getElem_append_left hkx']
      rw [List.set_set, hv, show I (lentL xs)[k] = I (id (lentL xs)[k]) from rfl, fill_next id _ _ k hkl'] at hb4
      (try simp only [go_sem, Nat.reduceAdd, Nat.reduceEqDiff, Nat.reduceLT, Nat.reduceLeDiff, Nat.reduceMul, reduceCtorEq, ↓reduceIte, hwk])
      refine ⟨_, ?_, k + 1, rfl, hkl', (hm2.step hm3 (fun b hb hlt => by omega)).step hm4 (fun b hb hlt => by omega), by omega, hb4, rfl⟩
      omega
    · have hkx' : ¬ k < xs.length := by simpa using hkx
      have hv : (-77 : Int) = (lentL xs)[k] := by
        simp only [lentL]
        rw [List.getElem_append_right (by omega)]
        have : k - xs.length = 0 ∨ k - xs.length = 1 := by omega
        rcases this with h | h <;> simp [h]
      rw [show Value.int IntKind.i64 (-77) = I (id (lentL xs)[k]) by rw [← hv]; rfl, fill_next id _ _ k hkl'] at hb3
      (try simp only [go_sem, Nat.reduceAdd, Nat.reduceEqDiff, Nat.reduceLT, Nat.reduceLeDiff, Nat.reduceMul, reduceCtorEq, ↓reduceIte, hwk])
      refine ⟨_, ?_, k + 1, rfl, hkl', hm2.step hm3 (fun b hb hlt => by omega), by omega, hb3, rfl⟩
      omega
  · have hkl' : k = (lentL xs).length := by simp at hkl; omega
    subst hkl'
    (try simp only [go_sem, Nat.reduceAdd, Nat.reduceEqDiff, Nat.reduceLT, Nat.reduceLeDiff, Nat.reduceMul, reduceCtorEq, ↓reduceIte])
    refine ⟨w.heap.size, rfl, ?_, Nat.le_refl _, hm2⟩
    simpa using hb2
end Go.Proofs.Ytnimaifmcejkcaa
end

section
set_option linter.unusedSimpArgs false
set_option linter.unusedVariables false
set_option maxRecDepth 100000
namespace Go.Proofs.Ytnimaifmcejkcaa
open Go Go.W

/-- A list that came out: full of its mark. -/
structure BE where
  m : Int
  n : Nat
  v : Value
  fp : Option Nat
def BookAt (w : World) (b : Nat) (es : List BE) (B : Nat → Prop) : Prop :=
  ∃ lv mv fpl fpm, w.heap[b]? = some (.cells #[lv, mv] 35 (0, 0)) ∧ Own w 33 1 lv (es.map BE.v) es.length fpl ∧ Own w 3 1 mv (es.map (fun e => I e.m)) es.length fpm ∧
    (∀ e ∈ es, Own w 3 1 e.v (List.replicate e.n (I e.m)) e.n e.fp ∧ ∀ x, e.fp = some x → fpm ≠ some x ∧ B x) ∧ B b ∧ (∀ x, fpl = some x → B x) ∧ (∀ x, fpm = some x → B x) ∧ ∀ x, B x → x < w.heap.size
theorem BookAt.mod {w w' : World} {b : Nat} {es : List BE} {B S : Nat → Prop} (h : BookAt w b es B) (hm : Mod S w w') (hd : ∀ x, B x → ¬ S x) : BookAt w' b es B := by
  obtain ⟨lv, mv, fpl, fpm, h1, h2, h3, h4, h5, h6, h7, h8⟩ := h
  exact ⟨lv, mv, fpl, fpm, hm.at h1 (hd b h5), h2.mod hm (fun x hx => hd x (h6 x hx)), h3.mod hm (fun x hx => hd x (h7 x hx)), fun e he => ⟨(h4 e he).1.mod hm (fun x hx => hd x ((h4 e he).2 x hx).2), (h4 e he).2⟩,
    h5, h6, h7, fun x hx => Nat.lt_of_lt_of_le (h8 x hx) hm.size⟩

theorem keep_ok (w : World) (b : Nat) (es : List BE) (B : Nat → Prop) (v : Value) (xs : List Int) (n : Nat) (fp : Option Nat) (h : BookAt w b es B) (ho : Own w 3 1 v (xs.map I) n fp) (hfp : ∀ x, fp = some x → ¬ B x) (hn : n + 5 ≤ 17592186044416) (he : es.length + 1 ≤ 4398046511104) :
    CallsR Try.prog 39 [.pointer (some ⟨b, 0, none⟩), v] w fun r w' => ∃ e B', BookAt w' b (es ++ [e]) B' ∧ Mod (fun x => B x ∨ fp = some x) w w' ∧ (∀ x, B' x → B x ∨ fp = some x ∨ w.heap.size ≤ x) ∧ e.n ≤ 17592186044416 := by
  obtain ⟨lv, mv, fpl, fpm, h1, h2, h3, h4, h5, h6, h7, h8⟩ := h
  obtain ⟨la, lc, rfl, _, _⟩ := h2.val
  obtain ⟨va, vc, rfl, _, _⟩ := ho.val
  have hxn : xs.length = n := by have := ho.1; simpa using this
  refine fit39.calls rfl ?_
  unfold ir39
  have hwm : IntKind.i64.wrap (-100 - (es.length : Int)) = -100 - es.length := by rw [wrap_in] <;> omega
  generalize hM : (-100 - (es.length : Int)) = M at hwm
  (try simp only [go_sem, Nat.reduceAdd, Nat.reduceEqDiff, Nat.reduceLT, Nat.reduceLeDiff, Nat.reduceMul, reduceCtorEq, ↓reduceIte, cell_of h1, hM, hwm])
  refine ir_loop (fun m ρ w' => ∃ k : Nat, m = n - k ∧ k ≤ n ∧ Mod (fun x => fp = some x) w w' ∧ Own w' 3 1 (.slice va n vc) (List.replicate k (I M) ++ (xs.drop k).map I) n fp ∧
    ρ = [(0, .pointer (some ⟨b, 0, none⟩)), (1, .slice va n vc), (4, I M), (5, I k)]) n ⟨0, rfl, Nat.zero_le _, Mod.refl _ _, by simpa using ho, rfl⟩ ?_
  rintro m ρ w1 ⟨k, rfl, hk, hm1, ho1, rfl⟩
  unfold ir39L1
  (try simp only [go_sem, Nat.reduceAdd, Nat.reduceEqDiff, Nat.reduceLT, Nat.reduceLeDiff, Nat.reduceMul, reduceCtorEq, ↓reduceIte])
  refine ir_cond rfl (fun hkl => ?_) (fun hkl => ?_)
  · have hkl' : k < n := by simpa using hkl
    obtain ⟨ob, oc, spo, hoe, hfpo, orow, hoc1, hoc2⟩ := ho1.pos (by omega)
    cases hoe
    have b1 : (0 : Int) ≤ k ∧ (k : Int) < n := by omega
    have hwk : IntKind.i64.wrap ((k : Int) + 1) = ((k + 1 : Nat) : Int) := by rw [wrap_in] <;> omega
    have hl1 := ho1.1
    (try simp only [go_sem, Nat.reduceAdd, Nat.reduceEqDiff, Nat.reduceLT, Nat.reduceLeDiff, Nat.reduceMul, reduceCtorEq, ↓reduceIte, Nat.mul_one, Int.toNat_natCast, Int.toNat_zero, Nat.sub_zero, Nat.sub_self, b1])
    refine e_st1 (off := k) rfl rfl orow rfl (by rw [List.length_append]; omega) ?_
    intro w2 hb2 hm2 hs2
    have hset : (List.replicate k (I M) ++ (xs.drop k).map I).set k (I M) = List.replicate (k + 1) (I M) ++ (xs.drop (k + 1)).map I := by
      rw [List.set_append, if_neg (by simp), List.length_replicate, Nat.sub_self, List.drop_eq_getElem_cons (by omega), List.map_cons, List.set_cons_zero, List.replicate_succ']
      simp
    rw [List.set_append, if_pos (by omega), hset] at hb2
    (try simp only [go_sem, Nat.reduceAdd, Nat.reduceEqDiff, Nat.reduceLT, Nat.reduceLeDiff, Nat.reduceMul, reduceCtorEq, ↓reduceIte, hwk])
    refine ⟨_, ?_, k + 1, rfl, hkl', hm1.step hm2 (fun x hx hlt => by rw [hx]; exact hfpo), ⟨by simp; omega, .inr ⟨ob, vc, spo, rfl, hfpo, hb2, ?_, hoc1⟩⟩, rfl⟩
    · omega
    · rw [← hset, List.length_append, List.length_set, ← List.length_append]; exact hoc2
  have hkl' : k = n := by simp at hkl; omega
  subst hkl'
  rw [List.drop_of_length_le (by omega), List.map_nil, List.append_nil] at ho1
  have hdis : ∀ x, B x → ¬ fp = some x := fun x hx hh => hfp x hh hx
  have r1 := hm1.at h1 (hdis b h5)
  have r2 := h2.mod hm1 (fun x hx => hdis x (h6 x hx))
  have r3 := h3.mod hm1 (fun x hx => hdis x (h7 x hx))
  have r4 : ∀ e ∈ es, Own w1 3 1 e.v (List.replicate e.n (I e.m)) e.n e.fp := fun e hee => (h4 e hee).1.mod hm1 (fun x hx => hdis x ((h4 e hee).2 x hx).2)
  (try simp only [go_sem, Nat.reduceAdd, Nat.reduceEqDiff, Nat.reduceLT, Nat.reduceLeDiff, Nat.reduceMul, reduceCtorEq, ↓reduceIte])
  refine ir_loop (fun m ρ w' => ∃ (j : Nat) (v' : Value) (f' : Option Nat), m = 5 - j ∧ j ≤ 5 ∧ Mod (fun x => fp = some x) w w' ∧ Own w' 3 1 v' (List.replicate (k + j) (I M)) (k + j) f' ∧ (∀ x, f' = some x → fp = some x ∨ w.heap.size ≤ x) ∧
    ρ = [(0, .pointer (some ⟨b, 0, none⟩)), (1, v'), (4, I M), (6, I j)]) 5 ⟨0, _, fp, rfl, Nat.zero_le _, hm1, ho1, (fun x hx => .inl hx), rfl⟩ ?_
  rintro m ρ w5 ⟨j, v5, fp5, rfl, hj, hm15, ho5, hfp5, rfl⟩
  unfold ir39L2
  obtain ⟨v5a, v5c, rfl, _, _⟩ := ho5.val
  (try simp only [go_sem, Nat.reduceAdd, Nat.reduceEqDiff, Nat.reduceLT, Nat.reduceLeDiff, Nat.reduceMul, reduceCtorEq, ↓reduceIte])
  refine ir_cond rfl (fun hj5 => ?_) (fun hj5 => ?_)
  · have hj5' : j < 5 := by
      have : (j : Int) < 5 := by simpa using hj5
      omega
    have hwj : IntKind.i64.wrap ((j : Int) + 1) = ((j + 1 : Nat) : Int) := by rw [wrap_in] <;> omega
    (try simp only [go_sem, Nat.reduceAdd, Nat.reduceEqDiff, Nat.reduceLT, Nat.reduceLeDiff, Nat.reduceMul, reduceCtorEq, ↓reduceIte])
    refine e_bs (by rfl) (by (try simp only [go_sem, Nat.reduceAdd, Nat.reduceEqDiff, Nat.reduceLT, Nat.reduceLeDiff, Nat.reduceMul, reduceCtorEq, ↓reduceIte]); rfl) ?_
    intro w6 hb6 hm6 hs6
    have ho6 := ho5.mod hm6 (fun _ _ h => h)
    (try simp only [go_sem, Nat.reduceAdd, Nat.reduceEqDiff, Nat.reduceLT, Nat.reduceLeDiff, Nat.reduceMul, reduceCtorEq, ↓reduceIte])
    refine e_ap (m := 1) (news := [I M]) rfl ho6 rfl (fun h => by cases h) (rd_block hb6) (by simp [Value.oneCell']) rfl (by omega) (by omega) ?_
    intro v7 w7 fp7 ho7 hm7 hf7
    have s5 := hm15.size; have s6 := hm6.size
    (try simp only [go_sem, Nat.reduceAdd, Nat.reduceEqDiff, Nat.reduceLT, Nat.reduceLeDiff, Nat.reduceMul, reduceCtorEq, ↓reduceIte, hwj])
    refine ⟨_, ?_, j + 1, v7, fp7, rfl, hj5', (hm15.step hm6 (fun _ h _ => h.elim)).step hm7 (fun x hx hlt => (hfp5 x hx).elim (fun h => h) (fun h => by omega)), ?_, fun x hx => ?_, rfl⟩
    · omega
    · rw [show k + (j + 1) = k + j + 1 by omega, List.replicate_succ']; exact ho7
    · rcases hf7 x hx with h | h
      · exact hfp5 x h
      · exact .inr (by omega)
  have hj5' : j = 5 := by
    have : ¬ (j : Int) < 5 := by simpa using hj5
    omega
  subst hj5'
  have s5 := hm15.size
  have p1 := hm15.at h1 (hdis b h5)
  have p2 := h2.mod hm15 (fun x hx => hdis x (h6 x hx))
  have p3 := h3.mod hm15 (fun x hx => hdis x (h7 x hx))
  have p4 : ∀ e ∈ es, Own w5 3 1 e.v (List.replicate e.n (I e.m)) e.n e.fp := fun e hee => (h4 e hee).1.mod hm15 (fun x hx => hdis x ((h4 e hee).2 x hx).2)
  (try simp only [go_sem, Nat.reduceAdd, Nat.reduceEqDiff, Nat.reduceLT, Nat.reduceLeDiff, Nat.reduceMul, reduceCtorEq, ↓reduceIte, cell_of p1])
  refine e_bs (by rfl) (by (try simp only [go_sem, Nat.reduceAdd, Nat.reduceEqDiff, Nat.reduceLT, Nat.reduceLeDiff, Nat.reduceMul, reduceCtorEq, ↓reduceIte]); rfl) ?_
  intro w6 hb6 hm6 hs6
  have hm16 := hm15.step hm6 (fun _ h _ => h.elim)
  have q2 := p2.mod hm6 (fun _ _ h => h)
  (try simp only [go_sem, Nat.reduceAdd, Nat.reduceEqDiff, Nat.reduceLT, Nat.reduceLeDiff, Nat.reduceMul, reduceCtorEq, ↓reduceIte])
  refine e_ap (m := 1) (news := [.slice v5a (k + 5) v5c]) rfl q2 rfl (fun h => by cases h) (rd_block hb6) (by simp [Value.oneCell']) rfl (by omega) (by omega) ?_
  intro v7 w7 fp7 ho7 hm7 hf7
  have hB : ∀ x, fp5 = some x → ¬ B x := fun x hx hb => by
    rcases hfp5 x hx with h | h
    · exact hfp x h hb
    · have := h8 x hb; omega
  have q1 := hm6.at p1 (fun h => h)
  have q3 := p3.mod hm6 (fun _ _ h => h)
  have q5 := ho5.mod hm6 (fun _ _ h => h)
  have k23 : ∀ x cs fz, fpl = some x → w6.heap[x]? = some (.cells cs 3 fz) → False := fun x cs fz hx hc => own_kind q2 hx hc (by omega)
  have k23b : ∀ x cs fz, fpl = some x → w6.heap[x]? = some (.cells cs 35 fz) → False := fun x cs fz hx hc => own_kind q2 hx hc (by omega)
  have u1 := hm7.at q1 (fun hx => k23b b _ _ hx q1)
  have u3 := q3.mod' hm7 k23
  have u5 := q5.mod' hm7 k23
  have u4 : ∀ e ∈ es, Own w7 3 1 e.v (List.replicate e.n (I e.m)) e.n e.fp := fun e hee => ((p4 e hee).mod hm6 (fun _ _ h => h)).mod' hm7 k23
  obtain ⟨v7a, v7c, rfl, _, _⟩ := ho7.val
  refine e_st1 (off := 0) rfl rfl u1 rfl (by simp) ?_
  intro w8 hb8 hm8 hs8
  have hb8 : w8.heap[b]? = some (.cells #[.slice v7a (es.length + 1) v7c, mv] 35 (0, 0)) := hb8
  have kb : ∀ x cs fz, x = b → w7.heap[x]? = some (.cells cs 3 fz) → False := fun x cs fz hx hc => by rw [hx] at hc; exact kind_ne u1 hc (by omega)
  have x3 := u3.mod' hm8 kb
  have x5 := u5.mod' hm8 kb
  have x4 : ∀ e ∈ es, Own w8 3 1 e.v (List.replicate e.n (I e.m)) e.n e.fp := fun e hee => (u4 e hee).mod' hm8 kb
  have x7 := ho7.mod' hm8 (fun x cs fz hx hc => by rw [hx] at hc; exact kind_ne u1 hc (by omega))
  obtain ⟨ma, mc, rfl, _, _⟩ := x3.val
  (try simp only [go_sem, Nat.reduceAdd, Nat.reduceEqDiff, Nat.reduceLT, Nat.reduceLeDiff, Nat.reduceMul, reduceCtorEq, ↓reduceIte, cell_of hb8])
  refine e_bs (by rfl) (by (try simp only [go_sem, Nat.reduceAdd, Nat.reduceEqDiff, Nat.reduceLT, Nat.reduceLeDiff, Nat.reduceMul, reduceCtorEq, ↓reduceIte]); rfl) ?_
  intro w9 hb9 hm9 hs9
  have y3 := x3.mod hm9 (fun _ _ h => h)
  (try simp only [go_sem, Nat.reduceAdd, Nat.reduceEqDiff, Nat.reduceLT, Nat.reduceLeDiff, Nat.reduceMul, reduceCtorEq, ↓reduceIte])
  refine e_ap (m := 1) (news := [I M]) rfl y3 rfl (fun h => by cases h) (rd_block hb9) (by simp [Value.oneCell']) rfl (by omega) (by omega) ?_
  intro v10 w10 fp10 ho10 hm10 hf10
  obtain ⟨v10a, v10c, rfl, _, _⟩ := ho10.val
  have y1 := hm9.at hb8 (fun h => h)
  have z1 := hm10.at y1 (own_ne y3 y1 (by omega))
  have hmn : ∀ x, fp5 = some x → ¬ fpm = some x := fun x hx hh => hB x hx (h7 x hh)
  have z5 := (x5.mod hm9 (fun _ _ h => h)).mod hm10 hmn
  have z4 : ∀ e ∈ es, Own w10 3 1 e.v (List.replicate e.n (I e.m)) e.n e.fp := fun e hee => ((x4 e hee).mod hm9 (fun _ _ h => h)).mod hm10 (fun x hx hh => ((h4 e hee).2 x hx).1 hh)
  have z7 := (x7.mod hm9 (fun _ _ h => h)).mod' hm10 (fun x cs fz hx hc => own_kind y3 hx hc (by omega))
  (try simp only [go_sem, Nat.reduceAdd, Nat.reduceEqDiff, Nat.reduceLT, Nat.reduceLeDiff, Nat.reduceMul, reduceCtorEq, ↓reduceIte])
  refine e_st1 (off := 1) rfl rfl z1 rfl (by simp) ?_
  intro w11 hb11 hm11 hs11
  have kz : ∀ x cs T fz, T ≠ 35 → x = b → w10.heap[x]? = some (.cells cs T fz) → False := fun x cs T fz hT hx hc => by rw [hx] at hc; exact kind_ne z1 hc (fun hh => hT hh.symm)
  have s6 := hm6.size; have s7 := hm7.size; have s9 := hm9.size; have s10 := hm10.size
  have hfp7 : ∀ x, fp7 = some x → B x ∨ w.heap.size ≤ x := fun x hx => by
    rcases hf7 x hx with h | h
    · exact .inl (h6 x h)
    · exact .inr (by omega)
  have hfp10 : ∀ x, fp10 = some x → fpm = some x ∨ w9.heap.size ≤ x := fun x hx => (hf10 x hx).imp (fun h => h) (fun h => by omega)
  (try simp only [go_sem, Nat.reduceAdd, Nat.reduceEqDiff, Nat.reduceLT, Nat.reduceLeDiff, Nat.reduceMul, reduceCtorEq, ↓reduceIte])
  refine ⟨⟨M, k + 5, .slice v5a (k + 5) v5c, fp5⟩, fun x => B x ∨ fp5 = some x ∨ fp7 = some x ∨ fp10 = some x, ⟨.slice v7a (es.length + 1) v7c, .slice v10a (es.length + 1) v10c, fp7, fp10, hb11, ?_, ?_, ?_, .inl h5, (fun x hx => .inr (.inr (.inl hx))), (fun x hx => .inr (.inr (.inr hx))), ?_⟩, ?_, ?_, (by show k + 5 ≤ _; omega)⟩
  · have := z7.mod' hm11 (fun x cs fz hx hc => kz x cs 33 fz (by decide) hx hc)
    simpa using this
  · have := ho10.mod' hm11 (fun x cs fz hx hc => kz x cs 3 fz (by decide) hx hc)
    simpa using this
  · intro e hee
    rcases List.mem_append.1 hee with hee | hee
    · refine ⟨(z4 e hee).mod' hm11 (fun x cs fz hx hc => kz x cs 3 fz (by decide) hx hc), fun x hx => ⟨fun hh => ?_, .inl ((h4 e hee).2 x hx).2⟩⟩
      rcases hfp10 x hh with h | h
      · exact ((h4 e hee).2 x hx).1 h
      · have := (x4 e hee).lt hx; omega
    · simp only [List.mem_cons, List.not_mem_nil, or_false] at hee; subst hee
      refine ⟨?_, fun x hx => ⟨fun hh => ?_, .inr (.inl hx)⟩⟩
      · have := z5.mod' hm11 (fun x cs fz hx hc => kz x cs 3 fz (by decide) hx hc)
        exact this
      · rcases hfp10 x hh with h | h
        · exact hmn x hx h
        · have := x5.lt hx; omega
  · intro x hx
    have s11 := hm11.size
    rcases hx with hx | hx | hx | hx
    · have := h8 x hx; omega
    · have := z5.lt hx; omega
    · have := z7.lt hx; omega
    · have := ho10.lt hx; omega
  · refine (((((((hm15.weak (fun x hx => .inr hx)).step hm6 (fun _ h _ => h.elim)).step hm7 (fun x hx _ => .inl (h6 x hx))).step hm8 (fun x hx _ => .inl (hx ▸ h5))).step hm9 (fun _ h _ => h.elim)).step hm10 (fun x hx _ => .inl (h7 x hx))).step hm11 (fun x hx _ => .inl (hx ▸ h5)))
  · intro x hx
    rcases hx with hx | hx | hx | hx
    · exact .inl hx
    · rcases hfp5 x hx with h | h
      · exact .inr (.inl h)
      · exact .inr (.inr h)
    · rcases hfp7 x hx with h | h
      · exact .inl h
      · exact .inr (.inr h)
    · rcases hfp10 x hx with h | h
      · exact .inl (h7 x h)
      · exact .inr (.inr (by omega))
end Go.Proofs.Ytnimaifmcejkcaa
end

section
set_option linter.unusedSimpArgs false
set_option linter.unusedVariables false
set_option maxRecDepth 100000
namespace Go.Proofs.Ytnimaifmcejkcaa
open Go Go.W

theorem own_at {w : World} {T n : Nat} {v : Value} {xs : List Value} {fp : Option Nat} (h : Own w T 1 v xs n fp) {i : Nat} (hi : i < n) {u : Value} (hu : xs[i]? = some u) : ∃ b c, v = .slice (some ⟨b, 0, none⟩) n c ∧ w.cell? ⟨b, i, none⟩ = some u := by
  have hl := h.1
  obtain ⟨b, c, sp', hv, _, hb, _, _⟩ := h.pos (by omega)
  refine ⟨b, c, hv, ?_⟩
  rw [cell_of hb, List.getElem?_toArray, List.getElem?_append_left (by omega)]
  exact hu

theorem still_ok (w : World) (b : Nat) (es : List BE) (B : Nat → Prop) (h : BookAt w b es B) (he : es.length + 1 ≤ 4398046511104) (hn : ∀ e ∈ es, e.n ≤ 17592186044416) :
    CallsR Try.prog 14 [.pointer (some ⟨b, 0, none⟩)] w fun r w' => r = .bool true ∧ Mod (fun _ => False) w w' := by
  refine fit14.calls rfl ?_
  unfold ir14
  (try simp only [go_sem, Nat.reduceAdd, Nat.reduceEqDiff, Nat.reduceLT, Nat.reduceLeDiff, Nat.reduceMul, reduceCtorEq, ↓reduceIte])
  refine ir_loop (fun m ρ w' => ∃ i : Nat, m = es.length - i ∧ i ≤ es.length ∧ Mod (fun _ => False) w w' ∧ ρ = [(0, .pointer (some ⟨b, 0, none⟩)), (3, I i)]) es.length ⟨0, rfl, Nat.zero_le _, Mod.refl _ _, rfl⟩ ?_
  rintro m ρ w1 ⟨i, rfl, hi, hm1, rfl⟩
  unfold ir14L2
  obtain ⟨lv, mv, fpl, fpm, h1, h2, h3, h4, _⟩ := h.mod hm1 (fun _ _ h => h)
  obtain ⟨la, lc, rfl, _, _⟩ := h2.val
  (try simp only [go_sem, Nat.reduceAdd, Nat.reduceEqDiff, Nat.reduceLT, Nat.reduceLeDiff, Nat.reduceMul, reduceCtorEq, ↓reduceIte, cell_of h1])
  refine ir_cond rfl (fun hc => ?_) (fun hc => ?_)
  · have hc' : i < es.length := by simpa using hc
    (try simp only [go_sem, Nat.reduceAdd, Nat.reduceEqDiff, Nat.reduceLT, Nat.reduceLeDiff, Nat.reduceMul, reduceCtorEq, ↓reduceIte])
    refine ir_loop (fun m ρ w' => ∃ k : Nat, m = es[i].n - k ∧ k ≤ es[i].n ∧ Mod (fun _ => False) w w' ∧ ρ = [(0, .pointer (some ⟨b, 0, none⟩)), (3, I i), (4, I k)]) es[i].n ⟨0, rfl, Nat.zero_le _, hm1, rfl⟩ ?_
    clear h1 h2 h3 h4
    rintro m ρ w2 ⟨k, rfl, hk, hm2, rfl⟩
    unfold ir14L1
    obtain ⟨lv2, mv2, fpl2, fpm2, h1, h2, h3, h4, _⟩ := h.mod hm2 (fun _ _ h => h)
    obtain ⟨lb, lc2, rfl, hlc⟩ := own_at h2 hc' (u := es[i].v) (by simp [hc'])
    obtain ⟨mb, mc2, rfl, hmc⟩ := own_at h3 hc' (u := I es[i].m) (by simp [hc'])
    have hei := (h4 es[i] (List.getElem_mem hc')).1
    obtain ⟨ea, ec, hev, _, _⟩ := hei.val
    rw [hev] at hlc hei
    have hnn := hn es[i] (List.getElem_mem hc')
    have b1 : (0 : Int) ≤ i ∧ (i : Int) < es.length := by omega
    (try simp only [go_sem, Nat.reduceAdd, Nat.reduceEqDiff, Nat.reduceLT, Nat.reduceLeDiff, Nat.reduceMul, reduceCtorEq, ↓reduceIte, Nat.mul_one, Int.toNat_natCast, Int.toNat_zero, Nat.sub_zero, Nat.sub_self, cell_of h1, b1, hlc])
    refine ir_cond rfl (fun hk2 => ?_) (fun hk2 => ?_)
    · have hk' : k < es[i].n := by simpa using hk2
      obtain ⟨eb, ec2, hee, hec⟩ := own_at hei hk' (u := I es[i].m) (by simp [hk'])
      cases hee
      have b2 : (0 : Int) ≤ k ∧ (k : Int) < es[i].n := by omega
      have hwk : IntKind.i64.wrap ((k : Int) + 1) = ((k + 1 : Nat) : Int) := by rw [wrap_in] <;> omega
      have hbne : (es[i].m != es[i].m) = false := by simp
      (try simp only [go_sem, Nat.reduceAdd, Nat.reduceEqDiff, Nat.reduceLT, Nat.reduceLeDiff, Nat.reduceMul, reduceCtorEq, ↓reduceIte, Nat.mul_one, Int.toNat_natCast, Int.toNat_zero, Nat.sub_zero, Nat.sub_self, cell_of h1, b1, hlc, b2, hec, hmc, hbne, hwk])
      refine ⟨_, ?_, k + 1, rfl, hk', hm2.drew, rfl⟩
      omega
    · have hk' : k = es[i].n := by simp at hk2; omega
      have hwi : IntKind.i64.wrap ((i : Int) + 1) = ((i + 1 : Nat) : Int) := by rw [wrap_in] <;> omega
      (try simp only [go_sem, Nat.reduceAdd, Nat.reduceEqDiff, Nat.reduceLT, Nat.reduceLeDiff, Nat.reduceMul, reduceCtorEq, ↓reduceIte, hwi])
      refine ⟨_, ?_, i + 1, rfl, hc', hm2, rfl⟩
      omega
  · (try simp only [go_sem, Nat.reduceAdd, Nat.reduceEqDiff, Nat.reduceLT, Nat.reduceLeDiff, Nat.reduceMul, reduceCtorEq, ↓reduceIte])
    exact hm1
end Go.Proofs.Ytnimaifmcejkcaa
end

section
set_option linter.unusedSimpArgs false
set_option linter.unusedVariables false
set_option maxRecDepth 100000
namespace Go.Proofs.Ytnimaifmcejkcaa
open Go Go.W

theorem okPl_le {n m : Nat} {l : List Int} (h : okPl n l = true) (hm : n ≤ m) : okPl m l = true := by
  rw [okPl, List.all_eq_true] at h ⊢
  intro x hx
  have := h x hx
  simp at this ⊢; omega
/-- An arena that may be. -/
structure Fine (size young : Int) (old : Nat) (ns : List Nd) : Prop where
  wf : WF ns
  le : (ns.length : Int) ≤ size
  s1 : 1 ≤ size
  s2 : size ≤ 1048576
  y1 : 1 ≤ young
  y2 : young ≤ size
  old : old ≤ ns.length
theorem Fine.len {size young : Int} {old : Nat} {ns : List Nd} (h : Fine size young old ns) : ns.length ≤ 1048576 := by have := h.le; have := h.s2; omega
theorem Fine.args {size young : Int} {old : Nat} {ns : List Nd} (h : Fine size young old ns) : ∀ nd ∈ ns, nd.args.length ≤ 8 := wf_args_le h.wf
theorem fine_new {size young : Int} (h : 1 ≤ size ∧ size ≤ 1048576 ∧ 1 ≤ young ∧ young ≤ size) : Fine size young 0 [] := ⟨fun nd h => (by cases h), by simp; omega, h.1, h.2.1, h.2.2.1, h.2.2.2, Nat.zero_le _⟩
theorem fine_add {size young : Int} {old : Nat} {ns : List Nd} (h : Fine size young old ns) (nd : Nd) : Fine size young old (gaddS size ns nd).2.2 := by
  unfold gaddS
  split
  · exact h
  · split
    · exact h
    · split
      · exact h
      · rename_i h1 h2 h3
        refine ⟨?_, by have := h.le; simp; omega, h.s1, h.s2, h.y1, h.y2, by have := h.old; simp; omega⟩
        intro x hx
        rcases List.mem_append.1 hx with hx | hx
        · exact ⟨(h.wf x hx).1, okPl_le (h.wf x hx).2 (by simp)⟩
        · simp only [List.mem_cons, List.not_mem_nil, or_false] at hx; subst hx
          exact ⟨by simpa using h1, okPl_le (by simpa using h2) (by simp)⟩
theorem fine_set {size young : Int} {old : Nat} {ns : List Nd} (h : Fine size young old ns) (at' : Int) (nd : Nd) : Fine size young old (gsetS ns at' nd).2 := by
  unfold gsetS
  split
  · exact h
  · split
    · exact h
    · split
      · exact h
      · rename_i h1 h2 h3
        refine ⟨?_, by simpa using h.le, h.s1, h.s2, h.y1, h.y2, by simpa using h.old⟩
        intro x hx
        rw [List.length_set]
        rcases List.mem_or_eq_of_mem_set hx with hx | rfl
        · exact h.wf x hx
        · exact ⟨by simpa using h2, by simpa using h3⟩
theorem fine_small {size young : Int} {old : Nat} {ns : List Nd} (h : Fine size young old ns) {fr : Nat} (hfr : fr ≤ ns.length) {roots : List Int} (ho : okPl ns.length roots = true) : Fine size young (smallNs ns fr roots).length (smallNs ns fr roots) :=
  ⟨small_wf h.wf hfr ho, by have := small_len h.wf hfr ho; have := h.le; omega, h.s1, h.s2, h.y1, h.y2, Nat.le_refl _⟩
theorem fine_room {size young times : Int} {old : Nat} {ns : List Nd} (h : Fine size young old ns) (n : Int) (roots : List Int) : Fine size young (groomS size young old times ns n roots).old (groomS size young old times ns n roots).ns := by
  unfold groomS
  split
  · exact h
  · split
    · exact h
    · rename_i h2
      have ho : okPl ns.length roots = true := by simpa using h2
      have h3 := fine_small h h.old ho
      split
      · exact h
      · split
        · unfold endS
          have h4 := fine_small h3 (Nat.zero_le _) (small_roots_ok h.wf h.old ho)
          split
          · exact h4
          · exact h4
        · exact h3
def gcolS (old : Nat) (times : Int) (ns : List Nd) (roots : List Int) : GSt := if okPl ns.length roots = false then ⟨none, 212, ns, old, times⟩ else ⟨some (smallRoots ns 0 roots), 0, smallNs ns 0 roots, (smallNs ns 0 roots).length, IntKind.i64.wrap (times + 1)⟩
theorem fine_colS {size young times : Int} {old : Nat} {ns : List Nd} (h : Fine size young old ns) (roots : List Int) : Fine size young (gcolS old times ns roots).old (gcolS old times ns roots).ns := by
  unfold gcolS
  split
  · exact h
  · rename_i h2; exact fine_small h (Nat.zero_le _) (by simpa using h2)
def GSt.list (s : GSt) : List Int := s.res.getD []
theorem roomS_len (size young : Int) (old : Nat) (times : Int) (ns : List Nd) (n : Int) (roots : List Int) : (groomS size young old times ns n roots).list.length ≤ roots.length := by
  unfold groomS GSt.list
  split
  · simp
  · split
    · simp
    · split
      · simp
      · split
        · unfold endS
          split
          · simp
          · simp [smallRoots]
        · simp [smallRoots]
theorem colS_len (old : Nat) (times : Int) (ns : List Nd) (roots : List Int) : (gcolS old times ns roots).list.length ≤ roots.length := by
  unfold gcolS GSt.list
  split
  · simp
  · simp [smallRoots]
theorem room_list {At : World → Nat → Int → Int → Nat → Int → List Nd → (Nat → Prop) → Prop} {w w' : World} {a : Nat} {size young : Int} {F : Nat → Prop} {s : GSt} {r : Value} (h : GRoomPost At w a size young F s r w') :
    ∃ v fp F', r = .tuple #[v, I s.err] ∧ Own w' 3 1 v (s.list.map I) s.list.length fp ∧ (∀ x, fp = some x → w.heap.size ≤ x ∧ ¬ F' x) ∧ At w' a size young s.old s.times s.ns F' ∧ Grow F F' w w' := by
  obtain ⟨v, F', h1, h2, h3, h4, h5⟩ := h
  cases ho : s.res with
  | none => exact ⟨v, none, F', h1, by rw [h4 ho]; simp [GSt.list, ho]; exact Own.nil _ _ _, (fun x hx => by cases hx), h2, h3⟩
  | some l =>
    obtain ⟨fq, k1, k2⟩ := h5 l ho
    exact ⟨v, fq, F', h1, by simpa [GSt.list, ho] using k1, k2, h2, h3⟩
theorem col_room {At : World → Nat → Int → Int → Nat → Int → List Nd → (Nat → Prop) → Prop} (hAt : ∀ {w w' : World} {a : Nat} {size young : Int} {old : Nat} {times : Int} {ns : List Nd} {F S : Nat → Prop}, At w a size young old times ns F → Mod S w w' → (∀ b, F b → ¬ S b) → At w' a size young old times ns F)
    {w w' : World} {a : Nat} {size young : Int} {old : Nat} {times : Int} {ns : List Nd} {F : Nat → Prop} {roots : List Int} {r : Value} (ha : At w a size young old times ns F) (h : GColPost At w a size young old times ns roots F r w') : GRoomPost At w a size young F (gcolS old times ns roots) r w' := by
  cases ho : okPl ns.length roots with
  | false =>
    obtain ⟨h1, h2⟩ := h.1 ho
    have e : gcolS old times ns roots = ⟨none, 212, ns, old, times⟩ := by simp [gcolS, ho]
    rw [e]
    exact ⟨_, F, h1, hAt ha h2 (fun _ _ h => h), ⟨h2.weak (fun _ h => h.elim), fun b hb => .inl hb⟩, fun _ => rfl, fun l hl => (by cases hl)⟩
  | true =>
    obtain ⟨v, h1, fq, F', h2, h3, h4, h5⟩ := h.2 ho
    have e : gcolS old times ns roots = ⟨some (smallRoots ns 0 roots), 0, smallNs ns 0 roots, (smallNs ns 0 roots).length, IntKind.i64.wrap (times + 1)⟩ := by simp [gcolS, ho]
    rw [e]
    exact ⟨v, F', h1, h3, h4, fun hh => (by cases hh), fun l hl => by cases hl; exact ⟨fq, by rw [small_roots_len]; exact h2, h5⟩⟩
theorem ggetS_len {ns : List Nd} (hargs : ∀ nd ∈ ns, nd.args.length ≤ 8) (at' : Int) : (ggetS ns at').1.args.length ≤ 8 := by
  unfold ggetS
  split
  · rename_i h
    refine hargs _ ?_
    have : at'.toNat < ns.length := by omega
    simp [ndAt, this]
  · simp

/-- The book and two arenas that are one plain arena, all apart. -/
structure Both (w : World) (b a r : Nat) (es : List BE) (size young : Int) (old : Nat) (times : Int) (ns : List Nd) (B F G : Nat → Prop) : Prop where
  book : BookAt w b es B
  one : GAt w a size young old times ns F
  two : RAt w r size young old times ns G
  fine : Fine size young old ns
  bf : ∀ x, B x → ¬ F x
  bg : ∀ x, B x → ¬ G x
  fg : ∀ x, F x → ¬ G x
  small : ∀ e ∈ es, e.n ≤ 17592186044416
theorem Both.mod {w w' : World} {b a r : Nat} {es : List BE} {size young : Int} {old : Nat} {times : Int} {ns : List Nd} {B F G S : Nat → Prop} (h : Both w b a r es size young old times ns B F G) (hm : Mod S w w') (hB : ∀ x, B x → ¬ S x) (hF : ∀ x, F x → ¬ S x) (hG : ∀ x, G x → ¬ S x) : Both w' b a r es size young old times ns B F G :=
  ⟨h.book.mod hm hB, gat_mod h.one hm hF, rat_mod h.two hm hG, h.fine, h.bf, h.bg, h.fg, h.small⟩
theorem Both.size {w : World} {b a r : Nat} {es : List BE} {size young : Int} {old : Nat} {times : Int} {ns : List Nd} {B F G : Nat → Prop} (h : Both w b a r es size young old times ns B F G) : (∀ x, B x → x < w.heap.size) ∧ (∀ x, F x → x < w.heap.size) ∧ ∀ x, G x → x < w.heap.size := by
  obtain ⟨_, _, _, _, _, _, _, _, _, _, _, h1⟩ := h.book
  exact ⟨h1, gat_lt h.one, rat_lt h.two⟩

/-- A list that came out of the program's arena is kept. -/
theorem both_keep {w : World} {b a r : Nat} {es : List BE} {size young : Int} {old : Nat} {times : Int} {ns : List Nd} {B F G : Nat → Prop} (h : Both w b a r es size young old times ns B F G) {v : Value} {xs : List Int} {fp : Option Nat}
    (ho : Own w 3 1 v (xs.map I) xs.length fp) (hB : ∀ x, fp = some x → ¬ B x) (hF : ∀ x, fp = some x → ¬ F x) (hG : ∀ x, fp = some x → ¬ G x) (hn : xs.length + 5 ≤ 17592186044416) (he : es.length + 1 ≤ 4398046511104) :
    CallsR Try.prog 39 [.pointer (some ⟨b, 0, none⟩), v] w fun _ w' => ∃ e B', Both w' b a r (es ++ [e]) size young old times ns B' F G ∧ Mod (fun x => B x ∨ fp = some x) w w' ∧ ∀ x, B' x → B x ∨ fp = some x ∨ w.heap.size ≤ x := by
  obtain ⟨sB, sF, sG⟩ := h.size
  refine (keep_ok w b es B v xs xs.length fp h.book ho hB hn he).mono ?_
  rintro _ w' ⟨e, B', k1, k2, k3, k4⟩
  refine ⟨e, B', ⟨k1, gat_mod h.one k2 (fun x hx hh => hh.elim (fun hb => h.bf x hb hx) (fun hb => hF x hb hx)), rat_mod h.two k2 (fun x hx hh => hh.elim (fun hb => h.bg x hb hx) (fun hb => hG x hb hx)), h.fine, fun x hx hf => ?_, fun x hx hg => ?_, h.fg, fun e' he' => ?_⟩, k2, k3⟩
  · rcases k3 x hx with h1 | h1 | h1
    · exact h.bf x h1 hf
    · exact hF x h1 hf
    · have := sF x hf; omega
  · rcases k3 x hx with h1 | h1 | h1
    · exact h.bg x h1 hg
    · exact hG x h1 hg
    · have := sG x hg; omega
  · rcases List.mem_append.1 he' with h1 | h1
    · exact h.small e' h1
    · simp only [List.mem_cons, List.not_mem_nil, or_false] at h1; subst h1; exact k4

/-- Behind both calls of a step: what came lies in two nodes of the walk. -/
def MidP (w5 w9 : World) (b a r : Nat) (es : List BE) (size young : Int) (B F G : Nat → Prop) (b13 b14 : Nat) : Prop :=
  ∃ (old : Nat) (times : Int) (ns : List Nd) (F' G' : Nat → Prop) (v13 v14 : Value) (fp13 fp14 : Option Nat) (nd : Nd), Both w9 b a r es size young old times ns B F' G' ∧
    w9.heap[b13]? = some (.cells #[I nd.kind, I nd.num, v13] 38 (0, 0)) ∧ w9.heap[b14]? = some (.cells #[I nd.kind, I nd.num, v14] 38 (0, 0)) ∧ Own w9 3 1 v13 (nd.args.map I) nd.args.length fp13 ∧ Own w9 3 1 v14 (nd.args.map I) nd.args.length fp14 ∧
    (∀ x, fp13 = some x → w5.heap.size ≤ x ∧ ¬ F' x ∧ ¬ G' x) ∧ (∀ x, fp14 = some x → w5.heap.size ≤ x) ∧ nd.args.length + 5 ≤ 17592186044416 ∧ Mod (fun x => (F x ∨ G x) ∨ x = b13 ∨ x = b14) w5 w9 ∧ (∀ x, F' x → F x ∨ w5.heap.size ≤ x) ∧ ∀ x, G' x → G x ∨ w5.heap.size ≤ x

theorem mid_ok {w5 w6 w7 w8 w9 : World} {b a r : Nat} {es : List BE} {size young : Int} {old : Nat} {times : Int} {ns : List Nd} {B F G F' G' : Nat → Prop} {b13 b14 old' : Nat} {times' : Int} {ns' : List Nd} {v13 v14 : Value} {fp13 fp14 : Option Nat} {nd : Nd}
    (h : Both w5 b a r es size young old times ns B F G) (l13 : b13 < w5.heap.size) (l14 : b14 < w5.heap.size) (hne : b13 ≠ b14) (hn : ∀ x, B x ∨ F x ∨ G x → x ≠ b13 ∧ x ≠ b14)
    (a6 : GAt w6 a size young old' times' ns' F') (g6 : Grow F F' w5 w6) (o6 : Own w6 3 1 v13 (nd.args.map I) nd.args.length fp13) (f6 : ∀ x, fp13 = some x → w5.heap.size ≤ x ∧ ¬ F' x)
    (m7 : Mod (fun x => x = b13) w6 w7) (hb7 : w7.heap[b13]? = some (.cells #[I nd.kind, I nd.num, v13] 38 (0, 0)))
    (a8 : RAt w8 r size young old' times' ns' G') (g8 : Grow G G' w7 w8) (o8 : Own w8 3 1 v14 (nd.args.map I) nd.args.length fp14) (f8 : ∀ x, fp14 = some x → w7.heap.size ≤ x ∧ ¬ G' x)
    (m9 : Mod (fun x => x = b14) w8 w9) (hb9 : w9.heap[b14]? = some (.cells #[I nd.kind, I nd.num, v14] 38 (0, 0))) (hf : Fine size young old' ns') (hl : nd.args.length + 5 ≤ 17592186044416) : MidP w5 w9 b a r es size young B F G b13 b14 := by
  obtain ⟨sB, sF, sG⟩ := h.size
  obtain ⟨m6, n6⟩ := g6
  obtain ⟨m8, n8⟩ := g8
  have s6 := m6.size; have s7 := m7.size; have s8 := m8.size; have s9 := m9.size
  have l6 := gat_lt a6
  have l8 := rat_lt a8
  have hF13 : ∀ x, F' x → x ≠ b13 ∧ x ≠ b14 ∧ ¬ G x := fun x hx => by
    rcases n6 x hx with h1 | h1
    · exact ⟨(hn x (.inr (.inl h1))).1, (hn x (.inr (.inl h1))).2, h.fg x h1⟩
    · exact ⟨by omega, by omega, fun hg => by have := sG x hg; omega⟩
  have hG13 : ∀ x, G' x → x ≠ b13 ∧ x ≠ b14 := fun x hx => by
    rcases n8 x hx with h1 | h1
    · exact hn x (.inr (.inr h1))
    · omega
  have hFG : ∀ x, F' x → ¬ G' x := fun x hx hg => by
    rcases n8 x hg with h1 | h1
    · exact (hF13 x hx).2.2 h1
    · have := l6 x hx; omega
  have f13 : ∀ x, fp13 = some x → x ≠ b13 ∧ x ≠ b14 ∧ ¬ G x ∧ x < w6.heap.size := fun x hx => by
    have h1 := f6 x hx
    exact ⟨by omega, by omega, fun hg => by have := sG x hg; omega, o6.lt hx⟩
  refine ⟨old', times', ns', F', G', v13, v14, fp13, fp14, nd, ⟨?_, ?_, ?_, hf, fun x hx hh => ?_, fun x hx hh => ?_, hFG, h.small⟩, ?_, hb9, ?_, ?_, fun x hx => ⟨(f6 x hx).1, (f6 x hx).2, fun hg => ?_⟩, fun x hx => by have := (f8 x hx).1; omega, hl, ?_, n6, fun x hx => ?_⟩
  · exact (((h.book.mod m6 h.bf).mod m7 (fun x hx hh => (hn x (.inl hx)).1 hh)).mod m8 h.bg).mod m9 (fun x hx hh => (hn x (.inl hx)).2 hh)
  · exact gat_mod (gat_mod (gat_mod a6 m7 (fun x hx => (hF13 x hx).1)) m8 (fun x hx => (hF13 x hx).2.2)) m9 (fun x hx => (hF13 x hx).2.1)
  · exact rat_mod a8 m9 (fun x hx => (hG13 x hx).2)
  · rcases n6 x hh with h1 | h1
    · exact h.bf x hx h1
    · have := sB x hx; omega
  · rcases n8 x hh with h1 | h1
    · exact h.bg x hx h1
    · have := sB x hx; omega
  · exact m9.at (m8.at hb7 (fun hg => (hn b13 (.inr (.inr hg))).1 rfl)) hne
  · exact ((o6.mod m7 (fun x hx hh => (f13 x hx).1 hh)).mod m8 (fun x hx hh => (f13 x hx).2.2.1 hh)).mod m9 (fun x hx hh => (f13 x hx).2.1 hh)
  · exact o8.mod m9 (fun x hx hh => by have := (f8 x hx).1; omega)
  · rcases n8 x hg with h1 | h1
    · exact (f13 x hx).2.2.1 h1
    · have := (f13 x hx).2.2.2; omega
  · exact (((m6.weak (S' := fun x => (F x ∨ G x) ∨ x = b13 ∨ x = b14) (fun x hx => .inl (.inl hx))).step m7 (fun x hx _ => .inr (.inl hx))).step m8 (fun x hx _ => .inl (.inr hx))).step m9 (fun x hx _ => .inr (.inr hx))
  · exact (n8 x hx).imp (fun h => h) (fun h => by omega)
end Go.Proofs.Ytnimaifmcejkcaa
end

section
set_option linter.unusedSimpArgs false
set_option linter.unusedVariables false
set_option maxRecDepth 100000
namespace Go.Proofs.Ytnimaifmcejkcaa
open Go Go.W

/-- What a step leaves behind. -/
def StepPost (w : World) (b a r : Nat) (es : List BE) (size young : Int) (B F G : Nat → Prop) (q : Value) (w' : World) : Prop :=
  q = .bool true ∧ ∃ es' old' times' ns' B' F' G', Both w' b a r es' size young old' times' ns' B' F' G' ∧ es'.length ≤ es.length + 1 ∧ Mod (fun x => B x ∨ F x ∨ G x) w w' ∧ (∀ x, B' x → B x ∨ w.heap.size ≤ x) ∧ (∀ x, F' x → F x ∨ w.heap.size ≤ x) ∧ ∀ x, G' x → G x ∨ w.heap.size ≤ x

set_option maxHeartbeats 1600000 in
theorem step_ok (w : World) (b a r : Nat) (es : List BE) (size young : Int) (old : Nat) (times : Int) (ns : List Nd) (B F G : Nat → Prop) (h : Both w b a r es size young old times ns B F G) (cl n : Int) (nd : Nd) (av orv : Value) (roots : List Int)
    (hx : Ints w av nd.args) (hy : Ints w orv roots) (hxB : nd.args ≠ [] → ∀ x, vblk av = some x → ¬ (B x ∨ F x ∨ G x)) (hyB : roots ≠ [] → ∀ x, vblk orv = some x → ¬ (B x ∨ F x ∨ G x)) (hal : nd.args.length + 5 ≤ 17592186044416) (hrl : roots.length + 5 ≤ 17592186044416) (he : es.length + 1 ≤ 4398046511104) :
    CallsR Try.prog 9 [.pointer (some ⟨b, 0, none⟩), .pointer (some ⟨a, 0, none⟩), .pointer (some ⟨r, 0, none⟩), .agg #[I cl, I n, I nd.kind, I nd.num, av, orv]] w (StepPost w b a r es size young B F G) := by
  have hx0 := hx
  have hy0 := hy
  obtain ⟨xa, xc, rfl, _, _⟩ := hx0
  obtain ⟨ya, yc, rfl, _, _⟩ := hy0
  obtain ⟨sB, sF, sG⟩ := h.size
  refine fit9.calls rfl ?_
  unfold ir9
  (try simp only [go_sem, Nat.reduceAdd, Nat.reduceEqDiff, Nat.reduceLT, Nat.reduceLeDiff, Nat.reduceMul, reduceCtorEq, ↓reduceIte])
  refine e_bx rfl ?_
  intro w1 hb1 hm1 hs1
  have hb1 : w1.heap[w.heap.size]? = some (.cells #[I cl, I n, I nd.kind, I nd.num, .slice xa nd.args.length xc, .slice ya roots.length yc] 40 (0, 0)) := hb1
  have l1 := lt_of_heap hb1
  (try simp only [go_sem, Nat.reduceAdd, Nat.reduceEqDiff, Nat.reduceLT, Nat.reduceLeDiff, Nat.reduceMul, reduceCtorEq, ↓reduceIte, cell_of hb1])
  refine e_call (by rfl) ?_
  refine (lent_ok _ nd.args w1 (hx.mod hm1 (fun _ _ h => h))).mono ?_
  rintro q w2 ⟨ba, rfl, ha2, hga, hm2⟩
  have hm12 := hm1.trans hm2
  have hb2 := hm2.at hb1 (fun h => h)
  have lla := lentL_len nd.args
  have llr := lentL_len roots
  (try simp only [go_sem, Nat.reduceAdd, Nat.reduceEqDiff, Nat.reduceLT, Nat.reduceLeDiff, Nat.reduceMul, reduceCtorEq, ↓reduceIte, cell_of hb2])
  refine e_call (by rfl) ?_
  refine (lent_ok _ roots w2 (hy.mod hm12 (fun _ _ h => h))).mono ?_
  rintro q w3 ⟨br, rfl, hr3, hgr, hm3⟩
  have hb3 := hm3.at hb2 (fun h => h)
  have ha3 := hm3.at ha2 (fun h => h)
  have l3 := lt_of_heap hb3
  have z1 : (0 : Int) ≤ (nd.args.length : Nat) ∧ ((nd.args.length : Nat) : Int) ≤ ((lentL nd.args).length : Nat) := by omega
  have z2 : (0 : Int) ≤ (roots.length : Nat) ∧ ((roots.length : Nat) : Int) ≤ ((lentL roots).length : Nat) := by omega
  (try simp only [go_sem, Nat.reduceAdd, Nat.reduceEqDiff, Nat.reduceLT, Nat.reduceLeDiff, Nat.reduceMul, reduceCtorEq, ↓reduceIte, Nat.mul_one, Int.toNat_natCast, Int.toNat_zero, Nat.sub_zero, Nat.sub_self, cell_of hb3, z1, z2, ite_self])
  refine e_al ?_
  intro w4 hb4 hm4 hs4
  have hm4 : Mod (fun _ => False) w3 w4 := hm4.of_drew
  have hs4 : w4.heap.size = w3.heap.size + 1 := hs4
  have hb4 : w4.heap[w3.heap.size]? = some (.cells #[I 0, I 0, .slice none 0 0] 38 (0, 0)) := hb4
  (try simp only [go_sem, Nat.reduceAdd, Nat.reduceEqDiff, Nat.reduceLT, Nat.reduceLeDiff, Nat.reduceMul, reduceCtorEq, ↓reduceIte])
  refine ⟨hm4.old _ l3 (fun h => h), ?_⟩
  refine e_sta rfl rfl hb4 rfl rfl (by simp [Value.oneCell']) ?_
  intro w5 hb5 hm5 hs5
  have hm35 : Mod (fun _ => False) w3 w5 := hm4.step hm5 (fun x hx hlt => by omega)
  (try simp only [go_sem, Nat.reduceAdd, Nat.reduceEqDiff, Nat.reduceLT, Nat.reduceLeDiff, Nat.reduceMul, reduceCtorEq, ↓reduceIte])
  refine e_al ?_
  intro w6 hb6 hm6 hs6
  have hb6 : w6.heap[w5.heap.size]? = some (.cells #[I 0, I 0, .slice none 0 0] 38 (0, 0)) := hb6
  (try simp only [go_sem, Nat.reduceAdd, Nat.reduceEqDiff, Nat.reduceLT, Nat.reduceLeDiff, Nat.reduceMul, reduceCtorEq, ↓reduceIte])
  refine e_al ?_
  intro w7 hb7 hm7 hs7
  have hb7 : w7.heap[w6.heap.size]? = some (.cells #[I 0, I 0, .slice none 0 0] 38 (0, 0)) := hb7
  have hm57 := hm6.trans hm7
  have hm37 := hm35.trans hm57
  have hm07 := (hm12.trans hm3).trans hm37
  have hb17 := hm37.at hb3 (fun h => h)
  have ha7 := hm37.at ha3 (fun h => h)
  have hr7 := hm37.at hr3 (fun h => h)
  have hb57 := hm57.at hb5 (fun h => h)
  have hb67 := hm7.at hb6 (fun h => h)
  have s1 := hm1.size; have s2 := hm2.size; have s3 := hm3.size; have s4 := hm4.size; have s5 := hm5.size; have s6 := hm6.size; have s7 := hm7.size
  (try simp only [go_sem, Nat.reduceAdd, Nat.reduceEqDiff, Nat.reduceLT, Nat.reduceLeDiff, Nat.reduceMul, reduceCtorEq, ↓reduceIte, cell_of hb17])
  have g7 := h.mod hm07 (fun _ _ h => h) (fun _ _ h => h) (fun _ _ h => h)
  have l57 := lt_of_heap hb57
  have hd12 : w7.heap[w3.heap.size]? = some (.cells #[I nd.kind, I nd.num, .slice (some ⟨ba, 0, none⟩) nd.args.length (lentL nd.args).length] 38 (0, 0)) := hb57
  have hln12 : vLN w7 3 (.pointer (some ⟨w3.heap.size, 0, none⟩)) = some (.agg #[I nd.kind, I nd.num, .slice (some ⟨ba, 0, none⟩) nd.args.length (lentL nd.args).length]) := ln_of hd12 (off := 0) (n := 3) (by simp)
  have hx7 : Ints w7 (.slice (some ⟨ba, 0, none⟩) nd.args.length (lentL nd.args).length) nd.args := by
    refine ⟨_, _, rfl, by omega, fun i hi => ⟨_, rfl, ?_⟩⟩
    rw [add_at, cell_of ha7, Nat.zero_add, List.getElem?_toArray, lentL, List.map_append, List.getElem?_append_left (by simpa using hi)]
    simp [hi]
  have hy7 : Ints w7 (.slice (some ⟨br, 0, none⟩) roots.length (lentL roots).length) roots := by
    refine ⟨_, _, rfl, by omega, fun i hi => ⟨_, rfl, ?_⟩⟩
    rw [add_at, cell_of hr7, Nat.zero_add, List.getElem?_toArray, lentL, List.map_append, List.getElem?_append_left (by simpa using hi)]
    simp [hi]
  have hfl := h.fine.len
  have hargs := h.fine.args
  have ho := h.fine.old
  have hs01 : 0 ≤ size ∧ size ≤ 1048576 := ⟨by have := h.fine.s1; omega, h.fine.s2⟩
  have hy01 : 0 ≤ young ∧ young ≤ 1048576 := ⟨by have := h.fine.y1; omega, by have := h.fine.y2; have := h.fine.s2; omega⟩
  have l13 : w5.heap.size < w7.heap.size := by omega
  have l14 : w6.heap.size < w7.heap.size := by omega
  have hn1314 : ∀ x, B x ∨ F x ∨ G x → x ≠ w5.heap.size ∧ x ≠ w6.heap.size := fun x hx => by
    have : x < w.heap.size := by
      rcases hx with hx | hx | hx
      · exact sB x hx
      · exact sF x hx
      · exact sG x hx
    omega
  have hop : ∀ {w' : World}, Mod (fun x => F x ∨ x = w5.heap.size) w7 w' → w'.heap[w.heap.size]? = some (.cells #[I cl, I n, I nd.kind, I nd.num, .slice xa nd.args.length xc, .slice ya roots.length yc] 40 (0, 0)) := fun hm => hm.at hb17 (fun hh => by
    rcases hh with hh | hh
    · have := sF _ hh; omega
    · omega)
  have hln : ∀ {w' : World}, Mod (fun x => F x ∨ x = w5.heap.size) w7 w' → vLN w' 3 (.pointer (some ⟨w.heap.size, 2, none⟩)) = some (.agg #[I nd.kind, I nd.num, .slice xa nd.args.length xc]) := fun hm => ln_of (hop hm) (off := 2) (n := 3) (by simp)
  have hxw : ∀ {w' : World}, Mod (fun x => F x ∨ x = w5.heap.size) w7 w' → Ints w' (.slice xa nd.args.length xc) nd.args := fun hm => ints_mod' (hx.mod hm07 (fun _ _ h => h)) hm (fun hne x hv hh => by
    rcases hh with hh | hh
    · exact hxB hne x hv (.inr (.inl hh))
    · have := ints_lt1 hx hne x hv; omega)
  have hyw : ∀ {w' : World}, Mod (fun x => F x ∨ x = w5.heap.size) w7 w' → Ints w' (.slice ya roots.length yc) roots := fun hm => ints_mod' (hy.mod hm07 (fun _ _ h => h)) hm (fun hne x hv hh => by
    rcases hh with hh | hh
    · exact hyB hne x hv (.inr (.inl hh))
    · have := ints_lt1 hy hne x hv; omega)
  have hyF : roots ≠ [] → ∀ x, vblk (Value.slice (some ⟨br, 0, none⟩) roots.length (lentL roots).length) = some x → ¬ F x := fun _ x hv hf => by
    simp only [vblk, Option.some.injEq] at hv
    have := sF x hf; omega
  have hyG : roots ≠ [] → ∀ x, vblk (Value.slice ya roots.length yc) = some x → ¬ G x := fun hne x hv hg => hyB hne x hv (.inr (.inr hg))
  have k13 : ∀ {w' : World}, Mod F w7 w' → w'.heap[w5.heap.size]? = some (.cells #[I 0, I 0, .slice none 0 0] 38 (0, 0)) := fun hm => hm.at hb67 (fun hh => by have := sF _ hh; omega)
  have k14 : ∀ {w' : World}, Mod (fun x => (F x ∨ G x) ∨ x = w5.heap.size) w7 w' → w'.heap[w6.heap.size]? = some (.cells #[I 0, I 0, .slice none 0 0] 38 (0, 0)) := fun hm => hm.at hb7 (fun hh => by
    rcases hh with (hh | hh) | hh
    · have := sF _ hh; omega
    · have := sG _ hh; omega
    · omega)
  have hm8a : ∀ {w8 w9 : World}, Mod F w7 w8 → Mod (fun x => x = w5.heap.size) w8 w9 → Mod (fun x => F x ∨ x = w5.heap.size) w7 w9 := fun h1 h2 => (h1.weak (fun x hx => .inl hx)).step h2 (fun x hx _ => .inr hx)
  have hm8b : ∀ {w9 w10 : World}, Mod (fun x => F x ∨ x = w5.heap.size) w7 w9 → Mod G w9 w10 → Mod (fun x => (F x ∨ G x) ∨ x = w5.heap.size) w7 w10 := fun h1 h2 => (h1.weak (fun x hx => hx.imp .inl (fun h => h))).step h2 (fun x hx _ => .inl (.inr hx))
  have rG : ∀ {w9 : World}, Mod (fun x => F x ∨ x = w5.heap.size) w7 w9 → RAt w9 r size young old times ns G := fun hm => rat_mod g7.two hm (fun x hg hh => by
    rcases hh with hh | hh
    · exact h.fg x hh hg
    · have := sG x hg; omega)
  have g07 : 0 + 5 ≤ 17592186044416 := by omega
  refine ir_bthen (fun ρ w' => ∃ err : Int, MidP w7 w' b a r es size young B F G w5.heap.size w6.heap.size ∧ ρ.get 0 = some (.pointer (some ⟨b, 0, none⟩)) ∧ ρ.get 7 = some (.pointer (some ⟨w.heap.size, 0, none⟩)) ∧ ρ.get 9 = some (.slice (some ⟨ba, 0, none⟩) (lentL nd.args).length (lentL nd.args).length) ∧
    ρ.get 10 = some (.slice (some ⟨br, 0, none⟩) (lentL roots).length (lentL roots).length) ∧ ρ.get 13 = some (.pointer (some ⟨w5.heap.size, 0, none⟩)) ∧ ρ.get 14 = some (.pointer (some ⟨w6.heap.size, 0, none⟩)) ∧ ρ.get 15 = some (I err) ∧ ρ.get 16 = some (I err)) ?_ ?_
  · refine ir_cond rfl (fun hc => ?_) (fun hc => ?_)
    · (try simp only [go_sem, Nat.reduceAdd, Nat.reduceEqDiff, Nat.reduceLT, Nat.reduceLeDiff, Nat.reduceMul, reduceCtorEq, ↓reduceIte, hln12])
      refine e_call (by rfl) ?_
      refine (gadd_ok w7 a size young old times ns nd _ F g7.one ho hfl hx7).mono ?_
      rintro q w8 ⟨rfl, F', a8, g8⟩
      (try simp only [go_sem, Nat.reduceAdd, Nat.reduceEqDiff, Nat.reduceLT, Nat.reduceLeDiff, Nat.reduceMul, reduceCtorEq, ↓reduceIte])
      refine e_st1 (off := 1) rfl rfl (k13 g8.1) rfl (by simp) ?_
      intro w9 hb9 hm9 hs9
      have hb9 : w9.heap[w5.heap.size]? = some (.cells #[I 0, I (gaddS size ns nd).1, .slice none 0 0] 38 (0, 0)) := hb9
      have m9 := hm8a g8.1 hm9
      (try simp only [go_sem, Nat.reduceAdd, Nat.reduceEqDiff, Nat.reduceLT, Nat.reduceLeDiff, Nat.reduceMul, reduceCtorEq, ↓reduceIte, hln m9])
      refine e_call (by rfl) ?_
      refine (radd_ok w9 r size young old times ns nd _ G (rG m9) hfl (hxw m9)).mono ?_
      rintro q w10 ⟨rfl, G', a10, g10⟩
      (try simp only [go_sem, Nat.reduceAdd, Nat.reduceEqDiff, Nat.reduceLT, Nat.reduceLeDiff, Nat.reduceMul, reduceCtorEq, ↓reduceIte])
      refine e_st1 (off := 1) rfl rfl (k14 (hm8b m9 g10.1)) rfl (by simp) ?_
      intro w11 hb11 hm11 hs11
      have hb11 : w11.heap[w6.heap.size]? = some (.cells #[I 0, I (gaddS size ns nd).1, .slice none 0 0] 38 (0, 0)) := hb11
      (try simp only [go_sem, Nat.reduceAdd, Nat.reduceEqDiff, Nat.reduceLT, Nat.reduceLeDiff, Nat.reduceMul, reduceCtorEq, ↓reduceIte])
      exact ⟨_, mid_ok (nd := ⟨0, (gaddS size ns nd).1, []⟩) g7 l13 l14 (by omega) hn1314 a8 g8 (Own.nil _ _ _) (fun x hx => by cases hx) hm9 hb9 a10 g10 (Own.nil _ _ _) (fun x hx => by cases hx) hm11 hb11 (fine_add h.fine nd) g07, rfl⟩
    (try simp only [go_sem, Nat.reduceAdd, Nat.reduceEqDiff, Nat.reduceLT, Nat.reduceLeDiff, Nat.reduceMul, reduceCtorEq, ↓reduceIte])
    refine ir_cond rfl (fun hc2 => ?_) (fun hc2 => ?_)
    · (try simp only [go_sem, Nat.reduceAdd, Nat.reduceEqDiff, Nat.reduceLT, Nat.reduceLeDiff, Nat.reduceMul, reduceCtorEq, ↓reduceIte, cell_of hb17])
      refine e_call (by rfl) ?_
      refine (gget_ok w7 a size young old times ns n F g7.one hargs).mono ?_
      rintro q w8 ⟨hm8, v8, f8, rfl, o8, n8⟩
      obtain ⟨v8a, v8c, rfl, _, _⟩ := o8.val
      have m8 : Mod F w7 w8 := hm8.weak (fun _ h => h.elim)
      (try simp only [go_sem, Nat.reduceAdd, Nat.reduceEqDiff, Nat.reduceLT, Nat.reduceLeDiff, Nat.reduceMul, reduceCtorEq, ↓reduceIte])
      refine e_sta rfl rfl (k13 m8) rfl rfl (by simp [Value.oneCell']) ?_
      intro w9 hb9 hm9 hs9
      have m9 := hm8a m8 hm9
      (try simp only [go_sem, Nat.reduceAdd, Nat.reduceEqDiff, Nat.reduceLT, Nat.reduceLeDiff, Nat.reduceMul, reduceCtorEq, ↓reduceIte, cell_of (hop m9)])
      refine e_call (by rfl) ?_
      refine (rget_ok w9 r size young old times ns n G (rG m9) hargs).mono ?_
      rintro q w10 ⟨hm10, v10, f10, rfl, o10, n10⟩
      obtain ⟨v10a, v10c, rfl, _, _⟩ := o10.val
      have m10 : Mod G w9 w10 := hm10.weak (fun _ h => h.elim)
      (try simp only [go_sem, Nat.reduceAdd, Nat.reduceEqDiff, Nat.reduceLT, Nat.reduceLeDiff, Nat.reduceMul, reduceCtorEq, ↓reduceIte])
      refine e_sta rfl rfl (k14 (hm8b m9 m10)) rfl rfl (by simp [Value.oneCell']) ?_
      intro w11 hb11 hm11 hs11
      (try simp only [go_sem, Nat.reduceAdd, Nat.reduceEqDiff, Nat.reduceLT, Nat.reduceLeDiff, Nat.reduceMul, reduceCtorEq, ↓reduceIte])
      have hl8 := ggetS_len hargs n
      exact ⟨_, mid_ok (nd := (ggetS ns n).1) g7 l13 l14 (by omega) hn1314 (gat_mod g7.one hm8 (fun _ _ h => h)) ⟨m8, fun x hx => .inl hx⟩ o8 (fun x hx => ⟨n8 x hx, fun hf => by have := n8 x hx; have := sF x hf; omega⟩) hm9 hb9 (rat_mod (rG m9) hm10 (fun _ _ h => h)) ⟨m10, fun x hx => .inl hx⟩ o10 (fun x hx => ⟨n10 x hx, fun hg => by have := n10 x hx; have := sG x hg; have := m9.size; omega⟩) hm11 hb11 h.fine (by omega), rfl⟩
    (try simp only [go_sem, Nat.reduceAdd, Nat.reduceEqDiff, Nat.reduceLT, Nat.reduceLeDiff, Nat.reduceMul, reduceCtorEq, ↓reduceIte])
    refine ir_cond rfl (fun hc3 => ?_) (fun hc3 => ?_)
    · (try simp only [go_sem, Nat.reduceAdd, Nat.reduceEqDiff, Nat.reduceLT, Nat.reduceLeDiff, Nat.reduceMul, reduceCtorEq, ↓reduceIte, cell_of hb17, hln12])
      refine e_call (by rfl) ?_
      refine (gset_ok w7 a size young old times ns n nd _ F g7.one ho hfl hargs hx7).mono ?_
      rintro q w8 ⟨rfl, F', a8, g8⟩
      have m9 := hm8a g8.1 (Mod.refl (fun x => x = w5.heap.size) w8)
      (try simp only [go_sem, Nat.reduceAdd, Nat.reduceEqDiff, Nat.reduceLT, Nat.reduceLeDiff, Nat.reduceMul, reduceCtorEq, ↓reduceIte, cell_of (hop m9), hln m9])
      refine e_call (by rfl) ?_
      refine (rset_ok w8 r size young old times ns n nd _ G (rG m9) hfl hargs (hxw m9)).mono ?_
      rintro q w10 ⟨rfl, G', a10, g10⟩
      (try simp only [go_sem, Nat.reduceAdd, Nat.reduceEqDiff, Nat.reduceLT, Nat.reduceLeDiff, Nat.reduceMul, reduceCtorEq, ↓reduceIte])
      exact ⟨_, mid_ok (nd := ⟨0, 0, []⟩) g7 l13 l14 (by omega) hn1314 a8 g8 (Own.nil _ _ _) (fun x hx => by cases hx) (Mod.refl _ _) (k13 g8.1) a10 g10 (Own.nil _ _ _) (fun x hx => by cases hx) (Mod.refl _ _) (k14 (hm8b m9 g10.1)) (fine_set h.fine n nd) g07, rfl⟩
    (try simp only [go_sem, Nat.reduceAdd, Nat.reduceEqDiff, Nat.reduceLT, Nat.reduceLeDiff, Nat.reduceMul, reduceCtorEq, ↓reduceIte])
    refine ir_cond rfl (fun hc4 => ?_) (fun hc4 => ?_)
    · (try simp only [go_sem, Nat.reduceAdd, Nat.reduceEqDiff, Nat.reduceLT, Nat.reduceLeDiff, Nat.reduceMul, reduceCtorEq, ↓reduceIte])
      refine e_call (by rfl) ?_
      refine (gcol_ok w7 a size young old times ns F g7.one h.fine.wf hfl _ roots hy7 hyF (by omega)).mono ?_
      intro q w8 hq8
      obtain ⟨v8, f8, F', rfl, o8, n8, a8, g8⟩ := room_list (col_room (At := GAt) gat_mod g7.one hq8)
      obtain ⟨v8a, v8c, rfl, _, _⟩ := o8.val
      (try simp only [go_sem, Nat.reduceAdd, Nat.reduceEqDiff, Nat.reduceLT, Nat.reduceLeDiff, Nat.reduceMul, reduceCtorEq, ↓reduceIte])
      refine e_st1 (off := 2) rfl rfl (k13 g8.1) rfl (by simp) ?_
      intro w9 hb9 hm9 hs9
      have m9 := hm8a g8.1 hm9
      (try simp only [go_sem, Nat.reduceAdd, Nat.reduceEqDiff, Nat.reduceLT, Nat.reduceLeDiff, Nat.reduceMul, reduceCtorEq, ↓reduceIte, cell_of (hop m9)])
      refine e_call (by rfl) ?_
      refine (rcol_ok w9 r size young old times ns G (rG m9) h.fine.wf hfl _ roots (hyw m9) hyG (by omega)).mono ?_
      intro q w10 hq10
      obtain ⟨v10, f10, G', rfl, o10, n10, a10, g10⟩ := room_list (col_room (At := RAt) rat_mod (rG m9) hq10)
      obtain ⟨v10a, v10c, rfl, _, _⟩ := o10.val
      (try simp only [go_sem, Nat.reduceAdd, Nat.reduceEqDiff, Nat.reduceLT, Nat.reduceLeDiff, Nat.reduceMul, reduceCtorEq, ↓reduceIte])
      refine e_st1 (off := 2) rfl rfl (k14 (hm8b m9 g10.1)) rfl (by simp) ?_
      intro w11 hb11 hm11 hs11
      (try simp only [go_sem, Nat.reduceAdd, Nat.reduceEqDiff, Nat.reduceLT, Nat.reduceLeDiff, Nat.reduceMul, reduceCtorEq, ↓reduceIte])
      have hl8 := colS_len old times ns roots
      exact ⟨_, mid_ok (nd := ⟨0, 0, (gcolS old times ns roots).list⟩) g7 l13 l14 (by omega) hn1314 a8 g8 o8 n8 hm9 hb9 a10 g10 o10 n10 hm11 hb11 (fine_colS h.fine roots) (by show (gcolS old times ns roots).list.length + 5 ≤ _; omega), rfl⟩
    (try simp only [go_sem, Nat.reduceAdd, Nat.reduceEqDiff, Nat.reduceLT, Nat.reduceLeDiff, Nat.reduceMul, reduceCtorEq, ↓reduceIte])
    refine ir_cond rfl (fun hc5 => ?_) (fun hc5 => ?_)
    · (try simp only [go_sem, Nat.reduceAdd, Nat.reduceEqDiff, Nat.reduceLT, Nat.reduceLeDiff, Nat.reduceMul, reduceCtorEq, ↓reduceIte])
      refine e_call (by rfl) ?_
      refine (gused_ok w7 a size young old times ns F g7.one).mono ?_
      rintro q w8 ⟨rfl, rfl⟩
      (try simp only [go_sem, Nat.reduceAdd, Nat.reduceEqDiff, Nat.reduceLT, Nat.reduceLeDiff, Nat.reduceMul, reduceCtorEq, ↓reduceIte])
      refine e_st1 (off := 1) rfl rfl (k13 (Mod.refl F w7)) rfl (by simp) ?_
      intro w8 hb8 hm8 hs8
      have hb8 : w8.heap[w5.heap.size]? = some (.cells #[I 0, I ns.length, .slice none 0 0] 38 (0, 0)) := hb8
      have m8 := hm8a (Mod.refl F w7) hm8
      have gF8 : GAt w8 a size young old times ns F := gat_mod g7.one hm8 (fun x hx hh => by have := sF x hx; omega)
      (try simp only [go_sem, Nat.reduceAdd, Nat.reduceEqDiff, Nat.reduceLT, Nat.reduceLeDiff, Nat.reduceMul, reduceCtorEq, ↓reduceIte])
      refine e_call (by rfl) ?_
      refine (gtimes_ok w8 a size young old times ns F gF8).mono ?_
      rintro q w9 ⟨rfl, rfl⟩
      (try simp only [go_sem, Nat.reduceAdd, Nat.reduceEqDiff, Nat.reduceLT, Nat.reduceLeDiff, Nat.reduceMul, reduceCtorEq, ↓reduceIte])
      refine e_st1 (off := 0) rfl rfl hb8 rfl (by simp) ?_
      intro w9 hb9 hm9 hs9
      have hb9 : w9.heap[w5.heap.size]? = some (.cells #[I times, I ns.length, .slice none 0 0] 38 (0, 0)) := hb9
      have hm79 : Mod (fun x => x = w5.heap.size) w7 w9 := hm8.trans hm9
      have m9 := hm8a (Mod.refl F w7) hm79
      have gG9 := rG m9
      (try simp only [go_sem, Nat.reduceAdd, Nat.reduceEqDiff, Nat.reduceLT, Nat.reduceLeDiff, Nat.reduceMul, reduceCtorEq, ↓reduceIte])
      refine e_call (by rfl) ?_
      refine (rused_ok w9 r size young old times ns G gG9).mono ?_
      rintro q w10 ⟨rfl, rfl⟩
      (try simp only [go_sem, Nat.reduceAdd, Nat.reduceEqDiff, Nat.reduceLT, Nat.reduceLeDiff, Nat.reduceMul, reduceCtorEq, ↓reduceIte])
      refine e_st1 (off := 1) rfl rfl (k14 (hm8b m9 (Mod.refl G w9))) rfl (by simp) ?_
      intro w10 hb10 hm10 hs10
      have hb10 : w10.heap[w6.heap.size]? = some (.cells #[I 0, I ns.length, .slice none 0 0] 38 (0, 0)) := hb10
      have gG10 : RAt w10 r size young old times ns G := rat_mod gG9 hm10 (fun x hx hh => by have := sG x hx; omega)
      (try simp only [go_sem, Nat.reduceAdd, Nat.reduceEqDiff, Nat.reduceLT, Nat.reduceLeDiff, Nat.reduceMul, reduceCtorEq, ↓reduceIte])
      refine e_call (by rfl) ?_
      refine (rtimes_ok w10 r size young old times ns G gG10).mono ?_
      rintro q w11 ⟨rfl, rfl⟩
      (try simp only [go_sem, Nat.reduceAdd, Nat.reduceEqDiff, Nat.reduceLT, Nat.reduceLeDiff, Nat.reduceMul, reduceCtorEq, ↓reduceIte])
      refine e_st1 (off := 0) rfl rfl hb10 rfl (by simp) ?_
      intro w11 hb11 hm11 hs11
      have hb11 : w11.heap[w6.heap.size]? = some (.cells #[I times, I ns.length, .slice none 0 0] 38 (0, 0)) := hb11
      (try simp only [go_sem, Nat.reduceAdd, Nat.reduceEqDiff, Nat.reduceLT, Nat.reduceLeDiff, Nat.reduceMul, reduceCtorEq, ↓reduceIte])
      exact ⟨_, mid_ok (nd := ⟨times, ns.length, []⟩) g7 l13 l14 (by omega) hn1314 g7.one ⟨Mod.refl _ _, fun x hx => .inl hx⟩ (Own.nil _ _ _) (fun x hx => by cases hx) hm79 hb9 gG9 ⟨Mod.refl _ _, fun x hx => .inl hx⟩ (Own.nil _ _ _) (fun x hx => by cases hx) (hm10.trans hm11) hb11 h.fine g07, rfl⟩
    · (try simp only [go_sem, Nat.reduceAdd, Nat.reduceEqDiff, Nat.reduceLT, Nat.reduceLeDiff, Nat.reduceMul, reduceCtorEq, ↓reduceIte, cell_of hb17])
      refine e_call (by rfl) ?_
      refine (groom_ok w7 a size young old times ns F g7.one ho h.fine.wf hfl hs01 hy01 n _ roots hy7 hyF (by omega)).mono ?_
      intro q w8 hq8
      obtain ⟨v8, f8, F', rfl, o8, n8, a8, g8⟩ := room_list hq8
      obtain ⟨v8a, v8c, rfl, _, _⟩ := o8.val
      (try simp only [go_sem, Nat.reduceAdd, Nat.reduceEqDiff, Nat.reduceLT, Nat.reduceLeDiff, Nat.reduceMul, reduceCtorEq, ↓reduceIte])
      refine e_st1 (off := 2) rfl rfl (k13 g8.1) rfl (by simp) ?_
      intro w9 hb9 hm9 hs9
      have m9 := hm8a g8.1 hm9
      (try simp only [go_sem, Nat.reduceAdd, Nat.reduceEqDiff, Nat.reduceLT, Nat.reduceLeDiff, Nat.reduceMul, reduceCtorEq, ↓reduceIte, cell_of (hop m9)])
      refine e_call (by rfl) ?_
      refine (rroom_ok w9 r size young old times ns G (rG m9) ho h.fine.wf hfl hs01 hy01 n _ roots (hyw m9) hyG (by omega)).mono ?_
      intro q w10 hq10
      obtain ⟨v10, f10, G', rfl, o10, n10, a10, g10⟩ := room_list hq10
      obtain ⟨v10a, v10c, rfl, _, _⟩ := o10.val
      (try simp only [go_sem, Nat.reduceAdd, Nat.reduceEqDiff, Nat.reduceLT, Nat.reduceLeDiff, Nat.reduceMul, reduceCtorEq, ↓reduceIte])
      refine e_st1 (off := 2) rfl rfl (k14 (hm8b m9 g10.1)) rfl (by simp) ?_
      intro w11 hb11 hm11 hs11
      (try simp only [go_sem, Nat.reduceAdd, Nat.reduceEqDiff, Nat.reduceLT, Nat.reduceLeDiff, Nat.reduceMul, reduceCtorEq, ↓reduceIte])
      have hl8 := roomS_len size young old times ns n roots
      exact ⟨_, mid_ok (nd := ⟨0, 0, (groomS size young old times ns n roots).list⟩) g7 l13 l14 (by omega) hn1314 a8 g8 o8 n8 hm9 hb9 a10 g10 o10 n10 hm11 hb11 (fine_room h.fine n roots) (by show (groomS size young old times ns n roots).list.length + 5 ≤ _; omega), rfl⟩
  rintro ρ w8 ⟨err, ⟨old', times', ns', F', G', v13, v14, fp13, fp14, nd', hB8, hb138, hb148, o13, o14, f13, f14, hl13, hm78, nF, nG⟩, r0, r7, r9, r10, r13, r14, r15, r16⟩
  have hnew : ∀ x, w.heap.size ≤ x → x ≠ w5.heap.size → x ≠ w6.heap.size → ¬ ((F x ∨ G x) ∨ x = w5.heap.size ∨ x = w6.heap.size) := fun x h1 h2 h3 hh => by
    rcases hh with (hh | hh) | hh | hh
    · have := sF x hh; omega
    · have := sG x hh; omega
    · exact h2 hh
    · exact h3 hh
  have s8 := hm78.size
  have la2 := lt_of_heap ha2
  have lr3 := lt_of_heap hr3
  have hb18 := hm78.at hb17 (hnew _ (Nat.le_refl _) (by omega) (by omega))
  have ha8 := hm78.at ha7 (hnew _ (by omega) (by omega) (by omega))
  have hr8 := hm78.at hr7 (hnew _ (by omega) (by omega) (by omega))
  have hx8 : Ints w8 (.slice xa nd.args.length xc) nd.args := ints_mod' (hx.mod hm07 (fun _ _ h => h)) hm78 (fun hne x hv hh => by
    have := ints_lt1 hx hne x hv
    rcases hh with hh | hh | hh
    · exact hxB hne x hv (.inr hh)
    · omega
    · omega)
  have hy8 : Ints w8 (.slice ya roots.length yc) roots := ints_mod' (hy.mod hm07 (fun _ _ h => h)) hm78 (fun hne x hv hh => by
    have := ints_lt1 hy hne x hv
    rcases hh with hh | hh | hh
    · exact hyB hne x hv (.inr hh)
    · omega
    · omega)
  (try simp only [go_sem, Nat.reduceAdd, Nat.reduceEqDiff, Nat.reduceLT, Nat.reduceLeDiff, Nat.reduceMul, reduceCtorEq, ↓reduceIte, r0, r7, r9, r10, r13, r14, r15, r16, cell_of hb18])
  refine e_call (by rfl) ?_
  refine (lent_ok _ nd.args w8 hx8).mono ?_
  rintro q w9 ⟨b9, rfl, hb9, hg9, hm9⟩
  (try simp only [go_sem, Nat.reduceAdd, Nat.reduceEqDiff, Nat.reduceLT, Nat.reduceLeDiff, Nat.reduceMul, reduceCtorEq, ↓reduceIte])
  refine e_call (by rfl) ?_
  refine (sameInts_ok _ _ (lentL nd.args) (lentL nd.args) w9 (ints_block (hm9.at ha8 (fun h => h)) (by omega)) (ints_block hb9 (by omega))).mono ?_
  rintro q w10 ⟨rfl, hm10⟩
  have hm810 := hm9.trans hm10
  have hb110 := hm810.at hb18 (fun h => h)
  (try simp only [go_sem, Nat.reduceAdd, Nat.reduceEqDiff, Nat.reduceLT, Nat.reduceLeDiff, Nat.reduceMul, reduceCtorEq, ↓reduceIte, cell_of hb110])
  refine e_call (by rfl) ?_
  refine (lent_ok _ roots w10 (hy8.mod hm810 (fun _ _ h => h))).mono ?_
  rintro q w11 ⟨b11, rfl, hb11, hg11, hm11⟩
  (try simp only [go_sem, Nat.reduceAdd, Nat.reduceEqDiff, Nat.reduceLT, Nat.reduceLeDiff, Nat.reduceMul, reduceCtorEq, ↓reduceIte])
  refine e_call (by rfl) ?_
  refine (sameInts_ok _ _ (lentL roots) (lentL roots) w11 (ints_block ((hm810.trans hm11).at hr8 (fun h => h)) (by omega)) (ints_block hb11 (by omega))).mono ?_
  rintro q w12 ⟨rfl, hm12'⟩
  have hm812 := (hm810.trans hm11).trans hm12'
  (try simp only [go_sem, Nat.reduceAdd, Nat.reduceEqDiff, Nat.reduceLT, Nat.reduceLeDiff, Nat.reduceMul, reduceCtorEq, ↓reduceIte, decide_true])
  refine ir_loop (fun m ρ w' => ∃ k : Nat, m = (lentL nd.args).length - k ∧ k ≤ (lentL nd.args).length ∧ Mod (fun x => x = ba) w12 w' ∧ w'.heap.size = w12.heap.size ∧ (∃ cs : List Value, cs.length = (lentL nd.args).length ∧ w'.heap[ba]? = some (.cells cs.toArray 3 (0, 0))) ∧
    ρ = [(0, .pointer (some ⟨b, 0, none⟩)), (9, .slice (some ⟨ba, 0, none⟩) (lentL nd.args).length (lentL nd.args).length), (10, .slice (some ⟨br, 0, none⟩) (lentL roots).length (lentL roots).length), (13, .pointer (some ⟨w5.heap.size, 0, none⟩)), (14, .pointer (some ⟨w6.heap.size, 0, none⟩)), (15, I err), (16, I err), (17, .bool true), (18, .bool true), (19, I k)]) (lentL nd.args).length
    ⟨0, rfl, Nat.zero_le _, Mod.refl _ _, rfl, ⟨(lentL nd.args).map I, by simp, hm812.at ha8 (fun h => h)⟩, rfl⟩ ?_
  rintro m ρ w13 ⟨k, rfl, hk, hm13, hs13, ⟨cs, hcl, hcs⟩, rfl⟩
  unfold ir9L1
  (try simp only [go_sem, Nat.reduceAdd, Nat.reduceEqDiff, Nat.reduceLT, Nat.reduceLeDiff, Nat.reduceMul, reduceCtorEq, ↓reduceIte])
  refine ir_cond rfl (fun hc => ?_) (fun hc => ?_)
  · have hc' : k < (lentL nd.args).length := by simpa using hc
    have b1 : (0 : Int) ≤ k ∧ (k : Int) < (lentL nd.args).length := by omega
    have hwk : IntKind.i64.wrap ((k : Int) + 1) = ((k + 1 : Nat) : Int) := by rw [wrap_in] <;> omega
    (try simp only [go_sem, Nat.reduceAdd, Nat.reduceEqDiff, Nat.reduceLT, Nat.reduceLeDiff, Nat.reduceMul, reduceCtorEq, ↓reduceIte, Nat.mul_one, Int.toNat_natCast, Int.toNat_zero, Nat.sub_zero, Nat.sub_self, b1])
    refine e_st1 (off := k) rfl rfl hcs rfl (by omega) ?_
    intro w14 hb14' hm14' hs14
    (try simp only [go_sem, Nat.reduceAdd, Nat.reduceEqDiff, Nat.reduceLT, Nat.reduceLeDiff, Nat.reduceMul, reduceCtorEq, ↓reduceIte, hwk])
    refine ⟨_, ?_, k + 1, rfl, hc', hm13.step hm14' (fun x hx _ => hx), by omega, ⟨_, by simp [hcl], hb14'⟩, rfl⟩
    omega
  have hbne : br ≠ ba := by omega
  (try simp only [go_sem, Nat.reduceAdd, Nat.reduceEqDiff, Nat.reduceLT, Nat.reduceLeDiff, Nat.reduceMul, reduceCtorEq, ↓reduceIte])
  refine ir_loop (fun m ρ w' => ∃ k : Nat, m = (lentL roots).length - k ∧ k ≤ (lentL roots).length ∧ Mod (fun x => x = ba ∨ x = br) w12 w' ∧ w'.heap.size = w12.heap.size ∧ (∃ cs : List Value, cs.length = (lentL roots).length ∧ w'.heap[br]? = some (.cells cs.toArray 3 (0, 0))) ∧
    ρ = [(0, .pointer (some ⟨b, 0, none⟩)), (10, .slice (some ⟨br, 0, none⟩) (lentL roots).length (lentL roots).length), (13, .pointer (some ⟨w5.heap.size, 0, none⟩)), (14, .pointer (some ⟨w6.heap.size, 0, none⟩)), (15, I err), (16, I err), (17, .bool true), (18, .bool true), (20, I k)]) (lentL roots).length
    ⟨0, rfl, Nat.zero_le _, hm13.weak (fun x hx => .inl hx), hs13, ⟨(lentL roots).map I, by simp, hm13.at (hm812.at hr8 (fun h => h)) hbne⟩, rfl⟩ ?_
  rintro m ρ w15 ⟨kk, rfl, hkk, hm15, hs15, ⟨cs2, hcl2, hcs2⟩, rfl⟩
  unfold ir9L2
  (try simp only [go_sem, Nat.reduceAdd, Nat.reduceEqDiff, Nat.reduceLT, Nat.reduceLeDiff, Nat.reduceMul, reduceCtorEq, ↓reduceIte])
  refine ir_cond rfl (fun hc => ?_) (fun hc => ?_)
  · have hc' : kk < (lentL roots).length := by simpa using hc
    have b1 : (0 : Int) ≤ kk ∧ (kk : Int) < (lentL roots).length := by omega
    have hwk : IntKind.i64.wrap ((kk : Int) + 1) = ((kk + 1 : Nat) : Int) := by rw [wrap_in] <;> omega
    (try simp only [go_sem, Nat.reduceAdd, Nat.reduceEqDiff, Nat.reduceLT, Nat.reduceLeDiff, Nat.reduceMul, reduceCtorEq, ↓reduceIte, Nat.mul_one, Int.toNat_natCast, Int.toNat_zero, Nat.sub_zero, Nat.sub_self, b1])
    refine e_st1 (off := kk) rfl rfl hcs2 rfl (by omega) ?_
    intro w14 hb14' hm14' hs14
    (try simp only [go_sem, Nat.reduceAdd, Nat.reduceEqDiff, Nat.reduceLT, Nat.reduceLeDiff, Nat.reduceMul, reduceCtorEq, ↓reduceIte, hwk])
    refine ⟨_, ?_, kk + 1, rfl, hc', hm15.step hm14' (fun x hx _ => .inr hx), by omega, ⟨_, by simp [hcl2], hb14'⟩, rfl⟩
    omega
  have s12 := hm812.size
  have hS : ∀ x, (x = ba ∨ x = br) → w.heap.size ≤ x ∧ x < w3.heap.size := fun x hx => by rcases hx with rfl | rfl <;> omega
  have hm815 : Mod (fun x => x = ba ∨ x = br) w8 w15 := (hm812.weak (fun _ h => h.elim)).trans hm15
  have hF8 : ∀ x, F' x → ¬ (x = ba ∨ x = br) := fun x hx hh => by
    have h1 := hS x hh
    rcases nF x hx with h2 | h2
    · have := sF x h2; omega
    · omega
  have hG8 : ∀ x, G' x → ¬ (x = ba ∨ x = br) := fun x hx hh => by
    have h1 := hS x hh
    rcases nG x hx with h2 | h2
    · have := sG x h2; omega
    · omega
  have hB15 := hB8.mod hm815 (fun x hx hh => by have := hS x hh; have := sB x hx; omega) hF8 hG8
  have o1315 := o13.mod hm815 (fun x hx hh => by have := hS x hh; have := (f13 x hx).1; omega)
  have o14f : ∀ x, fp14 = some x → ¬ (x = ba ∨ x = br) := fun x hx hh => by
    have := hS x hh
    have := f14 x hx
    omega
  have o1415 := o14.mod hm815 o14f
  have hb1315 := hm815.at hb138 (fun hh => by have := hS _ hh; omega)
  have hb1415 := hm815.at hb148 (fun hh => by have := hS _ hh; omega)
  obtain ⟨va13, vc13, rfl, _, _⟩ := o13.val
  obtain ⟨va14, vc14, rfl, _, _⟩ := o14.val
  (try simp only [go_sem, Nat.reduceAdd, Nat.reduceEqDiff, Nat.reduceLT, Nat.reduceLeDiff, Nat.reduceMul, reduceCtorEq, ↓reduceIte, ln_of hb1315 (off := 0) (n := 3) (by simp), ln_of hb1415 (off := 0) (n := 3) (by simp)])
  refine e_call (by rfl) ?_
  refine (same_ok nd' nd' _ _ w15 (o1315.ints (by omega)).1 (o1415.ints (by omega)).1).mono ?_
  rintro q w16 ⟨rfl, hm16⟩
  have heq : nd'.eqB nd' = true := by simp [Nd.eqB]
  rw [heq]
  have hb1316 := hm16.at hb1315 (fun h => h)
  have hB16 := hB15.mod hm16 (fun _ _ h => h) (fun _ _ h => h) (fun _ _ h => h)
  have o1316 := o1315.mod hm16 (fun _ _ h => h)
  (try simp only [go_sem, Nat.reduceAdd, Nat.reduceEqDiff, Nat.reduceLT, Nat.reduceLeDiff, Nat.reduceMul, reduceCtorEq, ↓reduceIte, cell_of hb1316])
  refine e_call (by rfl) ?_
  refine (both_keep hB16 o1316 (fun x hx hb => by have := (f13 x hx).1; have := sB x hb; omega) (fun x hx => (f13 x hx).2.1) (fun x hx => (f13 x hx).2.2) hl13 he).mono ?_
  rintro _ w17 ⟨e, B', hB17, hm17, hn17⟩
  have e1 : (err == err) = true := by simp
  (try simp only [go_sem, Nat.reduceAdd, Nat.reduceEqDiff, Nat.reduceLT, Nat.reduceLeDiff, Nat.reduceMul, reduceCtorEq, ↓reduceIte, e1])
  have s16 := hm16.size
  have s815 := hm815.size
  refine ⟨rfl, es ++ [e], old', times', ns', B', F', G', hB17, by simp, ?_, fun x hx => ?_, fun x hx => (nF x hx).imp (fun h => h) (fun h => by omega), fun x hx => (nG x hx).imp (fun h => h) (fun h => by omega)⟩
  · refine (((((hm07.weak (S' := fun x => B x ∨ F x ∨ G x) (fun _ h => h.elim)).step hm78 (fun x hx hlt => ?_)).step hm815 (fun x hx hlt => by have := hS x hx; omega)).step hm16 (fun _ h _ => h.elim))).step hm17 (fun x hx hlt => ?_)
    · rcases hx with hx | hx | hx
      · exact .inr hx
      · omega
      · omega
    · rcases hx with hx | hx
      · exact .inl hx
      · have := (f13 x hx).1; omega
  · rcases hn17 x hx with h1 | h1 | h1
    · exact .inl h1
    · have := (f13 x h1).1; exact .inr (by omega)
    · exact .inr (by omega)
end Go.Proofs.Ytnimaifmcejkcaa
end

section
set_option linter.unusedSimpArgs false
set_option linter.unusedVariables false
set_option maxRecDepth 100000
namespace Go.Proofs.Ytnimaifmcejkcaa
open Go Go.W

theorem ints_nil0 (w : World) : Ints w (.slice none 0 0) [] := ⟨none, 0, rfl, by simp, fun i hi => by cases hi⟩
def aw1 : List Nd := [⟨1, 7, []⟩]
def aw2 : List Nd := [⟨1, 7, []⟩, ⟨2, 4, [0, 0]⟩]
def aw3 : List Nd := [⟨2, 4, [1, 1]⟩, ⟨1, 7, []⟩]
theorem aw_1 : gaddS 6 [] ⟨1, 7, []⟩ = (0, 0, aw1) := rfl
theorem aw_2 : gaddS 6 aw1 ⟨2, 4, [0, 0]⟩ = (1, 0, aw2) := rfl
theorem aw_3 : groomS 6 2 0 0 aw2 1 [1] = ⟨some [0], 0, aw3, 2, 1⟩ := rfl
theorem aw_4 : ggetS aw3 0 = (⟨2, 4, [1, 1]⟩, 0) := rfl

theorem aw_step {w w1 w2 : World} {F F' : Nat → Prop} (m : Mod (fun _ => False) w w1) (f : ∀ x, F x → w.heap.size ≤ x) (g : Grow F F' w1 w2) : Mod (fun _ => False) w w2 ∧ ∀ x, F' x → w.heap.size ≤ x :=
  ⟨m.step g.1 (fun x hx hlt => by have := f x hx; omega), fun x hx => (g.2 x hx).elim (f x) (fun h => by have := m.size; omega)⟩

theorem awake_ok (w : World) : CallsR Try.prog 6 [] w fun q w' => q = .bool true ∧ Mod (fun _ => False) w w' := by
  refine fit6.calls rfl ?_
  unfold ir6
  (try simp only [go_sem, Nat.reduceAdd, Nat.reduceEqDiff, Nat.reduceLT, Nat.reduceLeDiff, Nat.reduceMul, reduceCtorEq, ↓reduceIte])
  refine e_call (by rfl) ?_
  refine (gnew_ok 6 2 w).mono ?_
  rintro q w1 ⟨k1, _⟩
  obtain ⟨a, F1, rfl, a1, m1, f1⟩ := k1 (by decide)
  have e0 : ((0 : Int) != 0) = false := rfl
  (try simp only [go_sem, Nat.reduceAdd, Nat.reduceEqDiff, Nat.reduceLT, Nat.reduceLeDiff, Nat.reduceMul, reduceCtorEq, ↓reduceIte, e0, Option.isNone_some])
  have h0 : Fine 6 2 0 [] := fine_new (by decide)
  refine e_call (by rfl) ?_
  refine (gadd_ok w1 a 6 2 0 0 [] ⟨1, 7, []⟩ _ F1 a1 (by decide) (by decide) (ints_nil0 _)).mono ?_
  rw [aw_1]
  rintro q w2 ⟨rfl, F2, a2, g2⟩
  have h1 : Fine 6 2 0 aw1 := fine_add h0 ⟨1, 7, []⟩
  obtain ⟨m2, f2⟩ := aw_step m1 f1 g2
  (try simp only [go_sem, Nat.reduceAdd, Nat.reduceEqDiff, Nat.reduceLT, Nat.reduceLeDiff, Nat.reduceMul, reduceCtorEq, ↓reduceIte])
  refine e_bs (by rfl) (by (try simp only [go_sem, Nat.reduceAdd, Nat.reduceEqDiff, Nat.reduceLT, Nat.reduceLeDiff, Nat.reduceMul, reduceCtorEq, ↓reduceIte]); rfl) ?_
  intro w3 hb3 hm3 hs3
  have a3 := gat_mod a2 hm3 (fun _ _ h => h)
  (try simp only [go_sem, Nat.reduceAdd, Nat.reduceEqDiff, Nat.reduceLT, Nat.reduceLeDiff, Nat.reduceMul, reduceCtorEq, ↓reduceIte])
  refine e_call (by rfl) ?_
  refine (gadd_ok w3 a 6 2 0 0 aw1 ⟨2, 4, [0, 0]⟩ _ F2 a3 (by decide) (by decide) (ints_block (xs := [0, 0]) hb3 (by simp))).mono ?_
  rw [aw_2]
  rintro q w4 ⟨rfl, F4, a4, g4⟩
  have h2 : Fine 6 2 0 aw2 := fine_add h1 ⟨2, 4, [0, 0]⟩
  obtain ⟨m4, f4⟩ := aw_step (m2.trans hm3) f2 g4
  have lF4 := gat_lt a4
  (try simp only [go_sem, Nat.reduceAdd, Nat.reduceEqDiff, Nat.reduceLT, Nat.reduceLeDiff, Nat.reduceMul, reduceCtorEq, ↓reduceIte])
  refine e_bs (by rfl) (by (try simp only [go_sem, Nat.reduceAdd, Nat.reduceEqDiff, Nat.reduceLT, Nat.reduceLeDiff, Nat.reduceMul, reduceCtorEq, ↓reduceIte]); rfl) ?_
  intro w5 hb5 hm5 hs5
  have a5 := gat_mod a4 hm5 (fun _ _ h => h)
  (try simp only [go_sem, Nat.reduceAdd, Nat.reduceEqDiff, Nat.reduceLT, Nat.reduceLeDiff, Nat.reduceMul, reduceCtorEq, ↓reduceIte])
  refine e_call (by rfl) ?_
  refine (groom_ok w5 a 6 2 0 0 aw2 F4 a5 h2.old h2.wf h2.len (by decide) (by decide) 1 _ [1] (ints_block (xs := [1]) hb5 (by simp)) (fun _ x hx hh => by
    simp only [vblk, Option.some.injEq] at hx
    have := lF4 x hh; omega) (by simp)).mono ?_
  rw [aw_3]
  intro q w6 k6
  obtain ⟨v6, fp6, F6, rfl, o6, n6, a6, g6⟩ := room_list k6
  obtain ⟨m6, f6⟩ := aw_step (m4.trans hm5) f4 g6
  obtain ⟨b6, c6, cs6, rfl, _, hb6, _, hcs6, _⟩ := own_set (xs := [0]) (n := 1) o6 (i := 0) (by omega)
  have hc6 := hcs6 0 0 rfl
  have hcell6 : w6.cell? ⟨b6, 0, none⟩ = some (I 0) := by rw [cell_of hb6, List.getElem?_toArray]; exact hc6
  (try simp only [go_sem, Nat.reduceAdd, Nat.reduceEqDiff, Nat.reduceLT, Nat.reduceLeDiff, Nat.reduceMul, reduceCtorEq, ↓reduceIte])
  refine e_call (by rfl) ?_
  refine (gget_ok w6 a 6 2 2 1 aw3 0 F6 a6 (by decide)).mono ?_
  rintro q w7 ⟨hm7, v7, f7, rfl, o7, n7⟩
  rw [aw_4] at o7
  obtain ⟨b7, c7, cs7, rfl, _, hb7, _, hcs7, _⟩ := own_set (xs := [1, 1]) (n := 2) o7 (i := 0) (by omega)
  have hc7 := hcs7 0 1 rfl
  have hcell7 : w7.cell? ⟨b7, 0, none⟩ = some (I 1) := by rw [cell_of hb7, List.getElem?_toArray]; exact hc7
  rw [aw_4]
  (try simp only [go_sem, Nat.reduceAdd, Nat.reduceEqDiff, Nat.reduceLT, Nat.reduceLeDiff, Nat.reduceMul, reduceCtorEq, ↓reduceIte])
  refine e_al ?_
  intro w8 hb8 hm8 hs8
  have hb8 : w8.heap[w7.heap.size]? = some (.cells #[I 0, I 0, .slice none 0 0] 38 (0, 0)) := hb8
  (try simp only [go_sem, Nat.reduceAdd, Nat.reduceEqDiff, Nat.reduceLT, Nat.reduceLeDiff, Nat.reduceMul, reduceCtorEq, ↓reduceIte])
  refine e_sta rfl rfl hb8 rfl rfl (by simp [Value.oneCell']) ?_
  intro w9 hb9 hm9 hs9
  have hm79 : Mod (fun _ => False) w7 w9 := hm8.step hm9 (fun x hx hlt => by omega)
  have q6 := hm79.cell (hm7.cell hcell6 (fun h => h)) (fun h => h)
  have q7 := hm79.cell hcell7 (fun h => h)
  have e1 : ((0 : Int) == 0) = true := rfl
  have e2 : ((1 : Int) == 1) = true := rfl
  have e3 : ((2 : Int) == 2) = true := rfl
  have b1 : (0 : Int) ≤ 0 ∧ (0 : Int) < ((1 : Nat) : Int) := by omega
  have b2 : (0 : Int) ≤ 0 ∧ (0 : Int) < ((2 : Nat) : Int) := by omega
  have e4 : (((1 : Nat) : Int) == 1) = true := rfl
  have e5 : (((2 : Nat) : Int) == 2) = true := rfl
  (try simp only [go_sem, Nat.reduceAdd, Nat.reduceEqDiff, Nat.reduceLT, Nat.reduceLeDiff, Nat.reduceMul, reduceCtorEq, ↓reduceIte, Nat.mul_one, Int.toNat_natCast, Int.toNat_zero, Nat.sub_zero, Nat.sub_self, e1, e2, e3, e4, e5, b1, b2, q6, q7, cell_of hb9])
  exact (m6.trans hm7).trans hm79
end Go.Proofs.Ytnimaifmcejkcaa
end

section
set_option linter.unusedSimpArgs false
set_option linter.unusedVariables false
set_option maxRecDepth 100000
namespace Go.Proofs.Ytnimaifmcejkcaa
open Go Go.W

/-- A script's call, as it lies. -/
structure OpV where
  cl : Int
  n : Int
  nd : Nd
  roots : List Int
  av : Value
  rv : Value
def OpV.cells (o : OpV) : List Value := [I o.cl, I o.n, I o.nd.kind, I o.nd.num, o.av, o.rv]
def OpV.reads (w : World) (o : OpV) : Prop := Ints w o.av o.nd.args ∧ Ints w o.rv o.roots ∧ o.nd.args.length + 5 ≤ 17592186044416 ∧ o.roots.length + 5 ≤ 17592186044416
def Ops (w : World) (v : Value) (os : List OpV) : Prop :=
  ∃ a c, v = .slice a os.length c ∧ os.length ≤ 1759218604390 ∧ ∀ i (h : i < os.length), ∃ ad, a = some ad ∧ (∀ k, k < 6 → w.cell? ((ad.add (i * 6)).add k) = os[i].cells[k]?) ∧ os[i].reads w
theorem ops_mod {w w' : World} {v : Value} {os : List OpV} (h : Ops w v os) (hm : Mod (fun _ => False) w w') : Ops w' v os := by
  obtain ⟨a, c, rfl, hl, hx⟩ := h
  refine ⟨a, c, rfl, hl, fun i hi => ?_⟩
  obtain ⟨ad, rfl, h1, h2, h3, h4⟩ := hx i hi
  refine ⟨ad, rfl, fun k hk => ?_, h2.mod hm (fun _ _ h => h), h3.mod hm (fun _ _ h => h), h4⟩
  obtain ⟨u, hu⟩ : ∃ u, os[i].cells[k]? = some u := ⟨os[i].cells[k]'(by simpa [OpV.cells] using hk), List.getElem?_eq_getElem _⟩
  rw [hu]
  exact hm.cell ((h1 k hk).trans hu) (fun h => h)
theorem ln6 {w : World} {ad : Addr} {o : OpV} (h : ∀ k, k < 6 → w.cell? (ad.add k) = o.cells[k]?) : vLN w 6 (.pointer (some ad)) = some (.agg #[I o.cl, I o.n, I o.nd.kind, I o.nd.num, o.av, o.rv]) := by
  have h0 := h 0 (by omega)
  have h1 := h 1 (by omega)
  have h2 := h 2 (by omega)
  have h3 := h 3 (by omega)
  have h4 := h 4 (by omega)
  have h5 := h 5 (by omega)
  simp only [OpV.cells, List.getElem?_cons_zero, List.getElem?_cons_succ] at h0 h1 h2 h3 h4 h5
  simp [vLN, cellsFrom, h0, h1, h2, h3, h4, h5]

/-- Two arenas that are one plain arena, or none. -/
def Pair (w : World) (va vx : Value) (size young : Int) (F G : Nat → Prop) : Prop :=
  (va = .pointer none ∧ vx = .pointer none) ∨ ∃ a r old times ns, va = .pointer (some ⟨a, 0, none⟩) ∧ vx = .pointer (some ⟨r, 0, none⟩) ∧ GAt w a size young old times ns F ∧ RAt w r size young old times ns G ∧ Fine size young old ns ∧ ∀ x, F x → ¬ G x
theorem pair_mod {w w' : World} {va vx : Value} {size young : Int} {F G S : Nat → Prop} (h : Pair w va vx size young F G) (hm : Mod S w w') (hF : ∀ x, F x ∨ G x → ¬ S x) : Pair w' va vx size young F G := by
  rcases h with h | ⟨a, r, old, times, ns, rfl, rfl, h1, h2, h3, h4⟩
  · exact .inl h
  · exact .inr ⟨a, r, old, times, ns, rfl, rfl, gat_mod h1 hm (fun x hx => hF x (.inl hx)), rat_mod h2 hm (fun x hx => hF x (.inr hx)), h3, h4⟩

/-- All that the script plays with. -/
structure All (w : World) (b : Nat) (es : List BE) (B : Nat → Prop) (v1 u1 : Value) (s1 y1 : Int) (F1 G1 : Nat → Prop) (v2 u2 : Value) (s2 y2 : Int) (F2 G2 : Nat → Prop) : Prop where
  book : BookAt w b es B
  one : Pair w v1 u1 s1 y1 F1 G1
  two : Pair w v2 u2 s2 y2 F2 G2
  b1 : ∀ x, B x → ¬ (F1 x ∨ G1 x)
  b2 : ∀ x, B x → ¬ (F2 x ∨ G2 x)
  f12 : ∀ x, F1 x ∨ G1 x → ¬ (F2 x ∨ G2 x)
  old1 : ∀ x, F1 x ∨ G1 x → x < w.heap.size
  old2 : ∀ x, F2 x ∨ G2 x → x < w.heap.size
  small : ∀ e ∈ es, e.n ≤ 17592186044416
theorem all_swap {w : World} {b : Nat} {es : List BE} {B : Nat → Prop} {v1 u1 : Value} {s1 y1 : Int} {F1 G1 : Nat → Prop} {v2 u2 : Value} {s2 y2 : Int} {F2 G2 : Nat → Prop} (h : All w b es B v1 u1 s1 y1 F1 G1 v2 u2 s2 y2 F2 G2) : All w b es B v2 u2 s2 y2 F2 G2 v1 u1 s1 y1 F1 G1 :=
  ⟨h.book, h.two, h.one, h.b2, h.b1, fun x hx hh => h.f12 x hh hx, h.old2, h.old1, h.small⟩

/-- What a call of the script leaves behind: of what was there, what is not of the play is as it was. -/
def Played (w : World) (b : Nat) (es : List BE) (B : Nat → Prop) (v1 u1 : Value) (s1 y1 : Int) (F1 G1 : Nat → Prop) (v2 u2 : Value) (s2 y2 : Int) (F2 G2 : Nat → Prop) (w' : World) : Prop :=
  ∃ es' B' F1' G1' F2' G2', All w' b es' B' v1 u1 s1 y1 F1' G1' v2 u2 s2 y2 F2' G2' ∧ es'.length ≤ es.length + 1 ∧ Mod (fun x => B x ∨ (F1 x ∨ G1 x) ∨ (F2 x ∨ G2 x)) w w' ∧
    ∀ x, B' x ∨ (F1' x ∨ G1' x) ∨ (F2' x ∨ G2' x) → (B x ∨ (F1 x ∨ G1 x) ∨ (F2 x ∨ G2 x)) ∨ w.heap.size ≤ x

theorem plays_one {w : World} {b : Nat} {es : List BE} {B : Nat → Prop} {v1 u1 : Value} {s1 y1 : Int} {F1 G1 : Nat → Prop} {v2 u2 : Value} {s2 y2 : Int} {F2 G2 : Nat → Prop} (h : All w b es B v1 u1 s1 y1 F1 G1 v2 u2 s2 y2 F2 G2) (hu : u1 ≠ .pointer none)
    (o : OpV) (ho : o.reads w) (hfar : ∀ v, (v = o.av ∧ o.nd.args ≠ []) ∨ (v = o.rv ∧ o.roots ≠ []) → ∀ x, vblk v = some x → ¬ (B x ∨ (F1 x ∨ G1 x) ∨ (F2 x ∨ G2 x))) (he : es.length + 1 ≤ 4398046511104) :
    CallsR Try.prog 9 [.pointer (some ⟨b, 0, none⟩), v1, u1, .agg #[I o.cl, I o.n, I o.nd.kind, I o.nd.num, o.av, o.rv]] w fun q w' => q = .bool true ∧ Played w b es B v1 u1 s1 y1 F1 G1 v2 u2 s2 y2 F2 G2 w' := by
  obtain ⟨hbk, h1, h2, hb1, hb2, hf, ho1, ho2, hsm⟩ := h
  rcases h1 with ⟨_, h1⟩ | ⟨a, r, old, times, ns, rfl, rfl, k1, k2, k3, k4⟩
  · exact absurd h1 hu
  have hB : Both w b a r es s1 y1 old times ns B F1 G1 := ⟨hbk, k1, k2, k3, fun x hx hh => hb1 x hx (.inl hh), fun x hx hh => hb1 x hx (.inr hh), k4, hsm⟩
  have hsz := hB.size
  obtain ⟨r1, r2, r3, r4⟩ := ho
  refine (step_ok w b a r es s1 y1 old times ns B F1 G1 hB o.cl o.n o.nd o.av o.rv o.roots r1 r2 (fun hne x hx hh => hfar _ (.inl ⟨rfl, hne⟩) x hx (by rcases hh with hh | hh | hh; exact .inl hh; exact .inr (.inl (.inl hh)); exact .inr (.inl (.inr hh))))
    (fun hne x hx hh => hfar _ (.inr ⟨rfl, hne⟩) x hx (by rcases hh with hh | hh | hh; exact .inl hh; exact .inr (.inl (.inl hh)); exact .inr (.inl (.inr hh)))) r3 r4 he).mono ?_
  rintro q w' ⟨rfl, es', old', times', ns', B', F', G', j1, hl, j2, j3, j4, j5⟩
  refine ⟨rfl, es', B', F', G', F2, G2, ?_, hl, j2.weak (fun x hx => by rcases hx with hx | hx | hx; exact .inl hx; exact .inr (.inl (.inl hx)); exact .inr (.inl (.inr hx))), fun x hx => ?_⟩
  · have old : ∀ x, F2 x ∨ G2 x → ¬ (B x ∨ F1 x ∨ G1 x) := fun x hx hh => by
      rcases hh with hh | hh
      · exact hb2 x hh hx
      · exact hf x hh hx
    obtain ⟨z1, z2, z3⟩ := j1.size
    refine ⟨j1.book, .inr ⟨a, r, old', times', ns', rfl, rfl, j1.one, j1.two, j1.fine, j1.fg⟩, pair_mod h2 j2 old, fun x hx hh => hh.elim (j1.bf x hx) (j1.bg x hx), fun x hx hh => ?_, fun x hx hh => ?_, fun x hx => hx.elim (z2 x) (z3 x), fun x hx => Nat.lt_of_lt_of_le (ho2 x hx) j2.size, j1.small⟩
    · rcases j3 x hx with h | h
      · exact hb2 x h hh
      · have := ho2 x hh; omega
    · rcases hx with hx | hx
      · rcases j4 x hx with h | h
        · exact hf x (.inl h) hh
        · have := ho2 x hh; omega
      · rcases j5 x hx with h | h
        · exact hf x (.inr h) hh
        · have := ho2 x hh; omega
  · rcases hx with hx | (hx | hx) | hx
    · exact (j3 x hx).imp .inl (fun h => h)
    · exact (j4 x hx).imp (fun h => .inr (.inl (.inl h))) (fun h => h)
    · exact (j5 x hx).imp (fun h => .inr (.inl (.inr h))) (fun h => h)
    · exact .inl (.inr (.inr hx))
theorem played_swap {w : World} {b : Nat} {es : List BE} {B : Nat → Prop} {v1 u1 : Value} {s1 y1 : Int} {F1 G1 : Nat → Prop} {v2 u2 : Value} {s2 y2 : Int} {F2 G2 : Nat → Prop} {w' : World} (h : Played w b es B v1 u1 s1 y1 F1 G1 v2 u2 s2 y2 F2 G2 w') : Played w b es B v2 u2 s2 y2 F2 G2 v1 u1 s1 y1 F1 G1 w' := by
  obtain ⟨es', B', F1', G1', F2', G2', h1, h2, h3, h4⟩ := h
  refine ⟨es', B', F2', G2', F1', G1', all_swap h1, h2, h3.weak (fun x hx => by rcases hx with h | h | h; exact .inl h; exact .inr (.inr h); exact .inr (.inl h)), fun x hx => ?_⟩
  have := h4 x (by rcases hx with h | h | h; exact .inl h; exact .inr (.inr h); exact .inr (.inl h))
  exact this.imp (fun hx => by rcases hx with h | h | h; exact .inl h; exact .inr (.inr h); exact .inr (.inl h)) (fun h => h)

theorem new_pr {At : World → Nat → Int → Int → Nat → Int → List Nd → (Nat → Prop) → Prop} {w w' : World} {size young : Int} {r : Value} (h : (1 ≤ size ∧ size ≤ 1048576 ∧ 1 ≤ young ∧ young ≤ size → ∃ a F, r = .tuple #[.pointer (some ⟨a, 0, none⟩), I 0] ∧ At w' a size young 0 0 [] F ∧ Mod (fun _ => False) w w' ∧ (∀ x, F x → w.heap.size ≤ x)) ∧
      (¬ (1 ≤ size ∧ size ≤ 1048576 ∧ 1 ≤ young ∧ young ≤ size) → r = .tuple #[.pointer none, I 210] ∧ w = w')) :
    ∃ pa F, r = .tuple #[.pointer pa, I (if 1 ≤ size ∧ size ≤ 1048576 ∧ 1 ≤ young ∧ young ≤ size then 0 else 210)] ∧ Mod (fun _ => False) w w' ∧ (1 ≤ size ∧ size ≤ 1048576 ∧ 1 ≤ young ∧ young ≤ size → ∃ a, pa = some ⟨a, 0, none⟩ ∧ At w' a size young 0 0 [] F ∧ ∀ x, F x → w.heap.size ≤ x) ∧ (¬ (1 ≤ size ∧ size ≤ 1048576 ∧ 1 ≤ young ∧ young ≤ size) → pa = none) := by
  by_cases g : 1 ≤ size ∧ size ≤ 1048576 ∧ 1 ≤ young ∧ young ≤ size
  · obtain ⟨a, F, rfl, h2, h3, h4⟩ := h.1 g
    exact ⟨_, F, by rw [if_pos g], h3, fun _ => ⟨a, rfl, h2, h4⟩, fun hh => absurd g hh⟩
  · obtain ⟨rfl, rfl⟩ := h.2 g
    exact ⟨_, fun _ => False, by rw [if_neg g], Mod.refl _ _, fun hh => absurd hh g, fun _ => rfl⟩

/-- Fresh arenas, or none. -/
theorem new_pair {w0 w1 w2 w3 w4 : World} {size young : Int} {pa px : Option Addr} {F G : Nat → Prop} (h1 : 1 ≤ size ∧ size ≤ 1048576 ∧ 1 ≤ young ∧ young ≤ size → ∃ a, pa = some ⟨a, 0, none⟩ ∧ GAt w1 a size young 0 0 [] F ∧ ∀ x, F x → w0.heap.size ≤ x) (n1 : ¬ (1 ≤ size ∧ size ≤ 1048576 ∧ 1 ≤ young ∧ young ≤ size) → pa = none)
    (h2 : 1 ≤ size ∧ size ≤ 1048576 ∧ 1 ≤ young ∧ young ≤ size → ∃ r, px = some ⟨r, 0, none⟩ ∧ RAt w3 r size young 0 0 [] G ∧ ∀ x, G x → w2.heap.size ≤ x) (n2 : ¬ (1 ≤ size ∧ size ≤ 1048576 ∧ 1 ≤ young ∧ young ≤ size) → px = none)
    (m12 : Mod (fun _ => False) w1 w2) (m23 : Mod (fun _ => False) w2 w3) (m34 : Mod (fun _ => False) w3 w4) :
    ∃ F G, Pair w4 (.pointer pa) (.pointer px) size young F G ∧ (∀ x, F x → w0.heap.size ≤ x ∧ x < w1.heap.size) ∧ ∀ x, G x → w2.heap.size ≤ x ∧ x < w3.heap.size := by
  by_cases g : 1 ≤ size ∧ size ≤ 1048576 ∧ 1 ≤ young ∧ young ≤ size
  · obtain ⟨a, rfl, a1, s1⟩ := h1 g
    obtain ⟨r, rfl, a2, s2⟩ := h2 g
    have := m12.size
    have l1 := gat_lt a1
    have l2 := rat_lt a2
    refine ⟨F, G, .inr ⟨_, _, 0, 0, [], rfl, rfl, gat_mod (gat_mod (gat_mod a1 m12 (fun _ _ h => h)) m23 (fun _ _ h => h)) m34 (fun _ _ h => h), rat_mod a2 m34 (fun _ _ h => h), fine_new g, fun x hx hh => by have := l1 x hx; have := s2 x hh; omega⟩, fun x hx => ⟨s1 x hx, l1 x hx⟩, fun x hx => ⟨s2 x hx, l2 x hx⟩⟩
  · exact ⟨fun _ => False, fun _ => False, .inl ⟨by rw [n1 g], by rw [n2 g]⟩, fun _ h => h.elim, fun _ h => h.elim⟩
end Go.Proofs.Ytnimaifmcejkcaa
end
