/- Heap, the laws: the book: keep. -/
import Derived.Test.YtnagmcdlepcgnaaL2
set_option linter.unusedSimpArgs false
set_option linter.unusedVariables false
namespace Go.Proofs.Ytnagmcdlepcgnaa
open Go Go.W

/-- A list that came out: full of its mark. -/
structure BE where
  m : Int
  n : Nat
  v : Value
  fp : Option Nat
def BookAt (w : World) (b : Nat) (es : List BE) (B : Nat → Prop) : Prop :=
  ∃ lv mv fpl fpm, w.heap[b]? = some (.cells #[lv, mv] 50 (0, 0)) ∧ Own w 23 1 lv (es.map BE.v) es.length fpl ∧ Own w 3 1 mv (es.map (fun e => I e.m)) es.length fpm ∧
    (∀ e ∈ es, Own w 3 1 e.v (List.replicate e.n (I e.m)) e.n e.fp ∧ ∀ x, e.fp = some x → fpm ≠ some x ∧ B x) ∧ B b ∧ (∀ x, fpl = some x → B x) ∧ (∀ x, fpm = some x → B x) ∧ ∀ x, B x → x < w.heap.size
theorem BookAt.mod {w w' : World} {b : Nat} {es : List BE} {B S : Nat → Prop} (h : BookAt w b es B) (hm : Mod S w w') (hd : ∀ x, B x → ¬ S x) : BookAt w' b es B := by
  obtain ⟨lv, mv, fpl, fpm, h1, h2, h3, h4, h5, h6, h7, h8⟩ := h
  exact ⟨lv, mv, fpl, fpm, hm.at h1 (hd b h5), h2.mod hm (fun x hx => hd x (h6 x hx)), h3.mod hm (fun x hx => hd x (h7 x hx)), fun e he => ⟨(h4 e he).1.mod hm (fun x hx => hd x ((h4 e he).2 x hx).2), (h4 e he).2⟩,
    h5, h6, h7, fun x hx => Nat.lt_of_lt_of_le (h8 x hx) hm.size⟩

theorem keep_ok (w : World) (b : Nat) (es : List BE) (B : Nat → Prop) (v : Value) (xs : List Int) (n : Nat) (fp : Option Nat) (h : BookAt w b es B) (ho : Own w 3 1 v (xs.map I) n fp) (hfp : ∀ x, fp = some x → ¬ B x) (hn : n + 2 ≤ 17592186044416) (he : es.length + 1 ≤ 4398046511104) :
    CallsR Try.prog 28 [.pointer (some ⟨b, 0, none⟩), v] w fun r w' => ∃ e B', BookAt w' b (es ++ [e]) B' ∧ Mod (fun x => B x ∨ fp = some x) w w' ∧ (∀ x, B' x → B x ∨ fp = some x ∨ w.heap.size ≤ x) ∧ e.n ≤ 17592186044416 := by
  obtain ⟨lv, mv, fpl, fpm, h1, h2, h3, h4, h5, h6, h7, h8⟩ := h
  obtain ⟨la, lc, rfl, _, _⟩ := h2.val
  obtain ⟨va, vc, rfl, _, _⟩ := ho.val
  have hxn : xs.length = n := by have := ho.1; simpa using this
  refine fit28.calls rfl ?_
  unfold ir28
  have hwm : IntKind.i64.wrap (-100 - (es.length : Int)) = -100 - es.length := by rw [wrap_in] <;> omega
  generalize hM : (-100 - (es.length : Int)) = M at hwm
  (try simp only [go_sem, Nat.reduceAdd, Nat.reduceEqDiff, Nat.reduceLT, Nat.reduceLeDiff, Nat.reduceMul, Nat.zero_add, reduceCtorEq, ↓reduceIte, List.length_cons, List.length_nil, List.set_cons_zero, List.set_cons_succ, List.take_zero, List.take_succ_cons, List.drop_zero, List.drop_succ_cons, List.take_nil, List.drop_nil, List.nil_append, List.cons_append, List.append_nil, or_false, false_or, or_true, true_or, false_implies, true_implies, and_true, true_and, and_self, Bool.and_true, Bool.true_and, cell_of h1, hM, hwm])
  refine ir_loop (fun m ρ w' => ∃ k : Nat, m = n - k ∧ k ≤ n ∧ Mod (fun x => fp = some x) w w' ∧ Own w' 3 1 (.slice va n vc) (List.replicate k (I M) ++ (xs.drop k).map I) n fp ∧
    ρ = [(0, .pointer (some ⟨b, 0, none⟩)), (1, .slice va n vc), (4, I M), (5, I k)]) n ⟨0, rfl, Nat.zero_le _, Mod.refl _ _, by simpa using ho, rfl⟩ ?_
  rintro m ρ w1 ⟨k, rfl, hk, hm1, ho1, rfl⟩
  unfold ir28L1
  (try simp only [go_sem, Nat.reduceAdd, Nat.reduceEqDiff, Nat.reduceLT, Nat.reduceLeDiff, Nat.reduceMul, Nat.zero_add, reduceCtorEq, ↓reduceIte, List.length_cons, List.length_nil, List.set_cons_zero, List.set_cons_succ, List.take_zero, List.take_succ_cons, List.drop_zero, List.drop_succ_cons, List.take_nil, List.drop_nil, List.nil_append, List.cons_append, List.append_nil, or_false, false_or, or_true, true_or, false_implies, true_implies, and_true, true_and, and_self, Bool.and_true, Bool.true_and])
  refine ir_cond rfl (fun hkl => ?_) (fun hkl => ?_)
  · have hkl' : k < n := by simpa using hkl
    obtain ⟨ob, oc, spo, hoe, hfpo, orow, hoc1, hoc2⟩ := ho1.pos (by omega)
    cases hoe
    have b1 : (0 : Int) ≤ k ∧ (k : Int) < n := by omega
    have hwk : IntKind.i64.wrap ((k : Int) + 1) = ((k + 1 : Nat) : Int) := by rw [wrap_in] <;> omega
    have hl1 := ho1.1
    (try simp only [go_sem, Nat.reduceAdd, Nat.reduceEqDiff, Nat.reduceLT, Nat.reduceLeDiff, Nat.reduceMul, Nat.zero_add, reduceCtorEq, ↓reduceIte, List.length_cons, List.length_nil, List.set_cons_zero, List.set_cons_succ, List.take_zero, List.take_succ_cons, List.drop_zero, List.drop_succ_cons, List.take_nil, List.drop_nil, List.nil_append, List.cons_append, List.append_nil, or_false, false_or, or_true, true_or, false_implies, true_implies, and_true, true_and, and_self, Bool.and_true, Bool.true_and, Nat.mul_one, Int.toNat_natCast, Int.toNat_zero, Nat.sub_zero, Nat.sub_self, b1])
    refine e_st1 (off := k) rfl rfl orow rfl (by rw [List.length_append]; omega) ?_
    intro w2 hb2 hm2 hs2
    have hset : (List.replicate k (I M) ++ (xs.drop k).map I).set k (I M) = List.replicate (k + 1) (I M) ++ (xs.drop (k + 1)).map I := by
      rw [List.set_append, if_neg (by simp), List.length_replicate, Nat.sub_self, List.drop_eq_getElem_cons (by omega), List.map_cons, List.set_cons_zero, List.replicate_succ']
      simp
    rw [List.set_append, if_pos (by omega), hset] at hb2
    (try simp only [go_sem, Nat.reduceAdd, Nat.reduceEqDiff, Nat.reduceLT, Nat.reduceLeDiff, Nat.reduceMul, Nat.zero_add, reduceCtorEq, ↓reduceIte, List.length_cons, List.length_nil, List.set_cons_zero, List.set_cons_succ, List.take_zero, List.take_succ_cons, List.drop_zero, List.drop_succ_cons, List.take_nil, List.drop_nil, List.nil_append, List.cons_append, List.append_nil, or_false, false_or, or_true, true_or, false_implies, true_implies, and_true, true_and, and_self, Bool.and_true, Bool.true_and, hwk])
    refine ⟨_, ?_, k + 1, rfl, hkl', hm1.step hm2 (fun x hx hlt => by rw [hx]; exact hfpo), ⟨by simp; omega, .inr ⟨ob, vc, spo, rfl, hfpo, hb2, ?_, hoc1⟩⟩, rfl⟩
    · omega
    · rw [← hset, List.length_append, List.length_set, ← List.length_append]; exact hoc2
  have hkl' : k = n := by simp at hkl; omega
  subst hkl'
  rw [List.drop_of_length_le (by omega), List.map_nil, List.append_nil] at ho1
  have hdis : ∀ x, B x → ¬ fp = some x := fun x hx hh => hfp x hh hx
  have r1 := hm1.at h1 (hdis b h5)
  have r2 := h2.mod hm1 (fun x hx => hdis x (h6 x hx))
  have r3 := h3.mod hm1 (fun x hx => hdis x (h7 x hx))
  have r4 : ∀ e ∈ es, Own w1 3 1 e.v (List.replicate e.n (I e.m)) e.n e.fp := fun e hee => (h4 e hee).1.mod hm1 (fun x hx => hdis x ((h4 e hee).2 x hx).2)
  (try simp only [go_sem, Nat.reduceAdd, Nat.reduceEqDiff, Nat.reduceLT, Nat.reduceLeDiff, Nat.reduceMul, Nat.zero_add, reduceCtorEq, ↓reduceIte, List.length_cons, List.length_nil, List.set_cons_zero, List.set_cons_succ, List.take_zero, List.take_succ_cons, List.drop_zero, List.drop_succ_cons, List.take_nil, List.drop_nil, List.nil_append, List.cons_append, List.append_nil, or_false, false_or, or_true, true_or, false_implies, true_implies, and_true, true_and, and_self, Bool.and_true, Bool.true_and])
  refine e_bs (by rfl) (by (try simp only [go_sem, Nat.reduceAdd, Nat.reduceEqDiff, Nat.reduceLT, Nat.reduceLeDiff, Nat.reduceMul, Nat.zero_add, reduceCtorEq, ↓reduceIte, List.length_cons, List.length_nil, List.set_cons_zero, List.set_cons_succ, List.take_zero, List.take_succ_cons, List.drop_zero, List.drop_succ_cons, List.take_nil, List.drop_nil, List.nil_append, List.cons_append, List.append_nil, or_false, false_or, or_true, true_or, false_implies, true_implies, and_true, true_and, and_self, Bool.and_true, Bool.true_and]); rfl) ?_
  intro w2 hb2 hm2 hs2
  have ho2 := ho1.mod hm2 (fun _ _ h => h)
  (try simp only [go_sem, Nat.reduceAdd, Nat.reduceEqDiff, Nat.reduceLT, Nat.reduceLeDiff, Nat.reduceMul, Nat.zero_add, reduceCtorEq, ↓reduceIte, List.length_cons, List.length_nil, List.set_cons_zero, List.set_cons_succ, List.take_zero, List.take_succ_cons, List.drop_zero, List.drop_succ_cons, List.take_nil, List.drop_nil, List.nil_append, List.cons_append, List.append_nil, or_false, false_or, or_true, true_or, false_implies, true_implies, and_true, true_and, and_self, Bool.and_true, Bool.true_and])
  refine e_ap (m := 1) (news := [I M]) rfl ho2 rfl (fun h => by cases h) (rd_block hb2) (by simp [Value.oneCell']) rfl (by omega) (by omega) ?_
  intro v3 w3 fp3 ho3 hm3 hf3
  (try simp only [go_sem, Nat.reduceAdd, Nat.reduceEqDiff, Nat.reduceLT, Nat.reduceLeDiff, Nat.reduceMul, Nat.zero_add, reduceCtorEq, ↓reduceIte, List.length_cons, List.length_nil, List.set_cons_zero, List.set_cons_succ, List.take_zero, List.take_succ_cons, List.drop_zero, List.drop_succ_cons, List.take_nil, List.drop_nil, List.nil_append, List.cons_append, List.append_nil, or_false, false_or, or_true, true_or, false_implies, true_implies, and_true, true_and, and_self, Bool.and_true, Bool.true_and])
  refine e_bs (by rfl) (by (try simp only [go_sem, Nat.reduceAdd, Nat.reduceEqDiff, Nat.reduceLT, Nat.reduceLeDiff, Nat.reduceMul, Nat.zero_add, reduceCtorEq, ↓reduceIte, List.length_cons, List.length_nil, List.set_cons_zero, List.set_cons_succ, List.take_zero, List.take_succ_cons, List.drop_zero, List.drop_succ_cons, List.take_nil, List.drop_nil, List.nil_append, List.cons_append, List.append_nil, or_false, false_or, or_true, true_or, false_implies, true_implies, and_true, true_and, and_self, Bool.and_true, Bool.true_and]); rfl) ?_
  intro w4 hb4 hm4 hs4
  have ho4 := ho3.mod hm4 (fun _ _ h => h)
  (try simp only [go_sem, Nat.reduceAdd, Nat.reduceEqDiff, Nat.reduceLT, Nat.reduceLeDiff, Nat.reduceMul, Nat.zero_add, reduceCtorEq, ↓reduceIte, List.length_cons, List.length_nil, List.set_cons_zero, List.set_cons_succ, List.take_zero, List.take_succ_cons, List.drop_zero, List.drop_succ_cons, List.take_nil, List.drop_nil, List.nil_append, List.cons_append, List.append_nil, or_false, false_or, or_true, true_or, false_implies, true_implies, and_true, true_and, and_self, Bool.and_true, Bool.true_and])
  refine e_ap (m := 1) (news := [I M]) rfl ho4 rfl (fun h => by cases h) (rd_block hb4) (by simp [Value.oneCell']) rfl (by omega) (by omega) ?_
  intro v5 w5 fp5 ho5 hm5 hf5
  have s1 := hm1.size; have s2 := hm2.size; have s3 := hm3.size; have s4 := hm4.size; have s5 := hm5.size
  have hfp3 : ∀ x, fp3 = some x → fp = some x ∨ w.heap.size ≤ x := fun x hx => (hf3 x hx).imp (fun h => h) (fun h => by omega)
  have hfp5 : ∀ x, fp5 = some x → fp = some x ∨ w.heap.size ≤ x := fun x hx => by
    rcases hf5 x hx with h | h
    · exact hfp3 x h
    · exact .inr (by omega)
  have hm15 : Mod (fun x => fp = some x) w w5 := (((hm1.step hm2 (fun _ h _ => h.elim)).step hm3 (fun x hx _ => hx)).step hm4 (fun _ h _ => h.elim)).step hm5 (fun x hx hlt => (hfp3 x hx).elim (fun h => h) (fun h => by omega))
  have p1 := hm15.at h1 (hdis b h5)
  have p2 := h2.mod hm15 (fun x hx => hdis x (h6 x hx))
  have p3 := h3.mod hm15 (fun x hx => hdis x (h7 x hx))
  have p4 : ∀ e ∈ es, Own w5 3 1 e.v (List.replicate e.n (I e.m)) e.n e.fp := fun e hee => (h4 e hee).1.mod hm15 (fun x hx => hdis x ((h4 e hee).2 x hx).2)
  obtain ⟨v5a, v5c, rfl, _, _⟩ := ho5.val
  (try simp only [go_sem, Nat.reduceAdd, Nat.reduceEqDiff, Nat.reduceLT, Nat.reduceLeDiff, Nat.reduceMul, Nat.zero_add, reduceCtorEq, ↓reduceIte, List.length_cons, List.length_nil, List.set_cons_zero, List.set_cons_succ, List.take_zero, List.take_succ_cons, List.drop_zero, List.drop_succ_cons, List.take_nil, List.drop_nil, List.nil_append, List.cons_append, List.append_nil, or_false, false_or, or_true, true_or, false_implies, true_implies, and_true, true_and, and_self, Bool.and_true, Bool.true_and, cell_of p1])
  refine e_bs (by rfl) (by (try simp only [go_sem, Nat.reduceAdd, Nat.reduceEqDiff, Nat.reduceLT, Nat.reduceLeDiff, Nat.reduceMul, Nat.zero_add, reduceCtorEq, ↓reduceIte, List.length_cons, List.length_nil, List.set_cons_zero, List.set_cons_succ, List.take_zero, List.take_succ_cons, List.drop_zero, List.drop_succ_cons, List.take_nil, List.drop_nil, List.nil_append, List.cons_append, List.append_nil, or_false, false_or, or_true, true_or, false_implies, true_implies, and_true, true_and, and_self, Bool.and_true, Bool.true_and]); rfl) ?_
  intro w6 hb6 hm6 hs6
  have hm16 := hm15.step hm6 (fun _ h _ => h.elim)
  have q2 := p2.mod hm6 (fun _ _ h => h)
  (try simp only [go_sem, Nat.reduceAdd, Nat.reduceEqDiff, Nat.reduceLT, Nat.reduceLeDiff, Nat.reduceMul, Nat.zero_add, reduceCtorEq, ↓reduceIte, List.length_cons, List.length_nil, List.set_cons_zero, List.set_cons_succ, List.take_zero, List.take_succ_cons, List.drop_zero, List.drop_succ_cons, List.take_nil, List.drop_nil, List.nil_append, List.cons_append, List.append_nil, or_false, false_or, or_true, true_or, false_implies, true_implies, and_true, true_and, and_self, Bool.and_true, Bool.true_and])
  refine e_ap (m := 1) (news := [.slice v5a (k + 1 + 1) v5c]) rfl q2 rfl (fun h => by cases h) (rd_block hb6) (by simp [Value.oneCell']) rfl (by omega) (by omega) ?_
  intro v7 w7 fp7 ho7 hm7 hf7
  have hB : ∀ x, fp5 = some x → ¬ B x := fun x hx hb => by
    rcases hfp5 x hx with h | h
    · exact hfp x h hb
    · have := h8 x hb; omega
  have q1 := hm6.at p1 (fun h => h)
  have q3 := p3.mod hm6 (fun _ _ h => h)
  have q5 := ho5.mod hm6 (fun _ _ h => h)
  have k23 : ∀ x cs fz, fpl = some x → w6.heap[x]? = some (.cells cs 3 fz) → False := fun x cs fz hx hc => own_kind q2 hx hc (by omega)
  have k23b : ∀ x cs fz, fpl = some x → w6.heap[x]? = some (.cells cs 50 fz) → False := fun x cs fz hx hc => own_kind q2 hx hc (by omega)
  have u1 := hm7.at q1 (fun hx => k23b b _ _ hx q1)
  have u3 := q3.mod' hm7 k23
  have u5 := q5.mod' hm7 k23
  have u4 : ∀ e ∈ es, Own w7 3 1 e.v (List.replicate e.n (I e.m)) e.n e.fp := fun e hee => ((p4 e hee).mod hm6 (fun _ _ h => h)).mod' hm7 k23
  obtain ⟨v7a, v7c, rfl, _, _⟩ := ho7.val
  refine e_st1 (off := 0) rfl rfl u1 rfl (by simp) ?_
  intro w8 hb8 hm8 hs8
  have hb8 : w8.heap[b]? = some (.cells #[.slice v7a (es.length + 1) v7c, mv] 50 (0, 0)) := hb8
  have kb : ∀ x cs fz, x = b → w7.heap[x]? = some (.cells cs 3 fz) → False := fun x cs fz hx hc => by rw [hx] at hc; exact kind_ne u1 hc (by omega)
  have x3 := u3.mod' hm8 kb
  have x5 := u5.mod' hm8 kb
  have x4 : ∀ e ∈ es, Own w8 3 1 e.v (List.replicate e.n (I e.m)) e.n e.fp := fun e hee => (u4 e hee).mod' hm8 kb
  have x7 := ho7.mod' hm8 (fun x cs fz hx hc => by rw [hx] at hc; exact kind_ne u1 hc (by omega))
  obtain ⟨ma, mc, rfl, _, _⟩ := x3.val
  (try simp only [go_sem, Nat.reduceAdd, Nat.reduceEqDiff, Nat.reduceLT, Nat.reduceLeDiff, Nat.reduceMul, Nat.zero_add, reduceCtorEq, ↓reduceIte, List.length_cons, List.length_nil, List.set_cons_zero, List.set_cons_succ, List.take_zero, List.take_succ_cons, List.drop_zero, List.drop_succ_cons, List.take_nil, List.drop_nil, List.nil_append, List.cons_append, List.append_nil, or_false, false_or, or_true, true_or, false_implies, true_implies, and_true, true_and, and_self, Bool.and_true, Bool.true_and, cell_of hb8])
  refine e_bs (by rfl) (by (try simp only [go_sem, Nat.reduceAdd, Nat.reduceEqDiff, Nat.reduceLT, Nat.reduceLeDiff, Nat.reduceMul, Nat.zero_add, reduceCtorEq, ↓reduceIte, List.length_cons, List.length_nil, List.set_cons_zero, List.set_cons_succ, List.take_zero, List.take_succ_cons, List.drop_zero, List.drop_succ_cons, List.take_nil, List.drop_nil, List.nil_append, List.cons_append, List.append_nil, or_false, false_or, or_true, true_or, false_implies, true_implies, and_true, true_and, and_self, Bool.and_true, Bool.true_and]); rfl) ?_
  intro w9 hb9 hm9 hs9
  have y3 := x3.mod hm9 (fun _ _ h => h)
  (try simp only [go_sem, Nat.reduceAdd, Nat.reduceEqDiff, Nat.reduceLT, Nat.reduceLeDiff, Nat.reduceMul, Nat.zero_add, reduceCtorEq, ↓reduceIte, List.length_cons, List.length_nil, List.set_cons_zero, List.set_cons_succ, List.take_zero, List.take_succ_cons, List.drop_zero, List.drop_succ_cons, List.take_nil, List.drop_nil, List.nil_append, List.cons_append, List.append_nil, or_false, false_or, or_true, true_or, false_implies, true_implies, and_true, true_and, and_self, Bool.and_true, Bool.true_and])
  refine e_ap (m := 1) (news := [I M]) rfl y3 rfl (fun h => by cases h) (rd_block hb9) (by simp [Value.oneCell']) rfl (by omega) (by omega) ?_
  intro v10 w10 fp10 ho10 hm10 hf10
  obtain ⟨v10a, v10c, rfl, _, _⟩ := ho10.val
  have y1 := hm9.at hb8 (fun h => h)
  have z1 := hm10.at y1 (own_ne y3 y1 (by omega))
  have hmn : ∀ x, fp5 = some x → ¬ fpm = some x := fun x hx hh => hB x hx (h7 x hh)
  have z5 := (x5.mod hm9 (fun _ _ h => h)).mod hm10 hmn
  have z4 : ∀ e ∈ es, Own w10 3 1 e.v (List.replicate e.n (I e.m)) e.n e.fp := fun e hee => ((x4 e hee).mod hm9 (fun _ _ h => h)).mod hm10 (fun x hx hh => ((h4 e hee).2 x hx).1 hh)
  have z7 := (x7.mod hm9 (fun _ _ h => h)).mod' hm10 (fun x cs fz hx hc => own_kind y3 hx hc (by omega))
  (try simp only [go_sem, Nat.reduceAdd, Nat.reduceEqDiff, Nat.reduceLT, Nat.reduceLeDiff, Nat.reduceMul, Nat.zero_add, reduceCtorEq, ↓reduceIte, List.length_cons, List.length_nil, List.set_cons_zero, List.set_cons_succ, List.take_zero, List.take_succ_cons, List.drop_zero, List.drop_succ_cons, List.take_nil, List.drop_nil, List.nil_append, List.cons_append, List.append_nil, or_false, false_or, or_true, true_or, false_implies, true_implies, and_true, true_and, and_self, Bool.and_true, Bool.true_and])
  refine e_st1 (off := 1) rfl rfl z1 rfl (by simp) ?_
  intro w11 hb11 hm11 hs11
  have kz : ∀ x cs T fz, T ≠ 50 → x = b → w10.heap[x]? = some (.cells cs T fz) → False := fun x cs T fz hT hx hc => by rw [hx] at hc; exact kind_ne z1 hc (fun hh => hT hh.symm)
  have s6 := hm6.size; have s7 := hm7.size; have s9 := hm9.size; have s10 := hm10.size
  have hfp7 : ∀ x, fp7 = some x → B x ∨ w.heap.size ≤ x := fun x hx => by
    rcases hf7 x hx with h | h
    · exact .inl (h6 x h)
    · exact .inr (by omega)
  have hfp10 : ∀ x, fp10 = some x → fpm = some x ∨ w9.heap.size ≤ x := fun x hx => (hf10 x hx).imp (fun h => h) (fun h => by omega)
  (try simp only [go_sem, Nat.reduceAdd, Nat.reduceEqDiff, Nat.reduceLT, Nat.reduceLeDiff, Nat.reduceMul, Nat.zero_add, reduceCtorEq, ↓reduceIte, List.length_cons, List.length_nil, List.set_cons_zero, List.set_cons_succ, List.take_zero, List.take_succ_cons, List.drop_zero, List.drop_succ_cons, List.take_nil, List.drop_nil, List.nil_append, List.cons_append, List.append_nil, or_false, false_or, or_true, true_or, false_implies, true_implies, and_true, true_and, and_self, Bool.and_true, Bool.true_and])
  refine ⟨⟨M, k + 1 + 1, .slice v5a (k + 1 + 1) v5c, fp5⟩, fun x => B x ∨ fp5 = some x ∨ fp7 = some x ∨ fp10 = some x, ⟨.slice v7a (es.length + 1) v7c, .slice v10a (es.length + 1) v10c, fp7, fp10, hb11, ?_, ?_, ?_, .inl h5, (fun x hx => .inr (.inr (.inl hx))), (fun x hx => .inr (.inr (.inr hx))), ?_⟩, ?_, ?_, (by show k + 1 + 1 ≤ _; omega)⟩
  · have := z7.mod' hm11 (fun x cs fz hx hc => kz x cs 23 fz (by decide) hx hc)
    simpa using this
  · have := ho10.mod' hm11 (fun x cs fz hx hc => kz x cs 3 fz (by decide) hx hc)
    simpa using this
  · intro e hee
    rcases List.mem_append.1 hee with hee | hee
    · refine ⟨(z4 e hee).mod' hm11 (fun x cs fz hx hc => kz x cs 3 fz (by decide) hx hc), fun x hx => ⟨fun hh => ?_, .inl ((h4 e hee).2 x hx).2⟩⟩
      rcases hfp10 x hh with h | h
      · exact ((h4 e hee).2 x hx).1 h
      · have := (x4 e hee).lt hx; omega
    · simp only [List.mem_cons, List.not_mem_nil, or_false] at hee; subst hee
      refine ⟨?_, fun x hx => ⟨fun hh => ?_, .inr (.inl hx)⟩⟩
      · have := z5.mod' hm11 (fun x cs fz hx hc => kz x cs 3 fz (by decide) hx hc)
        simp only [List.replicate_succ']
        simpa [List.append_assoc] using this
      · rcases hfp10 x hh with h | h
        · exact hmn x hx h
        · have := x5.lt hx; omega
  · intro x hx
    have s11 := hm11.size
    rcases hx with hx | hx | hx | hx
    · have := h8 x hx; omega
    · have := z5.lt hx; omega
    · have := z7.lt hx; omega
    · have := ho10.lt hx; omega
  · refine (((((((hm15.weak (fun x hx => .inr hx)).step hm6 (fun _ h _ => h.elim)).step hm7 (fun x hx _ => .inl (h6 x hx))).step hm8 (fun x hx _ => .inl (hx ▸ h5))).step hm9 (fun _ h _ => h.elim)).step hm10 (fun x hx _ => .inl (h7 x hx))).step hm11 (fun x hx _ => .inl (hx ▸ h5)))
  · intro x hx
    rcases hx with hx | hx | hx | hx
    · exact .inl hx
    · rcases hfp5 x hx with h | h
      · exact .inr (.inl h)
      · exact .inr (.inr h)
    · rcases hfp7 x hx with h | h
      · exact .inl h
      · exact .inr (.inr h)
    · rcases hfp10 x hx with h | h
      · exact .inl (h7 x h)
      · exact .inr (.inr (by omega))
end Go.Proofs.Ytnagmcdlepcgnaa
