/- GensAlike: whatever the sizes and whatever script of steps is handed in, the law answers true, and what was handed in reads as it did. No condition. -/
import Derived.Test.YtnimaifmcejkcaaXA
import Derived.Test.YtnimaifmcejkcaaW10
import Derived.Deep.Slices
import Derived.Test.YtnimaifmcejkcaaRows
section
set_option linter.unusedSimpArgs false
set_option linter.unusedVariables false
set_option maxRecDepth 100000
namespace Go.Proofs.Ytnimaifmcejkcaa
open Go Go.W

/-- An arena of gens, one of heap, and what is held of both; so many nodes may be added to both. -/
structure Tw (size young : Int) (old : Nat) (ns ms : List Nd) (xs ys : List Int) (c : Int) : Prop where
  fine : Fine size young old ns
  wf : WF ms
  le : (ms.length : Int) ≤ size
  ox : okPl ns.length xs = true
  oy : okPl ms.length ys = true
  alike : Alike ns xs ms ys
  c0 : 0 ≤ c
  cr : 0 < c → ns.length + c ≤ size ∧ ms.length + c ≤ size
theorem Tw.len {size young : Int} {old : Nat} {ns ms : List Nd} {xs ys : List Int} {c : Int} (h : Tw size young old ns ms xs ys c) : xs.length = ys.length := by
  obtain ⟨R, _, h1, _⟩ := h.alike
  exact h1
theorem tw_new {size young : Int} (h : Fine size young 0 []) : Tw size young 0 [] [] [] [] 0 :=
  ⟨h, h.wf, by have := h.s1; simp; omega, rfl, rfl, alike_refl h.wf rfl, by omega, fun h => by omega⟩
theorem may_args (k n : Int) {as' bs : List Int} (h : as'.length = bs.length) : (⟨k, n, as'⟩ : Nd).may = (⟨k, n, bs⟩ : Nd).may := by simp [Nd.may, h]
theorem okPl_le' {n m : Nat} {l : List Int} (h : okPl n l = true) (hm : n ≤ m) : okPl m l = true := by
  rw [okPl, List.all_eq_true] at h ⊢
  intro x hx
  have := h x hx
  simp at this ⊢; omega
theorem okPl_snoc {n : Nat} {l : List Int} (h : okPl n l = true) : okPl (n + 1) (l ++ [(n : Int)]) = true := by
  have := okPl_le' h (Nat.le_succ n)
  simp only [okPl, List.all_append, List.all_cons, List.all_nil, Bool.and_true, Bool.and_eq_true, decide_eq_true_eq] at this ⊢
  exact ⟨this, by omega, by omega⟩
theorem wf_set {ns : List Nd} (hw : WF ns) {p : Nat} {nd : Nd} (hm : nd.may = true) (ho : okPl ns.length nd.args = true) : WF (ns.set p nd) := by
  intro x hx
  rw [List.length_set]
  rcases List.mem_or_eq_of_mem_set hx with hx | rfl
  · exact hw x hx
  · exact ⟨hm, ho⟩

theorem tw_add {size young : Int} {old : Nat} {ns ms : List Nd} {xs ys us vs : List Int} {c : Int} (h : Tw size young old ns ms xs ys c) (hc : 0 < c) (hs : Same xs ys us vs) (k n : Int) :
    ((gaddS size ns ⟨k, n, us⟩) = ((ns.length : Int), 0, ns ++ [⟨k, n, us⟩]) ∧ addS size ms ⟨k, n, vs⟩ = ((ms.length : Int), 0, ms ++ [⟨k, n, vs⟩]) ∧ Tw size young old (ns ++ [⟨k, n, us⟩]) (ms ++ [⟨k, n, vs⟩]) (xs ++ [(ns.length : Int)]) (ys ++ [(ms.length : Int)]) (c - 1)) ∨
    (gaddS size ns ⟨k, n, us⟩ = (0, 1, ns) ∧ addS size ms ⟨k, n, vs⟩ = (0, 1, ms) ∧ Tw size young old ns ms xs ys (c - 1)) := by
  have hcr := h.cr hc
  have hm := may_args k n hs.1
  have ho1 := same_ok1 hs h.ox
  have ho2 := same_ok2 hs h.oy
  cases hh : (⟨k, n, us⟩ : Nd).may with
  | false =>
    rw [hh] at hm
    exact .inr ⟨by unfold gaddS; rw [if_pos hh], by unfold addS; rw [if_pos hm.symm], h.fine, h.wf, h.le, h.ox, h.oy, h.alike, by omega, fun hc => by omega⟩
  | true =>
    rw [hh] at hm
    have e1 : gaddS size ns ⟨k, n, us⟩ = ((ns.length : Int), 0, ns ++ [⟨k, n, us⟩]) := by
      unfold gaddS; rw [if_neg (by rw [hh]; simp), if_neg (by rw [ho1]; simp), if_neg (by omega)]
    have e2 : addS size ms ⟨k, n, vs⟩ = ((ms.length : Int), 0, ms ++ [⟨k, n, vs⟩]) := by
      unfold addS; rw [if_neg (by rw [← hm]; simp), if_neg (by rw [ho2]; simp), if_neg (by omega)]
    refine .inl ⟨e1, e2, ?_, wf_app h.wf hm.symm ho2, by simp; omega, ?_, ?_, alike_add h.fine.wf h.wf h.alike h.ox h.oy hs hh hm.symm, by omega, fun hc => by simp; omega⟩
    · have := fine_add h.fine ⟨k, n, us⟩
      rw [e1] at this; exact this
    · rw [List.length_append]; exact okPl_snoc h.ox
    · rw [List.length_append]; exact okPl_snoc h.oy

/-- What is held at one number, passed over. -/
theorem tw_at {size young : Int} {old : Nat} {ns ms : List Nd} {xs ys : List Int} {c : Int} (h : Tw size young old ns ms xs ys c) {i : Nat} {a b : Int} (ha : xs[i]? = some a) (hb : ys[i]? = some b) :
    ∃ p q : Nat, a = p ∧ b = q ∧ p < ns.length ∧ q < ms.length ∧ ind ns (over ns p) = ind ms (over ms q) := by
  obtain ⟨R, h1, h2⟩ := h.alike
  have m1 := okPl_mem h.ox (List.mem_of_getElem? ha)
  have m2 := okPl_mem h.oy (List.mem_of_getElem? hb)
  have hr := h2.2 i a b ha hb
  refine ⟨a.toNat, b.toNat, by omega, by omega, by omega, by omega, ind_eq (h1.nd _ _ hr).1⟩
theorem tw_set {size young : Int} {old : Nat} {ns ms : List Nd} {xs ys us vs : List Int} {c : Int} (h : Tw size young old ns ms xs ys c) (hs : Same xs ys us vs) (k n : Int) {i p q : Nat} (ha : xs[i]? = some (p : Int)) (hb : ys[i]? = some (q : Int)) (hi : ind ns (over ns p) = false) :
    (gsetS ns (over ns p) ⟨k, n, us⟩).1 = (setS ms (over ms q) ⟨k, n, vs⟩).1 ∧ ((gsetS ns (over ns p) ⟨k, n, us⟩).1 = 0 ∨ (gsetS ns (over ns p) ⟨k, n, us⟩).1 = 1) ∧ Tw size young old (gsetS ns (over ns p) ⟨k, n, us⟩).2 (setS ms (over ms q) ⟨k, n, vs⟩).2 xs ys c := by
  have hal := h.alike
  obtain ⟨R, h1, h2⟩ := hal
  have hr := h2.2 i _ _ ha hb
  rw [Int.toNat_natCast, Int.toNat_natCast] at hr
  obtain ⟨d1, d2, d3, d4⟩ := h1.dom _ _ hr
  have hm := may_args k n hs.1
  have ho1 := same_ok1 hs h.ox
  have ho2 := same_ok2 hs h.oy
  generalize over ns p = x at *
  generalize over ms q = y at *
  cases hh : (⟨k, n, us⟩ : Nd).may with
  | false =>
    rw [hh] at hm
    have e1 : gsetS ns x ⟨k, n, us⟩ = (1, ns) := by unfold gsetS; rw [if_neg (by omega), if_pos hh]
    have e2 : setS ms y ⟨k, n, vs⟩ = (1, ms) := by unfold setS; rw [if_neg (by omega), if_pos hm.symm]
    rw [e1, e2]
    exact ⟨rfl, .inr rfl, h⟩
  | true =>
    rw [hh] at hm
    have e1 : gsetS ns x ⟨k, n, us⟩ = (0, ns.set x ⟨k, n, us⟩) := by unfold gsetS; rw [if_neg (by omega), if_neg (by rw [hh]; simp), if_neg (by rw [ho1]; simp), Int.toNat_natCast]
    have e2 : setS ms y ⟨k, n, vs⟩ = (0, ms.set y ⟨k, n, vs⟩) := by unfold setS; rw [if_neg (by omega), if_neg (by rw [← hm]; simp), if_neg (by rw [ho2]; simp), Int.toNat_natCast]
    have w1 := wf_set (p := x) h.fine.wf hh ho1
    have w2 := wf_set (p := y) h.wf hm.symm ho2
    have hf := fine_set h.fine (x : Int) ⟨k, n, us⟩
    rw [e1] at hf
    rw [e1, e2]
    exact ⟨rfl, .inl rfl, hf, w2, by simpa using h.le, by simpa using h.ox, by simpa using h.oy, alike_set h.fine.wf h.wf h.ox h.oy h1 h2 hs hr hi w1 w2, h.c0, by simpa using h.cr⟩
theorem tw_pop {size young : Int} {old : Nat} {ns ms : List Nd} {xs ys : List Int} {c : Int} (h : Tw size young old ns ms xs ys c) (k : Nat) : Tw size young old ns ms (xs.take k) (ys.take k) c := by
  have tk : ∀ {n : Nat} {l : List Int}, okPl n l = true → okPl n (l.take k) = true := by
    intro n l hh
    rw [okPl, List.all_eq_true] at hh ⊢
    exact fun x hx => hh x (List.mem_of_mem_take hx)
  refine ⟨h.fine, h.wf, h.le, tk h.ox, tk h.oy, alike_sub h.alike (by simp [h.len]) (fun i a b ha hb => ⟨i, ?_, ?_⟩), h.c0, h.cr⟩
  · rw [List.getElem?_take] at ha
    split at ha
    · exact ha
    · cases ha
  · rw [List.getElem?_take] at hb
    split at hb
    · exact hb
    · cases hb

theorem tw_col {size young : Int} {old : Nat} {ns ms : List Nd} {xs ys : List Int} {c : Int} (h : Tw size young old ns ms xs ys c) :
    Tw size young (smallNs ns 0 xs).length (smallNs ns 0 xs) (colNs ms ys) (smallRoots ns 0 xs) (colRoots ms ys) 0 := by
  obtain ⟨e1, e2⟩ := col_small ms ys
  have a1 := alike_small h.fine.wf (Nat.zero_le _) h.ox
  have a2 := alike_small h.wf (Nat.zero_le _) h.oy
  have l2 := small_len h.wf (Nat.zero_le _) h.oy
  rw [e1, e2]
  exact ⟨fine_small h.fine (Nat.zero_le _) h.ox, small_wf h.wf (Nat.zero_le _) h.oy, by have := h.le; omega, small_roots_ok h.fine.wf (Nat.zero_le _) h.ox, small_roots_ok h.wf (Nat.zero_le _) h.oy,
    alike_trans (alike_trans (alike_symm a1) h.alike) a2, by omega, fun h => by omega⟩
theorem tw_room {size young : Int} {old : Nat} {ns ms : List Nd} {xs ys : List Int} {c : Int} (h : Tw size young old ns ms xs ys c) (times times' n : Int) :
    (n < 0 ∧ groomS size young old times ns n xs = ⟨none, 1, ns, old, times⟩ ∧ roomS size times' ms n ys = ⟨none, 1, ms, times'⟩) ∨
    ((groomS size young old times ns n xs).err = 211 ∧ (roomS size times' ms n ys).err = 201) ∨
    ((groomS size young old times ns n xs).err = 0 ∧ (roomS size times' ms n ys).err = 0 ∧ ∃ l m, (groomS size young old times ns n xs).res = some l ∧ (roomS size times' ms n ys).out = some m ∧ l.length = xs.length ∧ m.length = ys.length ∧
      Tw size young (groomS size young old times ns n xs).old (groomS size young old times ns n xs).ns (roomS size times' ms n ys).ns l m n) := by
  by_cases hn : n < 0
  · left
    refine ⟨hn, ?_, ?_⟩
    · unfold groomS; rw [if_pos hn]
    · unfold roomS; rw [if_pos hn]
  right
  obtain ⟨e1, e2⟩ := col_small ms ys
  have hw := h.fine.wf
  have hold := h.fine.old
  have a1 := alike_small hw hold h.ox
  have o1 := small_roots_ok hw hold h.ox
  have w1 := small_wf hw hold h.ox
  have f1 := fine_small h.fine hold h.ox
  have l1 := small_len hw hold h.ox
  have a2 := alike_small w1 (Nat.zero_le _) o1
  have o2 := small_roots_ok w1 (Nat.zero_le _) o1
  have f2 := fine_small f1 (Nat.zero_le _) o1
  have b2 := alike_small h.wf (Nat.zero_le _) h.oy
  have p2 := small_roots_ok h.wf (Nat.zero_le _) h.oy
  have wm := small_wf h.wf (Nat.zero_le _) h.oy
  have lm := small_len h.wf (Nat.zero_le _) h.oy
  have c1 := alike_count hw h.wf h.ox h.oy h.alike
  have c2 := alike_count w1 h.wf o1 h.oy (alike_trans (alike_symm a1) h.alike)
  have g1 := small_length (smallNs ns old xs) 0 (smallRoots ns old xs)
  have g2 := small_length ms 0 ys
  have g3 := small_length ns 0 xs
  have g4 := small_len hw (Nat.zero_le _) h.ox
  have g5 := small_len w1 (Nat.zero_le _) o1
  have hle := h.fine.le
  have hlm := h.le
  rw [Nat.zero_add] at g1 g2 g3
  have er : ∀ fr, (smallRoots ns fr xs).length = xs.length := fun fr => by simp [smallRoots]
  have er' : ∀ fr, (smallRoots ms fr ys).length = ys.length := fun fr => by simp [smallRoots]
  have er2 : ∀ (l : List Nd) (q : List Int) fr, (smallRoots l fr q).length = q.length := fun l q fr => by simp [smallRoots]
  -- what heap answers
  have hH : n ≤ size - (smallNs ms 0 ys).length → ∃ m, (roomS size times' ms n ys).err = 0 ∧ (roomS size times' ms n ys).out = some m ∧ m.length = ys.length ∧ Alike ms ys (roomS size times' ms n ys).ns m ∧ WF (roomS size times' ms n ys).ns ∧ okPl (roomS size times' ms n ys).ns.length m = true ∧ ((roomS size times' ms n ys).ns.length : Int) + n ≤ size := by
    intro hr
    unfold roomS
    rw [if_neg hn, if_neg (by rw [h.oy]; simp), e1, e2]
    by_cases hq : n ≤ size - ms.length
    · rw [if_pos hq]
      exact ⟨ys, rfl, rfl, rfl, alike_refl h.wf h.oy, h.wf, h.oy, by show (ms.length : Int) + n ≤ size; omega⟩
    · rw [if_neg hq, if_neg (by omega)]
      exact ⟨_, rfl, rfl, er' 0, b2, wm, p2, by show ((smallNs ms 0 ys).length : Int) + n ≤ size; omega⟩
  have fin : ∀ (s : GSt) (l : List Int), s.err = 0 → s.res = some l → l.length = xs.length → Fine size young s.old s.ns → okPl s.ns.length l = true → Alike ns xs s.ns l → (s.ns.length : Int) + n ≤ size → n ≤ size - (smallNs ms 0 ys).length →
      s.err = 0 ∧ (roomS size times' ms n ys).err = 0 ∧ ∃ l m, s.res = some l ∧ (roomS size times' ms n ys).out = some m ∧ l.length = xs.length ∧ m.length = ys.length ∧ Tw size young s.old s.ns (roomS size times' ms n ys).ns l m n := by
    intro s l k1 k2 k3 k4 k5 k6 k7 k8
    obtain ⟨m, q1, q2, q3, q4, q5, q6, q7⟩ := hH k8
    exact ⟨k1, q1, l, m, k2, q2, k3, q3, k4, q5, by omega, k5, q6, alike_trans (alike_trans (alike_symm k6) h.alike) q4, by omega, fun _ => ⟨k7, q7⟩⟩
  unfold groomS
  rw [if_neg hn, if_neg (by rw [h.ox]; simp)]
  by_cases hq : n ≤ young - (ns.length - old) ∧ n ≤ size - ns.length
  · rw [if_pos hq]
    exact .inr (fin _ xs rfl rfl rfl h.fine h.ox (alike_refl hw h.ox) (by show (ns.length : Int) + n ≤ size; omega) (by omega))
  · rw [if_neg hq]
    by_cases hq2 : n > size - (smallNs ns old xs).length
    · rw [if_pos hq2]
      unfold endS
      by_cases hq3 : n > size - (smallNs (smallNs ns old xs) 0 (smallRoots ns old xs)).length
      · rw [if_pos hq3]
        left
        refine ⟨rfl, ?_⟩
        unfold roomS
        rw [if_neg hn, if_neg (by rw [h.oy]; simp), e1, e2, if_neg (by omega), if_pos (by omega)]
      · rw [if_neg hq3]
        exact .inr (fin _ _ rfl rfl (by rw [er2, er2]) f2 o2 (alike_trans a1 a2) (by show ((smallNs (smallNs ns old xs) 0 (smallRoots ns old xs)).length : Int) + n ≤ size; omega) (by omega))
    · rw [if_neg hq2]
      exact .inr (fin _ _ rfl rfl (er old) f1 o1 a1 (by show ((smallNs ns old xs).length : Int) + n ≤ size; omega) (by omega))
end Go.Proofs.Ytnimaifmcejkcaa
end

section
set_option linter.unusedSimpArgs false
set_option linter.unusedVariables false
set_option maxRecDepth 100000
namespace Go.Proofs.Ytnimaifmcejkcaa
open Go Go.W

theorem arena_lt {Ta Tc : Nat} {w : World} {a : Nat} {size times : Int} {ns : List Nd} {F : Nat → Prop} (h : ArenaAt Ta Tc w a size times ns F) : ∀ b, F b → b < w.heap.size := by
  obtain ⟨cv, fpc, ps, h1, h2, h3, h4, h5, h6, h7⟩ := h
  exact h7
def RoomR.list (s : RoomR) : List Int := s.out.getD []
def hcolS (times : Int) (ms : List Nd) (ys : List Int) : RoomR := if okPl ms.length ys = false then ⟨none, 202, ms, times⟩ else ⟨some (colRoots ms ys), 0, colNs ms ys, IntKind.i64.wrap (times + 1)⟩
theorem hroom_list {w w' : World} {a : Nat} {size : Int} {F : Nat → Prop} {s : RoomR} {r : Value} (h : RoomPost 81 87 a size F w s r w') :
    ∃ v fp F', r = .tuple #[v, I s.err] ∧ Own w' 3 1 v (s.list.map I) s.list.length fp ∧ (∀ x, fp = some x → w.heap.size ≤ x ∧ ¬ F' x) ∧ ArenaAt 81 87 w' a size s.times s.ns F' ∧ Grow F F' w w' := by
  obtain ⟨F', h1, h2, h3, h4⟩ := h
  cases ho : s.out with
  | none => exact ⟨_, none, F', h3 ho, by simp [RoomR.list, ho]; exact Own.nil _ _ _, fun x hx => (by cases hx), h1, h2⟩
  | some l =>
    obtain ⟨v, fp, k1, k2, k3⟩ := h4 l ho
    exact ⟨v, fp, F', k1, by simpa [RoomR.list, ho] using k2, k3, h1, h2⟩
theorem hcol_room {w w' : World} {a : Nat} {size times : Int} {ms : List Nd} {F : Nat → Prop} {ys : List Int} {r : Value} (ha : ArenaAt 81 87 w a size times ms F) (h : ColPost 81 87 a size times F w ms ys r w') : RoomPost 81 87 a size F w (hcolS times ms ys) r w' := by
  cases ho : okPl ms.length ys with
  | false =>
    obtain ⟨h1, h2⟩ := h.1 ho
    have e : hcolS times ms ys = ⟨none, 202, ms, times⟩ := by simp [hcolS, ho]
    rw [e]
    exact ⟨F, ha.mod h2 (fun _ _ h => h), ⟨h2.weak (fun _ h => h.elim), fun b hb => .inl hb⟩, fun _ => h1, fun l hl => (by cases hl)⟩
  | true =>
    obtain ⟨v, fp, F', h1, h2, h3, h4, h5⟩ := h.2 ho
    have e : hcolS times ms ys = ⟨some (colRoots ms ys), 0, colNs ms ys, IntKind.i64.wrap (times + 1)⟩ := by simp [hcolS, ho]
    rw [e]
    exact ⟨F', h3, h4, fun hh => (by cases hh), fun l hl => by cases hl; exact ⟨v, fp, h1, h2, h5⟩⟩

/-- Both arenas and what is held of them, in memory, all of it new since a world. -/
structure Mem (w0 w : World) (a h : Nat) (size young : Int) (old : Nat) (times : Int) (ns : List Nd) (F : Nat → Prop) (times' : Int) (ms : List Nd) (G : Nat → Prop) (vx vy : Value) (xs ys : List Int) (fx fy : Option Nat) : Prop where
  ga : GAt w a size young old times ns F
  ha : ArenaAt 81 87 w h size times' ms G
  ox : Own w 3 1 vx (xs.map I) xs.length fx
  oy : Own w 3 1 vy (ys.map I) ys.length fy
  fg : ∀ x, F x → ¬ G x
  xf : ∀ x, fx = some x → ¬ F x ∧ ¬ G x ∧ fy ≠ some x
  yf : ∀ x, fy = some x → ¬ F x ∧ ¬ G x
  new : ∀ x, F x ∨ G x ∨ fx = some x ∨ fy = some x → w0.heap.size ≤ x
section
variable {w0 w w' : World} {a h : Nat} {size young : Int} {old : Nat} {times : Int} {ns : List Nd} {F : Nat → Prop} {times' : Int} {ms : List Nd} {G : Nat → Prop} {vx vy : Value} {xs ys : List Int} {fx fy : Option Nat}
theorem mem_mod {S : Nat → Prop} (hM : Mem w0 w a h size young old times ns F times' ms G vx vy xs ys fx fy) (hm : Mod S w w') (hs : ∀ x, S x → w.heap.size ≤ x) : Mem w0 w' a h size young old times ns F times' ms G vx vy xs ys fx fy :=
  ⟨gat_mod hM.ga hm (fun x hx hh => by have := gat_lt hM.ga x hx; have := hs x hh; omega), hM.ha.mod hm (fun x hx hh => by have := arena_lt hM.ha x hx; have := hs x hh; omega), hM.ox.mod hm (fun x hx hh => by have := hM.ox.lt hx; have := hs x hh; omega),
    hM.oy.mod hm (fun x hx hh => by have := hM.oy.lt hx; have := hs x hh; omega), hM.fg, hM.xf, hM.yf, hM.new⟩
theorem mem_f {old2 : Nat} {times2 : Int} {ns2 : List Nd} {F2 : Nat → Prop} (hM : Mem w0 w a h size young old times ns F times' ms G vx vy xs ys fx fy) (h1 : GAt w' a size young old2 times2 ns2 F2) (h2 : Grow F F2 w w') (h0 : w0.heap.size ≤ w.heap.size) :
    Mem w0 w' a h size young old2 times2 ns2 F2 times' ms G vx vy xs ys fx fy := by
  refine ⟨h1, hM.ha.mod h2.1 (fun x hx hh => hM.fg x hh hx), hM.ox.mod h2.1 (fun x hx hh => (hM.xf x hx).1 hh), hM.oy.mod h2.1 (fun x hx hh => (hM.yf x hx).1 hh), fun x hx hg => ?_, fun x hx => ⟨fun hf => ?_, (hM.xf x hx).2⟩, fun x hx => ⟨fun hf => ?_, (hM.yf x hx).2⟩, fun x hx => ?_⟩
  · rcases h2.2 x hx with e | e
    · exact hM.fg x e hg
    · have := arena_lt hM.ha x hg; omega
  · rcases h2.2 x hf with e | e
    · exact (hM.xf x hx).1 e
    · have := hM.ox.lt hx; omega
  · rcases h2.2 x hf with e | e
    · exact (hM.yf x hx).1 e
    · have := hM.oy.lt hx; omega
  · rcases hx with hx | hx
    · rcases h2.2 x hx with e | e
      · exact hM.new x (.inl e)
      · omega
    · exact hM.new x (.inr hx)
theorem mem_g {times2 : Int} {ms2 : List Nd} {G2 : Nat → Prop} (hM : Mem w0 w a h size young old times ns F times' ms G vx vy xs ys fx fy) (h1 : ArenaAt 81 87 w' h size times2 ms2 G2) (h2 : Grow G G2 w w') (h0 : w0.heap.size ≤ w.heap.size) :
    Mem w0 w' a h size young old times ns F times2 ms2 G2 vx vy xs ys fx fy := by
  refine ⟨gat_mod hM.ga h2.1 (fun x hx hh => hM.fg x hx hh), h1, hM.ox.mod h2.1 (fun x hx hh => (hM.xf x hx).2.1 hh), hM.oy.mod h2.1 (fun x hx hh => (hM.yf x hx).2 hh), fun x hx hg => ?_, fun x hx => ⟨(hM.xf x hx).1, fun hf => ?_, (hM.xf x hx).2.2⟩, fun x hx => ⟨(hM.yf x hx).1, fun hf => ?_⟩, fun x hx => ?_⟩
  · rcases h2.2 x hg with e | e
    · exact hM.fg x hx e
    · have := gat_lt hM.ga x hx; omega
  · rcases h2.2 x hf with e | e
    · exact (hM.xf x hx).2.1 e
    · have := hM.ox.lt hx; omega
  · rcases h2.2 x hf with e | e
    · exact (hM.yf x hx).2 e
    · have := hM.oy.lt hx; omega
  · rcases hx with hx | hx | hx
    · exact hM.new x (.inl hx)
    · rcases h2.2 x hx with e | e
      · exact hM.new x (.inr (.inl e))
      · omega
    · exact hM.new x (.inr (.inr hx))
/-- A list held is grown, or another one is held. -/
theorem mem_x {vx2 : Value} {xs2 : List Int} {fx2 : Option Nat} (hM : Mem w0 w a h size young old times ns F times' ms G vx vy xs ys fx fy) (h1 : Own w' 3 1 vx2 (xs2.map I) xs2.length fx2) (h2 : Mod (fun b => fx = some b) w w') (h3 : ∀ b, fx2 = some b → fx = some b ∨ w.heap.size ≤ b) (h0 : w0.heap.size ≤ w.heap.size) :
    Mem w0 w' a h size young old times ns F times' ms G vx2 vy xs2 ys fx2 fy := by
  refine ⟨gat_mod hM.ga h2 (fun x hx hh => (hM.xf x hh).1 hx), hM.ha.mod h2 (fun x hx hh => (hM.xf x hh).2.1 hx), h1, hM.oy.mod h2 (fun x hx hh => (hM.xf x hh).2.2 hx), hM.fg, fun x hx => ?_, hM.yf, fun x hx => ?_⟩
  · rcases h3 x hx with e | e
    · exact hM.xf x e
    · exact ⟨fun hf => by have := gat_lt hM.ga x hf; omega, fun hf => by have := arena_lt hM.ha x hf; omega, fun hf => by have := hM.oy.lt hf; omega⟩
  · rcases hx with hx | hx | hx | hx
    · exact hM.new x (.inl hx)
    · exact hM.new x (.inr (.inl hx))
    · rcases h3 x hx with e | e
      · exact hM.new x (.inr (.inr (.inl e)))
      · omega
    · exact hM.new x (.inr (.inr (.inr hx)))
theorem mem_y {vy2 : Value} {ys2 : List Int} {fy2 : Option Nat} (hM : Mem w0 w a h size young old times ns F times' ms G vx vy xs ys fx fy) (h1 : Own w' 3 1 vy2 (ys2.map I) ys2.length fy2) (h2 : Mod (fun b => fy = some b) w w') (h3 : ∀ b, fy2 = some b → fy = some b ∨ w.heap.size ≤ b) (h0 : w0.heap.size ≤ w.heap.size) :
    Mem w0 w' a h size young old times ns F times' ms G vx vy2 xs ys2 fx fy2 := by
  refine ⟨gat_mod hM.ga h2 (fun x hx hh => (hM.yf x hh).1 hx), hM.ha.mod h2 (fun x hx hh => (hM.yf x hh).2 hx), hM.ox.mod h2 (fun x hx hh => (hM.xf x hx).2.2 hh), h1, hM.fg, fun x hx => ⟨(hM.xf x hx).1, (hM.xf x hx).2.1, fun hh => ?_⟩, fun x hx => ?_, fun x hx => ?_⟩
  · rcases h3 x hh with e | e
    · exact (hM.xf x hx).2.2 e
    · have := hM.ox.lt hx; omega
  · rcases h3 x hx with e | e
    · exact hM.yf x e
    · exact ⟨fun hf => by have := gat_lt hM.ga x hf; omega, fun hf => by have := arena_lt hM.ha x hf; omega⟩
  · rcases hx with hx | hx | hx | hx
    · exact hM.new x (.inl hx)
    · exact hM.new x (.inr (.inl hx))
    · exact hM.new x (.inr (.inr (.inl hx)))
    · rcases h3 x hx with e | e
      · exact hM.new x (.inr (.inr (.inr e)))
      · omega
end

def bothG (size young : Int) (old : Nat) (times : Int) (ns : List Nd) (xs : List Int) (cl n : Int) : GSt := if cl = 4 then gcolS old times ns xs else groomS size young old times ns n xs
def bothH (size times : Int) (ms : List Nd) (ys : List Int) (cl n : Int) : RoomR := if cl = 4 then hcolS times ms ys else roomS size times ms n ys
set_option maxHeartbeats 800000 in
theorem both_ok {w0 w : World} {a h : Nat} {size young : Int} {old : Nat} {times : Int} {ns : List Nd} {F : Nat → Prop} {times' : Int} {ms : List Nd} {G : Nat → Prop} {vx vy : Value} {xs ys : List Int} {fx fy : Option Nat} {c : Int} (hM : Mem w0 w a h size young old times ns F times' ms G vx vy xs ys fx fy) (hT : Tw size young old ns ms xs ys c) (h0 : w0.heap.size ≤ w.heap.size) (hl : xs.length ≤ 17592186044416)
    (cl n k u : Int) (av : Value) : CallsR Try.prog 25 [.pointer (some ⟨a, 0, none⟩), .pointer (some ⟨h, 0, none⟩), .agg #[I cl, I n, I k, I u, av], vx, vy] w fun r w' => ∃ vl vm fl fm F' G', r = .tuple #[vl, vm, I (bothG size young old times ns xs cl n).err, I (bothH size times' ms ys cl n).err] ∧
      Mem w0 w' a h size young (bothG size young old times ns xs cl n).old (bothG size young old times ns xs cl n).times (bothG size young old times ns xs cl n).ns F' (bothH size times' ms ys cl n).times (bothH size times' ms ys cl n).ns G' vx vy xs ys fx fy ∧
      Own w' 3 1 vl ((bothG size young old times ns xs cl n).list.map I) (bothG size young old times ns xs cl n).list.length fl ∧ Own w' 3 1 vm ((bothH size times' ms ys cl n).list.map I) (bothH size times' ms ys cl n).list.length fm ∧ Mod (fun x => F x ∨ G x) w w' := by
  have hyl := hT.len
  have hw := hT.fine.wf
  have hfl := hT.fine.len
  have hs := hT.fine.s1
  have hs2 := hT.fine.s2
  have hy1 := hT.fine.y1
  have hy2 := hT.fine.y2
  have hle := hT.le
  have hxF : ∀ x, vblk vx = some x → xs ≠ [] → ¬ F x := fun x hx hne hf => by
    obtain ⟨b, c, _, e, e2, _⟩ := hM.ox.pos (by cases xs with | nil => exact absurd rfl hne | cons => simp)
    rw [e] at hx
    simp only [vblk, Option.some.injEq] at hx
    subst hx
    exact (hM.xf _ e2).1 hf
  have hv : xs ≠ [] → ∀ x, vblk vx = some x → ¬ F x := fun hne x hx => hxF x hx hne
  refine fit25.calls rfl ?_
  unfold ir25
  (try simp only [go_sem, Nat.reduceAdd, Nat.reduceEqDiff, Nat.reduceLT, Nat.reduceLeDiff, Nat.reduceMul, reduceCtorEq, ↓reduceIte])
  refine e_bx rfl ?_
  intro w1 hb1 hm1 hs1
  have hb1 : w1.heap[w.heap.size]? = some (.cells #[I cl, I n, I k, I u, av] 49 (0, 0)) := hb1
  have hM1 := mem_mod hM hm1 (fun _ h => h.elim)
  have hF1 := gat_lt hM.ga
  have hG1 := arena_lt hM.ha
  have h01 : w0.heap.size ≤ w1.heap.size := by omega
  have rest : ∀ (w2 : World) (v : Value) (fl : Option Nat) (F2 : Nat → Prop) (s : GSt) (t : RoomR), Mem w0 w2 a h size young s.old s.times s.ns F2 times' ms G vx vy xs ys fx fy → Own w2 3 1 v (s.list.map I) s.list.length fl → Grow F F2 w1 w2 → (∀ x, fl = some x → w1.heap.size ≤ x) →
      ∀ r w3, RoomPost 81 87 h size G w2 t r w3 → ∃ vm, r = .tuple #[vm, I t.err] ∧ ∃ fm G', Mem w0 w3 a h size young s.old s.times s.ns F2 t.times t.ns G' vx vy xs ys fx fy ∧ Own w3 3 1 v (s.list.map I) s.list.length fl ∧ Own w3 3 1 vm (t.list.map I) t.list.length fm ∧ Mod (fun x => F x ∨ G x) w w3 := by
    intro w2 v fl F2 s t k1 k2 k3 k4 r w3 k5
    obtain ⟨vm, fm, G', rfl, q1, q2, q3, q4⟩ := hroom_list k5
    have s2 := k3.1.size
    refine ⟨vm, rfl, fm, G', mem_g k1 q3 q4 (by omega), k2.mod q4.1 (fun x hx hh => by have := k4 x hx; have := hG1 x hh; omega), q1, ?_⟩
    refine ((hm1.weak (S' := fun x => F x ∨ G x) (fun _ h => h.elim)).step k3.1 (fun x hx _ => .inl hx)).step q4.1 (fun x hx _ => .inr hx)
  by_cases hc : cl = 4
  · have q : (cl == 4) = true := by simpa using hc
    have e1 : bothG size young old times ns xs cl n = gcolS old times ns xs := by rw [bothG, if_pos hc]
    have e2 : bothH size times' ms ys cl n = hcolS times' ms ys := by rw [bothH, if_pos hc]
    rw [e1, e2]
    (try simp only [go_sem, Nat.reduceAdd, Nat.reduceEqDiff, Nat.reduceLT, Nat.reduceLeDiff, Nat.reduceMul, reduceCtorEq, ↓reduceIte, cell_of hb1, q])
    refine e_call (by rfl) ?_
    refine (gcol_ok w1 a size young old times ns F hM1.ga hw hfl vx xs (hM1.ox.ints hl).1 hv hl).mono ?_
    intro r w2 hq
    obtain ⟨v, fl, F2, rfl, k1, k2, k3, k4⟩ := room_list (col_room (At := GAt) gat_mod hM1.ga hq)
    have hM2 := mem_f hM1 k3 k4 h01
    (try simp only [go_sem, Nat.reduceAdd, Nat.reduceEqDiff, Nat.reduceLT, Nat.reduceLeDiff, Nat.reduceMul, reduceCtorEq, ↓reduceIte])
    refine e_call (by rfl) ?_
    refine (col_ok h size times' ms G w2 vy ys hM2.ha (by omega) hT.wf (hM2.oy.ints (by omega)).1).mono ?_
    intro r w3 hq2
    obtain ⟨vm, rfl, fm, G', m1, m2, m3, m4⟩ := rest w2 v fl F2 _ _ hM2 k1 k4 (fun x hx => (k2 x hx).1) r w3 (hcol_room hM2.ha hq2)
    (try simp only [go_sem, Nat.reduceAdd, Nat.reduceEqDiff, Nat.reduceLT, Nat.reduceLeDiff, Nat.reduceMul, reduceCtorEq, ↓reduceIte])
    exact ⟨_, _, fl, fm, F2, G', rfl, m1, m2, m3, m4⟩
  · have q : (cl == 4) = false := by simpa using hc
    have e1 : bothG size young old times ns xs cl n = groomS size young old times ns n xs := by rw [bothG, if_neg hc]
    have e2 : bothH size times' ms ys cl n = roomS size times' ms n ys := by rw [bothH, if_neg hc]
    rw [e1, e2]
    (try simp only [go_sem, Nat.reduceAdd, Nat.reduceEqDiff, Nat.reduceLT, Nat.reduceLeDiff, Nat.reduceMul, reduceCtorEq, ↓reduceIte, cell_of hb1, q])
    refine e_call (by rfl) ?_
    refine (groom_ok w1 a size young old times ns F hM1.ga hT.fine.old hw hfl (by omega) (by omega) n vx xs (hM1.ox.ints hl).1 hv hl).mono ?_
    intro r w2 hq
    obtain ⟨v, fl, F2, rfl, k1, k2, k3, k4⟩ := room_list hq
    have hM2 := mem_f hM1 k3 k4 h01
    have hb2 := k4.1.at hb1 (fun hh => by have := hF1 _ hh; omega)
    (try simp only [go_sem, Nat.reduceAdd, Nat.reduceEqDiff, Nat.reduceLT, Nat.reduceLeDiff, Nat.reduceMul, reduceCtorEq, ↓reduceIte, cell_of hb2])
    refine e_call (by rfl) ?_
    refine (room_ok h size times' ms G w2 n vy ys hM2.ha (by omega) (by omega) hs2 hT.wf (hM2.oy.ints (by omega)).1).mono ?_
    intro r w3 hq2
    obtain ⟨vm, rfl, fm, G', m1, m2, m3, m4⟩ := rest w2 v fl F2 _ _ hM2 k1 k4 (fun x hx => (k2 x hx).1) r w3 hq2
    (try simp only [go_sem, Nat.reduceAdd, Nat.reduceEqDiff, Nat.reduceLT, Nat.reduceLeDiff, Nat.reduceMul, reduceCtorEq, ↓reduceIte])
    exact ⟨_, _, fl, fm, F2, G', rfl, m1, m2, m3, m4⟩
end Go.Proofs.Ytnimaifmcejkcaa
end

section
set_option linter.unusedSimpArgs false
set_option linter.unusedVariables false
set_option maxRecDepth 100000
namespace Go.Proofs.Ytnimaifmcejkcaa
open Go Go.W

/-- A script's step, as it lies. -/
structure TlV where
  cl : Int
  n : Int
  kind : Int
  num : Int
  args : List Int
  av : Value
def TlV.cells (o : TlV) : List Value := [I o.cl, I o.n, I o.kind, I o.num, o.av]
def TlV.reads (w : World) (o : TlV) : Prop := Ints w o.av o.args ∧ o.args.length + 5 ≤ 17592186044416 ∧ I64 o.n ∧ ∀ a ∈ o.args, I64 a
def Tls (w : World) (v : Value) (os : List TlV) : Prop :=
  ∃ a c, v = .slice a os.length c ∧ os.length ≤ 4398046511104 ∧ ∀ i (h : i < os.length), ∃ ad, a = some ad ∧ (∀ k, k < 5 → w.cell? ((ad.add (i * 5)).add k) = os[i].cells[k]?) ∧ os[i].reads w
theorem tls_at {w w' : World} {va : Option Addr} {vc : Nat} {os : List TlV} (h : Tls w (.slice va os.length vc) os) (hm : Mod (fun _ => False) w w') {i : Nat} (hi : i < os.length) :
    ∃ ad, va = some ad ∧ vLN w' 5 (.pointer (some (ad.add (i * 5)))) = some (.agg #[I os[i].cl, I os[i].n, I os[i].kind, I os[i].num, os[i].av]) ∧ os[i].reads w' := by
  obtain ⟨_, _, e0, _, hx⟩ := h
  cases e0
  obtain ⟨ad, rfl, h1, h2, h3⟩ := hx i hi
  have hh : ∀ k, k < 5 → w'.cell? ((ad.add (i * 5)).add k) = os[i].cells[k]? := by
    intro k hk
    obtain ⟨u, hu⟩ : ∃ u, os[i].cells[k]? = some u := ⟨os[i].cells[k]'(by simpa [TlV.cells] using hk), List.getElem?_eq_getElem _⟩
    rw [hu]
    exact hm.cell ((h1 k hk).trans hu) (fun h => h)
  refine ⟨ad, rfl, ?_, h2.mod hm (fun _ _ h => h), h3⟩
  have g0 := hh 0 (by omega)
  have g1 := hh 1 (by omega)
  have g2 := hh 2 (by omega)
  have g3 := hh 3 (by omega)
  have g4 := hh 4 (by omega)
  simp only [TlV.cells, List.getElem?_cons_zero, List.getElem?_cons_succ] at g0 g1 g2 g3 g4
  simp [vLN, cellsFrom, g0, g1, g2, g3, g4]

/-- The state at the script's head. -/
def StA (w0 w : World) (a h : Nat) (size young : Int) (k : Nat) (vx vy : Value) (c : Int) : Prop :=
  Mod (fun _ => False) w0 w ∧ ∃ old times ns F times' ms G xs ys fx fy, Mem w0 w a h size young old times ns F times' ms G vx vy xs ys fx fy ∧ Tw size young old ns ms xs ys c ∧ xs.length ≤ k
theorem twin_same {e : Int} (h : e = 0 ∨ e = 1) : (if e = 211 then decide (e = 201) else if e = 212 then decide (e = 202) else decide (e = e)) = true := by
  rcases h with rfl | rfl <;> rfl
/-- The nodes of a step are of the same things. -/
theorem same_nodes {xs ys : List Int} (hl : xs.length = ys.length) (args : List Int) (h : args = [] ∨ xs ≠ []) : Same xs ys (args.map (whD xs)) (args.map (whD ys)) := by
  refine ⟨by simp, fun i a b ha hb => ?_⟩
  simp only [List.getElem?_map, Option.map_eq_some_iff] at ha hb
  obtain ⟨k, h1, rfl⟩ := ha
  obtain ⟨k', h2, rfl⟩ := hb
  rw [h1] at h2; cases h2
  have hne : xs ≠ [] := h.resolve_left (fun hh => by rw [hh] at h1; simp at h1)
  exact whD_pair hl hne k
end Go.Proofs.Ytnimaifmcejkcaa
end

section
set_option linter.unusedSimpArgs false
set_option linter.unusedVariables false
set_option maxRecDepth 100000
namespace Go.Proofs.Ytnimaifmcejkcaa
open Go Go.W

def AlEnv (size : Int) (v : Value) (a h : Nat) (vx vy : Value) (c : Int) (k : Nat) : List (Nat × Value) :=
  [(0, I size), (2, v), (8, .pointer (some ⟨a, 0, none⟩)), (10, .pointer (some ⟨h, 0, none⟩)), (12, vx), (13, vy), (14, I c), (15, I k)]

set_option maxHeartbeats 6400000 in
theorem alike_body {w0 w : World} {a h : Nat} {size young : Int} {k : Nat} {vx vy : Value} {c : Int} (hS : StA w0 w a h size young k vx vy c) {va : Option Addr} {vc : Nat} {os : List TlV} (hTl : Tls w0 (.slice va os.length vc) os) (hk : k < os.length) (hol : os.length ≤ 4398046511104) (hc9 : c ≤ 9223372036854775807)
    {Q : Post} {ρ : Env} {N : Nat} (hρ : Has ρ (AlEnv size (.slice va os.length vc) a h vx vy c k))
    (hnext : ∀ ρ' w' vx' vy' c', StA w0 w' a h size young (k + 1) vx' vy' c' → c' ≤ 9223372036854775807 → Has ρ' (AlEnv size (.slice va os.length vc) a h vx' vy' c' (k + 1)) → Q .normal ρ' w')
    (hret : ∀ ρ' w', Mod (fun _ => False) w0 w' → ρ'.get 6 = some (.bool true) → Q .ret ρ' w') : irwp Try.prog N ir5L1 Q ρ w := by
  obtain ⟨r0, r2, r8, r10, r12, r13, r14, r15, _⟩ := hρ
  obtain ⟨hm, old, times, ns, F, times', ms, G, xs, ys, fx, fy, hM, hT, hxk⟩ := hS
  obtain ⟨ad, rfl, hl5, hrd⟩ := tls_at hTl hm hk
  generalize os[k] = o at hl5 hrd
  have q0 : decide ((k : Int) < os.length) = true := by simpa using hk
  have b1 : (0 : Int) ≤ k ∧ (k : Int) < os.length := by omega
  have hwk : IntKind.i64.wrap ((k : Int) + 1) = ((k + 1 : Nat) : Int) := by rw [wrap_in] <;> omega
  have hyl := hT.len
  have hs := hm.size
  unfold ir5L1
  (try simp only [go_sem, Nat.reduceAdd, Nat.reduceEqDiff, Nat.reduceLT, Nat.reduceLeDiff, Nat.reduceMul, reduceCtorEq, ↓reduceIte, Nat.mul_one, Int.toNat_natCast, Int.toNat_zero, Nat.sub_zero, Nat.sub_self, decide_true, r0, r2, r8, r10, r12, r13, r14, r15, q0, b1, hl5])
  refine e_al ?_
  intro w1 hb1 hm1 hs1
  have hb1 : w1.heap[w.heap.size]? = some (.cells #[I 0, I 0, I 0, I 0, .slice none 0 0] 49 (0, 0)) := hb1
  (try simp only [go_sem, Nat.reduceAdd, Nat.reduceEqDiff, Nat.reduceLT, Nat.reduceLeDiff, Nat.reduceMul, reduceCtorEq, ↓reduceIte])
  refine e_sta rfl rfl hb1 rfl rfl (by obtain ⟨⟨x, c, h1, _⟩, _⟩ := hrd; rw [h1]; simp [Value.oneCell']) ?_
  intro w2 hb2 hm2 hs2
  have hm12 : Mod (fun z => z = w.heap.size) w w2 := (hm1.weak (fun _ h => h.elim)).trans hm2
  have hM2 := mem_mod hM hm12 (fun z hz => by omega)
  have hm02 := hm.step hm12 (fun z hz hlt => by omega)
  have hav : Ints w2 o.av o.args := ints_modn hrd.1 hm12 (fun hne b hb hh => by have := ints_lt1 hrd.1 hne b hb; omega)
  obtain ⟨_, hal, hn64, ha64⟩ := hrd
  have posx : ∀ x ∈ xs, 0 ≤ x := fun x hx => (okPl_mem hT.ox hx).1
  have posy : ∀ x ∈ ys, 0 ≤ x := fun x hx => (okPl_mem hT.oy hx).1
  have hlF : ∀ z, F z ∨ G z → z < w.heap.size := fun z hz => hz.elim (gat_lt hM.ga z) (arena_lt hM.ha z)
  clear hb1 hm1 hs1 hm2 hs2 hM hl5 hm hs
  have s2 := hm02.size
  have s12 := hm12.size
  have l16 := lt_of_heap hb2
  generalize hg16 : w.heap.size = b16 at *
  clear hm12 hg16
  have hid : StA w0 w2 a h size young (k + 1) vx vy c := ⟨hm02, old, times, ns, F, times', ms, G, xs, ys, fx, fy, hM2, hT, by omega⟩
  by_cases c1 : o.cl = 1
  · have q1 : (o.cl == 1) = true := by simpa using c1
    (try simp only [go_sem, Nat.reduceAdd, Nat.reduceEqDiff, Nat.reduceLT, Nat.reduceLeDiff, Nat.reduceMul, reduceCtorEq, ↓reduceIte, cell_of hb2, q1, ln_of hb2 (off := 0) (n := 5) (by simp)])
    refine e_call (by rfl) ?_
    refine (node_ok w2 o.cl o.n o.kind o.num o.av vx o.args xs hav (hM2.ox.ints (by omega)).1 ha64 hal posx).mono ?_
    rintro r w3 ⟨hm3, u1, nd1, f1, rfl, o1, n1, e1, _⟩
    (try simp only [go_sem, Nat.reduceAdd, Nat.reduceEqDiff, Nat.reduceLT, Nat.reduceLeDiff, Nat.reduceMul, reduceCtorEq, ↓reduceIte])
    refine e_al ?_
    intro w4 hb4 hm4 hs4
    have hb4 : w4.heap[w3.heap.size]? = some (.cells #[I 0, I 0, .slice none 0 0] 38 (0, 0)) := hb4
    (try simp only [go_sem, Nat.reduceAdd, Nat.reduceEqDiff, Nat.reduceLT, Nat.reduceLeDiff, Nat.reduceMul, reduceCtorEq, ↓reduceIte])
    refine e_sta rfl rfl hb4 rfl rfl (by obtain ⟨x, c, rfl, _⟩ := o1.val; simp [Value.oneCell']) ?_
    intro w5 hb5 hm5 hs5
    have s3 := hm3.size
    have hm25 : Mod (fun z => z = w3.heap.size) w2 w5 := ((hm3.trans hm4).weak (fun _ h => h.elim)).trans hm5
    have hM5 := mem_mod hM2 hm25 (fun z hz => by omega)
    have hb25 := hm25.at hb2 (by omega)
    have o15 := (o1.mod hm4 (fun _ _ h => h)).mod hm5 (fun z hz hh => by have := o1.lt hz; omega)
    (try simp only [go_sem, Nat.reduceAdd, Nat.reduceEqDiff, Nat.reduceLT, Nat.reduceLeDiff, Nat.reduceMul, reduceCtorEq, ↓reduceIte, ln_of hb25 (off := 0) (n := 5) (by simp)])
    refine e_call (by rfl) ?_
    have hav5 : Ints w5 o.av o.args := ints_modn hav hm25 (fun hne b hb hh => by have := ints_lt1 hav hne b hb; omega)
    refine (node_ok w5 o.cl o.n o.kind o.num o.av vy o.args ys hav5 (hM5.oy.ints (by omega)).1 ha64 hal posy).mono ?_
    rintro r w6 ⟨hm6, u2, nd2, f2, rfl, o2, n2, e2, _⟩
    (try simp only [go_sem, Nat.reduceAdd, Nat.reduceEqDiff, Nat.reduceLT, Nat.reduceLeDiff, Nat.reduceMul, reduceCtorEq, ↓reduceIte])
    refine e_al ?_
    intro w7 hb7 hm7 hs7
    have hb7 : w7.heap[w6.heap.size]? = some (.cells #[I 0, I 0, .slice none 0 0] 38 (0, 0)) := hb7
    (try simp only [go_sem, Nat.reduceAdd, Nat.reduceEqDiff, Nat.reduceLT, Nat.reduceLeDiff, Nat.reduceMul, reduceCtorEq, ↓reduceIte])
    refine e_sta rfl rfl hb7 rfl rfl (by obtain ⟨x, c, rfl, _⟩ := o2.val; simp [Value.oneCell']) ?_
    intro w8 hb8 hm8 hs8
    have s6 := hm6.size
    have hm58 : Mod (fun z => z = w6.heap.size) w5 w8 := ((hm6.trans hm7).weak (fun _ h => h.elim)).trans hm8
    have hM8 := mem_mod hM5 hm58 (fun z hz => by omega)
    have hb58 := hm58.at hb5 (by omega)
    have o18 := o15.mod hm58 (fun z hz hh => by have := o15.lt hz; omega)
    have o28 := (o2.mod hm7 (fun _ _ h => h)).mod hm8 (fun z hz hh => by have := o2.lt hz; omega)
    have hm08 := (hm02.step hm25 (fun z hz hlt => by omega)).step hm58 (fun z hz hlt => by omega)
    have idle : ∀ c', Tw size young old ns ms xs ys c' → StA w0 w8 a h size young (k + 1) vx vy c' := fun c' ht => ⟨hm08, old, times, ns, F, times', ms, G, xs, ys, fx, fy, hM8, ht, by omega⟩
    have hyx : (o.args = [] ∨ ys ≠ []) ↔ (o.args = [] ∨ xs ≠ []) := by
      have : ys ≠ [] ↔ xs ≠ [] := by rw [← List.length_pos_iff, ← List.length_pos_iff, hyl]
      rw [this]
    by_cases hA : o.args = [] ∨ xs ≠ []
    rotate_left
    · have dA : decide (o.args = [] ∨ xs ≠ []) = false := by simpa using hA
      (try simp only [go_sem, Nat.reduceAdd, Nat.reduceEqDiff, Nat.reduceLT, Nat.reduceLeDiff, Nat.reduceMul, reduceCtorEq, ↓reduceIte, dA, hwk])
      exact hnext _ _ _ _ _ (idle c hT) hc9 ⟨rfl, rfl, rfl, rfl, rfl, rfl, rfl, rfl, trivial⟩
    have dA : decide (o.args = [] ∨ xs ≠ []) = true := by simpa using hA
    have dB : decide (o.args = [] ∨ ys ≠ []) = true := by simpa using hyx.2 hA
    by_cases hc : 0 < c
    rotate_left
    · have dC : decide (c > 0) = false := by simpa using hc
      (try simp only [go_sem, Nat.reduceAdd, Nat.reduceEqDiff, Nat.reduceLT, Nat.reduceLeDiff, Nat.reduceMul, reduceCtorEq, ↓reduceIte, dA, dB, dC, hwk])
      exact hnext _ _ _ _ _ (idle c hT) hc9 ⟨rfl, rfl, rfl, rfl, rfl, rfl, rfl, rfl, trivial⟩
    have dC : decide (c > 0) = true := by simpa using hc
    have hwc : IntKind.i64.wrap (c - 1) = c - 1 := by
      rw [wrap_in] <;> omega
    obtain rfl := e1 hA
    obtain rfl := e2 (hyx.2 hA)
    have hF8 := gat_lt hM2.ga
    have hG8 := arena_lt hM2.ha
    (try simp only [go_sem, Nat.reduceAdd, Nat.reduceEqDiff, Nat.reduceLT, Nat.reduceLeDiff, Nat.reduceMul, reduceCtorEq, ↓reduceIte, dA, dB, dC, hwc, ln_of hb58 (off := 0) (n := 3) (by simp)])
    refine e_call (by rfl) ?_
    refine (gadd_ok w8 a size young old times ns ⟨o.kind, o.num, o.args.map (whD xs)⟩ u1 F hM8.ga hT.fine.old hT.fine.len (o18.ints (by simp; omega)).1).mono ?_
    rintro r w9 ⟨rfl, F2, a9, g9⟩
    have s08 := hm08.size
    have hM9 := mem_f hM8 a9 g9 s08
    have hnF : ∀ z, F z ∨ G z → w0.heap.size ≤ z := fun z hz => hM2.new z (hz.elim .inl (fun h => .inr (.inl h)))
    have hb89 := g9.1.at hb8 (fun hh => by have := hF8 _ hh; omega)
    have o29 := o28.mod g9.1 (fun z hz hh => by have := hF8 _ hh; have := n2 z hz; omega)
    (try simp only [go_sem, Nat.reduceAdd, Nat.reduceEqDiff, Nat.reduceLT, Nat.reduceLeDiff, Nat.reduceMul, reduceCtorEq, ↓reduceIte, ln_of hb89 (off := 0) (n := 3) (by simp)])
    refine e_call (by rfl) ?_
    refine (add_ok h size times' ms ⟨o.kind, o.num, o.args.map (whD ys)⟩ u2 G w9 hM9.ha hT.le hT.fine.s2 (o29.ints (by simp; omega)).1).mono ?_
    rintro r w10 ⟨rfl, G2, a10, g10⟩
    have s9 := g9.1.size
    have hM10 := mem_g hM9 a10 g10 (by omega)
    have hm010 : Mod (fun _ => False) w0 w10 := (hm08.step g9.1 (fun z hz hlt => by have := hnF z (.inl hz); omega)).step g10.1 (fun z hz hlt => by have := hnF z (.inr hz); omega)
    have s010 := hm010.size
    have hsn := same_nodes hyl o.args hA
    rcases tw_add hT hc hsn o.kind o.num with ⟨g1, g2, hT2⟩ | ⟨g1, g2, hT2⟩
    · rw [g1, g2] at hM10
      rw [g1, g2]
      have t1 := twin_same (e := 0) (.inl rfl)
      (try simp only [go_sem, Nat.reduceAdd, Nat.reduceEqDiff, Nat.reduceLT, Nat.reduceLeDiff, Nat.reduceMul, reduceCtorEq, ↓reduceIte])
      refine e_call (by rfl) ?_
      refine (twin_ok w10 0 0).mono ?_
      rintro r _ ⟨rfl, rfl⟩
      rw [t1]
      have z0 : ((0 : Int) == 0) = true := rfl
      have hx10 := hM10.ox
      obtain ⟨xa, xc, rfl, _, _⟩ := hx10.val
      (try simp only [go_sem, Nat.reduceAdd, Nat.reduceEqDiff, Nat.reduceLT, Nat.reduceLeDiff, Nat.reduceMul, reduceCtorEq, ↓reduceIte, Bool.not_true, z0])
      refine e_bs (by rfl) (by (try simp only [go_sem, Nat.reduceAdd, Nat.reduceEqDiff, Nat.reduceLT, Nat.reduceLeDiff, Nat.reduceMul, reduceCtorEq, ↓reduceIte]); rfl) ?_
      intro w11 hb11 hm11 hs11
      have hM11 := mem_mod hM10 hm11 (fun _ h => h.elim)
      (try simp only [go_sem, Nat.reduceAdd, Nat.reduceEqDiff, Nat.reduceLT, Nat.reduceLeDiff, Nat.reduceMul, reduceCtorEq, ↓reduceIte])
      refine e_ap (m := 1) (news := [I (ns.length : Int)]) rfl hM11.ox rfl (fun h => by cases h) (rd_block hb11) (by simp [Value.oneCell']) rfl (by omega) (by omega) ?_
      intro v12 w12 f12 o12 hm12 hf12
      have s11 := hm11.size
      have hM12 : Mem w0 w12 a h size young old times _ _ _ _ _ v12 vy (xs ++ [(ns.length : Int)]) ys f12 fy := mem_x hM11 (by rw [List.map_append, List.length_append]; exact o12) hm12 (fun b hb => (hf12 b hb).imp (fun h => h) (fun h => by omega)) (by omega)
      have s12 := hm12.size
      have hy12 := hM12.oy
      obtain ⟨ya, yc, rfl, _, _⟩ := hy12.val
      (try simp only [go_sem, Nat.reduceAdd, Nat.reduceEqDiff, Nat.reduceLT, Nat.reduceLeDiff, Nat.reduceMul, reduceCtorEq, ↓reduceIte])
      refine e_bs (by rfl) (by (try simp only [go_sem, Nat.reduceAdd, Nat.reduceEqDiff, Nat.reduceLT, Nat.reduceLeDiff, Nat.reduceMul, reduceCtorEq, ↓reduceIte]); rfl) ?_
      intro w13 hb13 hm13 hs13
      have hM13 := mem_mod hM12 hm13 (fun _ h => h.elim)
      (try simp only [go_sem, Nat.reduceAdd, Nat.reduceEqDiff, Nat.reduceLT, Nat.reduceLeDiff, Nat.reduceMul, reduceCtorEq, ↓reduceIte])
      refine e_ap (m := 1) (news := [I (ms.length : Int)]) rfl hM13.oy rfl (fun h => by cases h) (rd_block hb13) (by simp [Value.oneCell']) rfl (by omega) (by omega) ?_
      intro v14 w14 f14 o14 hm14 hf14
      have s13 := hm13.size
      have hM14 : Mem w0 w14 a h size young old times _ _ _ _ _ v12 v14 (xs ++ [(ns.length : Int)]) (ys ++ [(ms.length : Int)]) f12 f14 := mem_y hM13 (by rw [List.map_append, List.length_append]; exact o14) hm14 (fun b hb => (hf14 b hb).imp (fun h => h) (fun h => by omega)) (by omega)
      have hnx : ∀ z, fx = some z → w0.heap.size ≤ z := fun z hz => hM10.new z (.inr (.inr (.inl hz)))
      have hny : ∀ z, fy = some z → w0.heap.size ≤ z := fun z hz => hM10.new z (.inr (.inr (.inr hz)))
      (try simp only [go_sem, Nat.reduceAdd, Nat.reduceEqDiff, Nat.reduceLT, Nat.reduceLeDiff, Nat.reduceMul, reduceCtorEq, ↓reduceIte, hwk])
      refine hnext _ _ v12 v14 (c - 1) ⟨?_, old, times, _, F2, times', _, G2, _, _, f12, f14, hM14, hT2, by simp; omega⟩ (by omega) ⟨rfl, rfl, rfl, rfl, rfl, rfl, rfl, rfl, trivial⟩
      exact (((hm010.trans hm11).step hm12 (fun z hz hlt => by have := hnx z hz; omega)).trans hm13).step hm14 (fun z hz hlt => by have := hny z hz; omega)
    · rw [g1, g2] at hM10
      rw [g1, g2]
      have t1 := twin_same (e := 1) (.inr rfl)
      (try simp only [go_sem, Nat.reduceAdd, Nat.reduceEqDiff, Nat.reduceLT, Nat.reduceLeDiff, Nat.reduceMul, reduceCtorEq, ↓reduceIte])
      refine e_call (by rfl) ?_
      refine (twin_ok w10 1 1).mono ?_
      rintro r _ ⟨rfl, rfl⟩
      rw [t1]
      have z0 : ((1 : Int) == 0) = false := rfl
      (try simp only [go_sem, Nat.reduceAdd, Nat.reduceEqDiff, Nat.reduceLT, Nat.reduceLeDiff, Nat.reduceMul, reduceCtorEq, ↓reduceIte, Bool.not_true, z0, hwk])
      exact hnext _ _ vx vy (c - 1) ⟨hm010, old, times, _, F2, times', _, G2, _, _, fx, fy, hM10, hT2, by omega⟩ (by omega) ⟨rfl, rfl, rfl, rfl, rfl, rfl, rfl, rfl, trivial⟩
  have q1 : (o.cl == 1) = false := by simpa using c1
  by_cases c2 : o.cl = 2
  · have q2 : (o.cl == 2) = true := by simpa using c2
    (try simp only [go_sem, Nat.reduceAdd, Nat.reduceEqDiff, Nat.reduceLT, Nat.reduceLeDiff, Nat.reduceMul, reduceCtorEq, ↓reduceIte, cell_of hb2, q1, q2, ln_of hb2 (off := 0) (n := 5) (by simp)])
    refine e_call (by rfl) ?_
    refine (node_ok w2 o.cl o.n o.kind o.num o.av vx o.args xs hav (hM2.ox.ints (by omega)).1 ha64 hal posx).mono ?_
    rintro r w3 ⟨hm3, u1, nd1, f1, rfl, o1, n1, e1, z1⟩
    (try simp only [go_sem, Nat.reduceAdd, Nat.reduceEqDiff, Nat.reduceLT, Nat.reduceLeDiff, Nat.reduceMul, reduceCtorEq, ↓reduceIte])
    refine e_al ?_
    intro w4 hb4 hm4 hs4
    have hb4 : w4.heap[w3.heap.size]? = some (.cells #[I 0, I 0, .slice none 0 0] 38 (0, 0)) := hb4
    (try simp only [go_sem, Nat.reduceAdd, Nat.reduceEqDiff, Nat.reduceLT, Nat.reduceLeDiff, Nat.reduceMul, reduceCtorEq, ↓reduceIte])
    refine e_sta rfl rfl hb4 rfl rfl (by obtain ⟨x, c, rfl, _⟩ := o1.val; simp [Value.oneCell']) ?_
    intro w5 hb5 hm5 hs5
    have s3 := hm3.size
    have hm25 : Mod (fun z => z = w3.heap.size) w2 w5 := ((hm3.trans hm4).weak (fun _ h => h.elim)).trans hm5
    have hM5 := mem_mod hM2 hm25 (fun z hz => by omega)
    have hb25 := hm25.at hb2 (by omega)
    have o15 := (o1.mod hm4 (fun _ _ h => h)).mod hm5 (fun z hz hh => by have := o1.lt hz; omega)
    (try simp only [go_sem, Nat.reduceAdd, Nat.reduceEqDiff, Nat.reduceLT, Nat.reduceLeDiff, Nat.reduceMul, reduceCtorEq, ↓reduceIte, ln_of hb25 (off := 0) (n := 5) (by simp)])
    refine e_call (by rfl) ?_
    have hav5 : Ints w5 o.av o.args := ints_modn hav hm25 (fun hne b hb hh => by have := ints_lt1 hav hne b hb; omega)
    refine (node_ok w5 o.cl o.n o.kind o.num o.av vy o.args ys hav5 (hM5.oy.ints (by omega)).1 ha64 hal posy).mono ?_
    rintro r w6 ⟨hm6, u2, nd2, f2, rfl, o2, n2, e2, z2⟩
    (try simp only [go_sem, Nat.reduceAdd, Nat.reduceEqDiff, Nat.reduceLT, Nat.reduceLeDiff, Nat.reduceMul, reduceCtorEq, ↓reduceIte])
    refine e_al ?_
    intro w7 hb7 hm7 hs7
    have hb7 : w7.heap[w6.heap.size]? = some (.cells #[I 0, I 0, .slice none 0 0] 38 (0, 0)) := hb7
    (try simp only [go_sem, Nat.reduceAdd, Nat.reduceEqDiff, Nat.reduceLT, Nat.reduceLeDiff, Nat.reduceMul, reduceCtorEq, ↓reduceIte])
    refine e_sta rfl rfl hb7 rfl rfl (by obtain ⟨x, c, rfl, _⟩ := o2.val; simp [Value.oneCell']) ?_
    intro w8 hb8 hm8 hs8
    have s6 := hm6.size
    have hm58 : Mod (fun z => z = w6.heap.size) w5 w8 := ((hm6.trans hm7).weak (fun _ h => h.elim)).trans hm8
    have hM8 := mem_mod hM5 hm58 (fun z hz => by omega)
    have hb58 := hm58.at hb5 (by omega)
    have hb28 := hm58.at hb25 (by omega)
    have o18 := o15.mod hm58 (fun z hz hh => by have := o15.lt hz; omega)
    have o28 := (o2.mod hm7 (fun _ _ h => h)).mod hm8 (fun z hz hh => by have := o2.lt hz; omega)
    have hm08 := (hm02.step hm25 (fun z hz hlt => by omega)).step hm58 (fun z hz hlt => by omega)
    have s08 := hm08.size
    have l5 := lt_of_heap hb58
    have hyx : (o.args = [] ∨ ys ≠ []) ↔ (o.args = [] ∨ xs ≠ []) := by
      have : ys ≠ [] ↔ xs ≠ [] := by rw [← List.length_pos_iff, ← List.length_pos_iff, hyl]
      rw [this]
    have n2' : ∀ z, f2 = some z → w5.heap.size ≤ z := n2
    generalize w3.heap.size = b25 at *
    generalize w6.heap.size = b27 at *
    (try simp only [go_sem, Nat.reduceAdd, Nat.reduceEqDiff, Nat.reduceLT, Nat.reduceLeDiff, Nat.reduceMul, reduceCtorEq, ↓reduceIte, cell_of hb28])
    refine e_call (by rfl) ?_
    refine (which_ok w8 vx xs o.n (hM8.ox.ints (by omega)).1 hn64).mono ?_
    rintro r _ ⟨rfl, rfl⟩
    (try simp only [go_sem, Nat.reduceAdd, Nat.reduceEqDiff, Nat.reduceLT, Nat.reduceLeDiff, Nat.reduceMul, reduceCtorEq, ↓reduceIte, cell_of hb28])
    refine e_call (by rfl) ?_
    refine (which_ok w8 vy ys o.n (hM8.oy.ints (by omega)).1 hn64).mono ?_
    rintro r _ ⟨rfl, rfl⟩
    have idle : ∀ w', Mod (fun _ => False) w8 w' → StA w0 w' a h size young (k + 1) vx vy c := fun w' hw' => ⟨hm08.trans hw', old, times, ns, F, times', ms, G, xs, ys, fx, fy, mem_mod hM8 hw' (fun _ h => h.elim), hT, by omega⟩
    by_cases hxs : xs = []
    · have e0 : whD xs o.n = -1 := by rw [whD, if_pos hxs]
      have z0 : decide ((-1 : Int) ≥ 0) = false := rfl
      have hfin := fun ρ' => hnext ρ' w8 vx vy c (idle w8 (Mod.refl _ _)) hc9
      rw [e0]
      by_cases hA : o.args = [] ∨ xs ≠ []
      · have dA : decide (o.args = [] ∨ xs ≠ []) = true := by simpa using hA
        have dB : decide (o.args = [] ∨ ys ≠ []) = true := by simpa using hyx.2 hA
        (try simp only [go_sem, Nat.reduceAdd, Nat.reduceEqDiff, Nat.reduceLT, Nat.reduceLeDiff, Nat.reduceMul, reduceCtorEq, ↓reduceIte, z0, dA, dB, hwk])
        exact hfin _ ⟨rfl, rfl, rfl, rfl, rfl, rfl, rfl, rfl, trivial⟩
      · have dA : decide (o.args = [] ∨ xs ≠ []) = false := by simpa using hA
        (try simp only [go_sem, Nat.reduceAdd, Nat.reduceEqDiff, Nat.reduceLT, Nat.reduceLeDiff, Nat.reduceMul, reduceCtorEq, ↓reduceIte, z0, dA, hwk])
        exact hfin _ ⟨rfl, rfl, rfl, rfl, rfl, rfl, rfl, rfl, trivial⟩
    obtain ⟨j, j1, j2⟩ := whD_pair hyl hxs o.n
    obtain ⟨p, q, ep, eq, hp, hq, hind⟩ := tw_at hT j1 j2
    rw [ep] at j1
    rw [eq] at j2
    rw [ep, eq]
    have z1 : decide ((p : Int) ≥ 0) = true := by simp
    have z2 : decide ((q : Int) ≥ 0) = true := by simp
    have hR8 : GRd w8 a ns := ⟨⟨size, young, old, times, F, hM8.ga⟩, hT.fine.wf, hT.fine.len⟩
    have hH8 : HRd w8 h ms := ⟨⟨size, times', G, hM8.ha⟩, hT.wf, by have := hT.le; have := hT.fine.s2; omega⟩
    (try simp only [go_sem, Nat.reduceAdd, Nat.reduceEqDiff, Nat.reduceLT, Nat.reduceLeDiff, Nat.reduceMul, reduceCtorEq, ↓reduceIte, z1, z2])
    refine e_call (by rfl) ?_
    refine (gover_ok w8 a ns hR8 p hp).mono ?_
    rintro r w9 ⟨hm9, pp, rfl, hpp, p1, _⟩
    (try simp only [go_sem, Nat.reduceAdd, Nat.reduceEqDiff, Nat.reduceLT, Nat.reduceLeDiff, Nat.reduceMul, reduceCtorEq, ↓reduceIte])
    refine e_call (by rfl) ?_
    refine (hover_ok w9 h ms (hst_mod hH8 hm9) q hq).mono ?_
    rintro r w10 ⟨hm10, qq, rfl, hqq, p2, _⟩
    have hm810 := hm9.trans hm10
    have hfin := fun ρ' => hnext ρ' w10 vx vy c (idle w10 hm810) hc9
    have qb : ∀ b : Bool, (b != b) = false := by intro b; cases b <;> rfl
    have qc : ∀ b : Bool, (b == b) = true := by intro b; cases b <;> rfl
    have z3 : decide ((pp : Int) ≥ 0) = true := by simp
    have z4 : decide ((qq : Int) ≥ 0) = true := by simp
    cases hring : ind ms (over ms q) with
    | true =>
      rw [hring] at hind
      by_cases hA : o.args = [] ∨ xs ≠ []
      · have dA : decide (o.args = [] ∨ xs ≠ []) = true := by simpa using hA
        have dB : decide (o.args = [] ∨ ys ≠ []) = true := by simpa using hyx.2 hA
        (try simp only [go_sem, Nat.reduceAdd, Nat.reduceEqDiff, Nat.reduceLT, Nat.reduceLeDiff, Nat.reduceMul, reduceCtorEq, ↓reduceIte, hind, hring, qb, qc, z3, z4, dA, dB, hwk, Bool.not_true])
        exact hfin _ ⟨rfl, rfl, rfl, rfl, rfl, rfl, rfl, rfl, trivial⟩
      · exact absurd (.inr hxs) hA
    | false =>
      rw [hring] at hind
      obtain rfl := p1 hind
      obtain rfl := p2 hring
      have hA : o.args = [] ∨ xs ≠ [] := .inr hxs
      have dA : decide (o.args = [] ∨ xs ≠ []) = true := by simpa using hA
      have dB : decide (o.args = [] ∨ ys ≠ []) = true := by simpa using hyx.2 hA
      obtain rfl := e1 hA
      obtain rfl := e2 (hyx.2 hA)
      have hM10 := mem_mod hM8 hm810 (fun _ h => h.elim)
      have hb510 := hm810.at hb58 (fun h => h)
      have hb810 := hm810.at hb8 (fun h => h)
      have o110 := o18.mod hm810 (fun _ _ h => h)
      have o210 := o28.mod hm810 (fun _ _ h => h)
      have hF2 := gat_lt hM2.ga
      have s810 := hm810.size
      have hsn := same_nodes hyl o.args hA
      obtain ⟨g1, g2, hT2⟩ := tw_set hT hsn o.kind o.num j1 j2 hind
      have hxF : o.args.map (whD xs) ≠ [] → ∀ x, vblk u1 = some x → ¬ F x := fun hne x hx hf => by
        have h1 := ints_lt1 (o110.ints (by simp; omega)).1 hne x hx
        obtain ⟨b, c, _, e, ee, _⟩ := o110.pos (by cases hh : o.args.map (whD xs) with | nil => exact absurd hh hne | cons => simp)
        rw [e] at hx
        simp only [vblk, Option.some.injEq] at hx
        subst hx
        have := n1 _ ee
        have := hF2 _ hf
        omega
      (try simp only [go_sem, Nat.reduceAdd, Nat.reduceEqDiff, Nat.reduceLT, Nat.reduceLeDiff, Nat.reduceMul, reduceCtorEq, ↓reduceIte, hind, hring, qb, qc, z3, z4, dA, dB, Bool.not_false, Bool.not_true, ln_of hb510 (off := 0) (n := 3) (by simp)])
      refine e_call (by rfl) ?_
      refine (gset_ok w10 a size young old times ns (over ns p) ⟨o.kind, o.num, o.args.map (whD xs)⟩ u1 F hM10.ga hT.fine.old hT.fine.len (wf_args_le hT.fine.wf) (o110.ints (by simp; omega)).1).mono ?_
      rintro r w11 ⟨rfl, F2, a11, g11⟩
      have hm010 := hm08.trans hm810
      have s010 := hm010.size
      have hM11 := mem_f hM10 a11 g11 s010
      have hnF : ∀ z, F z ∨ G z → w0.heap.size ≤ z := fun z hz => hM2.new z (hz.elim .inl (fun h => .inr (.inl h)))
      have hb811 := g11.1.at hb810 (fun hh => by have := hF2 _ hh; have := lt_of_heap hb28; omega)
      have o211 := o210.mod g11.1 (fun z hz hh => by have := hF2 _ hh; have := n2' z hz; omega)
      (try simp only [go_sem, Nat.reduceAdd, Nat.reduceEqDiff, Nat.reduceLT, Nat.reduceLeDiff, Nat.reduceMul, reduceCtorEq, ↓reduceIte, ln_of hb811 (off := 0) (n := 3) (by simp)])
      refine e_call (by rfl) ?_
      refine (set_ok h size times' ms (over ms q) ⟨o.kind, o.num, o.args.map (whD ys)⟩ u2 G w11 hM11.ha (by have := hT.le; have := hT.fine.s2; omega) (wf_args_le hT.wf) (o211.ints (by simp; omega)).1).mono ?_
      rintro r w12 ⟨rfl, G2, a12, g12⟩
      have s11 := g11.1.size
      have hM12 := mem_g hM11 a12 g12 (by omega)
      have hm012 : Mod (fun _ => False) w0 w12 := (hm010.step g11.1 (fun z hz hlt => by have := hnF z (.inl hz); omega)).step g12.1 (fun z hz hlt => by have := hnF z (.inr hz); omega)
      (try simp only [go_sem, Nat.reduceAdd, Nat.reduceEqDiff, Nat.reduceLT, Nat.reduceLeDiff, Nat.reduceMul, reduceCtorEq, ↓reduceIte])
      refine e_call (by rfl) ?_
      refine (twin_ok w12 _ _).mono ?_
      rintro r _ ⟨rfl, rfl⟩
      rw [← g1, twin_same g2]
      (try simp only [go_sem, Nat.reduceAdd, Nat.reduceEqDiff, Nat.reduceLT, Nat.reduceLeDiff, Nat.reduceMul, reduceCtorEq, ↓reduceIte, Bool.not_true, hwk])
      exact hnext _ _ vx vy c ⟨hm012, old, times, _, F2, times', _, G2, _, _, fx, fy, hM12, hT2, by omega⟩ hc9 ⟨rfl, rfl, rfl, rfl, rfl, rfl, rfl, rfl, trivial⟩
  have q2 : (o.cl == 2) = false := by simpa using c2
  by_cases c5 : o.cl = 5
  · have q5 : (o.cl == 5) = true := by simpa using c5
    have hx2 := hM2.ox
    have hy2 := hM2.oy
    by_cases hxs : xs.length = 0
    · obtain ⟨xa, xc, rfl, _, _⟩ := hx2.val
      have z0 : decide ((xs.length : Int) > 0) = false := by rw [hxs]; rfl
      (try simp only [go_sem, Nat.reduceAdd, Nat.reduceEqDiff, Nat.reduceLT, Nat.reduceLeDiff, Nat.reduceMul, reduceCtorEq, ↓reduceIte, cell_of hb2, q1, q2, q5, z0, hwk])
      exact hnext _ _ _ _ _ hid hc9 ⟨rfl, rfl, rfl, rfl, rfl, rfl, rfl, rfl, trivial⟩
    · obtain ⟨bx, cx, _, rfl, efx, _, hcx, _⟩ := hx2.pos (by omega)
      obtain ⟨by', cy, _, rfl, efy, _, hcy, _⟩ := hy2.pos (by omega)
      obtain ⟨j, hj⟩ : ∃ j, xs.length = j + 1 := ⟨xs.length - 1, by omega⟩
      have hjy : ys.length = j + 1 := by omega
      have z0 : decide ((xs.length : Int) > 0) = true := by simp; omega
      have hwj : IntKind.i64.wrap ((xs.length : Int) - 1) = (j : Int) := by rw [hj, wrap_in] <;> omega
      have hwj2 : IntKind.i64.wrap ((ys.length : Int) - 1) = (j : Int) := by rw [hjy, wrap_in] <;> omega
      have hb1 : (0 : Int) ≤ (j : Int) := by omega
      have hkt : (j : Int) ≤ (cx : Int) := by omega
      have hku : (j : Int) ≤ (cy : Int) := by omega
      have o1 := own_cutI hx2 (show j ≤ xs.length by omega)
      have o2 := own_cutI hy2 (show j ≤ ys.length by omega)
      rw [← List.map_take] at o1 o2
      have ex : (xs.take j).length = j := by simp; omega
      have ey : (ys.take j).length = j := by simp; omega
      have hM3 : Mem w0 w2 a h size young old times ns F times' ms G (.slice (some ⟨bx, 0, none⟩) j cx) (.slice (some ⟨by', 0, none⟩) j cy) (xs.take j) (ys.take j) fx fy :=
        ⟨hM2.ga, hM2.ha, by rw [ex]; exact o1, by rw [ey]; exact o2, hM2.fg, hM2.xf, hM2.yf, hM2.new⟩
      (try simp only [go_sem, Nat.reduceAdd, Nat.reduceEqDiff, Nat.reduceLT, Nat.reduceLeDiff, Nat.reduceMul, reduceCtorEq, ↓reduceIte, Nat.mul_one, Int.toNat_natCast, Int.toNat_zero, Nat.sub_zero, Nat.sub_self, cell_of hb2, q1, q2, q5, z0, hwj, hwj2, hb1, hkt, hku, ite_self, hwk])
      exact hnext _ _ _ _ _ ⟨hm02, old, times, ns, F, times', ms, G, _, _, fx, fy, hM3, tw_pop hT j, by rw [ex]; omega⟩ hc9 ⟨rfl, rfl, rfl, rfl, rfl, rfl, rfl, rfl, trivial⟩
  have q5 : (o.cl == 5) = false := by simpa using c5
  (try simp only [go_sem, Nat.reduceAdd, Nat.reduceEqDiff, Nat.reduceLT, Nat.reduceLeDiff, Nat.reduceMul, reduceCtorEq, ↓reduceIte, cell_of hb2, q1, q2, q5, ln_of hb2 (off := 0) (n := 5) (by simp)])
  refine e_call (by rfl) ?_
  refine (both_ok hM2 hT s2 (by omega) o.cl o.n o.kind o.num o.av).mono ?_
  rintro r w3 ⟨vl, vm, fl, fm, F2, G2, rfl, hM3, ol, om, hm3⟩
  have hnF : ∀ z, F z ∨ G z → w0.heap.size ≤ z := fun z hz => hM2.new z (hz.elim .inl (fun h => .inr (.inl h)))
  have hm03 : Mod (fun _ => False) w0 w3 := hm02.step hm3 (fun z hz hlt => by have := hnF z hz; omega)
  have hb3 := hm3.at hb2 (fun hh => by have := hlF _ hh; omega)
  have key : ((bothG size young old times ns xs o.cl o.n).err = 1 ∧ (bothH size times' ms ys o.cl o.n).err = 1 ∧ Tw size young (bothG size young old times ns xs o.cl o.n).old (bothG size young old times ns xs o.cl o.n).ns (bothH size times' ms ys o.cl o.n).ns xs ys c) ∨
      ((bothG size young old times ns xs o.cl o.n).err = 211 ∧ (bothH size times' ms ys o.cl o.n).err = 201) ∨
      ((bothG size young old times ns xs o.cl o.n).err = 0 ∧ (bothH size times' ms ys o.cl o.n).err = 0 ∧ (bothG size young old times ns xs o.cl o.n).list.length = xs.length ∧ (bothH size times' ms ys o.cl o.n).list.length = ys.length ∧
        Tw size young (bothG size young old times ns xs o.cl o.n).old (bothG size young old times ns xs o.cl o.n).ns (bothH size times' ms ys o.cl o.n).ns (bothG size young old times ns xs o.cl o.n).list (bothH size times' ms ys o.cl o.n).list (if o.cl = 4 then 0 else o.n)) := by
    unfold bothG bothH
    by_cases c4 : o.cl = 4
    · simp only [if_pos c4]
      right; right
      have e1 : gcolS old times ns xs = ⟨some (smallRoots ns 0 xs), 0, smallNs ns 0 xs, (smallNs ns 0 xs).length, IntKind.i64.wrap (times + 1)⟩ := by simp [gcolS, hT.ox]
      have e2 : hcolS times' ms ys = ⟨some (colRoots ms ys), 0, colNs ms ys, IntKind.i64.wrap (times' + 1)⟩ := by simp [hcolS, hT.oy]
      rw [e1, e2]
      exact ⟨rfl, rfl, by simp [GSt.list, smallRoots], by simp [RoomR.list, colRoots], tw_col hT⟩
    · simp only [if_neg c4]
      rcases tw_room hT times times' o.n with ⟨_, e1, e2⟩ | h1 | ⟨h1, h2, l, m, h3, h4, h5, h6, h7⟩
      · left
        rw [e1, e2]
        exact ⟨rfl, rfl, hT⟩
      · exact .inr (.inl h1)
      · right; right
        have e3 : (groomS size young old times ns o.n xs).list = l := by simp [GSt.list, h3]
        have e4 : (roomS size times' ms o.n ys).list = m := by simp [RoomR.list, h4]
        rw [e3, e4]
        exact ⟨h1, h2, h5, h6, h7⟩
  generalize bothG size young old times ns xs o.cl o.n = s at *
  generalize bothH size times' ms ys o.cl o.n = t at *
  have s3 := hm3.size
  have s03 := hm03.size
  have last : ∀ (w4 : World) (vx' vy' : Value) (c' : Int) (xs' ys' : List Int) (fx' fy' : Option Nat), Mod (fun _ => False) w0 w4 → c' ≤ 9223372036854775807 → Mem w0 w4 a h size young s.old s.times s.ns F2 t.times t.ns G2 vx' vy' xs' ys' fx' fy' → Tw size young s.old s.ns t.ns xs' ys' c' → xs'.length ≤ k →
      CallsR Try.prog 27 [I size, .pointer (some ⟨a, 0, none⟩), .pointer (some ⟨h, 0, none⟩), vx', vy'] w4 fun r w' => (StA w0 w' a h size young (k + 1) vx' vy' c') ∧ r = .bool true := by
    intro w4 vx' vy' c' xs' ys' fx' fy' k1 k2 k3 k4 k5
    have hle := k4.fine.le
    refine (alike_ok w4 a h size s.ns t.ns ⟨⟨size, young, _, _, F2, k3.ga⟩, k4.fine.wf, k4.fine.len⟩ ⟨⟨size, _, G2, k3.ha⟩, k4.wf, by have := k4.le; have := k4.fine.s2; omega⟩ hle k4.le vx' vy' xs' ys' (k3.ox.ints (by omega)).1 (k3.oy.ints (by have := k4.len; omega)).1 k4.ox k4.oy k4.alike (by omega)).mono ?_
    rintro r w' ⟨q1, q2⟩
    exact ⟨⟨k1.trans q1, _, _, _, F2, _, _, G2, xs', ys', fx', fy', mem_mod k3 q1 (fun _ h => h.elim), k4, by omega⟩, q2⟩
  (try simp only [go_sem, Nat.reduceAdd, Nat.reduceEqDiff, Nat.reduceLT, Nat.reduceLeDiff, Nat.reduceMul, reduceCtorEq, ↓reduceIte])
  refine e_call (by rfl) ?_
  refine (twin_ok w3 _ _).mono ?_
  rintro r _ ⟨rfl, rfl⟩
  rcases key with ⟨e1, e2, hT3⟩ | ⟨e1, e2⟩ | ⟨e1, e2, e3, e4, hT3⟩
  · rw [e1, e2]
    have t1 := twin_same (e := 1) (.inr rfl)
    rw [t1]
    have z1 : ((1 : Int) == 211) = false := rfl
    have z2 : ((1 : Int) == 0) = false := rfl
    (try simp only [go_sem, Nat.reduceAdd, Nat.reduceEqDiff, Nat.reduceLT, Nat.reduceLeDiff, Nat.reduceMul, reduceCtorEq, ↓reduceIte, Bool.not_true, z1, z2])
    refine e_call (by rfl) ?_
    refine (last w3 vx vy c xs ys fx fy hm03 hc9 hM3 hT3 hxk).mono ?_
    rintro r w4 ⟨hst, rfl⟩
    (try simp only [go_sem, Nat.reduceAdd, Nat.reduceEqDiff, Nat.reduceLT, Nat.reduceLeDiff, Nat.reduceMul, reduceCtorEq, ↓reduceIte, Bool.not_true, hwk])
    exact hnext _ _ vx vy c hst hc9 ⟨rfl, rfl, rfl, rfl, rfl, rfl, rfl, rfl, trivial⟩
  · rw [e1, e2]
    have t1 : (if (211 : Int) = 211 then decide ((201 : Int) = 201) else if (211 : Int) = 212 then decide ((201 : Int) = 202) else decide ((211 : Int) = 201)) = true := rfl
    rw [t1]
    have z1 : ((211 : Int) == 211) = true := rfl
    (try simp only [go_sem, Nat.reduceAdd, Nat.reduceEqDiff, Nat.reduceLT, Nat.reduceLeDiff, Nat.reduceMul, reduceCtorEq, ↓reduceIte, Bool.not_true, z1])
    exact hret _ _ hm03 rfl
  · rw [e1, e2]
    have t1 := twin_same (e := 0) (.inl rfl)
    rw [t1]
    have z1 : ((0 : Int) == 211) = false := rfl
    have z2 : ((0 : Int) == 0) = true := rfl
    obtain ⟨xa, xc, rfl, _, _⟩ := hM3.ox.val
    obtain ⟨ya, yc, rfl, _, _⟩ := hM3.oy.val
    obtain ⟨la, lc, rfl, _, _⟩ := ol.val
    obtain ⟨ma, mc, rfl, _, _⟩ := om.val
    have z3 : ((s.list.length : Int) != xs.length) = false := by simp [e3]
    have z4 : ((t.list.length : Int) != ys.length) = false := by simp [e4]
    (try simp only [go_sem, Nat.reduceAdd, Nat.reduceEqDiff, Nat.reduceLT, Nat.reduceLeDiff, Nat.reduceMul, reduceCtorEq, ↓reduceIte, Bool.not_true, z1, z2, z3, z4])
    refine e_call (by rfl) ?_
    refine (lcopied_ok w3 _ s.list (ol.ints (by omega)).1).mono ?_
    rintro v4 w4 ⟨hm4, f4, o4, n4⟩
    have s4 := hm4.size
    have hM4 := mem_x hM3 o4 (hm4.weak (fun _ h => h.elim)) (fun b hb => .inr (n4 b hb)) s03
    have om4 := om.mod hm4 (fun _ _ h => h)
    (try simp only [go_sem, Nat.reduceAdd, Nat.reduceEqDiff, Nat.reduceLT, Nat.reduceLeDiff, Nat.reduceMul, reduceCtorEq, ↓reduceIte])
    refine e_call (by rfl) ?_
    refine (lcopied_ok w4 _ t.list (om4.ints (by omega)).1).mono ?_
    rintro v5 w5 ⟨hm5, f5, o5, n5⟩
    have hM5 := mem_y hM4 o5 (hm5.weak (fun _ h => h.elim)) (fun b hb => .inr (n5 b hb)) (by omega)
    have hm35 := hm4.trans hm5
    have hb5 := hm35.at hb3 (fun h => h)
    have hm05 := hm03.trans hm35
    by_cases c4 : o.cl = 4
    · rw [if_pos c4] at hT3
      have z5 : (o.cl != 4) = false := by simp [c4]
      (try simp only [go_sem, Nat.reduceAdd, Nat.reduceEqDiff, Nat.reduceLT, Nat.reduceLeDiff, Nat.reduceMul, reduceCtorEq, ↓reduceIte, cell_of hb5, z5])
      refine e_call (by rfl) ?_
      refine (last w5 v4 v5 0 _ _ f4 f5 hm05 (by omega) hM5 hT3 (by omega)).mono ?_
      rintro r w6 ⟨hst, rfl⟩
      (try simp only [go_sem, Nat.reduceAdd, Nat.reduceEqDiff, Nat.reduceLT, Nat.reduceLeDiff, Nat.reduceMul, reduceCtorEq, ↓reduceIte, Bool.not_true, hwk])
      exact hnext _ _ v4 v5 0 hst (by omega) ⟨rfl, rfl, rfl, rfl, rfl, rfl, rfl, rfl, trivial⟩
    · rw [if_neg c4] at hT3
      have z5 : (o.cl != 4) = true := by simp [c4]
      (try simp only [go_sem, Nat.reduceAdd, Nat.reduceEqDiff, Nat.reduceLT, Nat.reduceLeDiff, Nat.reduceMul, reduceCtorEq, ↓reduceIte, cell_of hb5, z5])
      refine e_call (by rfl) ?_
      refine (last w5 v4 v5 o.n _ _ f4 f5 hm05 hn64.2 hM5 hT3 (by omega)).mono ?_
      rintro r w6 ⟨hst, rfl⟩
      (try simp only [go_sem, Nat.reduceAdd, Nat.reduceEqDiff, Nat.reduceLT, Nat.reduceLeDiff, Nat.reduceMul, reduceCtorEq, ↓reduceIte, Bool.not_true, hwk])
      exact hnext _ _ v4 v5 o.n hst hn64.2 ⟨rfl, rfl, rfl, rfl, rfl, rfl, rfl, rfl, trivial⟩
end Go.Proofs.Ytnimaifmcejkcaa
end

section
set_option linter.unusedSimpArgs false
set_option linter.unusedVariables false
set_option maxRecDepth 100000
namespace Go.Proofs.Ytnimaifmcejkcaa
open Go Go.W

theorem galike_ok (w : World) (size young : Int) (v : Value) (os : List TlV) (h : Tls w v os) :
    CallsR Try.prog 5 [I size, I young, v] w fun q w' => q = .bool true ∧ Mod (fun _ => False) w w' := by
  have h0 := h
  obtain ⟨va, vc, rfl, hol, _⟩ := h0
  refine fit5.calls rfl ?_
  unfold ir5
  (try simp only [go_sem, Nat.reduceAdd, Nat.reduceEqDiff, Nat.reduceLT, Nat.reduceLeDiff, Nat.reduceMul, reduceCtorEq, ↓reduceIte])
  refine e_call (by rfl) ?_
  refine (awake_ok w).mono ?_
  rintro q w1 ⟨rfl, hm1⟩
  (try simp only [go_sem, Nat.reduceAdd, Nat.reduceEqDiff, Nat.reduceLT, Nat.reduceLeDiff, Nat.reduceMul, reduceCtorEq, ↓reduceIte])
  refine e_call (by rfl) ?_
  refine (gnew_ok size young w1).mono ?_
  rintro q w2 ⟨k1, k2⟩
  by_cases g : 1 ≤ size ∧ size ≤ 1048576 ∧ 1 ≤ young ∧ young ≤ size
  rotate_left
  · obtain ⟨rfl, rfl⟩ := k2 g
    have z0 : ((210 : Int) == 0) = false := rfl
    have z1 : ((210 : Int) != 0) = true := rfl
    have z2 : ((210 : Int) == 210) = true := rfl
    have qc : ((false : Bool) != false) = false := rfl
    by_cases y1 : size < 1
    · have y1' : decide (size < 1) = true := by simpa using y1
      (try simp only [go_sem, Nat.reduceAdd, Nat.reduceEqDiff, Nat.reduceLT, Nat.reduceLeDiff, Nat.reduceMul, reduceCtorEq, ↓reduceIte, z0, z1, z2, y1', Bool.not_true, Bool.not_false, Option.isNone_none, Option.isNone_some, beq_self_eq_true])
      exact hm1
    have y1' : decide (size < 1) = false := by simpa using y1
    by_cases y2 : size > 1048576
    · have y2' : decide (size > 1048576) = true := by simpa using y2
      (try simp only [go_sem, Nat.reduceAdd, Nat.reduceEqDiff, Nat.reduceLT, Nat.reduceLeDiff, Nat.reduceMul, reduceCtorEq, ↓reduceIte, z0, z1, z2, y1', y2', Bool.not_true, Bool.not_false, Option.isNone_none, Option.isNone_some, beq_self_eq_true])
      exact hm1
    have y2' : decide (size > 1048576) = false := by simpa using y2
    by_cases y3 : young < 1
    · have y3' : decide (young < 1) = true := by simpa using y3
      (try simp only [go_sem, Nat.reduceAdd, Nat.reduceEqDiff, Nat.reduceLT, Nat.reduceLeDiff, Nat.reduceMul, reduceCtorEq, ↓reduceIte, z0, z1, z2, y1', y2', y3', Bool.not_true, Bool.not_false, Option.isNone_none, Option.isNone_some, beq_self_eq_true])
      exact hm1
    have y3' : decide (young < 1) = false := by simpa using y3
    have y4' : decide (young > size) = true := by simp; omega
    (try simp only [go_sem, Nat.reduceAdd, Nat.reduceEqDiff, Nat.reduceLT, Nat.reduceLeDiff, Nat.reduceMul, reduceCtorEq, ↓reduceIte, z0, z1, z2, y1', y2', y3', y4', Bool.not_true, Bool.not_false, Option.isNone_none, Option.isNone_some, beq_self_eq_true])
    exact hm1
  obtain ⟨a, F, rfl, a2, hm2, f2⟩ := k1 g
  have z0 : ((0 : Int) == 0) = true := rfl
  have z1 : ((0 : Int) != 0) = false := rfl
  (try simp only [go_sem, Nat.reduceAdd, Nat.reduceEqDiff, Nat.reduceLT, Nat.reduceLeDiff, Nat.reduceMul, reduceCtorEq, ↓reduceIte, z0, z1, Bool.not_true, Bool.not_false, Option.isNone_none, Option.isNone_some, beq_self_eq_true])
  refine e_call (by rfl) ?_
  refine (new_ok size w2).mono ?_
  rintro q w3 ⟨k3, _⟩
  obtain ⟨rfl, a3, hm3, s3⟩ := k3 ⟨g.1, g.2.1⟩
  have hm03 := (hm1.trans hm2).trans hm3
  have s1 := hm1.size
  have s2 := hm2.size
  have hF := gat_lt a2
  have hM : Mem w w3 a w2.heap.size size young 0 0 [] F 0 [] (· = w2.heap.size) (.slice none 0 0) (.slice none 0 0) [] [] none none :=
    ⟨gat_mod a2 hm3 (fun _ _ h => h), a3, Own.nil _ _ _, Own.nil _ _ _, fun x hx hh => by have := hF x hx; omega, fun x hx => (by cases hx), fun x hx => (by cases hx), fun x hx => by
      rcases hx with hx | hx | hx | hx
      · have := f2 x hx; omega
      · omega
      · cases hx
      · cases hx⟩
  have hS : StA w w3 a w2.heap.size size young 0 (.slice none 0 0) (.slice none 0 0) 0 := ⟨hm03, 0, 0, [], F, 0, [], _, [], [], none, none, hM, tw_new (fine_new g), Nat.le_refl _⟩
  generalize w2.heap.size = b at hS ⊢
  clear hM a3 k3 hm3 s3 hm03 f2 a2 hm2 hm1
  (try simp only [go_sem, Nat.reduceAdd, Nat.reduceEqDiff, Nat.reduceLT, Nat.reduceLeDiff, Nat.reduceMul, reduceCtorEq, ↓reduceIte, z0, z1, Bool.not_true, Bool.not_false, Option.isNone_none, Option.isNone_some, beq_self_eq_true])
  refine ir_loop (fun m ρ w' => ∃ (k : Nat) (vx vy : Value) (c : Int), m = os.length - k ∧ k ≤ os.length ∧ c ≤ 9223372036854775807 ∧ StA w w' a b size young k vx vy c ∧ Has ρ (AlEnv size (.slice va os.length vc) a b vx vy c k)) os.length
    ⟨0, _, _, 0, rfl, Nat.zero_le _, by omega, hS, rfl, rfl, rfl, rfl, rfl, rfl, rfl, rfl, trivial⟩ ?_
  rintro m ρ w4 ⟨k, vx, vy, c, rfl, hk, hc9, hS4, hρ⟩
  by_cases hlt : k < os.length
  · refine alike_body hS4 h hlt hol hc9 hρ (fun ρ' w' vx' vy' c' q1 q2 q3 => ?_) (fun ρ' w' q1 q2 => ?_)
    · (try simp only [go_sem, Nat.reduceAdd, Nat.reduceEqDiff, Nat.reduceLT, Nat.reduceLeDiff, Nat.reduceMul, reduceCtorEq, ↓reduceIte])
      exact ⟨_, by omega, k + 1, vx', vy', c', rfl, hlt, q2, q1, q3⟩
    · (try simp only [go_sem, Nat.reduceAdd, Nat.reduceEqDiff, Nat.reduceLT, Nat.reduceLeDiff, Nat.reduceMul, reduceCtorEq, ↓reduceIte, q2])
      exact q1
  · have hkl : k = os.length := by omega
    subst hkl
    obtain ⟨r0, r2, r8, r10, r12, r13, r14, r15, _⟩ := hρ
    obtain ⟨hm, old, times, ns, F, times', ms, G, xs, ys, fx, fy, hM, hT, hxk⟩ := hS4
    have q0 : decide ((os.length : Int) < os.length) = false := by simp
    unfold ir5L1
    (try simp only [go_sem, Nat.reduceAdd, Nat.reduceEqDiff, Nat.reduceLT, Nat.reduceLeDiff, Nat.reduceMul, reduceCtorEq, ↓reduceIte, r0, r2, r8, r10, r12, r13, r14, r15, q0])
    refine e_call (by rfl) ?_
    have hyl := hT.len
    refine (alike_ok w4 a b size ns ms ⟨⟨size, young, _, _, F, hM.ga⟩, hT.fine.wf, hT.fine.len⟩ ⟨⟨size, _, G, hM.ha⟩, hT.wf, by have := hT.le; have := hT.fine.s2; omega⟩ hT.fine.le hT.le vx vy xs ys (hM.ox.ints (by omega)).1 (hM.oy.ints (by omega)).1 hT.ox hT.oy hT.alike (by omega)).mono ?_
    rintro r w5 ⟨hm5, rfl⟩
    (try simp only [go_sem, Nat.reduceAdd, Nat.reduceEqDiff, Nat.reduceLT, Nat.reduceLeDiff, Nat.reduceMul, reduceCtorEq, ↓reduceIte])
    exact hm.trans hm5
end Go.Proofs.Ytnimaifmcejkcaa
end

section
set_option linter.unusedSimpArgs false
set_option linter.unusedVariables false
set_option maxRecDepth 100000
namespace Go.Proofs.Ytnimaifmcejkcaa
open Go Go.W Go.ChangeShapes Go.WideShapes Go.ChangeAt Go.RowKit Go.Deep

theorem Try.lcells49 : Try.prog.cellsOf 49 = 5 := by kernel_rfl
theorem Try.lcells38 : Try.prog.cellsOf 38 = 3 := by kernel_rfl
theorem Try.lcells33 : Try.prog.cellsOf 33 = 1 := by kernel_rfl
theorem Try.lcells3 : Try.prog.cellsOf 3 = 1 := by kernel_rfl
theorem Try.lbytes3 : Try.prog.bytesOf 3 = 8 := by kernel_rfl
theorem Try.lbytes49 : Try.prog.bytesOf 49 = 56 := by kernel_rfl
theorem Try.lown : ownKnob Try.prog.godebug = none := by kernel_rfl
theorem Try.llaidOut : laidOutB Try.prog = true := by kernel_rfl

section
variable {H : Type} {enc : TypeId × Value → H}

instance : Inhabited TlV := ⟨⟨0, 0, 0, 0, [], .bool true⟩⟩
theorem lall_app {p : Nat → Bool} {l m : List Nat} (h : (l ++ m).all p = true) : l.all p = true ∧ m.all p = true := by
  simpa using h
theorem wf_i64 {n : Int} (h : (Lit.int .i64 n).wf = true) : I64 n := by
  have h1 : IntKind.min .i64 = -9223372036854775808 := by decide
  have h2 : IntKind.max .i64 = 9223372036854775807 := by decide
  simp only [Lit.wf, h1, h2, Bool.and_eq_true, decide_eq_true_eq] at h
  exact h
theorem tr_ints64 {t e : TypeId} {w : World} {base : Nat} {held : Bool} {n : Nat} {cs : List Value} {x : DataW H × List MemPlace} (ht : Try.prog.underlying t = some (.slice e)) (he : Try.prog.underlying e = some (.int .i64)) (hc : Try.prog.cellsOf e = 1) (hby : Try.prog.bytesOf e = 8)
    (h : DataW.trod enc Try.prog w base (fun _ => true) held n t cs = some x) (hw : (x.1.weights Try.prog t).all (· ≤ reachBytes) = true) : ∃ c xs, cs = [c] ∧ Ints w c xs ∧ xs.length + 5 ≤ 17592186044416 ∧ ∀ a ∈ xs, I64 a := by
  rcases open_ints ht he hc h with ⟨rfl, rfl⟩ | ⟨a, len, cap, zs, rfl, _, hl, _, hz, rfl, hcell, hwf⟩
  · exact ⟨_, [], rfl, ⟨none, 0, rfl, by simp, fun i hi => absurd hi (by simp)⟩, by simp, fun a ha => by cases ha⟩
  · simp only [if_true] at hz
    have h1 : zs.length * 8 ≤ reachBytes := by
      have := List.all_eq_true.1 hw ((lits (H := H) .i64 (zs.take len)).length * 8 + (lits (H := H) .i64 (zs.drop len)).length * 8) (by simp [DataW.weights, ht, hby, Nat.add_mul])
      simp [lits] at this; omega
    have h2 : reachBytes = 140737488351232 := by decide
    have hlen : (zs.take len).length = len := by simp; omega
    refine ⟨_, zs.take len, rfl, ⟨some a, cap, by rw [hlen], by omega, fun i hi => ⟨a, rfl, ?_⟩⟩, by omega, fun a ha => wf_i64 (hwf a (List.mem_of_mem_take ha))⟩
    rw [hcell i (by omega)]
    simp [List.getD, List.getElem?_eq_getElem (show i < zs.length by omega)]

theorem tl_in {w : World} {base n : Nat} {held : Bool} {cs : List Value} {x : DataW H × List MemPlace} (h : DataW.trod enc Try.prog w base (fun _ => true) held n 49 cs = some x) (hw : (x.1.weights Try.prog 49).all (· ≤ reachBytes) = true) :
    ∃ o : TlV, cs = o.cells ∧ o.reads w := by
  obtain ⟨xs, m, rfl, rfl, hl, hxs, hf⟩ := DataW.trod_struct Try.underlying49 h
  rw [Try.lcells49] at hl
  match cs, hl, xs, hxs with
  | [c0, c1, c2, c3, c4], _, [x0, x1, x2, x3, x4], _ =>
  have f0 := hf 0 _ rfl
  have f1 := hf 1 _ rfl
  have f2 := hf 2 _ rfl
  have f3 := hf 3 _ rfl
  have f4 := hf 4 _ rfl
  simp only [Try.lcells3, Try.lcells38, Try.lcells33, List.drop_zero, List.drop_succ_cons, List.take_succ_cons, List.take_zero, List.getElem?_cons_zero, List.getElem?_cons_succ] at f0 f1 f2 f3 f4
  simp only [DataW.weights, Try.underlying49, List.map_cons, List.map_nil, DataW.weightsEach] at hw
  obtain ⟨_, hw⟩ := lall_app hw
  obtain ⟨_, hw⟩ := lall_app hw
  obtain ⟨_, hw⟩ := lall_app hw
  obtain ⟨_, hw⟩ := lall_app hw
  obtain ⟨hw4, _⟩ := lall_app hw
  obtain ⟨i0, e0, rfl, _⟩ := DataW.trod_int Try.underlying3 f0
  obtain ⟨i1, e1, rfl, g1⟩ := DataW.trod_int Try.underlying3 f1
  obtain ⟨i2, e2, rfl, _⟩ := DataW.trod_int Try.underlying3 f2
  obtain ⟨i3, e3, rfl, _⟩ := DataW.trod_int Try.underlying3 f3
  obtain ⟨v4, args, e4, ha, hal, h64⟩ := tr_ints64 Try.underlying33 Try.underlying3 Try.lcells3 Try.lbytes3 f4 hw4
  cases e0; cases e1; cases e2; cases e3; cases e4
  exact ⟨⟨i0, i1, i2, i3, args, c4⟩, rfl, ha, hal, wf_i64 g1, h64⟩

theorem tls_in {w : World} {base n : Nat} {held : Bool} {v : Value} {x : DataW H × List MemPlace} (h : DataW.trod enc Try.prog w base (fun _ => true) held n 44 [v] = some x) (hw : (x.1.weights Try.prog 44).all (· ≤ reachBytes) = true) :
    ∃ os, Tls w v os := by
  rcases open_slice Try.underlying44 h with ⟨e, rfl⟩ | ⟨a, len, cap, m, k, D, Pl, e, _, hl, _, hm, rfl, hel⟩
  · simp only [List.cons.injEq, and_true] at e
    subst e
    exact ⟨[], none, 0, rfl, by simp, fun i hi => absurd hi (by simp)⟩
  · simp only [List.cons.injEq, and_true] at e
    subst e
    simp only [if_true] at hm
    subst hm
    simp only [DataW.weights, Try.underlying44, Try.lbytes49, List.length_map, List.length_range, List.all_cons, Bool.and_eq_true, decide_eq_true_eq] at hw
    obtain ⟨hw1, hw2⟩ := hw
    obtain ⟨hw2, _⟩ := lall_app hw2
    have h2 : reachBytes = 140737488351232 := by decide
    have each : ∀ i, i < len → ∃ o : TlV, (∀ k, k < 5 → w.cell? ((a.add (i * 5)).add k) = o.cells[k]?) ∧ o.reads w := by
      intro i hi
      obtain ⟨cs, h3, h4⟩ := hel i (by omega)
      have hwi : ((D i).weights Try.prog 49).all (· ≤ reachBytes) = true := by
        have key : ∀ (l : List (DataW H)) d, d ∈ l → (DataW.weightsAll Try.prog 49 l).all (· ≤ reachBytes) = true → (d.weights Try.prog 49).all (· ≤ reachBytes) = true := by
          intro l
          induction l with
          | nil => intro d hd; cases hd
          | cons y l ih =>
            intro d hd hh
            rw [DataW.weightsAll] at hh
            obtain ⟨z1, z2⟩ := lall_app hh
            rcases List.mem_cons.1 hd with rfl | hd
            · exact z1
            · exact ih d hd z2
        exact key _ _ (List.mem_map.2 ⟨i, List.mem_range.2 hi, rfl⟩) hw2
      obtain ⟨o, rfl, ho⟩ := tl_in h4 hwi
      obtain ⟨_, _, h5⟩ := World.cells?_some h3
      rw [Try.lcells49] at h5
      exact ⟨o, fun k hk => h5 k hk, ho⟩
    obtain ⟨f, hf⟩ := choose_lt (α := TlV) (h := each)
    refine ⟨(List.range len).map f, some a, m, by simp, by simp; omega, fun i hi => ⟨a, rfl, ?_⟩⟩
    have hi' : i < len := by simpa using hi
    simpa using hf i hi'
end
end Go.Proofs.Ytnimaifmcejkcaa
end

section
set_option linter.unusedSimpArgs false
set_option linter.unusedVariables false
set_option maxRecDepth 100000
namespace Go.Proofs.Ytnimaifmcejkcaa
open Go Go.W Go.ChangeShapes Go.WideShapes Go.ChangeAt Go.RowKit Go.Deep

theorem alike_in {H : Type} {enc : TypeId × Value → H} {w : World} {args : List Value} {ds : List (DataW H)} (h : LawIn enc Try.prog Try.f5.params.toList w args ds) : ∃ one two v os, args = [I one, I two, v] ∧ Tls w v os := by
  obtain ⟨⟨base, hval⟩, ⟨ps, hA⟩, hsz⟩ := h
  rw [Try.params5] at hval hA hsz
  obtain ⟨v0, v1, v2, d0, d1, d2, p0, p1, p2, ha, rfl, rfl, h0, h1, h2⟩ := trodAll_three (args := args.toArray) (by simpa using hA)
  have ha : args = [v0, v1, v2] := by simpa using congrArg Array.toList ha
  subst ha
  obtain ⟨one, rfl, rfl, rfl, _⟩ := open_int Try.underlying3 (hval 0 3 v0 rfl rfl) h0
  obtain ⟨two, rfl, rfl, rfl, _⟩ := open_int Try.underlying3 (hval 1 3 v1 rfl rfl) h1
  obtain ⟨a0, len, cap, rfl⟩ := okWide_slice Try.underlying44 (hval 2 44 v2 rfl rfl)
  obtain ⟨fuel, hf⟩ := h2
  have hw : (d2.weights Try.prog 44).all (· ≤ reachBytes) = true := List.all_eq_true.2 (fun n hn => List.all_eq_true.1 hsz n (DataW.weights_mem_each (j := 2) rfl rfl n hn))
  obtain ⟨os, ho⟩ := tls_in (x := (d2, p2)) (by simpa [Value.cells] using hf) hw
  exact ⟨one, two, _, os, rfl, ho⟩

set_option maxRecDepth 100000 in
theorem alike_lifted (os : Os) (started : os.Started) (H : Type) (enc : TypeId × Value → H) :
    ReturnsInHanded {} Try.checked os 5 .any (Rows.gensAlikeSpec.pre6 enc Try.prog Try.f5 Rows.gensAlikeRow.domain false) (Rows.gensAlikeSpec.post enc Try.prog Try.f5 false true false false) := by
  refine law_row (C := Try.checked) Try.lown started (by kernel_rfl) Try.func5
    (ChangeSpec.witness6 (enc := enc) (C := Try.checked) false ⟨#[], #[.int .i64 0, .int .i64 0, .slice none 0 0], []⟩ 8 (by kernel_rfl) (by kernel_rfl) (by kernel_rfl) (by kernel_rfl))
    Try.llaidOut (by kernel_rfl) (tb := 4) (by kernel_rfl) Try.underlying4 rfl ?_ ?_
  · intro ds hd
    rw [Try.params5] at hd
    match ds, hd with
    | [_, _, _], _ => rfl
  · intro W args ds h
    obtain ⟨one, two, v, os, rfl, ho⟩ := alike_in h
    exact galike_ok W one two v os ho

theorem gensAlike_holds : Rows.GensAlikeSaid :=
  OpenClaim.holds_of_wide 5 Try.f5 rfl rfl rfl rfl rfl rfl rfl ⟨rfl, rfl, rfl, rfl, rfl⟩ rfl rfl rfl rfl rfl (by kernel_rfl) Try.func5 (by kernel_rfl)
    (of_decide_eq_true (by kernel_rfl)) (by unfold Func.isWrapper; rw [if_neg (of_decide_eq_false (by kernel_rfl))]; exact ⟨rfl, rfl⟩)
    (fun os started H enc _ => alike_lifted os started H enc)
#print axioms gensAlike_holds
end Go.Proofs.Ytnimaifmcejkcaa
end
