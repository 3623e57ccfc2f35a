/- Heap: Collect. -/
import Derived.Test.YtnagmcdlepcgnaaH5
import Derived.Test.YtnagmcdlepcgnaaP3
set_option linter.unusedSimpArgs false
set_option linter.unusedVariables false
namespace Go.Proofs.Ytnagmcdlepcgnaa
open Go Go.W

def ColPost (Ta Tc : Nat) (a : Nat) (size times : Int) (F : Nat → Prop) (w : World) (ns : List Nd) (roots : List Int) (r : Value) (w' : World) : Prop :=
  (okPl ns.length roots = false → r = .tuple #[.slice none 0 0, I 202] ∧ Mod (fun _ => False) w w') ∧
  (okPl ns.length roots = true → ∃ v fp F', r = .tuple #[v, I 0] ∧ Own w' 3 1 v ((colRoots ns roots).map I) (colRoots ns roots).length fp ∧
    ArenaAt Ta Tc w' a size (IntKind.i64.wrap (times + 1)) (colNs ns roots) F' ∧ Grow F F' w w' ∧ ∀ b, fp = some b → w.heap.size ≤ b ∧ ¬ F' b)

theorem MW.modX {w w' : World} {X S : Nat → Prop} {bm bo bd : Nat} {cf to pa : Value} {n : Nat} {l md path : List Int} {ts : List (Nd × Nat)} {tfp pfp : Option Nat} (h : MW w X bm bo bd cf to pa n l md path ts tfp pfp)
    (hm : Mod S w w') (hs : ∀ b, S b → X b) : MW w' X bm bo bd cf to pa n l md path ts tfp pfp :=
  ⟨hm.at h.cells (fun hh => h.X1.1 (hs _ hh)), hm.at h.over (fun hh => h.X1.2.1 (hs _ hh)), hm.at h.moved (fun hh => h.X1.2.2 (hs _ hh)), h.path.mod hm (fun b hb hh => h.X2 b hb (hs _ hh)),
    h.to.mod hm (fun b hb hh => h.X3 b hb (hs _ hh)) (fun t ht hh => h.X4 t ht (hs _ hh)), h.od, h.po, h.pd, h.tr, h.X1, h.X2, h.X3, h.X4, fun b hb => Nat.lt_of_lt_of_le (h.X5 b hb) hm.size⟩

theorem fill_next (f : Int → Int) (l : List Int) (z : Value) (k : Nat) (hk : k < l.length) :
    (((l.take k).map f).map I ++ List.replicate (l.length - k) z).set k (I (f l[k])) = ((l.take (k + 1)).map f).map I ++ List.replicate (l.length - (k + 1)) z := by
  have h1 : (((l.take k).map f).map I).length = k := by simp; omega
  rw [List.set_append, if_neg (by omega), h1, Nat.sub_self, show l.length - k = (l.length - (k + 1)) + 1 by omega, List.replicate_succ, List.set_cons_zero, List.take_succ_eq_append_getElem hk]
  simp only [List.map_append, List.map_cons, List.map_nil, List.append_assoc, List.cons_append, List.nil_append]

theorem to_at {w : World} {to : Value} {ts : List (Nd × Nat)} {tfp : Option Nat} (h : ToAt w to ts tfp) {i b : Nat} {nd : Nd} (hi : ts[i]? = some (nd, b)) :
    ∃ tb tc, to = .slice (some ⟨tb, 0, none⟩) ts.length tc ∧ w.cell? ⟨tb, i * 3 + 2, none⟩ = some (.slice (some ⟨b, 0, none⟩) nd.args.length nd.args.length) ∧ w.heap[b]? = some (.cells (nd.args.map I).toArray 3 (0, 0)) := by
  obtain ⟨hlt, he⟩ := List.getElem?_eq_some_iff.1 hi
  obtain ⟨tb, tc, sp', rfl, rfl, h3, _, _⟩ := h.own.pos (by omega)
  refine ⟨tb, tc, rfl, ?_, ?_⟩
  · have := node_cell h3 (i := i) (k := 2) (by simpa using hlt) (by omega)
    rw [this]
    simp [nc, cpv, he]
  · have := h.row _ (List.getElem_mem hlt)
    rw [he] at this; exact this

theorem map_set_same {α β : Type} (f : α → β) (l : List α) (i : Nat) (y x : α) (hx : l[i]? = some x) (h : f y = f x) : (l.set i y).map f = l.map f := by
  apply List.ext_getElem?
  intro j
  simp only [List.getElem?_map, List.getElem?_set]
  split
  · rename_i hij; subst hij
    rw [if_pos (List.getElem?_eq_some_iff.1 hx).1, hx]; simp [h]
  · rfl

theorem MW.set {w w' : World} {X : Nat → Prop} {bm bo bd : Nat} {cf to pa : Value} {n : Nat} {l md path : List Int} {ts : List (Nd × Nat)} {tfp pfp : Option Nat} (h : MW w X bm bo bd cf to pa n l md path ts tfp pfp)
    {i b : Nat} {nd : Nd} (hi : ts[i]? = some (nd, b)) {xs : List Int} (hl : xs.length = nd.args.length) (hm : Mod (· = b) w w') (hb : w'.heap[b]? = some (.cells (xs.map I).toArray 3 (0, 0))) :
    MW w' X bm bo bd cf to pa n l md path (ts.set i (⟨nd.kind, nd.num, xs⟩, b)) tfp pfp := by
  have hmem := List.mem_of_getElem? hi
  obtain ⟨hlt, he⟩ := List.getElem?_eq_some_iff.1 hi
  have hrow := h.to.row _ hmem
  have htr := h.tr _ hmem
  have hsnd : (ts.set i (⟨nd.kind, nd.num, xs⟩, b)).map Prod.snd = ts.map Prod.snd := map_set_same _ _ _ _ _ hi rfl
  have hflat : flat ((ts.set i (⟨nd.kind, nd.num, xs⟩, b)).map cpv) = flat (ts.map cpv) := by
    simp only [flat, List.flatMap_map]
    have : (ts.set i (⟨nd.kind, nd.num, xs⟩, b)).map (fun t => nc (cpv t)) = ts.map (fun t => nc (cpv t)) := map_set_same _ _ _ _ _ hi (by simp [nc, cpv, hl])
    rw [List.flatMap_def, List.flatMap_def, this]
  have hset : ∀ t, t ∈ ts.set i (⟨nd.kind, nd.num, xs⟩, b) → t = (⟨nd.kind, nd.num, xs⟩, b) ∨ (t ∈ ts ∧ t.2 ≠ b) := by
    intro t ht
    obtain ⟨j, hj⟩ := List.getElem?_of_mem ht
    rw [List.getElem?_set] at hj
    split at hj
    · first
        | exact .inl (Option.some.inj hj).symm
        | (split at hj
           · exact .inl (Option.some.inj hj).symm
           · cases hj)
    · rename_i hij
      refine .inr ⟨List.mem_of_getElem? hj, fun hh => ?_⟩
      obtain ⟨hjl, hje⟩ := List.getElem?_eq_some_iff.1 hj
      have h1 : (ts.map Prod.snd)[i]'(by simpa using hlt) = (ts.map Prod.snd)[j]'(by simpa using hjl) := by simp [he, hje, hh]
      exact hij ((List.getElem_inj h.to.nodup).1 h1)
  refine ⟨hm.at h.cells (fun hh => by subst hh; exact kind_ne hrow h.cells (by omega)), hm.at h.over (fun hh => htr.1 hh.symm), hm.at h.moved (fun hh => htr.2.1 hh.symm), h.path.mod hm (fun b' hb' hh => htr.2.2 (by rw [hb', hh])),
    ⟨?_, ?_, by rw [hsnd]; exact h.to.nodup⟩, h.od, h.po, h.pd, ?_, h.X1, h.X2, h.X3, ?_, fun b hb => Nat.lt_of_lt_of_le (h.X5 b hb) hm.size⟩
  · rw [hflat]
    simpa using h.to.own.mod hm (fun b' hb' hh => own_kind h.to.own hb' (hh ▸ hrow) (by omega))
  · intro t ht
    rcases hset t ht with rfl | ⟨h1, h2⟩
    · exact hb
    · exact hm.at (h.to.row t h1) h2
  · intro t ht
    rcases hset t ht with rfl | ⟨h1, h2⟩
    · exact htr
    · exact h.tr t h1
  · intro t ht
    rcases hset t ht with rfl | ⟨h1, h2⟩
    · have := h.X4 _ hmem
      exact this
    · exact h.X4 t h1

/-- What stays true while Collect goes: w is the world at its beginning. -/
def CI (ns : List Nd) (outF : List Nat) (w w' : World) (bm bo bd bu : Nat) (cf : Value) (out : List Nat) (i k : Nat) (bi : Option Nat) (us : List Value) : Prop :=
  ∃ l md path to pa ts tfp pfp, MW w' (fun b => b < w.heap.size ∨ b = bu) bm bo bd cf to pa ns.length l md path ts tfp pfp ∧ KI ns l ∧ MI ns l md out ∧ Rel ns outF out ts i k ∧
    (∀ b, bi = some b → ∃ nd, ts[i]? = some (nd, b)) ∧ Mod (fun _ => False) w w' ∧ w'.heap[bu]? = some (.cells us.toArray 3 (0, 0)) ∧ w.heap.size ≤ bu

theorem ci_move {ns : List Nd} (hw : WF ns) (hn : ns.length ≤ 1048576) {outF : List Nat} {w w' : World} {bm bo bd bu : Nat} {cf : Value} {out : List Nat} {i k : Nat} {bi : Option Nat} {us : List Value} {F : Nat → Prop}
    (hfr : FromAt 70 w cf ns F) (h : CI ns outF w w' bm bo bd bu cf out i k bi us) (hi : i ≤ out.length) (hik : i = out.length → k = 0) {p : Nat} (hp : p < ns.length) (hpre : meet ns out p <+: outF) :
    CallsR Try.prog 21 [.pointer (some ⟨bm, 0, none⟩), I p] w' (fun r w2 => r = I (outF.idxOf (over ns p) : Nat) ∧ CI ns outF w w2 bm bo bd bu cf (meet ns out p) i k bi us) := by
  obtain ⟨l, md, path, to, pa, ts, tfp, pfp, h1, h2, h3, h4, h5, h6, h7, h8⟩ := h
  have hF : ∀ b, F b → b < w.heap.size := by obtain ⟨_, _, _, _, _, _, h⟩ := hfr; exact h
  refine (move_ok ns hw hn w' _ bm bo bd cf to pa l md path ts tfp pfp F out (hfr.mod h6 (fun _ _ h => h)) (fun b hb => .inl (hF b hb)) h1 h2 h3 h4.len p hp).mono ?_
  rintro r w2 ⟨l', md', path', to', pa', ts', tfp', pfp', rfl, k1, k2, k3, k4, k5⟩
  refine ⟨by rw [idx_pre hpre (mem_meet ns out p)], l', md', path', to', pa', ts', tfp', pfp', k3, k1, k2, ?_, ?_, h6.step k4 (fun b hb hlt => hb (.inl hlt)), k4.at h7 (fun hh => hh (.inr rfl)), h8⟩
  · rcases k5 with ⟨rfl, e⟩ | ⟨e, b, rfl, e1, e2, e3, e4⟩
    · rw [e]; exact h4
    · rw [e1]; exact rel_app hw h4 hi hik e2 e3 e4
  · intro b hb
    obtain ⟨nd, hnd⟩ := h5 b hb
    rcases k5 with ⟨rfl, e⟩ | ⟨e, b, rfl, e1, e2, e3, e4⟩
    · exact ⟨nd, hnd⟩
    · exact ⟨nd, by rw [List.getElem?_append_left (List.getElem?_eq_some_iff.1 hnd).1]; exact hnd⟩

theorem col_ok (a : Nat) (size times : Int) (ns : List Nd) (F : Nat → Prop) (w : World) (v : Value) (roots : List Int) (h : ArenaAt 63 70 w a size times ns F) (hn : ns.length ≤ 1048576) (hw : WF ns) (hx : Ints w v roots) :
    CallsR Try.prog 7 [.pointer (some ⟨a, 0, none⟩), v] w (ColPost 63 70 a size times F w ns roots) := by
  have hh := h.has
  have hx0 := hx
  obtain ⟨va, vc, rfl, hxl, _⟩ := hx0
  refine fit7.calls rfl ?_
  unfold ir7
  (try simp only [go_sem, Nat.reduceAdd, Nat.reduceEqDiff, Nat.reduceLT, Nat.reduceLeDiff, Nat.reduceMul, Nat.zero_add, reduceCtorEq, ↓reduceIte, List.length_cons, List.length_nil, List.set_cons_zero, List.set_cons_succ, List.take_zero, List.take_succ_cons, List.drop_zero, List.drop_succ_cons, List.take_nil, List.drop_nil, List.nil_append, List.cons_append, List.append_nil, or_false, false_or, or_true, true_or, false_implies, true_implies, and_true, true_and, and_self, Bool.and_true, Bool.true_and])
  refine e_call (by rfl) ?_
  refine (places_ok a ns.length _ roots w hh hx).mono ?_
  rintro r _ ⟨rfl, rfl⟩
  (try simp only [go_sem, Nat.reduceAdd, Nat.reduceEqDiff, Nat.reduceLT, Nat.reduceLeDiff, Nat.reduceMul, Nat.zero_add, reduceCtorEq, ↓reduceIte, List.length_cons, List.length_nil, List.set_cons_zero, List.set_cons_succ, List.take_zero, List.take_succ_cons, List.drop_zero, List.drop_succ_cons, List.take_nil, List.drop_nil, List.nil_append, List.cons_append, List.append_nil, or_false, false_or, or_true, true_or, false_implies, true_implies, and_true, true_and, and_self, Bool.and_true, Bool.true_and])
  refine ir_cond rfl (fun hc => ?_) (fun hc => ?_)
  · have hc' : okPl ns.length roots = false := by simpa using hc
    (try simp only [go_sem, Nat.reduceAdd, Nat.reduceEqDiff, Nat.reduceLT, Nat.reduceLeDiff, Nat.reduceMul, Nat.zero_add, reduceCtorEq, ↓reduceIte, List.length_cons, List.length_nil, List.set_cons_zero, List.set_cons_succ, List.take_zero, List.take_succ_cons, List.drop_zero, List.drop_succ_cons, List.take_nil, List.drop_nil, List.nil_append, List.cons_append, List.append_nil, or_false, false_or, or_true, true_or, false_implies, true_implies, and_true, true_and, and_self, Bool.and_true, Bool.true_and])
    exact ⟨fun _ => ⟨rfl, Mod.refl _ _⟩, fun h => by rw [hc'] at h; cases h⟩
  have hc' : okPl ns.length roots = true := by simpa using hc
  obtain ⟨cv, fpc, ps, g1, g2, g3, g4, g5, g6, g7⟩ := id h
  have hFa : a < w.heap.size := lt_of_heap g1
  have hfr : FromAt 70 w cv ns F := ⟨fpc, ps, g3, g4, g5, g6, g7⟩
  obtain ⟨ca, cc, rfl, _, _⟩ := g3.val
  (try simp only [go_sem, Nat.reduceAdd, Nat.reduceEqDiff, Nat.reduceLT, Nat.reduceLeDiff, Nat.reduceMul, Nat.zero_add, reduceCtorEq, ↓reduceIte, List.length_cons, List.length_nil, List.set_cons_zero, List.set_cons_succ, List.take_zero, List.take_succ_cons, List.drop_zero, List.drop_succ_cons, List.take_nil, List.drop_nil, List.nil_append, List.cons_append, List.append_nil, or_false, false_or, or_true, true_or, false_implies, true_implies, and_true, true_and, and_self, Bool.and_true, Bool.true_and, cell_of g1])
  refine wpD_cut (fun ρ w' => ∃ bo bd bm, ρ.get 0 = some (.pointer (some ⟨a, 0, none⟩)) ∧ ρ.get 1 = some (.slice va roots.length vc) ∧ ρ.get 6 = some (.pointer (some ⟨bm, 0, none⟩)) ∧
    w'.heap[bm]? = some (.cells #[.slice ca ns.length cc, .slice none 0 0, .slice (some ⟨bo, 0, none⟩) ns.length ns.length, .slice (some ⟨bd, 0, none⟩) ns.length ns.length, .slice none 0 0] 65 (0, 0)) ∧
    w'.heap[bo]? = some (.cells (List.replicate ns.length (I 0)).toArray 3 (0, 0)) ∧ w'.heap[bd]? = some (.cells (List.replicate ns.length (I 0)).toArray 3 (0, 0)) ∧ bo ≠ bd ∧ w.heap.size ≤ bo ∧ w.heap.size ≤ bd ∧ w.heap.size ≤ bm ∧
    Mod (fun _ => False) w w') ?_ ?_
  · rw [wpD_e2]
    refine ⟨?_, ?_⟩
    · refine e_ms1 (n := ns.length) rfl (by omega) (by omega) ?_
      intro w1 hb1 hm1 hs1
      have hm1 : Mod (fun _ => False) w w1 := hm1.of_drew
      have hs1 : w1.heap.size = w.heap.size + 1 := hs1
      (try simp only [go_sem, Nat.reduceAdd, Nat.reduceEqDiff, Nat.reduceLT, Nat.reduceLeDiff, Nat.reduceMul, Nat.zero_add, reduceCtorEq, ↓reduceIte, List.length_cons, List.length_nil, List.set_cons_zero, List.set_cons_succ, List.take_zero, List.take_succ_cons, List.drop_zero, List.drop_succ_cons, List.take_nil, List.drop_nil, List.nil_append, List.cons_append, List.append_nil, or_false, false_or, or_true, true_or, false_implies, true_implies, and_true, true_and, and_self, Bool.and_true, Bool.true_and])
      have ka := hm1.old a hFa (fun h => h)
      refine ⟨by simp only [drew_heap, ka, and_self, implies_true], ?_⟩
      refine e_ms1 (n := ns.length) rfl (by omega) (by omega) ?_
      intro w2 hb2 hm2 hs2
      have ka2 := hm2.old a (by omega) (fun h => h)
      (try simp only [go_sem, Nat.reduceAdd, Nat.reduceEqDiff, Nat.reduceLT, Nat.reduceLeDiff, Nat.reduceMul, Nat.zero_add, reduceCtorEq, ↓reduceIte, List.length_cons, List.length_nil, List.set_cons_zero, List.set_cons_succ, List.take_zero, List.take_succ_cons, List.drop_zero, List.drop_succ_cons, List.take_nil, List.drop_nil, List.nil_append, List.cons_append, List.append_nil, or_false, false_or, or_true, true_or, false_implies, true_implies, and_true, true_and, and_self, Bool.and_true, Bool.true_and])
      refine ⟨by simp only [drew_heap, ka2, and_self, implies_true], ?_⟩
      refine e_bx rfl ?_
      intro w3 hb3 hm3 hs3
      (try simp only [go_sem, Nat.reduceAdd, Nat.reduceEqDiff, Nat.reduceLT, Nat.reduceLeDiff, Nat.reduceMul, Nat.zero_add, reduceCtorEq, ↓reduceIte, List.length_cons, List.length_nil, List.set_cons_zero, List.set_cons_succ, List.take_zero, List.take_succ_cons, List.drop_zero, List.drop_succ_cons, List.take_nil, List.drop_nil, List.nil_append, List.cons_append, List.append_nil, or_false, false_or, or_true, true_or, false_implies, true_implies, and_true, true_and, and_self, Bool.and_true, Bool.true_and])
      refine ⟨w.heap.size, w1.heap.size, w2.heap.size, ?_⟩
      have hm23 := hm2.trans hm3
      refine ⟨rfl, hb3, hm23.at hb1 (fun h => h), hm3.at hb2 (fun h => h), ?_, ?_, ?_, ?_, (hm1.trans hm2).trans hm3⟩
      all_goals omega
    · refine e_ms1 (n := ns.length) rfl (by omega) (by omega) ?_
      intro w1 hb1 hm1 hs1
      have hm1 : Mod (fun _ => False) w w1 := hm1.of_drew
      have hs1 : w1.heap.size = w.heap.size + 1 := hs1
      (try simp only [go_sem, Nat.reduceAdd, Nat.reduceEqDiff, Nat.reduceLT, Nat.reduceLeDiff, Nat.reduceMul, Nat.zero_add, reduceCtorEq, ↓reduceIte, List.length_cons, List.length_nil, List.set_cons_zero, List.set_cons_succ, List.take_zero, List.take_succ_cons, List.drop_zero, List.drop_succ_cons, List.take_nil, List.drop_nil, List.nil_append, List.cons_append, List.append_nil, or_false, false_or, or_true, true_or, false_implies, true_implies, and_true, true_and, and_self, Bool.and_true, Bool.true_and])
      have ka := hm1.old a hFa (fun h => h)
      refine ⟨by simp only [drew_heap, ka, and_self, implies_true], ?_⟩
      refine e_ms1 (n := ns.length) rfl (by omega) (by omega) ?_
      intro w2 hb2 hm2 hs2
      have ka2 := hm2.old a (by omega) (fun h => h)
      (try simp only [go_sem, Nat.reduceAdd, Nat.reduceEqDiff, Nat.reduceLT, Nat.reduceLeDiff, Nat.reduceMul, Nat.zero_add, reduceCtorEq, ↓reduceIte, List.length_cons, List.length_nil, List.set_cons_zero, List.set_cons_succ, List.take_zero, List.take_succ_cons, List.drop_zero, List.drop_succ_cons, List.take_nil, List.drop_nil, List.nil_append, List.cons_append, List.append_nil, or_false, false_or, or_true, true_or, false_implies, true_implies, and_true, true_and, and_self, Bool.and_true, Bool.true_and])
      refine ⟨by simp only [drew_heap, ka2, and_self, implies_true], ?_⟩
      refine e_bx rfl ?_
      intro w3 hb3 hm3 hs3
      (try simp only [go_sem, Nat.reduceAdd, Nat.reduceEqDiff, Nat.reduceLT, Nat.reduceLeDiff, Nat.reduceMul, Nat.zero_add, reduceCtorEq, ↓reduceIte, List.length_cons, List.length_nil, List.set_cons_zero, List.set_cons_succ, List.take_zero, List.take_succ_cons, List.drop_zero, List.drop_succ_cons, List.take_nil, List.drop_nil, List.nil_append, List.cons_append, List.append_nil, or_false, false_or, or_true, true_or, false_implies, true_implies, and_true, true_and, and_self, Bool.and_true, Bool.true_and])
      refine ⟨w1.heap.size, w.heap.size, w2.heap.size, ?_⟩
      have hm23 := hm2.trans hm3
      refine ⟨rfl, hb3, hm3.at hb2 (fun h => h), hm23.at hb1 (fun h => h), ?_, ?_, ?_, ?_, (hm1.trans hm2).trans hm3⟩
      all_goals omega
  rintro ρ w3 ⟨bo, bd, bm, r0, r1, r6, m1, m2, m3, mod, mo, md, mm, hm3⟩
  (try simp only [go_sem, Nat.reduceAdd, Nat.reduceEqDiff, Nat.reduceLT, Nat.reduceLeDiff, Nat.reduceMul, Nat.zero_add, reduceCtorEq, ↓reduceIte, List.length_cons, List.length_nil, List.set_cons_zero, List.set_cons_succ, List.take_zero, List.take_succ_cons, List.drop_zero, List.drop_succ_cons, List.take_nil, List.drop_nil, List.nil_append, List.cons_append, List.append_nil, or_false, false_or, or_true, true_or, false_implies, true_implies, and_true, true_and, and_self, Bool.and_true, Bool.true_and, r0, r1, r6])
  refine e_ms1 (n := roots.length) rfl (by omega) (by omega) ?_
  intro w4 hb4 hm4 hs4
  have hm4w := hm3.trans hm4
  have hm4w := hm3.trans hm4
  have hokr : ∀ (k : Nat) (hk : k < roots.length), 0 ≤ roots[k] ∧ roots[k] < ns.length := fun k hk => by
    have := (List.all_eq_true.1 hc') roots[k] (List.getElem_mem hk)
    simpa using this
  have hbu : w.heap.size ≤ w3.heap.size := hm3.size
  have hrep0 : List.replicate ns.length (I 0) = (List.replicate ns.length (0 : Int)).map I := by simp
  have hne : ∀ b o, w3.heap[b]? = some o → b ≠ w3.heap.size := fun b o h => by have := lt_of_heap h; omega
  have hci0 : CI ns (reached ns roots) w w4 bm bo bd w3.heap.size (.slice ca ns.length cc) [] 0 0 none (List.replicate roots.length (I 0)) := by
    refine ⟨List.replicate ns.length 0, List.replicate ns.length 0, [], .slice none 0 0, .slice none 0 0, [], none, none, ?_, ki_start ns, mi_start ns _, rel_nil ns _, (fun b h => by cases h), hm4w, hb4, hbu⟩
    have n1 := hne _ _ m1; have n2 := hne _ _ m2; have n3 := hne _ _ m3
    refine ⟨hm4.at m1 (fun h => h), by rw [← hrep0]; exact hm4.at m2 (fun h => h), by rw [← hrep0]; exact hm4.at m3 (fun h => h), Own.nil _ _ _, ⟨Own.nil _ _ _, (fun t h => by cases h), List.nodup_nil⟩, mod, (fun h => by cases h), (fun h => by cases h), (fun t h => by cases h), ?_, (fun b h => by cases h), (fun b h => by cases h), (fun t h => by cases h), ?_⟩
    · omega
    · intro b hb; omega
  (try simp only [go_sem, Nat.reduceAdd, Nat.reduceEqDiff, Nat.reduceLT, Nat.reduceLeDiff, Nat.reduceMul, Nat.zero_add, reduceCtorEq, ↓reduceIte, List.length_cons, List.length_nil, List.set_cons_zero, List.set_cons_succ, List.take_zero, List.take_succ_cons, List.drop_zero, List.drop_succ_cons, List.take_nil, List.drop_nil, List.nil_append, List.cons_append, List.append_nil, or_false, false_or, or_true, true_or, false_implies, true_implies, and_true, true_and, and_self, Bool.and_true, Bool.true_and])
  refine ir_loop (fun m ρ w' => ∃ k : Nat, m = roots.length - k ∧ k ≤ roots.length ∧ CI ns (reached ns roots) w w' bm bo bd w3.heap.size (.slice ca ns.length cc) (meets ns [] (roots.take k)) 0 0 none (((roots.take k).map (num ns (reached ns roots))).map I ++ List.replicate (roots.length - k) (I 0)) ∧
    ρ = [(0, .pointer (some ⟨a, 0, none⟩)), (6, .pointer (some ⟨bm, 0, none⟩)), (7, .slice (some ⟨w3.heap.size, 0, none⟩) roots.length roots.length), (39, .slice va roots.length vc), (40, I roots.length), (41, I k)]) roots.length
    ⟨0, rfl, by omega, by simpa [meets] using hci0, rfl⟩ ?_
  rintro m ρ w5 ⟨k, rfl, hk, hci, rfl⟩
  unfold ir7L1
  (try simp only [go_sem, Nat.reduceAdd, Nat.reduceEqDiff, Nat.reduceLT, Nat.reduceLeDiff, Nat.reduceMul, Nat.zero_add, reduceCtorEq, ↓reduceIte, List.length_cons, List.length_nil, List.set_cons_zero, List.set_cons_succ, List.take_zero, List.take_succ_cons, List.drop_zero, List.drop_succ_cons, List.take_nil, List.drop_nil, List.nil_append, List.cons_append, List.append_nil, or_false, false_or, or_true, true_or, false_implies, true_implies, and_true, true_and, and_self, Bool.and_true, Bool.true_and])
  refine ir_cond rfl (fun hlt => ?_) (fun hlt => ?_)
  · have hlt' : k < roots.length := by simpa using hlt
    have hx5 : Ints w5 (.slice va roots.length vc) roots := by
      obtain ⟨_, _, _, _, _, _, _, _, _, _, _, _, _, hm, _⟩ := hci
      exact hx.mod hm (fun _ _ h => h)
    obtain ⟨_, _, hve, _, hxx⟩ := id hx5
    cases hve
    obtain ⟨ad, rfl, had⟩ := hxx k hlt'
    have b1 : (0 : Int) ≤ k ∧ (k : Int) < roots.length := by omega
    have hr := hokr k hlt'
    have hrn : roots[k] = ((roots[k].toNat : Nat) : Int) := by omega
    rw [hrn] at had
    (try simp only [go_sem, Nat.reduceAdd, Nat.reduceEqDiff, Nat.reduceLT, Nat.reduceLeDiff, Nat.reduceMul, Nat.zero_add, reduceCtorEq, ↓reduceIte, List.length_cons, List.length_nil, List.set_cons_zero, List.set_cons_succ, List.take_zero, List.take_succ_cons, List.drop_zero, List.drop_succ_cons, List.take_nil, List.drop_nil, List.nil_append, List.cons_append, List.append_nil, or_false, false_or, or_true, true_or, false_implies, true_implies, and_true, true_and, and_self, Bool.and_true, Bool.true_and, Nat.mul_one, Int.toNat_natCast, Int.toNat_zero, Nat.sub_zero, Nat.sub_self, b1, had])
    have hpre : meet ns (meets ns [] (roots.take k)) roots[k].toNat <+: reached ns roots := by
      rw [← meets_take ns roots [] (a := roots[k]) (by simp [hlt'])]
      exact (meets_take_pre ns roots [] (k + 1)).trans (reach_pre ns _ _ _)
    refine e_call (by rfl) ?_
    refine (ci_move hw hn hfr hci (by omega) (fun _ => rfl) (by omega) hpre).mono ?_
    rintro r w6 ⟨rfl, l, md, path, to, pa, ts, tfp, pfp, q1, q2, q3, q4, q5, q6, q7, q8⟩
    (try simp only [go_sem, Nat.reduceAdd, Nat.reduceEqDiff, Nat.reduceLT, Nat.reduceLeDiff, Nat.reduceMul, Nat.zero_add, reduceCtorEq, ↓reduceIte, List.length_cons, List.length_nil, List.set_cons_zero, List.set_cons_succ, List.take_zero, List.take_succ_cons, List.drop_zero, List.drop_succ_cons, List.take_nil, List.drop_nil, List.nil_append, List.cons_append, List.append_nil, or_false, false_or, or_true, true_or, false_implies, true_implies, and_true, true_and, and_self, Bool.and_true, Bool.true_and, Nat.mul_one, Int.toNat_natCast, Int.toNat_zero, Nat.sub_zero, Nat.sub_self, b1])
    refine e_st1 (off := k) rfl rfl q7 rfl (by simp; omega) ?_
    intro w7 hb7 hm7 hs7
    have hwt : IntKind.i64.wrap ((k : Int) + 1) = ((k + 1 : Nat) : Int) := by rw [wrap_in] <;> omega
    (try simp only [go_sem, Nat.reduceAdd, Nat.reduceEqDiff, Nat.reduceLT, Nat.reduceLeDiff, Nat.reduceMul, Nat.zero_add, reduceCtorEq, ↓reduceIte, List.length_cons, List.length_nil, List.set_cons_zero, List.set_cons_succ, List.take_zero, List.take_succ_cons, List.drop_zero, List.drop_succ_cons, List.take_nil, List.drop_nil, List.nil_append, List.cons_append, List.append_nil, or_false, false_or, or_true, true_or, false_implies, true_implies, and_true, true_and, and_self, Bool.and_true, Bool.true_and, hwt])
    refine ⟨_, ?_, k + 1, rfl, by omega, ⟨l, md, path, to, pa, ts, tfp, pfp, q1.modX hm7 (fun b hb => .inr hb), q2, ?_, ?_, q5, q6.step hm7 (fun b hb hlt => by omega), ?_, q8⟩, rfl⟩
    · omega
    · rw [meets_take ns roots [] (a := roots[k]) (by simp [hlt'])]; exact q3
    · rw [meets_take ns roots [] (a := roots[k]) (by simp [hlt'])]; exact q4
    · rw [hb7]
      congr 3
      exact fill_next (num ns (reached ns roots)) roots (I 0) k hlt'
  · have hlt' : k = roots.length := by simp at hlt; omega
    subst hlt'
    (try simp only [go_sem, Nat.reduceAdd, Nat.reduceEqDiff, Nat.reduceLT, Nat.reduceLeDiff, Nat.reduceMul, Nat.zero_add, reduceCtorEq, ↓reduceIte, List.length_cons, List.length_nil, List.set_cons_zero, List.set_cons_succ, List.take_zero, List.take_succ_cons, List.drop_zero, List.drop_succ_cons, List.take_nil, List.drop_nil, List.nil_append, List.cons_append, List.append_nil, or_false, false_or, or_true, true_or, false_implies, true_implies, and_true, true_and, and_self, Bool.and_true, Bool.true_and])
    have husl : ((roots.take roots.length).map (num ns (reached ns roots))).map I ++ List.replicate (roots.length - roots.length) (I 0) = (colRoots ns roots).map I := by simp [colRoots]
    rw [husl, List.take_length] at hci
    refine ir_loop (fun m ρ w' => ∃ (i f : Nat) (out : List Nat), m = ns.length + 1 - i ∧ f + i = ns.length + 1 ∧ i ≤ out.length ∧ reach ns f i out = reached ns roots ∧
      CI ns (reached ns roots) w w' bm bo bd w3.heap.size (.slice ca ns.length cc) out i 0 none ((colRoots ns roots).map I) ∧
      ρ = [(0, .pointer (some ⟨a, 0, none⟩)), (6, .pointer (some ⟨bm, 0, none⟩)), (7, .slice (some ⟨w3.heap.size, 0, none⟩) roots.length roots.length), (10, I i)]) (ns.length + 1)
      ⟨0, ns.length + 1, _, rfl, rfl, Nat.zero_le _, rfl, hci, rfl⟩ ?_
    rintro m ρ w6 ⟨i, f, out, rfl, hfi, hio, hrch, hci6, rfl⟩
    unfold ir7L3
    obtain ⟨l, md', path, to, pa, ts, tfp, pfp, q1, q2, q3, q4, q5, q6, q7, q8⟩ := id hci6
    obtain ⟨ta, tc, rfl, _, _⟩ := q1.to.own.val
    have hmetl := met_len q3.met
    (try simp only [go_sem, Nat.reduceAdd, Nat.reduceEqDiff, Nat.reduceLT, Nat.reduceLeDiff, Nat.reduceMul, Nat.zero_add, reduceCtorEq, ↓reduceIte, List.length_cons, List.length_nil, List.set_cons_zero, List.set_cons_succ, List.take_zero, List.take_succ_cons, List.drop_zero, List.drop_succ_cons, List.take_nil, List.drop_nil, List.nil_append, List.cons_append, List.append_nil, or_false, false_or, or_true, true_or, false_implies, true_implies, and_true, true_and, and_self, Bool.and_true, Bool.true_and, Nat.mul_one, Int.toNat_natCast, Int.toNat_zero, Nat.sub_zero, Nat.sub_self, cell_of q1.cells])
    refine ir_cond rfl (fun hlt => ?_) (fun hlt => ?_)
    · have hlt' : i < ts.length := by simpa using hlt
      have hilt : i < out.length := by rw [← q4.len]; exact hlt'
      have hxo : out[i]? = some out[i] := by simp [hilt]
      obtain ⟨nd, b, t1, t2, t3, t4, t5⟩ := q4.nd i out[i] hxo
      obtain ⟨tb, tc', hte, tcell, trow⟩ := to_at q1.to t1
      cases hte
      have b1 : (0 : Int) ≤ i ∧ (i : Int) < ts.length := by omega
      (try simp only [go_sem, Nat.reduceAdd, Nat.reduceEqDiff, Nat.reduceLT, Nat.reduceLeDiff, Nat.reduceMul, Nat.zero_add, reduceCtorEq, ↓reduceIte, List.length_cons, List.length_nil, List.set_cons_zero, List.set_cons_succ, List.take_zero, List.take_succ_cons, List.drop_zero, List.drop_succ_cons, List.take_nil, List.drop_nil, List.nil_append, List.cons_append, List.append_nil, or_false, false_or, or_true, true_or, false_implies, true_implies, and_true, true_and, and_self, Bool.and_true, Bool.true_and, Nat.mul_one, Int.toNat_natCast, Int.toNat_zero, Nat.sub_zero, Nat.sub_self, cell_of q1.cells, b1, tcell])
      have hAlen : nd.args.length = (ndAt ns out[i]).args.length := t4
      have hA8 : nd.args.length ≤ 8 := by
        rw [t4]
        have hx := q3.met.2 out[i] (List.getElem_mem hilt)
        have hm := (wf_at hw hx.1).1
        simp only [Nd.may, mayB, decide_eq_true_eq] at hm
        omega
      obtain ⟨f, rfl⟩ : ∃ f', f = f' + 1 := ⟨f - 1, by omega⟩
      have hstep := reach_step ns f i out hilt
      rw [hstep] at hrch
      have hpreF : meets ns out (ndAt ns out[i]).args <+: reached ns roots := by rw [← hrch]; exact reach_pre ns _ _ _
      have hx5 := out[i]
      refine ir_loop (fun m ρ w' => ∃ k : Nat, m = nd.args.length - k ∧ k ≤ nd.args.length ∧ CI ns (reached ns roots) w w' bm bo bd w3.heap.size (.slice ca ns.length cc) (meets ns out ((ndAt ns out[i]).args.take k)) i k (some b) ((colRoots ns roots).map I) ∧
        ρ = [(0, .pointer (some ⟨a, 0, none⟩)), (6, .pointer (some ⟨bm, 0, none⟩)), (7, .slice (some ⟨w3.heap.size, 0, none⟩) roots.length roots.length), (10, I i), (69, .slice (some ⟨b, 0, none⟩) nd.args.length nd.args.length), (70, I nd.args.length), (71, I k)]) nd.args.length
        ⟨0, rfl, Nat.zero_le _, ⟨l, md', path, _, pa, ts, tfp, pfp, q1, q2, q3, q4, (fun b' hb' => by cases hb'; exact ⟨nd, t1⟩), q6, q7, q8⟩, rfl⟩ ?_
      rintro m ρ w7 ⟨k, rfl, hk, hci7, rfl⟩
      have houtk : out <+: meets ns out ((ndAt ns out[i]).args.take k) := meets_pre ns _ _
      have hoklen := houtk.length_le
      have hxk : (meets ns out ((ndAt ns out[i]).args.take k))[i]? = some out[i] := by
        obtain ⟨tl, htl⟩ := houtk
        rw [← htl, List.getElem?_append_left hilt]; exact hxo
      unfold ir7L2
      (try simp only [go_sem, Nat.reduceAdd, Nat.reduceEqDiff, Nat.reduceLT, Nat.reduceLeDiff, Nat.reduceMul, Nat.zero_add, reduceCtorEq, ↓reduceIte, List.length_cons, List.length_nil, List.set_cons_zero, List.set_cons_succ, List.take_zero, List.take_succ_cons, List.drop_zero, List.drop_succ_cons, List.take_nil, List.drop_nil, List.nil_append, List.cons_append, List.append_nil, or_false, false_or, or_true, true_or, false_implies, true_implies, and_true, true_and, and_self, Bool.and_true, Bool.true_and])
      refine ir_cond rfl (fun hkl => ?_) (fun hkl => ?_)
      · have hkl' : k < nd.args.length := by simpa using hkl
        obtain ⟨l2, md2, path2, to2, pa2, ts2, tfp2, pfp2, u1, u2, u3, u4, u5, u6, u7, u8⟩ := id hci7
        obtain ⟨nd2, v1⟩ := u5 b rfl
        obtain ⟨nd2', b2', v1', v2, v3, v4, v5⟩ := u4.nd i out[i] hxk
        rw [v1] at v1'; cases v1'
        have hkl2 : k < nd2.args.length := by omega
        have hA0 : (ndAt ns out[i]).args[k]? = some ((ndAt ns out[i]).args[k]'(by omega)) := List.getElem?_eq_getElem (by omega)
        obtain ⟨a1, ha1⟩ : ∃ a1, nd2.args[k]? = some a1 := ⟨_, List.getElem?_eq_getElem hkl2⟩
        obtain ⟨a0, ha0⟩ : ∃ a0, (ndAt ns out[i]).args[k]? = some a0 := ⟨_, hA0⟩
        have hraw := v5 k a1 a0 ha1 ha0
        rw [if_neg (by omega)] at hraw
        obtain ⟨r1', r2', r3'⟩ := hraw
        obtain ⟨_, _, _, _, trow2⟩ := to_at u1.to v1
        have hcell : w7.cell? ⟨b, k, none⟩ = some (I ((a1.toNat : Nat) : Int)) := by
          rw [cell_of trow2]
          have : ((a1.toNat : Nat) : Int) = a1 := by omega
          rw [this]
          simp [ha1]
        have b2 : (0 : Int) ≤ k ∧ (k : Int) < nd.args.length := by omega
        (try simp only [go_sem, Nat.reduceAdd, Nat.reduceEqDiff, Nat.reduceLT, Nat.reduceLeDiff, Nat.reduceMul, Nat.zero_add, reduceCtorEq, ↓reduceIte, List.length_cons, List.length_nil, List.set_cons_zero, List.set_cons_succ, List.take_zero, List.take_succ_cons, List.drop_zero, List.drop_succ_cons, List.take_nil, List.drop_nil, List.nil_append, List.cons_append, List.append_nil, or_false, false_or, or_true, true_or, false_implies, true_implies, and_true, true_and, and_self, Bool.and_true, Bool.true_and, Nat.mul_one, Int.toNat_natCast, Int.toNat_zero, Nat.sub_zero, Nat.sub_self, b2, hcell])
        have hmk : meet ns (meets ns out ((ndAt ns out[i]).args.take k)) a1.toNat = meets ns out ((ndAt ns out[i]).args.take (k + 1)) := by
          rw [meets_take ns _ _ ha0]; exact meet_over ns _ r3'
        refine e_call (by rfl) ?_
        refine (ci_move hw hn hfr hci7 (by omega) (fun hh => by omega) (by omega) (by rw [hmk]; exact (meets_take_pre ns _ _ _).trans hpreF)).mono ?_
        rintro r w8 ⟨rfl, hci8⟩
        rw [hmk] at hci8
        obtain ⟨l3, md3, path3, to3, pa3, ts3, tfp3, pfp3, x1, x2, x3, x4, x5, x6, x7, x8⟩ := hci8
        obtain ⟨nd3, y1⟩ := x5 b rfl
        obtain ⟨tb3, tc3, rfl, tcell3, trow3⟩ := to_at x1.to y1
        have hx3k : (meets ns out ((ndAt ns out[i]).args.take (k + 1)))[i]? = some out[i] := by
          obtain ⟨tl, htl⟩ := meets_pre ns ((ndAt ns out[i]).args.take (k + 1)) out
          rw [← htl, List.getElem?_append_left hilt]; exact hxo
        obtain ⟨nd3', b3', y1', y2, y3, y4, y5⟩ := x4.nd i out[i] hx3k
        rw [y1] at y1'; cases y1'
        have hilt3 : i < ts3.length := (List.getElem?_eq_some_iff.1 y1).1
        have b3 : (0 : Int) ≤ i ∧ (i : Int) < ts3.length := by omega
        have b4 : (0 : Int) ≤ k ∧ (k : Int) < nd3.args.length := by omega
        (try simp only [go_sem, Nat.reduceAdd, Nat.reduceEqDiff, Nat.reduceLT, Nat.reduceLeDiff, Nat.reduceMul, Nat.zero_add, reduceCtorEq, ↓reduceIte, List.length_cons, List.length_nil, List.set_cons_zero, List.set_cons_succ, List.take_zero, List.take_succ_cons, List.drop_zero, List.drop_succ_cons, List.take_nil, List.drop_nil, List.nil_append, List.cons_append, List.append_nil, or_false, false_or, or_true, true_or, false_implies, true_implies, and_true, true_and, and_self, Bool.and_true, Bool.true_and, Nat.mul_one, Int.toNat_natCast, Int.toNat_zero, Nat.sub_zero, Nat.sub_self, cell_of x1.cells, b3, tcell3, b4])
        refine e_st1 (off := k) rfl rfl trow3 rfl (by simp; omega) ?_
        intro w9 hb9 hm9 hs9
        rw [map_set] at hb9
        have hwt : IntKind.i64.wrap ((k : Int) + 1) = ((k + 1 : Nat) : Int) := by rw [wrap_in] <;> omega
        (try simp only [go_sem, Nat.reduceAdd, Nat.reduceEqDiff, Nat.reduceLT, Nat.reduceLeDiff, Nat.reduceMul, Nat.zero_add, reduceCtorEq, ↓reduceIte, List.length_cons, List.length_nil, List.set_cons_zero, List.set_cons_succ, List.take_zero, List.take_succ_cons, List.drop_zero, List.drop_succ_cons, List.take_nil, List.drop_nil, List.nil_append, List.cons_append, List.append_nil, or_false, false_or, or_true, true_or, false_implies, true_implies, and_true, true_and, and_self, Bool.and_true, Bool.true_and, hwt])
        have hnum : ((reached ns roots).idxOf (over ns a1.toNat) : Int) = num ns (reached ns roots) a0 := by simp [num, r3']
        rw [hnum] at hb9
        have hXb := x1.X4 _ (List.mem_of_getElem? y1)
        have hXb' : ¬ (b < w.heap.size ∨ b = w3.heap.size) := hXb
        refine ⟨_, ?_, k + 1, rfl, by omega, ⟨l3, md3, path3, _, pa3, ts3.set i (⟨nd3.kind, nd3.num, nd3.args.set k (num ns (reached ns roots) a0)⟩, b), tfp3, pfp3, x1.set y1 (by simp) hm9 hb9, x2, x3, rel_set x4 hx3k y1 ha0, ?_, x6.step hm9 (fun b' hb' hlt => by omega), hm9.at x7 (fun hh => by omega), x8⟩, rfl⟩
        · omega
        · intro b' hb'
          cases hb'
          exact ⟨_, by rw [List.getElem?_set, if_pos rfl, if_pos hilt3]⟩
      · have hkl' : k = nd.args.length := by simp at hkl; omega
        have hwi : IntKind.i64.wrap ((i : Int) + 1) = ((i + 1 : Nat) : Int) := by rw [wrap_in] <;> omega
        (try simp only [go_sem, Nat.reduceAdd, Nat.reduceEqDiff, Nat.reduceLT, Nat.reduceLeDiff, Nat.reduceMul, Nat.zero_add, reduceCtorEq, ↓reduceIte, List.length_cons, List.length_nil, List.set_cons_zero, List.set_cons_succ, List.take_zero, List.take_succ_cons, List.drop_zero, List.drop_succ_cons, List.take_nil, List.drop_nil, List.nil_append, List.cons_append, List.append_nil, or_false, false_or, or_true, true_or, false_implies, true_implies, and_true, true_and, and_self, Bool.and_true, Bool.true_and, hwi])
        have htk : (ndAt ns out[i]).args.take k = (ndAt ns out[i]).args := List.take_of_length_le (by omega)
        rw [htk] at hci7 hxk hoklen
        obtain ⟨l2, md2, path2, to2, pa2, ts2, tfp2, pfp2, u1, u2, u3, u4, u5, u6, u7, u8⟩ := hci7
        refine ⟨_, ?_, i + 1, f, meets ns out (ndAt ns out[i]).args, rfl, by omega, by omega, hrch, ⟨l2, md2, path2, to2, pa2, ts2, tfp2, pfp2, u1, u2, u3, rel_next u4 hxk (by omega), (fun b h => by cases h), u6, u7, u8⟩, rfl⟩
        omega
    · have hlt' : ¬ i < ts.length := by simpa using hlt
      have hie : out.length ≤ i := by rw [← q4.len]; omega
      rw [reach_end ns f i out hie] at hrch
      subst hrch
      have hdone := rel_done q4 hie
      have g16 := q6.at g1 (fun h => h)
      (try simp only [go_sem, Nat.reduceAdd, Nat.reduceEqDiff, Nat.reduceLT, Nat.reduceLeDiff, Nat.reduceMul, Nat.zero_add, reduceCtorEq, ↓reduceIte, List.length_cons, List.length_nil, List.set_cons_zero, List.set_cons_succ, List.take_zero, List.take_succ_cons, List.drop_zero, List.drop_succ_cons, List.take_nil, List.drop_nil, List.nil_append, List.cons_append, List.append_nil, or_false, false_or, or_true, true_or, false_implies, true_implies, and_true, true_and, and_self, Bool.and_true, Bool.true_and, Nat.mul_one, Int.toNat_natCast, Int.toNat_zero, Nat.sub_zero, Nat.sub_self, cell_of q1.cells, cell_of g16])
      refine e_st1 (off := 1) rfl rfl g16 rfl (by simp) ?_
      intro w7 hb7 hm7 hs7
      (try simp only [go_sem, Nat.reduceAdd, Nat.reduceEqDiff, Nat.reduceLT, Nat.reduceLeDiff, Nat.reduceMul, Nat.zero_add, reduceCtorEq, ↓reduceIte, List.length_cons, List.length_nil, List.set_cons_zero, List.set_cons_succ, List.take_zero, List.take_succ_cons, List.drop_zero, List.drop_succ_cons, List.take_nil, List.drop_nil, List.nil_append, List.cons_append, List.append_nil, or_false, false_or, or_true, true_or, false_implies, true_implies, and_true, true_and, and_self, Bool.and_true, Bool.true_and, cell_of hb7])
      refine e_st1 (off := 2) rfl rfl hb7 rfl (by simp) ?_
      intro w8 hb8 hm8 hs8
      (try simp only [go_sem, Nat.reduceAdd, Nat.reduceEqDiff, Nat.reduceLT, Nat.reduceLeDiff, Nat.reduceMul, Nat.zero_add, reduceCtorEq, ↓reduceIte, List.length_cons, List.length_nil, List.set_cons_zero, List.set_cons_succ, List.take_zero, List.take_succ_cons, List.drop_zero, List.drop_succ_cons, List.take_nil, List.drop_nil, List.nil_append, List.cons_append, List.append_nil, or_false, false_or, or_true, true_or, false_implies, true_implies, and_true, true_and, and_self, Bool.and_true, Bool.true_and])
      refine ⟨fun h => (by rw [hc'] at h; cases h), fun _ => ⟨_, some w3.heap.size, fun b => b = a ∨ tfp = some b ∨ ∃ t ∈ ts, t.2 = b, rfl, ?_, ?_, ?_, ?_⟩⟩
      · have hne1 : w3.heap.size ≠ a := by omega
        have := Own.of_block (sz := 1) (n := roots.length) (hm8.at (hm7.at q7 hne1) hne1) (by simp [colRoots])
        have hl : (colRoots ns roots).length = roots.length := by simp [colRoots]
        rw [hl]; exact this
      · have hts : ts.length = (colNs ns roots).length := by rw [colNs, ← hdone]; simp
        have htne : ∀ b, tfp = some b → ¬ b = a := fun b hb hh => q1.X3 b hb (.inl (by omega))
        have hrne : ∀ t ∈ ts, ¬ t.2 = a := fun t ht hh => q1.X4 t ht (.inl (by omega))
        have hs8 : w8.heap.size = w6.heap.size := hs8.trans hs7
        have hrow : ∀ t ∈ ts, w8.heap[t.2]? = some (.cells (t.1.args.map I).toArray 3 (0, 0)) := fun t ht => hm8.at (hm7.at (q1.to.row t ht) (hrne t ht)) (hrne t ht)
        refine ⟨.slice ta ts.length tc, tfp, ts.map cpv, by simpa using hb8, .inl rfl, ?_, (fun b hb => .inr (.inl hb)), ?_, ?_, ?_⟩
        · rw [← hts]
          exact (q1.to.own.mod hm7 htne).mod hm8 htne
        · intro p hp
          obtain ⟨t, ht, rfl⟩ := List.mem_map.1 hp
          exact ⟨some t.2, Own.of_block (hrow t ht) (by simp [cpv]), fun b hb => .inr (.inr ⟨t, ht, by cases hb; rfl⟩)⟩
        · rw [List.map_map, colNs, ← hdone]; rfl
        · intro b hb
          rcases hb with rfl | hb | ⟨t, ht, rfl⟩
          · have := q6.size; omega
          · have := q1.to.own.lt hb; omega
          · exact lt_of_heap (hrow t ht)
      · refine ⟨((q6.weak (fun _ h => h.elim)).step hm7 (fun b hb _ => hb ▸ g2)).step hm8 (fun b hb _ => hb ▸ g2), ?_⟩
        rintro b (rfl | hb | ⟨t, ht, rfl⟩)
        · exact .inl g2
        · have := q1.X3 b hb; exact .inr (by omega)
        · have := q1.X4 t ht; exact .inr (by omega)
      · intro b hb
        cases hb
        refine ⟨hbu, ?_⟩
        rintro (hh | hb | ⟨t, ht, hh⟩)
        · omega
        · exact q1.X3 _ hb (.inr rfl)
        · exact q1.X4 t ht (.inr hh)
end Go.Proofs.Ytnagmcdlepcgnaa
