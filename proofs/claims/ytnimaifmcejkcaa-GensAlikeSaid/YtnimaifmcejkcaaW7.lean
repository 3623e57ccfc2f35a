/- The engine, part 7: the rules by which a function is walked. -/
import Derived.Test.YtnimaifmcejkcaaW6
set_option linter.unusedSimpArgs false
set_option linter.unusedVariables false
namespace Go.W
open Go

section
variable {P : Program} {N : Nat} {Q : Post} {ρ : Env} {w : World} {K : Env → World → Prop}

@[go_sem] theorem ir_skip : irwp P N .skip Q ρ w = Q .normal ρ w := _root_.id rfl
@[go_sem] theorem ir_ret : irwp P N .ret Q ρ w = Q .ret ρ w := _root_.id rfl
@[go_sem] theorem ir_exit (id : Nat) : irwp P N (.exit id) Q ρ w = Q (.exit id) ρ w := _root_.id rfl
@[go_sem] theorem ir_seq (a b : IR) : irwp P N (.seq a b) Q ρ w = irwp P N a (thenQ (irwp P N b Q) Q) ρ w := _root_.id rfl
@[go_sem] theorem ir_block (id : Nat) (a : IR) : irwp P N (.block id a) Q ρ w = irwp P N a (blkQ id Q) ρ w := _root_.id rfl
@[go_sem] theorem ir_reg (st : List S) (kp : List Nat) : irwp P N (.reg false st kp) Q ρ w = wpS P st ρ w fun ρ w => Q .normal (ρ.keep kp) w := _root_.id rfl
@[go_sem] theorem ir_regd (st : List S) (kp : List Nat) : irwp P N (.reg true st kp) Q ρ w = wpS P st ρ w.drew fun ρ w => Q .normal (ρ.keep kp) w := _root_.id rfl
@[go_sem] theorem ir_cond_t {c : O} {a b : IR} (h : c.ev ρ = some (.bool true)) : irwp P N (.cond c a b) Q ρ w = irwp P N a Q ρ w := by
  simp [irwp, h]
@[go_sem] theorem ir_cond_f {c : O} {a b : IR} (h : c.ev ρ = some (.bool false)) : irwp P N (.cond c a b) Q ρ w = irwp P N b Q ρ w := by
  simp [irwp, h]
theorem ir_cond {c : O} {a b : IR} {t : Bool} (h : c.ev ρ = some (.bool t)) (ht : t = true → irwp P N a Q ρ w) (hf : t = false → irwp P N b Q ρ w) : irwp P N (.cond c a b) Q ρ w := ⟨t, h, ht, hf⟩
theorem ir_loop {b : IR} (I : Nat → Env → World → Prop) (n : Nat) (h0 : I n ρ w)
    (hs : ∀ n ρ w, I n ρ w → irwp P N b (thenQ (fun ρ' w' => ∃ m, m < n ∧ I m ρ' w') Q) ρ w) : irwp P N (.loop b) Q ρ w := ⟨I, n, h0, hs⟩
@[go_sem] theorem thenQ_n (next : Env → World → Prop) : thenQ next Q .normal = next := _root_.id rfl
@[go_sem] theorem thenQ_r (next : Env → World → Prop) : thenQ next Q .ret = Q .ret := _root_.id rfl
@[go_sem] theorem thenQ_e (next : Env → World → Prop) (id : Nat) : thenQ next Q (.exit id) = Q (.exit id) := _root_.id rfl
@[go_sem] theorem blkQ_n (id : Nat) : blkQ id Q .normal = Q .normal := _root_.id rfl
@[go_sem] theorem blkQ_r (id : Nat) : blkQ id Q .ret = Q .ret := _root_.id rfl
@[go_sem] theorem blkQ_e (id : Nat) : blkQ id Q (.exit id) = Q .normal := by funext ρ w; simp [blkQ]
@[go_sem] theorem blkQ_o (id id' : Nat) (h : (id' = id) = False) : blkQ id Q (.exit id') = Q (.exit id') := by funext ρ w; simp [blkQ, h]
@[go_sem] theorem finQ_n (rs : List RV) (R : Value → World → Prop) : finQ rs R .normal ρ w = ∃ vs, rvs w ρ rs = some vs ∧ R (one? vs) w := _root_.id rfl
@[go_sem] theorem finQ_r (rs : List RV) (R : Value → World → Prop) : finQ rs R .ret ρ w = ∃ vs, rvs w ρ rs = some vs ∧ R (one? vs) w := _root_.id rfl

@[go_sem] theorem wpS_nil : wpS P [] ρ w K = K ρ w := _root_.id rfl
@[go_sem] theorem wpS_r (d : Option Nat) (r : R) (l : List S) : wpS P (.r d r :: l) ρ w K = ∃ v, r.ev w ρ = some v ∧ wpS P l (ρ.put d v) w K := _root_.id rfl
@[go_sem] theorem wpS_e (d : Option Nat) (e : E) (l : List S) : wpS P (.e d e :: l) ρ w K = e.wp P w ρ fun v w' => wpS P l (ρ.put d v) w' K := _root_.id rfl
@[go_sem] theorem wpS_gr_tt {s : Nat} {d : Option Nat} {r : R} {l : List S} (h : ρ.get s = some (.bool true)) : wpS P (.gr s true d r :: l) ρ w K = (∃ v, r.ev w ρ = some v ∧ wpS P l (ρ.put d v) w K) := by
  simp [wpS, h, isB, undef]
@[go_sem] theorem wpS_gr_ff {s : Nat} {d : Option Nat} {r : R} {l : List S} (h : ρ.get s = some (.bool false)) : wpS P (.gr s false d r :: l) ρ w K = (∃ v, r.ev w ρ = some v ∧ wpS P l (ρ.put d v) w K) := by
  simp [wpS, h, isB, undef]
@[go_sem] theorem wpS_gr_tf {s : Nat} {d : Option Nat} {r : R} {l : List S} (h : ρ.get s = some (.bool true)) : wpS P (.gr s false d r :: l) ρ w K = wpS P l (ρ.put d undef) w K := by
  simp [wpS, h, isB, undef]
@[go_sem] theorem wpS_gr_ft {s : Nat} {d : Option Nat} {r : R} {l : List S} (h : ρ.get s = some (.bool false)) : wpS P (.gr s true d r :: l) ρ w K = wpS P l (ρ.put d undef) w K := by
  simp [wpS, h, isB, undef]
@[go_sem] theorem wpS_gr_ut {s : Nat} {d : Option Nat} {r : R} {l : List S} (h : ρ.get s = some undef) : wpS P (.gr s true d r :: l) ρ w K = wpS P l (ρ.put d undef) w K := by
  simp [wpS, h, isB, undef]
@[go_sem] theorem wpS_gr_uf {s : Nat} {d : Option Nat} {r : R} {l : List S} (h : ρ.get s = some undef) : wpS P (.gr s false d r :: l) ρ w K = wpS P l (ρ.put d undef) w K := by
  simp [wpS, h, isB, undef]
@[go_sem] theorem wpS_ge_tt {s : Nat} {d : Option Nat} {e : E} {l : List S} (h : ρ.get s = some (.bool true)) : wpS P (.ge s true d e :: l) ρ w K = (e.wp P w ρ fun v w' => wpS P l (ρ.put d v) w' K) := by
  simp [wpS, h, isB, undef]
@[go_sem] theorem wpS_ge_ff {s : Nat} {d : Option Nat} {e : E} {l : List S} (h : ρ.get s = some (.bool false)) : wpS P (.ge s false d e :: l) ρ w K = (e.wp P w ρ fun v w' => wpS P l (ρ.put d v) w' K) := by
  simp [wpS, h, isB, undef]
@[go_sem] theorem wpS_ge_tf {s : Nat} {d : Option Nat} {e : E} {l : List S} (h : ρ.get s = some (.bool true)) : wpS P (.ge s false d e :: l) ρ w K = wpS P l (ρ.put d undef) w K := by
  simp [wpS, h, isB, undef]
@[go_sem] theorem wpS_ge_ft {s : Nat} {d : Option Nat} {e : E} {l : List S} (h : ρ.get s = some (.bool false)) : wpS P (.ge s true d e :: l) ρ w K = wpS P l (ρ.put d undef) w K := by
  simp [wpS, h, isB, undef]
@[go_sem] theorem wpS_ge_ut {s : Nat} {d : Option Nat} {e : E} {l : List S} (h : ρ.get s = some undef) : wpS P (.ge s true d e :: l) ρ w K = wpS P l (ρ.put d undef) w K := by
  simp [wpS, h, isB, undef]
@[go_sem] theorem wpS_ge_uf {s : Nat} {d : Option Nat} {e : E} {l : List S} (h : ρ.get s = some undef) : wpS P (.ge s false d e :: l) ρ w K = wpS P l (ρ.put d undef) w K := by
  simp [wpS, h, isB, undef]
theorem wpS_gr {s : Nat} {b : Bool} {c : Bool} {d : Option Nat} {r : R} {l : List S} (h : ρ.get s = some (.bool c))
    (ht : c = true → wpS P (.gr s b d r :: l) ρ w K) (hf : c = false → wpS P (.gr s b d r :: l) ρ w K) : wpS P (.gr s b d r :: l) ρ w K := by
  cases c
  · exact hf rfl
  · exact ht rfl
theorem wpS_ge {s : Nat} {b : Bool} {c : Bool} {d : Option Nat} {e : E} {l : List S} (h : ρ.get s = some (.bool c))
    (ht : c = true → wpS P (.ge s b d e :: l) ρ w K) (hf : c = false → wpS P (.ge s b d e :: l) ρ w K) : wpS P (.ge s b d e :: l) ρ w K := by
  cases c
  · exact hf rfl
  · exact ht rfl

@[go_sem] theorem wpD_nil {rd : List (Nat × Nat)} : wpD P .nil ρ w rd K = K ρ w := _root_.id rfl
@[go_sem] theorem wpD_r {rd : List (Nat × Nat)} (i : Nat) (d : Option Nat) (r : R) (t : D) : wpD P (.r i none d r t) ρ w rd K = ∃ v, r.ev w ρ = some v ∧ wpD P t (ρ.put d v) w (addRd i (r.blk ρ) rd) K := _root_.id rfl
@[go_sem] theorem wpD_e {rd : List (Nat × Nat)} (i : Nat) (d : Option Nat) (e : E) (fl : List Nat) (t : D) : wpD P (.e i none d e fl t) ρ w rd K = e.wp P w ρ fun v w' => keptL fl w w' rd ∧ wpD P t (ρ.put d v) w' rd K := _root_.id rfl
theorem wpD_g {rd : List (Nat × Nat)} {i s : Nat} {b c : Bool} {d : Option Nat} {r : R} {t : D} (h : ρ.get s = some (.bool c))
    (ht : c = true → wpD P (.r i (some (s, b)) d r t) ρ w rd K) (hf : c = false → wpD P (.r i (some (s, b)) d r t) ρ w rd K) : wpD P (.r i (some (s, b)) d r t) ρ w rd K := by
  cases c
  · exact hf rfl
  · exact ht rfl
section
variable {rd : List (Nat × Nat)}
@[go_sem] theorem wpD_g_tt {i s : Nat} {d : Option Nat} {r : R} {t : D} (h : ρ.get s = some (.bool true)) : wpD P (.r i (some (s, true)) d r t) ρ w rd K = (∃ v, r.ev w ρ = some v ∧ wpD P t (ρ.put d v) w (addRd i (r.blk ρ) rd) K) := by
  simp [wpD, h, isB, undef]
@[go_sem] theorem wpD_g_ff {i s : Nat} {d : Option Nat} {r : R} {t : D} (h : ρ.get s = some (.bool false)) : wpD P (.r i (some (s, false)) d r t) ρ w rd K = (∃ v, r.ev w ρ = some v ∧ wpD P t (ρ.put d v) w (addRd i (r.blk ρ) rd) K) := by
  simp [wpD, h, isB, undef]
@[go_sem] theorem wpD_g_tf {i s : Nat} {d : Option Nat} {r : R} {t : D} (h : ρ.get s = some (.bool true)) : wpD P (.r i (some (s, false)) d r t) ρ w rd K = wpD P t (ρ.put d undef) w rd K := by
  simp [wpD, h, isB, undef]
@[go_sem] theorem wpD_g_ft {i s : Nat} {d : Option Nat} {r : R} {t : D} (h : ρ.get s = some (.bool false)) : wpD P (.r i (some (s, true)) d r t) ρ w rd K = wpD P t (ρ.put d undef) w rd K := by
  simp [wpD, h, isB, undef]
@[go_sem] theorem wpD_g_ut {i s : Nat} {d : Option Nat} {r : R} {t : D} (h : ρ.get s = some undef) : wpD P (.r i (some (s, true)) d r t) ρ w rd K = wpD P t (ρ.put d undef) w rd K := by
  simp [wpD, h, isB, undef]
@[go_sem] theorem wpD_g_uf {i s : Nat} {d : Option Nat} {r : R} {t : D} (h : ρ.get s = some undef) : wpD P (.r i (some (s, false)) d r t) ρ w rd K = wpD P t (ρ.put d undef) w rd K := by
  simp [wpD, h, isB, undef]
end
@[go_sem] theorem ir_dr (t : D) (kp : List Nat) : irwp P N (.dr t kp) Q ρ w = wpD P t ρ w.drew [] fun ρ w => Q .normal (ρ.keep kp) w := _root_.id rfl
/-- What stands behind a row of steps, asked once for all ways through it. -/
theorem wpS_cut (Mid : Env → World → Prop) {l : List S} (h : wpS P l ρ w Mid) (hk : ∀ ρ w, Mid ρ w → K ρ w) : wpS P l ρ w K := by
  induction l generalizing ρ w with
  | nil => exact hk _ _ h
  | cons s l ih =>
    cases s with
    | r d r => obtain ⟨v, h1, h2⟩ := h; exact ⟨v, h1, ih h2⟩
    | e d e => exact E.mono (fun v w' h => ih h) e h
    | gr s b d r => obtain ⟨c, h1, h2, h3⟩ := h; exact ⟨c, h1, fun hh => let ⟨v, h4, h5⟩ := h2 hh; ⟨v, h4, ih h5⟩, fun hh => ih (h3 hh)⟩
    | ge s b d e => obtain ⟨c, h1, h2, h3⟩ := h; exact ⟨c, h1, fun hh => E.mono (fun v w' h => ih h) e (h2 hh), fun hh => ih (h3 hh)⟩
theorem thenQ_mono {a : IR} {next next' : Env → World → Prop} (hn : ∀ ρ w, next ρ w → next' ρ w) : ∀ (e : Exit) (ρ : Env) (w : World), thenQ next Q e ρ w → thenQ next' Q e ρ w := by
  intro e ρ w h
  cases e <;> first | exact hn _ _ h | exact h

@[go_sem] theorem get_cons (s t : Nat) (v : Value) : Env.get ((s, v) :: ρ) t = if s = t then some v else ρ.get t := _root_.id rfl
@[go_sem] theorem get_nil (t : Nat) : Env.get [] t = none := _root_.id rfl
def keepC (t : Nat) (v : Option Value) (r : Env) : Env :=
  match v with
  | some v => (t, v) :: r
  | none => r
@[go_sem] theorem keepC_s (t : Nat) (v : Value) (r : Env) : keepC t (some v) r = (t, v) :: r := _root_.id rfl
@[go_sem] theorem keepC_n (t : Nat) (r : Env) : keepC t none r = r := _root_.id rfl
@[go_sem] theorem keep_nil : ρ.keep [] = [] := _root_.id rfl
@[go_sem] theorem keep_cons (t : Nat) (ts : List Nat) : ρ.keep (t :: ts) = keepC t (ρ.get t) (ρ.keep ts) := by
  simp only [Env.keep]; cases ρ.get t <;> rfl
@[go_sem] theorem put_some (d : Nat) (v : Value) : ρ.put (some d) v = (d, v) :: ρ := _root_.id rfl
@[go_sem] theorem put_none (v : Value) : ρ.put none v = ρ := _root_.id rfl
@[go_sem] theorem O_t (n : Nat) : (O.t n).ev ρ = ρ.get n := _root_.id rfl
@[go_sem] theorem O_c (v : Value) : (O.c v).ev ρ = some v := _root_.id rfl
@[go_sem] theorem evs_nil : evs ρ [] = some [] := _root_.id rfl
@[go_sem] theorem evs_cons (x : O) (l : List O) : evs ρ (x :: l) = (x.ev ρ).bind fun v => (evs ρ l).map fun vs => v :: vs := by
  simp only [evs]; cases x.ev ρ <;> cases evs ρ l <;> rfl
@[go_sem] theorem pev_nil : pev ρ [] = some [] := _root_.id rfl
@[go_sem] theorem pev_cons (o n : Nat) (x : O) (l : List (Nat × Nat × O)) : pev ρ ((o, n, x) :: l) = (x.ev ρ).bind fun v => (pev ρ l).map fun vs => (o, n, v) :: vs := by
  simp only [pev]; cases x.ev ρ <;> cases pev ρ l <;> rfl
@[go_sem] theorem oev_n : oev ρ none = some none := _root_.id rfl
@[go_sem] theorem oev_s (x : O) : oev ρ (some x) = (x.ev ρ).map some := by
  simp only [oev]; cases x.ev ρ <;> rfl
@[go_sem] theorem rvs_nil : rvs w ρ [] = some [] := _root_.id rfl
@[go_sem] theorem rvs_cons (x : RV) (l : List RV) : rvs w ρ (x :: l) = (x.ev w ρ).bind fun v => (rvs w ρ l).map fun vs => v :: vs := by
  simp only [rvs]; cases x.ev w ρ <;> cases rvs w ρ l <;> rfl
end
@[go_sem] theorem one_1 (v : Value) : one? [v] = v := _root_.id rfl
@[go_sem] theorem one_2 (v u : Value) (l : List Value) : one? (v :: u :: l) = .tuple (v :: u :: l).toArray := _root_.id rfl
@[go_sem] theorem one_0 : one? [] = .tuple #[] := _root_.id rfl
@[go_sem] theorem RV_t (w : World) (ρ : Env) (s : Nat) : (RV.t s).ev w ρ = ρ.get s := _root_.id rfl
@[go_sem] theorem RV_l (w : World) (ρ : Env) (s : Nat) : (RV.l s).ev w ρ = (ρ.get s).bind (vL1 w) := _root_.id rfl
@[go_sem] theorem RV_n (w : World) (ρ : Env) (s k : Nat) : (RV.n s k).ev w ρ = (ρ.get s).bind (vLN w k) := _root_.id rfl
attribute [go_sem] argEnv R.ev vNN vFA vL1 vInt vShift vStr vBi vEq vNo vNg vCv vLen vLns vLnm vCap vIA vIXS vFL vFLN bnd vSL vSLS vPk vEx vMM vEqa eqCells scEq
@[go_sem] theorem isB_tt : isB (.bool true) true = true := _root_.id rfl
@[go_sem] theorem isB_tf : isB (.bool true) false = false := _root_.id rfl
@[go_sem] theorem isB_ft : isB (.bool false) true = false := _root_.id rfl
@[go_sem] theorem isB_ff : isB (.bool false) false = true := _root_.id rfl
@[go_sem] theorem isB_un (b : Bool) : isB undef b = false := _root_.id rfl
attribute [go_sem] R.blk addRd keptL inL
@[go_sem] theorem fillAt_nil (cs : Array Value) : fillAt cs [] = some cs := _root_.id rfl
def One (v : Value) : Prop := v.cells = #[v]
@[go_sem] theorem fillAt_1 {l : List Value} {off : Nat} {v : Value} {rest : List (Nat × Nat × Value)} (hv0 : One v) (h : off < l.length) :
    fillAt l.toArray ((off, 1, v) :: rest) = fillAt (l.set off v).toArray rest := by
  have hv : v.cells = #[v] := hv0
  simp only [fillAt, hv]
  rw [if_neg (by simp; omega)]
  simp
@[go_sem] theorem fillAt_n {l vs : List Value} {off n : Nat} {rest : List (Nat × Nat × Value)} (hv : vs.length = n) (h : off + n ≤ l.length) :
    fillAt l.toArray ((off, n, .agg vs.toArray) :: rest) = fillAt (l.take off ++ vs ++ l.drop (off + n)).toArray rest := by
  subst hv
  simp only [fillAt]
  rw [if_neg (by simp [Value.cells]; omega)]
  show fillAt (vs.toArray.zipIdx.foldl (fun (cs : Array Value) (x : Value × Nat) => cs.setIfInBounds (off + x.2) x.1) l.toArray) rest = _
  congr 1
  have key : ∀ (vs l : List Value) (off k : Nat), off + k + vs.length ≤ l.length →
      ((vs.zipIdx k).foldl (fun (cs : Array Value) (x : Value × Nat) => cs.setIfInBounds (off + x.2) x.1) l.toArray) = (l.take (off + k) ++ vs ++ l.drop (off + k + vs.length)).toArray := by
    intro vs
    induction vs with
    | nil => intro l off k hk; simp
    | cons v vs ih =>
      intro l off k hk
      simp only [List.length_cons] at hk
      simp only [List.zipIdx_cons, List.foldl_cons, List.setIfInBounds_toArray]
      rw [ih (l.set (off + k) v) off (k + 1) (by simp; omega)]
      congr 1
      have e1 : (l.set (off + k) v).take (off + (k + 1)) = l.take (off + k) ++ [v] := by
        rw [List.set_eq_take_append_cons_drop, if_pos (by omega), show off + (k + 1) = (l.take (off + k)).length + 1 by simp; omega, List.take_append]
        simp
        rw [List.take_of_length_le (by simp)]
      have e2 : (l.set (off + k) v).drop (off + (k + 1) + vs.length) = l.drop (off + k + (vs.length + 1)) := by
        rw [List.drop_set_of_lt (by omega)]
        congr 1; omega
      rw [e1, e2]
      simp
  have := key vs l off 0 (by omega)
  simp only [Nat.add_zero] at this
  rw [← this]
  rw [← Array.foldl_toList]
  simp
@[go_sem] theorem one_int (k : IntKind) (n : Int) : One (Value.int k n) = True := eq_true rfl
@[go_sem] theorem one_bool (b : Bool) : One (Value.bool b) = True := eq_true rfl
@[go_sem] theorem one_str (b : ByteArray) : One (Value.string b) = True := eq_true rfl
@[go_sem] theorem one_ptr (b : Option Addr) : One (Value.pointer b) = True := eq_true rfl
@[go_sem] theorem one_slice (a : Option Addr) (n c : Nat) : One (Value.slice a n c) = True := eq_true rfl
@[go_sem] theorem one_map (b : Option Nat) : One (Value.map b) = True := eq_true rfl
@[go_sem] theorem one_iface (t : TypeId) (v : Value) : One (Value.iface t v) = True := eq_true rfl
@[go_sem] theorem one_nilI  : One Value.nilIface = True := eq_true rfl
@[go_sem] theorem one_nilF  : One Value.nilFunc = True := eq_true rfl
@[go_sem] theorem one_func (f : Fn) (a b : Array Value) : One (Value.func f a b) = True := eq_true rfl
attribute [go_sem] exists_eq' Option.bind_some Option.bind_none Option.map_some Option.map_none exists_eq_left' Option.some.injEq
attribute [go_sem] List.getElem?_toArray List.getElem?_cons_zero List.getElem?_cons_succ

/-! ### worlds -/
/-- Nothing that was there is another, but in the blocks of S. -/
structure Mod (S : Nat → Prop) (w w' : World) : Prop where
  size : w.heap.size ≤ w'.heap.size
  old : ∀ b, b < w.heap.size → ¬ S b → w'.heap[b]? = w.heap[b]?
  os : w'.os = w.os
  tape : w'.tape = w.tape
  output : w'.output = w.output

theorem Mod.refl (S : Nat → Prop) (w : World) : Mod S w w := ⟨Nat.le_refl _, fun _ _ _ => rfl, rfl, rfl, rfl⟩
theorem Mod.trans {S : Nat → Prop} {a b c : World} (h : Mod S a b) (k : Mod S b c) : Mod S a c :=
  ⟨Nat.le_trans h.size k.size, fun i hi hs => (k.old i (Nat.lt_of_lt_of_le hi h.size) hs).trans (h.old i hi hs), k.os.trans h.os, k.tape.trans h.tape, k.output.trans h.output⟩
/-- One step more, in which only blocks of S or blocks that are new since 'a' are written. -/
theorem Mod.step {S S' : Nat → Prop} {a b c : World} (h : Mod S a b) (k : Mod S' b c) (hs : ∀ i, S' i → i < a.heap.size → S i) : Mod S a c :=
  ⟨Nat.le_trans h.size k.size, fun i hi hn => (k.old i (Nat.lt_of_lt_of_le hi h.size) (fun hh => hn (hs i hh hi))).trans (h.old i hi hn), k.os.trans h.os, k.tape.trans h.tape, k.output.trans h.output⟩
theorem Mod.weak {S S' : Nat → Prop} {a b : World} (h : Mod S a b) (hs : ∀ i, S i → S' i) : Mod S' a b :=
  ⟨h.size, fun i hi hn => h.old i hi (fun hh => hn (hs i hh)), h.os, h.tape, h.output⟩
theorem Mod.drew {S : Nat → Prop} {a b : World} (h : Mod S a b) : Mod S a b.drew := ⟨h.size, h.old, h.os, h.tape, h.output⟩
theorem Mod.of_drew {S : Nat → Prop} {a b : World} (h : Mod S a.drew b) : Mod S a b := ⟨h.size, h.old, h.os, h.tape, h.output⟩
theorem lt_of_heap {w : World} {b : Nat} {o : Obj} (h : w.heap[b]? = some o) : b < w.heap.size := (Array.getElem?_eq_some_iff.1 h).1
theorem Mod.at {S : Nat → Prop} {w w' : World} (h : Mod S w w') {b : Nat} {o : Obj} (hb : w.heap[b]? = some o) (hs : ¬ S b) : w'.heap[b]? = some o := (h.old b (lt_of_heap hb) hs).trans hb
theorem Mod.cell {S : Nat → Prop} {w w' : World} (h : Mod S w w') {a : Addr} {v : Value} (ha : w.cell? a = some v) (hs : ¬ S a.block) : w'.cell? a = some v := by
  have hlt := World.block_lt_of_cell? w a ha
  rw [cell?_congr (h.old a.block hlt hs)]; exact ha

theorem cellsFrom_of {w : World} {b T : Nat} {fz : Nat × Nat} {cs : List Value} (h : w.heap[b]? = some (.cells cs.toArray T fz)) : ∀ (n off i : Nat) (acc : List Value), off + i + n ≤ cs.length →
    cellsFrom w ⟨b, off, none⟩ i n acc.toArray = some (acc ++ (cs.drop (off + i)).take n).toArray := by
  intro n
  induction n with
  | zero => intro off i acc _; simp [cellsFrom]
  | succ n ih =>
    intro off i acc hle
    have hlt : off + i < cs.length := by omega
    have hc : w.cell? (Addr.add ⟨b, off, none⟩ i) = some cs[off + i] := by
      have : Addr.add ⟨b, off, none⟩ i = ⟨b, off + i, none⟩ := by unfold Addr.add; split <;> simp_all
      rw [this]
      simp [World.cell?, h, hlt]
    simp only [cellsFrom, hc]
    have := ih off (i + 1) (acc ++ [cs[off + i]]) (by omega)
    rw [show acc.toArray.push cs[off + i] = (acc ++ [cs[off + i]]).toArray by simp, this]
    congr 2
    rw [List.append_assoc]
    congr 1
    rw [show cs.drop (off + i) = cs[off + i] :: cs.drop (off + (i + 1)) by rw [List.drop_eq_getElem_cons hlt]; rfl]
    simp
/-- A struct or array that is loaded whole. -/
theorem ln_of {w : World} {b T off n : Nat} {fz : Nat × Nat} {cs : List Value} (h : w.heap[b]? = some (.cells cs.toArray T fz)) (hle : off + n ≤ cs.length) :
    vLN w n (.pointer (some ⟨b, off, none⟩)) = some (.agg ((cs.drop off).take n).toArray) := by
  have := cellsFrom_of h n off 0 [] (by omega)
  simp only [vLN]
  simp only [List.nil_append, Nat.add_zero] at this
  rw [this]
  rfl

theorem cell_of {w : World} {b : Nat} {cs : Array Value} {T : TypeId} {fz : Nat × Nat} (h : w.heap[b]? = some (.cells cs T fz)) (o : Nat) : w.cell? ⟨b, o, none⟩ = cs[o]? := by simp [World.cell?, h]
@[go_sem] theorem drew_heap (w : World) : w.drew.heap = w.heap := _root_.id rfl
@[go_sem] theorem drew_cell (w : World) (a : Addr) : w.drew.cell? a = w.cell? a := _root_.id rfl
@[go_sem] theorem add_zero' (a : Addr) : a.add 0 = a := _root_.id rfl
@[go_sem] theorem add_at (b o n : Nat) : Addr.add ⟨b, o, none⟩ n = ⟨b, o + n, none⟩ := by unfold Addr.add; split <;> simp_all

theorem mod_alloc (S : Nat → Prop) (w : World) (o : Obj) : Mod S w (w.alloc o) :=
  ⟨by simp, fun b hb _ => by show (w.heap.push o)[b]? = _; rw [Array.getElem?_push, if_neg (by omega)], rfl, rfl, rfl⟩
theorem mod_setRow (w : World) (b : Nat) (cs : Array Value) : Mod (· = b) w (w.setRow b cs) :=
  ⟨by simp, fun i _ hs => setRow_other w b i cs hs, rfl, rfl, rfl⟩

section
variable {P : Program} {w : World} {ρ : Env} {K : Value → World → Prop}

theorem e_st {n : Nat} {x y : O} {b off : Nat} {v : Value} {cs : Array Value} {T : TypeId} (hx : x.ev ρ = some (.pointer (some ⟨b, off, none⟩))) (hy : y.ev ρ = some v)
    (hb : w.heap[b]? = some (.cells cs T (0, 0))) (hn : v.cells.size = n) (hfit : off + n ≤ cs.size) (h1 : ∀ u ∈ v.cells.toList, u.oneCell' = true)
    (hk : ∀ w', w'.heap[b]? = some (.cells (sp cs off v.cells.toList) T (0, 0)) → Mod (· = b) w w' → w'.heap.size = w.heap.size → K undef w') : E.wp P w ρ K (.st n x y) := by
  refine ⟨_, v, cs, T, hx, hy, hn, ⟨rfl, hb⟩, ?_, h1, ?_⟩
  · show off + v.cells.toList.length ≤ cs.size
    rw [Array.length_toList, hn]; exact hfit
  · exact hk _ (setRow_heap w b cs _ T _ hb) (mod_setRow w b _) (by simp)

theorem sp_one (l : List Value) (o : Nat) (v : Value) (h : o < l.length) : sp l.toArray o [v] = (l.set o v).toArray := by
  unfold sp
  congr 1
  simp only [List.length_cons, List.length_nil, Nat.zero_add]
  rw [List.set_eq_take_append_cons_drop, if_pos h]
  simp

theorem sp_all {cs vs : List Value} (h : vs.length = cs.length) : sp cs.toArray 0 vs = vs.toArray := by
  unfold sp
  simp only [Nat.zero_add, List.take_zero, List.nil_append]
  rw [List.drop_of_length_le (by omega), List.append_nil]
/-- A store of a struct over a whole block. -/
theorem e_sta {n : Nat} {x y : O} {b : Nat} {vs cs : List Value} {T : TypeId} (hx : x.ev ρ = some (.pointer (some ⟨b, 0, none⟩))) (hy : y.ev ρ = some (.agg vs.toArray))
    (hb : w.heap[b]? = some (.cells cs.toArray T (0, 0))) (hn : vs.length = n) (hc : cs.length = n) (h1 : ∀ u ∈ vs, u.oneCell' = true)
    (hk : ∀ w', w'.heap[b]? = some (.cells vs.toArray T (0, 0)) → Mod (· = b) w w' → w'.heap.size = w.heap.size → K undef w') : E.wp P w ρ K (.st n x y) := by
  refine e_st (v := .agg vs.toArray) hx hy hb (by simpa [Value.cells] using hn) (by simp; omega) (by simpa [Value.cells] using h1) ?_
  intro w' h2 h3 h4
  refine hk w' ?_ h3 h4
  rw [h2]
  have : sp cs.toArray 0 (Value.agg vs.toArray).cells.toList = vs.toArray := sp_all (by simp [Value.cells]; omega)
  rw [this]
/-- A store of a struct into a block. -/
theorem e_stg {n : Nat} {x y : O} {b off : Nat} {vs cs : List Value} {T : TypeId} (hx : x.ev ρ = some (.pointer (some ⟨b, off, none⟩))) (hy : y.ev ρ = some (.agg vs.toArray))
    (hb : w.heap[b]? = some (.cells cs.toArray T (0, 0))) (hn : vs.length = n) (hc : off + n ≤ cs.length) (h1 : ∀ u ∈ vs, u.oneCell' = true)
    (hk : ∀ w', w'.heap[b]? = some (.cells (sp cs.toArray off vs) T (0, 0)) → Mod (· = b) w w' → w'.heap.size = w.heap.size → K undef w') : E.wp P w ρ K (.st n x y) := by
  refine e_st (v := .agg vs.toArray) hx hy hb (by simpa [Value.cells] using hn) (by simp; omega) (by simpa [Value.cells] using h1) ?_
  intro w' h2 h3 h4
  exact hk w' (by simpa [Value.cells] using h2) h3 h4
/-- A store of one cell. -/
theorem e_st1 {x y : O} {b off : Nat} {v : Value} {cs : List Value} {T : TypeId} (hx : x.ev ρ = some (.pointer (some ⟨b, off, none⟩))) (hy : y.ev ρ = some v)
    (hb : w.heap[b]? = some (.cells cs.toArray T (0, 0))) (h1 : v.oneCell' = true) (hfit : off < cs.length)
    (hk : ∀ w', w'.heap[b]? = some (.cells (cs.set off v).toArray T (0, 0)) → Mod (· = b) w w' → w'.heap.size = w.heap.size → K undef w') : E.wp P w ρ K (.st 1 x y) := by
  have hc : v.cells = #[v] := by cases v <;> first | rfl | simp [Value.oneCell'] at h1
  refine e_st (v := v) hx hy hb (by rw [hc]; rfl) (by simp; omega) (by rw [hc]; simpa using h1) ?_
  intro w' h2 h3 h4
  rw [hc] at h2
  rw [show sp cs.toArray off #[v].toList = (cs.set off v).toArray from sp_one cs off v hfit] at h2
  exact hk w' h2 h3 h4

/-- A new variable. -/
theorem e_bx {t : Nat} {x : O} {v : Value} (hx : x.ev ρ = some v)
    (hk : ∀ w', w'.heap[w.heap.size]? = some (.cells v.cells t (0, 0)) → Mod (fun _ => False) w w' → w'.heap.size = w.heap.size + 1 → K (.pointer (some ⟨w.heap.size, 0, none⟩)) w') : E.wp P w ρ K (.bx t x) :=
  ⟨v, hx, hk _ (heap_alloc_new w _) (mod_alloc _ w _) (by simp)⟩
theorem e_al {t : Nat} {z : Value}
    (hk : ∀ w', w'.heap[w.heap.size]? = some (.cells z.cells t (0, 0)) → Mod (fun _ => False) w w' → w'.heap.size = w.heap.size + 1 → K (.pointer (some ⟨w.heap.size, 0, none⟩)) w') : E.wp P w ρ K (.al t z) :=
  hk _ (heap_alloc_new w _) (mod_alloc _ w _) (by simp)
theorem e_bs {el len : Nat} {cells cs : Array Value} {parts : List (Nat × Nat × O)} {ps : List (Nat × Nat × Value)} (hp : pev ρ parts = some ps) (hf : fillAt cells ps = some cs)
    (hk : ∀ w', w'.heap[w.heap.size]? = some (.cells cs el (0, 0)) → Mod (fun _ => False) w w' → w'.heap.size = w.heap.size + 1 → K (.slice (some ⟨w.heap.size, 0, none⟩) len len) w') : E.wp P w ρ K (.bs el len cells parts) :=
  ⟨ps, cs, hp, hf, hk _ (heap_alloc_new w _) (mod_alloc _ w _) (by simp)⟩
theorem madeOne (z : Value) (n : Nat) : madeCells #[z] n = (List.replicate n z).toArray := by
  apply Array.ext'
  rw [toList_madeCells_one]
/-- make([]T, n), one cell an element. -/
theorem e_ms1 {el bytes : Nat} {z : Value} {l : O} {k : IntKind} {n : Nat} (hl : l.ev ρ = some (.int k n)) (hb : bytes * n ≤ 281474976710656) (h63 : n ≤ 9223372036854775807)
    (hk : ∀ w', w'.heap[w.heap.size]? = some (.cells (List.replicate n z).toArray el (0, 0)) → Mod (fun _ => False) w w' → w'.heap.size = w.heap.size + 1 → K (.slice (some ⟨w.heap.size, 0, none⟩) n n) w') : E.wp P w ρ K (.ms el 1 bytes #[z] l l) := by
  refine ⟨k, k, n, n, hl, hl, by omega, by omega, (by have h := Int.ofNat_le.2 hb; rw [Int.natCast_mul] at h; exact h), (by have h := Int.ofNat_le.2 h63; exact h), ?_⟩
  simp only [Int.toNat_natCast, Nat.mul_one]
  rw [madeOne]
  exact hk _ (heap_alloc_new w _) (mod_alloc _ w _) (by simp)
theorem e_call {f : Nat} {args : List O} {vs : List Value} (ha : evs ρ args = some vs) (h : CallsR P f vs w K) : E.wp P w ρ K (.call f args) := ⟨vs, ha, h⟩
end
attribute [go_sem] Nat.zero_add List.length_cons List.length_nil List.set_cons_zero List.set_cons_succ List.take_zero List.take_succ_cons List.drop_zero List.drop_succ_cons List.take_nil List.drop_nil List.nil_append List.cons_append List.append_nil or_false false_or or_true true_or false_implies true_implies and_true true_and and_self Bool.and_true Bool.true_and
end Go.W
