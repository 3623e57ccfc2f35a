/- The engine, part 3: effects, regions in order, and their soundness. -/
import Derived.Test.YtnimaifmcejkcaaW2
set_option linter.unusedSimpArgs false
set_option linter.unusedVariables false
namespace Go.W
open Go

/-! ### effects -/
inductive E where
  | st (n : Nat) (x v : O)
  | bx (t : Nat) (x : O)
  | al (t : Nat) (zero : Value)
  | bs (el len : Nat) (cells : Array Value) (parts : List (Nat × Nat × O))
  | ms (el sz bytes : Nat) (zero : Array Value) (len cap : O)
  | ap (el sz bytes : Nat) (zero : Array Value) (s x : O)
  | cp (sz : Nat) (d s : O)
  | call (f : Nat) (args : List O)
  | raw (o : Oper)
  deriving Inhabited

def sp (cs : Array Value) (o : Nat) (vs : List Value) : Array Value := (cs.toList.take o ++ vs ++ cs.toList.drop (o + vs.length)).toArray

def NoQ : Exit → Act → World → Prop := fun _ _ _ => False
def Agree (ρ : Env) (a : Act) : Prop := ∀ x u, (toO x).ev ρ = some u → a.eval x = u

/-- What a single operation does, to any frame that agrees. -/
def opWp (P : Program) (o : Oper) (ρ : Env) (w : World) (K : Value → World → Prop) : Prop :=
  ∀ a, Agree ρ a → o.wp P a w (fun a' w' => ∃ v, a' = a.put o.dst v ∧ K v w') NoQ

/-- The block and the row of cells behind an address. -/
def Row (w : World) (a : Addr) (cs : Array Value) (T : TypeId) : Prop := a.spot = none ∧ w.heap[a.block]? = some (.cells cs T (0, 0))

def RdCells (w : World) (a : Option Addr) (n : Nat) (vs : List Value) : Prop := vs.length = n ∧ ∀ ad, a = some ad → ∀ j v, vs[j]? = some v → w.cell? (ad.add j) = some v

def E.wp (P : Program) (w : World) (ρ : Env) (K : Value → World → Prop) : E → Prop
  | .st n x y => ∃ a v cs T, x.ev ρ = some (.pointer (some a)) ∧ y.ev ρ = some v ∧ v.cells.size = n ∧ Row w a cs T ∧ a.off + v.cells.toList.length ≤ cs.size ∧ (∀ u ∈ v.cells.toList, u.oneCell' = true) ∧
      K undef (w.setRow a.block (sp cs a.off v.cells.toList))
  | .bx t x => ∃ v, x.ev ρ = some v ∧ K (.pointer (some ⟨w.heap.size, 0, none⟩)) (w.alloc (.cells v.cells t))
  | .al t z => K (.pointer (some ⟨w.heap.size, 0, none⟩)) (w.alloc (.cells z.cells t))
  | .bs el len cells parts => ∃ ps cs, pev ρ parts = some ps ∧ fillAt cells ps = some cs ∧ K (.slice (some ⟨w.heap.size, 0, none⟩) len len) (w.alloc (.cells cs el))
  | .ms el sz bytes zero l c => ∃ kl kc ln cn, l.ev ρ = some (.int kl ln) ∧ c.ev ρ = some (.int kc cn) ∧ 0 ≤ ln ∧ ln ≤ cn ∧ (bytes : Int) * cn ≤ 281474976710656 ∧ cn ≤ 9223372036854775807 ∧
      K (.slice (some ⟨w.heap.size, 0, none⟩) ln.toNat cn.toNat) (w.alloc (.cells (madeCells zero (cn.toNat * sz)) el))
  | .ap el sz bytes zero s x => ∃ sa n cap xa m c olds news, s.ev ρ = some (.slice sa n cap) ∧ x.ev ρ = some (.slice xa m c) ∧ (sa = none → n = 0 ∧ cap = 0) ∧ (xa = none → m = 0) ∧
      RdCells w sa (n * sz) olds ∧ RdCells w xa (m * sz) news ∧ (∀ u ∈ news, u.oneCell' = true) ∧ (n + m : Nat) * bytes ≤ 140737488355328 ∧ n + m ≤ 9223372036854775807 ∧
      (n + m ≤ cap → sa = none → K (.slice none 0 0) w) ∧
      (n + m ≤ cap → ∀ a, sa = some a → ∃ cs T, Row w a cs T ∧ a.off + n * sz + news.length ≤ cs.size ∧ K (.slice sa (n + m) cap) (w.setRow a.block (sp cs (a.off + n * sz) news))) ∧
      (cap < n + m → ∀ nc w1, n + m ≤ nc → w1 = w.drew.alloc (.cells (olds.toArray ++ news.toArray ++ Builtin.zeroCells zero (nc - (n + m))) el) → K (.slice (some ⟨w.heap.size, 0, none⟩) (n + m) nc) w1)
  | .cp sz d s => ∃ da dn dc sa sn sc news, d.ev ρ = some (.slice da dn dc) ∧ s.ev ρ = some (.slice sa sn sc) ∧ (sa = none → sn = 0) ∧ RdCells w sa (Nat.min sn dn * sz) news ∧ (∀ u ∈ news, u.oneCell' = true) ∧
      (da = none → K (.int .i64 (Nat.min sn dn : Nat)) w) ∧
      (∀ a, da = some a → ∃ cs T, Row w a cs T ∧ a.off + news.length ≤ cs.size ∧ K (.int .i64 (Nat.min sn dn : Nat)) (w.setRow a.block (sp cs a.off news)))
  | .call f args => ∃ vs, evs ρ args = some vs ∧ Calls P f vs.toArray w fun e w' => ∃ v, e = .returned v ∧ K v w'
  | .raw o => opWp P o ρ w K

theorem Calls.of_ret {P : Program} {f : FuncId} {args : Array Value} {w : World} {R : Ending → World → Prop} (h : Calls P f args w fun e w' => ∃ v, e = .returned v ∧ R (.returned v) w') : Calls P f args w R :=
  h.mono fun e w' ⟨v, he, hr⟩ => he ▸ hr

theorem opWp_of_run {P : Program} {o : Oper} {ρ : Env} {w : World} {K : Value → World → Prop} (h : ∀ a, Agree ρ a → ∃ v w', (execOp a.eval o).run P w = .ok (.value v) w' ∧ K v w') : opWp P o ρ w K := by
  intro a ha
  obtain ⟨v, w', hr, hk⟩ := h a ha
  unfold Oper.wp
  rw [hr]
  exact ⟨v, rfl, hk⟩
theorem opWp_of_skip {P : Program} {o : Oper} {ρ : Env} {w : World} {K : Value → World → Prop} (h : ∀ a, Agree ρ a → ∃ w', (execOp a.eval o).run P w = .ok .skip w' ∧ K undef w') : opWp P o ρ w K := by
  intro a ha
  obtain ⟨w', hr, hk⟩ := h a ha
  unfold Oper.wp
  rw [hr]
  exact ⟨undef, rfl, hk⟩
theorem opWp_of_ro {P : Program} {o : Oper} {ρ : Env} {w : World} {K : Value → World → Prop} {r : R} {v : Value} (hr : res P o.op = some r) (hv : r.ev w ρ = some v) (hk : K v w) : opWp P o ρ w K :=
  opWp_of_run fun a ha => ⟨v, w, ro_run (res_sound hr ha hv), hk⟩
theorem opWp_mono {P : Program} {o : Oper} {ρ : Env} {w : World} {K K' : Value → World → Prop} (hk : ∀ v w', K v w' → K' v w') (h : opWp P o ρ w K) : opWp P o ρ w K' :=
  fun a ha => Oper.wp_mono (fun a' w' ⟨v, e, k⟩ => ⟨v, e, hk _ _ k⟩) (h a ha)

/-! ### which operation is which effect -/
def resE (P : Program) (o : Oper) : E :=
  match o.op with
  | .store t x v => match P.underlying t, szOf P t with
    | some _, some n => .st n (toO x) (toO v)
    | _, _ => .raw o
  | .box t x => .bx t (toO x)
  | .alloc t => match (P.info? t).bind (·.zero) with
    | some z => .al t z
    | none => .raw o
  | .buildSlice t len parts => match P.underlying t with
    | some (.slice el) => match szOf P el, (P.info? el).bind (·.zero) with
      | some n, some z => if len * n ≤ 2 ^ 24 && 0 < len * n then
          .bs el len ((Array.range (len * n)).map (z.cells[· % z.cells.size]!)) (parts.toList.map fun p => (p.1 * n, n, toO p.2)) else .raw o
      | _, _ => .raw o
    | _ => .raw o
  | .makeSlice t l c => match P.underlying t with
    | some (.slice el) => match P.info? el with
      | some i => match i.zero with
        | some z => .ms el i.size i.bytes z.cells (toO l) (toO c)
        | none => .raw o
      | none => .raw o
    | _ => .raw o
  | .call { callee := .builtin .append, args, argTypes } => match args.toList, argTypes.toList with
    | [s, x], [t, u] => match P.underlying t with
      | some (.slice el) => match P.info? el with
        | some i => match i.zero with
          | some z => if t = u && z.cells.size = i.size && 0 < i.size then .ap el i.size i.bytes z.cells (toO s) (toO x) else .raw o
          | none => .raw o
        | none => .raw o
      | _ => .raw o
    | _, _ => .raw o
  | .call { callee := .builtin .copy, args, argTypes } => match args.toList, argTypes.toList with
    | [d, s], [t, u] => match P.underlying t with
      | some (.slice el) => match szOf P el with
        | some n => if t = u then .cp n (toO d) (toO s) else .raw o
        | none => .raw o
      | _ => .raw o
    | _, _ => .raw o
  | .call { callee := .value (.func f), args, .. } => match P.funcs[f]? with
    | some fn => if fn.body.isSome && !(fn.name == "runtime.NumGoroutine") then .call f (args.toList.map toO) else .raw o
    | none => .raw o
  | _ => .raw o

section
variable {P : Program} {w : World}

theorem cellsB_of_loc (cs : Array Value) (a : Addr) (T : TypeId) (h : Row w a cs T) (j : Nat) : w.cell? (a.add j) = cs[a.off + j]? := by
  obtain ⟨hs, hb⟩ := h
  obtain ⟨b, off, spot⟩ := a
  simp only at hs; subst hs
  unfold Addr.add
  by_cases hj : j = 0
  · subst hj; simp [World.cell?, hb]
  · simp [World.cell?, hb, hj]

theorem pev_fill {ρ : Env} {e : Operand → Value} (he : ∀ x u, (toO x).ev ρ = some u → e x = u) (n : Nat) (pl : Nat → Option (Nat × Nat)) (hpl : ∀ i, pl i = some (i * n, n)) :
    ∀ (parts : List (Nat × Operand)) (vs : List (Nat × Nat × Value)) (cells out : Array Value), pev ρ (parts.map fun p => (p.1 * n, n, toO p.2)) = some vs → fillAt cells vs = some out →
      Instr.fill pl cells (parts.map fun p => (p.1, e p.2)) = some out := by
  intro parts
  induction parts with
  | nil =>
    intro vs cells out h1 h2
    simp only [List.map_nil, pev, Option.some.injEq] at h1; subst h1
    simpa [fillAt, Instr.fill] using h2
  | cons p parts ih =>
    intro vs cells out h1 h2
    simp only [List.map_cons, pev] at h1
    split at h1
    · rename_i v l hv hl
      simp only [Option.some.injEq] at h1; subst h1
      simp only [fillAt] at h2
      split at h2
      · cases h2
      · rename_i hc
        simp only [List.map_cons, Instr.fill, hpl, he _ v hv]
        rw [if_neg hc]
        exact ih l _ out hl h2
    · cases h1

theorem run_rd {size n len cap : Nat} {xa : Option Addr} {cs : List Value} (h : RdCells w xa (n * size) cs) (hx : xa = none → n = 0) : (Builtin.firstCells size n (.slice xa len cap)).run P w = .ok cs.toArray w := by
  cases xa with
  | none =>
    have := hx rfl; subst this
    have hl : cs = [] := List.eq_nil_of_length_eq_zero (by simpa using h.1)
    subst hl
    simp [run_firstCells_none]
  | some ad => exact run_firstCells_some w size n ad len cap cs h.1 (h.2 ad rfl)

theorem run_append_gen (t ty e : TypeId) (i : TypeInfo) (z : Value) (ht : P.underlying t = some (.slice e)) (hi : P.info? e = some i) (hz : i.zero = some z) (hzs : z.cells.size = i.size)
    {sa : Option Addr} {n cap : Nat} {xa : Option Addr} {m c : Nat} {olds news : List Value}
    (hsa : sa = none → n = 0 ∧ cap = 0) (hxa : xa = none → m = 0) (ho : RdCells w sa (n * i.size) olds) (hn : RdCells w xa (m * i.size) news) (h1 : ∀ u ∈ news, u.oneCell' = true)
    (hb : (n + m) * i.bytes ≤ 140737488355328) (h63 : n + m ≤ 9223372036854775807) {K : Value → World → Prop}
    (k0 : n + m ≤ cap → sa = none → K (.slice none 0 0) w)
    (k1 : n + m ≤ cap → ∀ a, sa = some a → ∃ cs T, Row w a cs T ∧ a.off + n * i.size + news.length ≤ cs.size ∧ K (.slice sa (n + m) cap) (w.setRow a.block (sp cs (a.off + n * i.size) news)))
    (k2 : cap < n + m → ∀ nc w1, n + m ≤ nc → w1 = w.drew.alloc (.cells (olds.toArray ++ news.toArray ++ Builtin.zeroCells z.cells (nc - (n + m))) e) → K (.slice (some ⟨w.heap.size, 0, none⟩) (n + m) nc) w1) :
    ∃ v' w', (Builtin.append_ #[t, t] ty #[.slice sa n cap, .slice xa m c]).run P w = .ok v' w' ∧ K v' w' := by
  by_cases hroom : n + m ≤ cap
  · cases hs : sa with
    | none =>
      obtain ⟨rfl, rfl⟩ := hsa hs
      have hm : m = 0 := by omega
      subst hm
      have hnl : news = [] := List.eq_nil_of_length_eq_zero (by simpa using hn.1)
      subst hnl
      refine ⟨_, _, ?_, k0 hroom hs⟩
      have hf := run_rd (P := P) (len := 0) (cap := c) hn (fun _ => rfl)
      have hf' : (Builtin.firstCells i.size 0 (.slice xa 0 c)).run P w = .ok #[] w := by simpa using hf
      simp [Builtin.append_, run_underlying ht, sizeOf, typeInfo, hi, Builtin.lenOf, hf']
    | some a =>
      obtain ⟨cs, T, ⟨hsp, hrow⟩, hfit, hk⟩ := k1 hroom a hs
      subst hs
      obtain ⟨b, off, spot⟩ := a
      simp only at hsp; subst hsp
      refine ⟨_, _, ?_, hk⟩
      have hf := run_rd (P := P) (len := m) (cap := c) hn hxa
      have hst := run_storeCells_at P b (off + n * i.size) T news 0 cs w hrow (by simpa using hfit) h1
      simp only [Nat.add_zero] at hst
      simp [Builtin.append_, run_underlying ht, sizeOf, typeInfo, hi, Builtin.lenOf, hroom, hf, Addr.add_lit, hst, sp]
  · have hlt : cap < n + m := by omega
    refine ⟨_, _, ?_, k2 hlt _ _ (grownCap_ge w (n + m) cap e) rfl⟩
    have hn' : RdCells w.drew xa (m * i.size) news := ⟨hn.1, fun ad h j v hv => by simpa using hn.2 ad h j v hv⟩
    have ho' : RdCells w.drew sa (n * i.size) olds := ⟨ho.1, fun ad h j v hv => by simpa using ho.2 ad h j v hv⟩
    have hf := run_rd (P := P) (len := m) (cap := c) hn' hxa
    have hfo := run_rd (P := P) (len := n) (cap := cap) ho' (fun h => (hsa h).1)
    have h48' : ¬ (281474976710656 < Builtin.nextslicecap (n + m) cap * i.bytes) := by have := growslice_fits hlt hb; omega
    have h63' : ¬ (9223372036854775807 < ((n : Int) + (m : Int))) := by omega
    simp [Builtin.append_, run_underlying ht, sizeOf, typeInfo, zeroValue, hi, hz, Builtin.lenOf, hroom, h63', h48', Question.forced, hf, hfo, newRow, grownCap]
    congr 2
    apply Array.ext'
    simp [List.append_assoc]

theorem resE_sound {o : Oper} {ρ : Env} {K : Value → World → Prop} (h : (resE P o).wp P w ρ K) : opWp P o ρ w K := by
  obtain ⟨dst, op, ty, pos, after, guard⟩ := o
  unfold resE at h
  simp only at h
  split at h
  · -- store
    rename_i t x v
    split at h
    · rename_i d n hd hn
      obtain ⟨a, u, cs, T, hx, hv, hsz, ⟨hsp, hrow⟩, hfit, h1, hk⟩ := h
      refine opWp_of_skip fun act ha => ⟨_, ?_, hk⟩
      have e1 := ha _ _ hx
      have e2 := ha _ _ hv
      obtain ⟨b, off, spot⟩ := a
      simp only at hsp; subst hsp
      obtain ⟨i, hi, hin⟩ := Option.map_eq_some_iff.1 hn
      have hst := run_storeCells_at P b off T u.cells.toList 0 cs w hrow (by simpa using hfit) h1
      simp only [Nat.add_zero] at hst
      have hsz' : ¬ (u.cells.size ≠ i.size) := by rw [hsz, hin]; simp
      simp [execOp, e1, e2, Instr.storeAt, Instr.sureAddr, storeVar, sizeOf, typeInfo, hi, hsz', hst, sp]
    · exact h
  · -- box
    obtain ⟨v, hv, hk⟩ := h
    refine opWp_of_run fun act ha => ⟨_, _, ?_, hk⟩
    have e2 := ha _ _ hv
    simp [execOp, e2, Instr.box, newVar, newRow]
  · -- alloc
    rename_i t
    split at h
    · rename_i z hz
      refine opWp_of_run fun act ha => ⟨_, _, ?_, h⟩
      obtain ⟨i, hi, hz⟩ := Option.bind_eq_some_iff.1 hz
      simp [execOp, Instr.alloc, newVar, newRow, zeroValue, typeInfo, hi, hz]
    · exact h
  · -- buildSlice
    rename_i t len parts
    split at h
    · rename_i el hu
      split at h
      · rename_i n z hn hz
        split at h
        · rename_i hc
          simp only [Bool.and_eq_true, decide_eq_true_eq] at hc
          obtain ⟨ps, cs, hps, hcs, hk⟩ := h
          refine opWp_of_run fun act ha => ⟨_, _, ?_, hk⟩
          obtain ⟨i, hi, hin⟩ := Option.map_eq_some_iff.1 hn
          rw [hi] at hz
          have hz' : i.zero = some z := by simpa using hz
          have hf := pev_fill ha n (fun i => some (i * n, n)) (fun _ => rfl) parts.toList ps _ cs hps hcs
          have h1 : ¬ (len * n > 2 ^ 24) := by have := hc.1; omega
          have h2 : ¬ (len * n = 0) := by have := hc.2; omega
          have hp : (parts.map fun x => (x.1, act.eval x.2)).toList = parts.toList.map fun p => (p.1, act.eval p.2) := by simp
          subst hin
          have g1 : ro P w (underlying t) = some (.slice el) := by rw [ro_underlying, hu]
          have g2 : ro P w (sizeOf el) = some i.size := by rw [ro_sizeOf, hi]; rfl
          have g3 : ro P w (zeroValue el) = some z := by rw [ro_zeroValue, hi]; exact hz'
          simp only [execOp, Instr.buildSlice, Sem.run_bind, ro_run g1, ro_run g2, ro_run g3, Result.andThen_ok, Sem.run_pure, h1, h2, if_false, hp, hf]
          simp [newRow]
        · exact h
      · exact h
    · exact h
  · -- makeSlice
    rename_i t l c
    split at h
    · rename_i el hu
      split at h
      · rename_i i hi
        split at h
        · rename_i z hz
          obtain ⟨kl, kc, ln, cn, hl, hc, h0, hle, hb, h63, hk⟩ := h
          refine opWp_of_run fun act ha => ⟨_, _, ?_, hk⟩
          have hm := run_make (P := P) w t el i z hu hi hz kl kc ln cn h0 hle hb h63
          simp only [execOp, ha _ _ hl, ha _ _ hc, Sem.run_bind, hm, Result.andThen_ok, Sem.run_pure]
        · exact h
      · exact h
    · exact h
  · -- append
    rename_i args argTypes
    split at h
    · rename_i s x t u hargs htys
      have e1 : args = #[s, x] := by cases args; simp_all
      have e2 : argTypes = #[t, u] := by cases argTypes; simp_all
      subst e1 e2
      split at h
      · rename_i el hu
        split at h
        · rename_i i hi
          split at h
          · rename_i z hz
            split at h
            · rename_i hc
              simp only [Bool.and_eq_true, decide_eq_true_eq] at hc
              obtain ⟨⟨rfl, hzs⟩, hpos⟩ := hc
              obtain ⟨sa, n, cap, xa, m, c, olds, news, hs, hx, hsa, hxa, ho, hn, h1, hb, h63, k0, k1, k2⟩ := h
              refine opWp_of_run fun act ha => ?_
              obtain ⟨v', w', hr, hk⟩ := run_append_gen (P := P) (w := w) t ty el i z hu hi hz hzs (c := c) hsa hxa ho hn h1 hb h63 (K := K) k0 k1 k2
              refine ⟨v', w', ?_, hk⟩
              simp only [execOp, resolve, List.map_toArray, List.map_cons, List.map_nil, ha _ _ hs, ha _ _ hx, Sem.run_bind, Sem.run_pure, Result.andThen_ok, invoke, builtin, hr]
            · exact h
          · exact h
        · exact h
      · exact h
    · exact h
  · -- copy
    rename_i args argTypes
    split at h
    · rename_i d s t u hargs htys
      have e1 : args = #[d, s] := by cases args; simp_all
      have e2 : argTypes = #[t, u] := by cases argTypes; simp_all
      subst e1 e2
      split at h
      · rename_i el hu
        split at h
        · rename_i n hn
          split at h
          · rename_i htu
            subst htu
            obtain ⟨da, dn, dc, sa, sn, sc, news, hd, hs, hsa, hr, h1, k0, k1⟩ := h
            refine opWp_of_run fun act ha => ?_
            obtain ⟨i, hi, hin⟩ := Option.map_eq_some_iff.1 hn
            subst hin
            have hf := run_rd (P := P) (len := sn) (cap := sc) hr (fun h0 => by rw [hsa h0]; simp [Nat.min])
            cases da with
            | none =>
              refine ⟨_, _, ?_, k0 rfl⟩
              simp [execOp, resolve, ha _ _ hd, ha _ _ hs, invoke, builtin, Builtin.copy_, run_underlying hu, sizeOf, typeInfo, hi, Builtin.lenOf, hf, goInt]
            | some a =>
              obtain ⟨cs, T, ⟨hsp, hrow⟩, hfit, hk⟩ := k1 a rfl
              obtain ⟨b, off, spot⟩ := a
              simp only at hsp; subst hsp
              refine ⟨_, _, ?_, hk⟩
              have hst := run_storeCells_at P b off T news 0 cs w hrow (by simpa using hfit) h1
              simp only [Nat.add_zero] at hst
              simp [execOp, resolve, ha _ _ hd, ha _ _ hs, invoke, builtin, Builtin.copy_, run_underlying hu, sizeOf, typeInfo, hi, Builtin.lenOf, hf, goInt, hst, sp]
          · exact h
        · exact h
      · exact h
    · exact h
  · -- call
    rename_i f args argTypes
    split at h
    · rename_i fn hfn
      split at h
      · rename_i hc
        simp only [Bool.and_eq_true, Bool.not_eq_true'] at hc
        obtain ⟨vs, hvs, hcall⟩ := h
        intro act ha
        have hargs := evs_of ha args.toList vs hvs
        have hbody : fn.body.isNone = false := by cases hb : fn.body <;> simp_all
        have hmap : args.map act.eval = vs.toArray := by rw [← hargs]; cases args; simp
        have hr : (execOp act.eval ⟨dst, .call { callee := .value (.func f), args := args, argTypes := argTypes }, ty, pos, after, guard⟩).run P w = .ok (.enter f vs.toArray) w := by
          have g1 : ro P w program = some P := rfl
          simp only [execOp, resolve, Act.eval, Deferred.ofValue, Sem.run_bind, Sem.run_pure, Result.andThen_ok, invoke, callFunc, ro_run g1, hfn, hmap, Array.empty_append, Array.append_empty]
          rw [if_neg (by rw [hc.2]; simp), if_neg (by rw [hbody]; simp)]
          rfl
        unfold Oper.wp
        rw [hr]
        simp only [Oper.upon]
        refine hcall.mono ?_
        rintro e w' ⟨v, rfl, hk⟩
        exact ⟨v, rfl, hk⟩
      · exact h
    · exact h
  · exact h

end
end Go.W
