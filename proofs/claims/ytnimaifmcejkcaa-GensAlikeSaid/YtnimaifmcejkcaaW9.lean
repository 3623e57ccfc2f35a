/- The engine, part 9: one proof for what stands behind several ways. -/
import Derived.Test.YtnimaifmcejkcaaW8
set_option linter.unusedSimpArgs false
set_option linter.unusedVariables false
namespace Go.W
open Go

theorem wpD_mono {P : Program} {K K' : Env → World → Prop} (hk : ∀ ρ w, K ρ w → K' ρ w) : ∀ (t : D) (ρ : Env) (w : World) (rd : List (Nat × Nat)), wpD P t ρ w rd K → wpD P t ρ w rd K' := by
  intro t
  induction t with
  | nil => intro ρ w rd h; exact hk _ _ h
  | r i g d r t ih =>
    intro ρ w rd h
    rcases g with _ | ⟨s, b⟩
    · obtain ⟨v, h1, h2⟩ := h; exact ⟨v, h1, ih _ _ _ h2⟩
    · obtain ⟨c, h1, h2, h3⟩ := h
      exact ⟨c, h1, fun hh => let ⟨v, h4, h5⟩ := h2 hh; ⟨v, h4, ih _ _ _ h5⟩, fun hh => ih _ _ _ (h3 hh)⟩
  | e i g d e fl t ih =>
    intro ρ w rd h
    rcases g with _ | ⟨s, b⟩
    · exact E.mono (fun v w' h => ⟨h.1, ih _ _ _ h.2⟩) e h
    · obtain ⟨c, h1, h2, h3⟩ := h
      exact ⟨c, h1, fun hh => E.mono (fun v w' h => ⟨h.1, ih _ _ _ h.2⟩) e (h2 hh), fun hh => ih _ _ _ (h3 hh)⟩
  | e2 i d e fl t i' d' e' fl' t' ih ih' =>
    intro ρ w rd h
    exact ⟨E.mono (fun v w' h => ⟨h.1, ih _ _ _ h.2⟩) e h.1, E.mono (fun v w' h => ⟨h.1, ih' _ _ _ h.2⟩) e' h.2⟩

section
variable {P : Program} {N : Nat}
theorem thenQ_le {next next' : Env → World → Prop} {Q Q' : Post} (hn : ∀ ρ w, next ρ w → next' ρ w) (hq : ∀ e ρ w, Q e ρ w → Q' e ρ w) : ∀ (e : Exit) (ρ : Env) (w : World), thenQ next Q e ρ w → thenQ next' Q' e ρ w := by
  intro e ρ w h
  cases e <;> first | exact hn _ _ h | exact hq _ _ _ h
theorem blkQ_le {id : Nat} {Q Q' : Post} (hq : ∀ e ρ w, Q e ρ w → Q' e ρ w) : ∀ (e : Exit) (ρ : Env) (w : World), blkQ id Q e ρ w → blkQ id Q' e ρ w := by
  intro e ρ w h
  cases e with
  | exit i =>
    show (if i = id then Q' .normal ρ w else Q' (.exit i) ρ w)
    have h : (if i = id then Q .normal ρ w else Q (.exit i) ρ w) := h
    split
    · rename_i hi; rw [if_pos hi] at h; exact hq _ _ _ h
    · rename_i hi; rw [if_neg hi] at h; exact hq _ _ _ h
  | _ => exact hq _ _ _ h

theorem irwp_mono : ∀ (c : IR) (Q Q' : Post), (∀ e ρ w, Q e ρ w → Q' e ρ w) → ∀ ρ w, irwp P N c Q ρ w → irwp P N c Q' ρ w := by
  intro c
  induction c with
  | skip => intro Q Q' hq ρ w h; exact hq _ _ _ h
  | ret => intro Q Q' hq ρ w h; exact hq _ _ _ h
  | exit id => intro Q Q' hq ρ w h; exact hq _ _ _ h
  | seq a b iha ihb => intro Q Q' hq ρ w h; exact iha _ _ (thenQ_le (fun ρ w h => ihb _ _ hq ρ w h) hq) ρ w h
  | cond c a b iha ihb => intro Q Q' hq ρ w h; obtain ⟨t, h1, h2, h3⟩ := h; exact ⟨t, h1, fun hh => iha _ _ hq _ _ (h2 hh), fun hh => ihb _ _ hq _ _ (h3 hh)⟩
  | block id a iha => intro Q Q' hq ρ w h; exact iha _ _ (blkQ_le hq) ρ w h
  | loop a iha =>
    intro Q Q' hq ρ w h
    obtain ⟨J, n, h0, hs⟩ := h
    exact ⟨J, n, h0, fun n ρ w hJ => iha _ _ (thenQ_le (fun _ _ h => h) hq) ρ w (hs n ρ w hJ)⟩
  | reg dw st kp => intro Q Q' hq ρ w h; exact wpS_cut _ h (fun ρ w h => hq _ _ _ h)
  | dr t kp => intro Q Q' hq ρ w h; exact wpD_mono (fun ρ w h => hq _ _ _ h) t _ _ _ h
  | raw c => intro Q Q' hq ρ w h a ha; exact wp_mono (h a ha) (fun e a w h => by obtain ⟨ρ, h1, h2⟩ := h; exact ⟨ρ, h1, hq _ _ _ h2⟩)

/-- What stands behind 'a', proved once for all ways through it. -/
theorem ir_cut {a b : IR} {Q : Post} {ρ : Env} {w : World} (Mid : Env → World → Prop) (h : irwp P N a (thenQ Mid Q) ρ w) (hk : ∀ ρ w, Mid ρ w → irwp P N b Q ρ w) : irwp P N (.seq a b) Q ρ w :=
  irwp_mono a _ _ (thenQ_le hk (fun _ _ _ h => h)) ρ w h
/-- The same behind a cut that has been made already. -/
theorem ir_then {a : IR} {next : Env → World → Prop} {Q : Post} {ρ : Env} {w : World} (Mid : Env → World → Prop) (h : irwp P N a (thenQ Mid Q) ρ w) (hk : ∀ ρ w, Mid ρ w → next ρ w) : irwp P N a (thenQ next Q) ρ w :=
  irwp_mono a _ _ (thenQ_le hk (fun _ _ _ h => h)) ρ w h
end
end Go.W
namespace Go.W
open Go
theorem wpD_e2 {P : Program} {K : Env → World → Prop} {ρ : Env} {w : World} {rd : List (Nat × Nat)} (i : Nat) (d : Option Nat) (e : E) (fl : List Nat) (t : D) (i' : Nat) (d' : Option Nat) (e' : E) (fl' : List Nat) (t' : D) :
    wpD P (.e2 i d e fl t i' d' e' fl' t') ρ w rd K = ((e.wp P w ρ fun v w' => keptL fl w w' rd ∧ wpD P t (ρ.put d v) w' rd K) ∧ (e'.wp P w ρ fun v w' => keptL fl' w w' rd ∧ wpD P t' (ρ.put d' v) w' rd K)) := _root_.id rfl
/-- What stands behind a drawn region, asked once for all orders. -/
theorem wpD_cut {P : Program} {K : Env → World → Prop} {ρ : Env} {w : World} {rd : List (Nat × Nat)} {t : D} (Mid : Env → World → Prop) (h : wpD P t ρ w rd Mid) (hk : ∀ ρ w, Mid ρ w → K ρ w) : wpD P t ρ w rd K :=
  wpD_mono hk t ρ w rd h
end Go.W
