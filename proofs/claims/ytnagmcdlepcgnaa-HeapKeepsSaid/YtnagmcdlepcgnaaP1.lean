/- Plain: a function that goes round on numbers below n; the least number of the ring that is come to. -/
import Derived.Test.YtnagmcdlepcgnaaW8
set_option linter.unusedSimpArgs false
set_option linter.unusedVariables false
namespace Go.Proofs.Ytnagmcdlepcgnaa

def fit (f : Nat → Nat) : Nat → Nat → Nat
  | 0, x => x
  | k + 1, x => fit f k (f x)
theorem fit_add (f : Nat → Nat) (a b x : Nat) : fit f (a + b) x = fit f a (fit f b x) := by
  induction b generalizing x with
  | zero => rfl
  | succ b ih => exact ih (f x)
theorem fit_succ (f : Nat → Nat) (k x : Nat) : fit f (k + 1) x = f (fit f k x) := by
  rw [Nat.add_comm, fit_add]; rfl
theorem fit_lt {f : Nat → Nat} {n : Nat} (hf : ∀ x, x < n → f x < n) (k : Nat) {x : Nat} (hx : x < n) : fit f k x < n := by
  induction k generalizing x with
  | zero => exact hx
  | succ k ih => exact ih (hf x hx)

theorem nodup_le : ∀ (n : Nat) (l : List Nat), l.Nodup → (∀ x ∈ l, x < n) → l.length ≤ n := by
  intro n
  induction n with
  | zero =>
    intro l _ h
    cases l with
    | nil => simp
    | cons x l => exact absurd (h x List.mem_cons_self) (by omega)
  | succ n ih =>
    intro l hn h
    have h1 : (l.erase n).length ≤ n := by
      refine ih _ (hn.erase n) (fun x hx => ?_)
      have h2 := (hn.mem_erase_iff).1 hx
      have := h x h2.2
      have := h2.1
      omega
    by_cases hm : n ∈ l
    · rw [List.length_erase_of_mem hm] at h1; omega
    · rw [List.erase_of_not_mem hm] at h1; omega

theorem pigeon {f : Nat → Nat} {n x : Nat} (hf : ∀ x, x < n → f x < n) (hx : x < n) : ∃ i j, i < j ∧ j ≤ n ∧ fit f i x = fit f j x := by
  apply Classical.byContradiction
  intro hno
  have hnd : ((List.range (n + 1)).map (fun k => fit f k x)).Nodup := by
    unfold List.Nodup
    rw [List.pairwise_map]
    have hp : (List.range (n + 1)).Pairwise (· < ·) := List.pairwise_lt_range
    refine (hp.imp_of_mem ?_)
    intro i j hi hj hij he
    exact hno ⟨i, j, hij, by have := List.mem_range.1 hj; omega, he⟩
  have := nodup_le n _ hnd (by
    intro y hy
    obtain ⟨k, _, rfl⟩ := List.mem_map.1 hy
    exact fit_lt hf k hx)
  simp at this
  omega

section
variable {f : Nat → Nat} {n : Nat} (hf : ∀ x, x < n → f x < n)
include hf

theorem onRing {x : Nat} (hx : x < n) (m : Nat) (hm : n ≤ m) : ∃ d, 1 ≤ d ∧ d ≤ n ∧ fit f d (fit f m x) = fit f m x := by
  obtain ⟨i, j, hij, hj, he⟩ := pigeon hf hx
  refine ⟨j - i, by omega, by omega, ?_⟩
  have h1 : fit f m x = fit f (m - i) (fit f i x) := by rw [← fit_add]; congr 1; omega
  rw [← fit_add, show j - i + m = (m - i) + j by omega, fit_add, ← he, ← fit_add]
  congr 1; omega

omit hf in
theorem ring_mod {c d : Nat} (hd1 : 1 ≤ d) (hdn : d ≤ n) (hc : fit f d c = c) : ∀ m, ∃ k, k ≤ n ∧ fit f m c = fit f k c := by
  intro m
  induction m using Nat.strongRecOn with
  | _ m ih =>
    by_cases hm : m ≤ n
    · exact ⟨m, hm, rfl⟩
    · obtain ⟨k, hk, he⟩ := ih (m - d) (by omega)
      refine ⟨k, hk, ?_⟩
      rw [← he, show m = (m - d) + d by omega, fit_add, hc]
      congr 1; omega

omit hf in
theorem foldmin (l : List Nat) : ∀ a, (l.foldl min a = a ∨ l.foldl min a ∈ l) ∧ l.foldl min a ≤ a ∧ ∀ x ∈ l, l.foldl min a ≤ x := by
  induction l with
  | nil => intro a; simp
  | cons y l ih =>
    intro a
    obtain ⟨h1, h2, h3⟩ := ih (min a y)
    simp only [List.foldl_cons]
    refine ⟨?_, by omega, ?_⟩
    · rcases h1 with h1 | h1
      · by_cases hay : a ≤ y
        · left; rw [h1]; omega
        · right; rw [h1, show min a y = y by omega]; exact List.mem_cons_self
      · right; exact List.mem_cons_of_mem _ h1
    · intro x hx
      cases hx with
      | head => omega
      | tail _ hx => exact h3 x hx
omit hf

/-- The least number of the ring that x comes to. -/
def ov (f : Nat → Nat) (n x : Nat) : Nat := ((List.range (n + 1)).map (fun k => fit f k (fit f n x))).foldl min (fit f n x)

theorem ov_mem (f : Nat → Nat) (n x : Nat) : ∃ k, k ≤ n ∧ ov f n x = fit f (k + n) x := by
  have := (foldmin ((List.range (n + 1)).map (fun k => fit f k (fit f n x))) (fit f n x)).1
  unfold ov
  rcases this with h | h
  · exact ⟨0, by omega, by rw [h]; simp⟩
  · obtain ⟨k, hk, he⟩ := List.mem_map.1 h
    exact ⟨k, by have := List.mem_range.1 hk; omega, by rw [← he, fit_add]⟩
theorem ov_le (f : Nat → Nat) (n x k : Nat) (hk : k ≤ n) : ov f n x ≤ fit f k (fit f n x) :=
  (foldmin ((List.range (n + 1)).map (fun k => fit f k (fit f n x))) (fit f n x)).2.2 _ (List.mem_map.2 ⟨k, List.mem_range.2 (by omega), rfl⟩)

include hf
theorem ov_lt {x : Nat} (hx : x < n) : ov f n x < n := by
  obtain ⟨k, _, h⟩ := ov_mem f n x
  rw [h]; exact fit_lt hf _ hx
theorem ov_le' {x : Nat} (hx : x < n) (m : Nat) (hm : n ≤ m) : ov f n x ≤ fit f m x := by
  obtain ⟨d, h1, h2, h3⟩ := onRing hf hx n (Nat.le_refl _)
  obtain ⟨k, hk, he⟩ := ring_mod h1 h2 h3 (m - n)
  have : fit f m x = fit f k (fit f n x) := by rw [← he, ← fit_add]; congr 1; omega
  rw [this]; exact ov_le f n x k hk
theorem ov_f {x : Nat} (hx : x < n) : ov f n (f x) = ov f n x := by
  apply Nat.le_antisymm
  · obtain ⟨k, _, h⟩ := ov_mem f n x
    obtain ⟨d, h1, h2, h3⟩ := onRing hf hx (k + n) (by omega)
    rw [h, ← h3, ← fit_add, show d + (k + n) = (d + (k + n) - 1) + 1 by omega]
    exact ov_le' hf (hf x hx) (d + (k + n) - 1) (by omega)
  · obtain ⟨k, _, h⟩ := ov_mem f n (f x)
    rw [h]
    exact ov_le' hf hx (k + n + 1) (by omega)
theorem ov_fit {x : Nat} (hx : x < n) (k : Nat) : ov f n (fit f k x) = ov f n x := by
  induction k generalizing x with
  | zero => rfl
  | succ k ih => rw [show fit f (k + 1) x = fit f k (f x) from rfl, ih (hf x hx), ov_f hf hx]
theorem ov_ov {x : Nat} (hx : x < n) : ov f n (ov f n x) = ov f n x := by
  obtain ⟨k, _, h⟩ := ov_mem f n x
  conv => lhs; rw [h]
  exact ov_fit hf hx _
/-- Two that come to one ring come to one number. -/
theorem ov_eq {x y : Nat} (hx : x < n) (hy : y < n) : ov f n x = ov f n y ↔ ∃ a b, fit f a x = fit f b y := by
  constructor
  · intro h
    obtain ⟨a, _, ha⟩ := ov_mem f n x
    obtain ⟨b, _, hb⟩ := ov_mem f n y
    exact ⟨a + n, b + n, by rw [← ha, ← hb, h]⟩
  · rintro ⟨a, b, h⟩
    rw [← ov_fit hf hx a, h, ov_fit hf hy b]
omit hf
theorem fit_fix {t : Nat} (h : f t = t) : ∀ k, fit f k t = t := by
  intro k
  induction k with
  | zero => rfl
  | succ k ih => rw [fit_succ, ih, h]
theorem ov_fix {t : Nat} (h : f t = t) : ov f n t = t := by
  obtain ⟨k, _, he⟩ := ov_mem f n t
  rw [he, fit_fix h]
end
end Go.Proofs.Ytnagmcdlepcgnaa
