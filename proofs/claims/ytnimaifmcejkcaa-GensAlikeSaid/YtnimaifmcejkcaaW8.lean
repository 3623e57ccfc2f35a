/- The engine, part 8: slices that are owned; lists of ints in memory. -/
import Derived.Test.YtnimaifmcejkcaaW7
import Derived.IntWalk
set_option linter.unusedSimpArgs false
set_option linter.unusedVariables false
namespace Go.W
open Go

theorem wrap_in {n : Int} (h1 : -9223372036854775808 ≤ n) (h2 : n < 9223372036854775808) : IntKind.i64.wrap n = n := by
  rw [IntKind.wrap_i64]; omega

abbrev I (n : Int) : Value := .int .i64 n

/-- A slice value whose array is one block of its own from the block's beginning on: n elements of sz cells, which hold xs. -/
def Own (w : World) (T sz : Nat) (v : Value) (xs : List Value) (n : Nat) (fp : Option Nat) : Prop :=
  xs.length = n * sz ∧ ((v = .slice none 0 0 ∧ n = 0 ∧ fp = none) ∨
    ∃ b c sp, v = .slice (some ⟨b, 0, none⟩) n c ∧ fp = some b ∧ w.heap[b]? = some (.cells (xs ++ sp).toArray T (0, 0)) ∧ c * sz ≤ (xs ++ sp).length ∧ n ≤ c)

theorem Own.nil (w : World) (T sz : Nat) : Own w T sz (.slice none 0 0) [] 0 none := ⟨by simp, .inl ⟨rfl, rfl, rfl⟩⟩
theorem Own.lt {w : World} {T sz : Nat} {v : Value} {xs : List Value} {n b : Nat} {fp : Option Nat} (h : Own w T sz v xs n fp) (hb : fp = some b) : b < w.heap.size := by
  rcases h.2 with ⟨_, _, h⟩ | ⟨b', c, sp, _, h, hh, _⟩
  · rw [h] at hb; cases hb
  · rw [h] at hb; cases hb; exact lt_of_heap hh
theorem Own.mod {w w' : World} {S : Nat → Prop} {T sz : Nat} {v : Value} {xs : List Value} {n : Nat} {fp : Option Nat} (h : Own w T sz v xs n fp) (hm : Mod S w w') (hs : ∀ b, fp = some b → ¬ S b) : Own w' T sz v xs n fp := by
  refine ⟨h.1, ?_⟩
  rcases h.2 with h | ⟨b, c, sp, h1, h2, h3, h4⟩
  · exact .inl h
  · exact .inr ⟨b, c, sp, h1, h2, hm.at h3 (hs b h2), h4⟩
/-- It stays as it is, if no block of its kind is written. -/
theorem Own.mod' {w w' : World} {S : Nat → Prop} {T sz : Nat} {v : Value} {xs : List Value} {n : Nat} {fp : Option Nat} (h : Own w T sz v xs n fp) (hm : Mod S w w')
    (hs : ∀ b cs fz, S b → w.heap[b]? = some (.cells cs T fz) → False) : Own w' T sz v xs n fp := by
  refine h.mod hm (fun b hb hS => ?_)
  rcases h.2 with ⟨_, _, h⟩ | ⟨b', c, sp', _, h, hh, _⟩
  · rw [h] at hb; cases hb
  · rw [h] at hb; cases hb; exact hs _ _ _ hS hh
theorem own_ne {w : World} {T T' sz n a : Nat} {v : Value} {xs : List Value} {fp : Option Nat} {cs : Array Value} {fz : Nat × Nat} (h : Own w T sz v xs n fp) (ha : w.heap[a]? = some (.cells cs T' fz)) (hne : T ≠ T') : fp ≠ some a := by
  rcases h.2 with ⟨_, _, h⟩ | ⟨b, c, sp', _, h, hh, _⟩
  · rw [h]; intro hh; cases hh
  · rw [h]; intro he; cases he
    rw [ha] at hh
    cases hh
    exact hne rfl
/-- A block of one kind is no block of another. -/
theorem kind_ne {w : World} {a : Nat} {T T' : Nat} {cs cs' : Array Value} {fz fz' : Nat × Nat} (h : w.heap[a]? = some (.cells cs T fz)) (h' : w.heap[a]? = some (.cells cs' T' fz')) (hne : T ≠ T') : False := by
  rw [h] at h'; cases h'; exact hne rfl
theorem own_kind {w : World} {T T' sz n b : Nat} {v : Value} {xs : List Value} {fp : Option Nat} {cs : Array Value} {fz : Nat × Nat} (h : Own w T sz v xs n fp) (hb : fp = some b) (ha : w.heap[b]? = some (.cells cs T' fz)) (hne : T ≠ T') : False :=
  own_ne h ha hne hb
theorem Own.of_block {w : World} {T sz n b : Nat} {xs : List Value} (h : w.heap[b]? = some (.cells xs.toArray T (0, 0))) (hn : xs.length = n * sz) : Own w T sz (.slice (some ⟨b, 0, none⟩) n n) xs n (some b) :=
  ⟨hn, .inr ⟨b, n, [], rfl, rfl, by simpa using h, by simpa using Nat.le_of_eq hn.symm, Nat.le_refl _⟩⟩
/-- The value is a slice of that length. -/
theorem Own.val {w : World} {T sz : Nat} {v : Value} {xs : List Value} {n : Nat} {fp : Option Nat} (h : Own w T sz v xs n fp) : ∃ a c, v = .slice a n c ∧ n ≤ c ∧ (a = none → n = 0 ∧ c = 0) := by
  rcases h.2 with ⟨h1, h2, _⟩ | ⟨b, c, sp, h1, _, _, _, h5⟩
  · subst h2; exact ⟨none, 0, h1, Nat.le_refl _, fun _ => ⟨rfl, rfl⟩⟩
  · exact ⟨_, c, h1, h5, fun h => by cases h⟩
/-- There is an element: there is a block. -/
theorem Own.pos {w : World} {T sz : Nat} {v : Value} {xs : List Value} {n : Nat} {fp : Option Nat} (h : Own w T sz v xs n fp) (hn : 0 < n) :
    ∃ b c sp, v = .slice (some ⟨b, 0, none⟩) n c ∧ fp = some b ∧ w.heap[b]? = some (.cells (xs ++ sp).toArray T (0, 0)) ∧ n ≤ c ∧ c * sz ≤ (xs ++ sp).length := by
  rcases h.2 with ⟨_, h, _⟩ | ⟨b, c, sp, h1, h2, h3, h4, h5⟩
  · omega
  · exact ⟨b, c, sp, h1, h2, h3, h5, h4⟩
theorem Own.rd {w : World} {T sz : Nat} {xs : List Value} {n : Nat} {fp : Option Nat} {a : Option Addr} {c : Nat} (h : Own w T sz (.slice a n c) xs n fp) : RdCells w a (n * sz) xs := by
  refine ⟨h.1, ?_⟩
  intro ad had j v hv
  rcases h.2 with ⟨h1, _, _⟩ | ⟨b, c', sp, h1, h2, h3, _⟩
  · cases h1; cases had
  · cases h1; cases had
    rw [add_at, cell_of h3]
    have hlt : j < xs.length := by
      rcases Nat.lt_or_ge j xs.length with h | h
      · exact h
      · simp [List.getElem?_eq_none h] at hv
    simp [List.getElem?_append_left hlt, hv]

theorem rd_block {w : World} {b T : Nat} {fz : Nat × Nat} {xs : List Value} (h : w.heap[b]? = some (.cells xs.toArray T fz)) : RdCells w (some ⟨b, 0, none⟩) xs.length xs := by
  refine ⟨rfl, ?_⟩
  intro ad had j v hv
  cases had
  rw [add_at, cell_of h]
  simpa using hv

section
variable {P : Program} {w : World} {ρ : Env} {K : Value → World → Prop}

theorem size_zeroCells' (z : Array Value) (n : Nat) : (Builtin.zeroCells z n).size = n * z.size := by simp [Builtin.zeroCells]

/-- append onto an owned slice. -/
theorem e_ap {T sz bytes m c n : Nat} {zero : Array Value} {s x : O} {v : Value} {xs news : List Value} {fp : Option Nat} {xa : Option Addr}
    (hs : s.ev ρ = some v) (ho : Own w T sz v xs n fp) (hx : x.ev ρ = some (.slice xa m c)) (hxa : xa = none → m = 0) (hr : RdCells w xa (m * sz) news) (h1 : ∀ u ∈ news, u.oneCell' = true)
    (hz : zero.size = sz) (hb : (n + m) * bytes ≤ 140737488355328) (h63 : n + m ≤ 9223372036854775807)
    (hk : ∀ v' w' fp', Own w' T sz v' (xs ++ news) (n + m) fp' → Mod (fun b => fp = some b) w w' → (∀ b, fp' = some b → fp = some b ∨ b = w.heap.size ∧ b < w'.heap.size) → K v' w') :
    E.wp P w ρ K (.ap T sz bytes zero s x) := by
  obtain ⟨hlen, hv⟩ := ho
  have hnl : news.length = m * sz := hr.1
  have hcat : (xs ++ news).length = (n + m) * sz := by rw [List.length_append, hlen, hnl, Nat.add_mul]
  have grown : ∀ (olds : List Value), olds = xs → ∀ nc w1, n + m ≤ nc → w1 = w.drew.alloc (.cells (olds.toArray ++ news.toArray ++ Builtin.zeroCells zero (nc - (n + m))) T) → K (.slice (some ⟨w.heap.size, 0, none⟩) (n + m) nc) w1 := by
    intro olds ho nc w1 hle hw1
    subst ho hw1
    refine hk _ _ (some w.heap.size) ⟨hcat, .inr ⟨w.heap.size, nc, (Builtin.zeroCells zero (nc - (n + m))).toList, rfl, rfl, ?_, ?_, hle⟩⟩ (mod_alloc _ w.drew _).of_drew ?_
    · rw [show w.heap.size = w.drew.heap.size from rfl, heap_alloc_new w.drew]
      congr 2
      apply Array.ext'
      simp
    · rw [List.length_append, hcat, Array.length_toList, size_zeroCells', hz, ← Nat.add_mul]
      exact Nat.mul_le_mul_right _ (by omega)
    · intro b hb; cases hb; exact .inr ⟨rfl, by simp⟩
  rcases hv with ⟨rfl, rfl, rfl⟩ | ⟨b, cap, sp', rfl, rfl, hrow, hcap, hle⟩
  · have hx0 : xs = [] := List.eq_nil_of_length_eq_zero (by simpa using hlen)
    subst hx0
    refine ⟨none, 0, 0, xa, m, c, [], news, hs, hx, fun _ => ⟨rfl, rfl⟩, hxa, ⟨by simp, (fun ad h => by cases h)⟩, hr, h1, hb, h63, ?_, ?_, fun hc nc w1 h2 h3 => grown [] rfl nc w1 h2 h3⟩
    · intro hm _
      have hm0 : m = 0 := by omega
      subst hm0
      have hn0 : news = [] := List.eq_nil_of_length_eq_zero (by simpa using hnl)
      subst hn0
      exact hk _ _ none (Own.nil w T sz) (Mod.refl _ w) (fun b h => by cases h)
    · intro _ a h; cases h
  · refine ⟨some ⟨b, 0, none⟩, n, cap, xa, m, c, xs, news, hs, hx, (fun h => by cases h), hxa, ?_, hr, h1, hb, h63, (fun _ h => by cases h), ?_, fun hc nc w1 h2 h3 => grown xs rfl nc w1 h2 h3⟩
    · exact Own.rd ⟨hlen, .inr ⟨b, cap, sp', rfl, rfl, hrow, hcap, hle⟩⟩
    · intro hroom a ha
      cases ha
      have hfit : n * sz + news.length ≤ (xs ++ sp').length := by rw [hnl, ← Nat.add_mul]; exact Nat.le_trans (Nat.mul_le_mul_right _ hroom) hcap
      have hsp : sp (xs ++ sp').toArray (0 + n * sz) news = ((xs ++ news) ++ sp'.drop news.length).toArray := by
        unfold sp
        simp only [Nat.zero_add, List.append_assoc]
        rw [← hlen, List.take_left]
        congr 2
        rw [List.drop_append]
        simp
      refine ⟨(xs ++ sp').toArray, T, ⟨rfl, hrow⟩, by simpa using hfit, ?_⟩
      rw [hsp]
      refine hk _ _ (some b) ⟨hcat, .inr ⟨b, cap, sp'.drop news.length, rfl, rfl, setRow_heap w b _ _ T _ hrow, ?_, hroom⟩⟩ ((mod_setRow w b _).weak (fun i hi => by rw [hi])) (fun b' hb' => .inl hb')
      rw [List.length_append, hcat, List.length_drop]
      have h2 : (xs ++ sp').length = xs.length + sp'.length := List.length_append
      rw [h2, hlen] at hcap
      rw [hnl]
      rw [h2, hlen, hnl] at hfit
      have h3 : (n + m) * sz = n * sz + m * sz := Nat.add_mul _ _ _
      omega

/-- copy(dst, src) where the target is a whole block, at least as long. -/
theorem e_cp {sz : Nat} {d s : O} {b dn dc : Nat} {sa : Option Addr} {sn sc T : Nat} {cs : List Value} {news : List Value} (hd : d.ev ρ = some (.slice (some ⟨b, 0, none⟩) dn dc)) (hs : s.ev ρ = some (.slice sa sn sc))
    (hsa : sa = none → sn = 0) (hle : sn ≤ dn) (hr : RdCells w sa (sn * sz) news) (h1 : ∀ u ∈ news, u.oneCell' = true) (hb : w.heap[b]? = some (.cells cs.toArray T (0, 0))) (hfit : news.length ≤ cs.length)
    (hk : ∀ w', w'.heap[b]? = some (.cells (news ++ cs.drop news.length).toArray T (0, 0)) → Mod (· = b) w w' → w'.heap.size = w.heap.size → K (I sn) w') : E.wp P w ρ K (.cp sz d s) := by
  have hmin : Nat.min sn dn = sn := Nat.min_eq_left hle
  refine ⟨_, dn, dc, sa, sn, sc, news, hd, hs, hsa, by rw [hmin]; exact hr, h1, (fun h => by cases h), ?_⟩
  intro a ha
  cases ha
  refine ⟨cs.toArray, T, ⟨rfl, hb⟩, by simpa using hfit, ?_⟩
  rw [hmin]
  have hsp : sp cs.toArray 0 news = (news ++ cs.drop news.length).toArray := by simp [sp]
  rw [hsp]
  exact hk _ (setRow_heap w b _ _ T _ hb) (mod_setRow w b _) (by simp)
end

/-! ### slices of ints that are read -/
def vblk : Value → Option Nat
  | .slice (some a) _ _ => some a.block
  | _ => none
/-- A slice value, wherever it lies, that reads as these ints. -/
def Ints (w : World) (v : Value) (xs : List Int) : Prop :=
  ∃ a c, v = .slice a xs.length c ∧ xs.length ≤ 17592186044416 ∧ ∀ i (h : i < xs.length), ∃ ad, a = some ad ∧ w.cell? (ad.add i) = some (I xs[i])
theorem Ints.mod {w w' : World} {S : Nat → Prop} {v : Value} {xs : List Int} (h : Ints w v xs) (hm : Mod S w w') (hs : ∀ b, vblk v = some b → ¬ S b) : Ints w' v xs := by
  obtain ⟨a, c, rfl, hl, hx⟩ := h
  refine ⟨a, c, rfl, hl, fun i hi => ?_⟩
  obtain ⟨ad, rfl, hc⟩ := hx i hi
  refine ⟨ad, rfl, hm.cell hc ?_⟩
  rw [add_block]
  exact hs _ rfl
theorem Ints.rd {w : World} {a : Option Addr} {n c : Nat} {xs : List Int} (h : Ints w (.slice a n c) xs) : n = xs.length ∧ RdCells w a (n * 1) (xs.map I) ∧ (a = none → n = 0) := by
  obtain ⟨a', c', he, hl, hx⟩ := h
  cases he
  refine ⟨rfl, ⟨by simp, ?_⟩, ?_⟩
  · intro ad had j v hv
    have hlt : j < xs.length := by
      rcases Nat.lt_or_ge j xs.length with h | h
      · exact h
      · simp [List.getElem?_eq_none h] at hv
    obtain ⟨ad', h1, h2⟩ := hx j hlt
    rw [had] at h1; cases h1
    rw [h2]
    simpa [List.getElem?_eq_getElem hlt] using hv
  · intro ha
    rcases Nat.eq_zero_or_pos xs.length with h | h
    · exact h
    · obtain ⟨ad, h1, _⟩ := hx 0 h
      rw [ha] at h1; cases h1
theorem Own.ints {w : World} {T : Nat} {v : Value} {xs : List Int} {n : Nat} {fp : Option Nat} (h : Own w T 1 v (xs.map I) n fp) (hl : n ≤ 17592186044416) : Ints w v xs ∧ n = xs.length := by
  have hn : n = xs.length := by have := h.1; simp at this; omega
  subst hn
  refine ⟨?_, rfl⟩
  rcases h.2 with ⟨h1, h2, _⟩ | ⟨b, c, sp', h1, h2, h3, _⟩
  · exact ⟨none, 0, by rw [h1, h2], hl, fun i hi => by omega⟩
  · refine ⟨some ⟨b, 0, none⟩, c, h1, hl, fun i hi => ⟨_, rfl, ?_⟩⟩
    rw [add_at, cell_of h3]
    simp [List.getElem?_append_left, hi]
theorem Ints.len {w : World} {a : Option Addr} {n c : Nat} {xs : List Int} (h : Ints w (.slice a n c) xs) : n = xs.length := (h.rd).1
theorem oneI (xs : List Int) : ∀ u ∈ xs.map I, u.oneCell' = true := by
  intro u hu
  obtain ⟨n, _, rfl⟩ := List.mem_map.1 hu
  rfl
end Go.W
