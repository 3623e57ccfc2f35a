/- Heap, the laws: Book.room. -/
import Derived.Test.YtnagmcdlepcgnaaP5
set_option linter.unusedSimpArgs false
set_option linter.unusedVariables false
namespace Go.Proofs.Ytnagmcdlepcgnaa
open Go Go.W

/-- The book and two arenas that are one plain arena, all apart. -/
structure Both (w : World) (b a r : Nat) (es : List BE) (size times : Int) (ns : List Nd) (B F G : Nat → Prop) : Prop where
  book : BookAt w b es B
  one : ArenaAt 63 70 w a size times ns F
  two : ArenaAt 77 35 w r size times ns G
  fine : Fine size ns
  bf : ∀ x, B x → ¬ F x
  bg : ∀ x, B x → ¬ G x
  fg : ∀ x, F x → ¬ G x
  small : ∀ e ∈ es, e.n ≤ 17592186044416
theorem Both.mod {w w' : World} {b a r : Nat} {es : List BE} {size times : Int} {ns : List Nd} {B F G S : Nat → Prop} (h : Both w b a r es size times ns B F G) (hm : Mod S w w') (hB : ∀ x, B x → ¬ S x) (hF : ∀ x, F x → ¬ S x) (hG : ∀ x, G x → ¬ S x) : Both w' b a r es size times ns B F G :=
  ⟨h.book.mod hm hB, h.one.mod hm hF, h.two.mod hm hG, h.fine, h.bf, h.bg, h.fg, h.small⟩
theorem Both.size {w : World} {b a r : Nat} {es : List BE} {size times : Int} {ns : List Nd} {B F G : Nat → Prop} (h : Both w b a r es size times ns B F G) : (∀ x, B x → x < w.heap.size) ∧ (∀ x, F x → x < w.heap.size) ∧ ∀ x, G x → x < w.heap.size := by
  obtain ⟨_, _, _, _, _, _, _, _, _, _, _, h1⟩ := h.book
  obtain ⟨_, _, _, _, _, _, _, _, _, h2⟩ := h.one
  obtain ⟨_, _, _, _, _, _, _, _, _, h3⟩ := h.two
  exact ⟨h1, h2, h3⟩
/-- Behind a call of both. -/
def BothPost (w : World) (b a r : Nat) (es : List BE) (size times : Int) (ns : List Nd) (B F G : Nat → Prop) (es' : List BE) (w' : World) : Prop :=
  ∃ B' F' G', Both w' b a r es' size times ns B' F' G' ∧ Mod (fun x => B x ∨ F x ∨ G x) w w' ∧ (∀ x, B' x → B x ∨ w.heap.size ≤ x) ∧ (∀ x, F' x → F x ∨ w.heap.size ≤ x) ∧ ∀ x, G' x → G x ∨ w.heap.size ≤ x

/-- What came out of both is kept: the one half, plain. -/
theorem both_arenas {w w1 w2 : World} {b a r : Nat} {es : List BE} {size times times' : Int} {ns ns' : List Nd} {B F G F' G' : Nat → Prop} (h : Both w b a r es size times ns B F G)
    (h1 : ArenaAt 63 70 w1 a size times' ns' F') (g1 : Grow F F' w w1) (h2 : ArenaAt 77 35 w2 r size times' ns' G') (g2 : Grow G G' w1 w2) (hf : Fine size ns') :
    Both w2 b a r es size times' ns' B F' G' ∧ Mod (fun x => F x ∨ G x) w w2 := by
  obtain ⟨hB, hF, hG⟩ := h.size
  obtain ⟨m1, n1⟩ := g1
  obtain ⟨m2, n2⟩ := g2
  have s1 := m1.size; have s2 := m2.size
  have hF1 : ∀ x, F' x → x < w1.heap.size := by obtain ⟨_, _, _, _, _, _, _, _, _, h⟩ := h1; exact h
  have fg : ∀ x, F' x → ¬ G x := fun x hx hg => by
    rcases n1 x hx with h3 | h3
    · exact h.fg x h3 hg
    · have := hG x hg; omega
  refine ⟨⟨(h.book.mod m1 h.bf).mod m2 h.bg, h1.mod m2 fg, h2, hf, fun x hx hf' => ?_, fun x hx hg => ?_, fun x hx hg => ?_, h.small⟩, (m1.weak (fun x hx => .inl hx)).step m2 (fun x hx _ => .inr hx)⟩
  · rcases n1 x hf' with h3 | h3
    · exact h.bf x hx h3
    · have := hB x hx; omega
  · rcases n2 x hg with h3 | h3
    · exact h.bg x hx h3
    · have := hB x hx; omega
  · rcases n2 x hg with h3 | h3
    · exact fg x hx h3
    · have := hF1 x hx; omega

/-- A list that came out of the program's arena is kept. -/
theorem both_keep {w : World} {b a r : Nat} {es : List BE} {size times : Int} {ns : List Nd} {B F G : Nat → Prop} (h : Both w b a r es size times ns B F G) {v : Value} {xs : List Int} {fp : Option Nat}
    (ho : Own w 3 1 v (xs.map I) xs.length fp) (hB : ∀ x, fp = some x → ¬ B x) (hF : ∀ x, fp = some x → ¬ F x) (hG : ∀ x, fp = some x → ¬ G x) (hn : xs.length + 2 ≤ 17592186044416) (he : es.length + 1 ≤ 4398046511104) :
    CallsR Try.prog 28 [.pointer (some ⟨b, 0, none⟩), v] w fun _ w' => ∃ e B', Both w' b a r (es ++ [e]) size times ns B' F G ∧ Mod (fun x => B x ∨ fp = some x) w w' ∧ ∀ x, B' x → B x ∨ fp = some x ∨ w.heap.size ≤ x := by
  obtain ⟨sB, sF, sG⟩ := h.size
  refine (keep_ok w b es B v xs xs.length fp h.book ho hB hn he).mono ?_
  rintro _ w' ⟨e, B', k1, k2, k3, k4⟩
  refine ⟨e, B', ⟨k1, h.one.mod k2 (fun x hx hh => hh.elim (fun hb => h.bf x hb hx) (fun hb => hF x hb hx)), h.two.mod k2 (fun x hx hh => hh.elim (fun hb => h.bg x hb hx) (fun hb => hG x hb hx)), h.fine, fun x hx hf => ?_, fun x hx hg => ?_, h.fg, fun e' he' => ?_⟩, k2, k3⟩
  · rcases k3 x hx with h1 | h1 | h1
    · exact h.bf x h1 hf
    · exact hF x h1 hf
    · have := sF x hf; omega
  · rcases k3 x hx with h1 | h1 | h1
    · exact h.bg x h1 hg
    · exact hG x h1 hg
    · have := sG x hg; omega
  · rcases List.mem_append.1 he' with h1 | h1
    · exact h.small e' h1
    · simp only [List.mem_cons, List.not_mem_nil, or_false] at h1; subst h1; exact k4

/-- What Room answers, as a list. -/
def RoomR.list (s : RoomR) : List Int := s.out.getD []
theorem room_list {Ta Tc a : Nat} {size : Int} {F : Nat → Prop} {w w' : World} {s : RoomR} {r : Value} (h : RoomPost Ta Tc a size F w s r w') : ∃ F' v fp, r = .tuple #[v, I s.err] ∧ Own w' 3 1 v (s.list.map I) s.list.length fp ∧ (∀ b, fp = some b → w.heap.size ≤ b ∧ ¬ F' b) ∧
    ArenaAt Ta Tc w' a size s.times s.ns F' ∧ Grow F F' w w' := by
  obtain ⟨F', h1, h2, h3, h4⟩ := h
  cases ho : s.out with
  | none => exact ⟨F', .slice none 0 0, none, h3 ho, by simp [RoomR.list, ho]; exact Own.nil _ _ _, (fun b hb => by cases hb), h1, h2⟩
  | some l =>
    obtain ⟨v, fp, k1, k2, k3⟩ := h4 l ho
    exact ⟨F', v, fp, k1, by simpa [RoomR.list, ho] using k2, k3, h1, h2⟩

def colS (times : Int) (ns : List Nd) (roots : List Int) : RoomR := if okPl ns.length roots = false then ⟨none, 202, ns, times⟩ else ⟨some (colRoots ns roots), 0, colNs ns roots, IntKind.i64.wrap (times + 1)⟩
theorem col_room {Ta Tc a : Nat} {size times : Int} {ns : List Nd} {F : Nat → Prop} {w w' : World} {roots : List Int} {r : Value} (ha : ArenaAt Ta Tc w a size times ns F) (h : ColPost Ta Tc a size times F w ns roots r w') : RoomPost Ta Tc a size F w (colS times ns roots) r w' := by
  cases ho : okPl ns.length roots with
  | false =>
    obtain ⟨h1, h2⟩ := h.1 ho
    have e : colS times ns roots = ⟨none, 202, ns, times⟩ := by simp [colS, ho]
    rw [e]
    exact ⟨F, ha.mod h2 (fun _ _ h => h), ⟨h2.weak (fun _ h => h.elim), fun b hb => .inl hb⟩, fun _ => h1, fun l hl => (by cases hl)⟩
  | true =>
    obtain ⟨v, fp, F', h1, h2, h3, h4, h5⟩ := h.2 ho
    have e : colS times ns roots = ⟨some (colRoots ns roots), 0, colNs ns roots, IntKind.i64.wrap (times + 1)⟩ := by simp [colS, ho]
    rw [e]
    exact ⟨F', h3, h4, fun hh => (by cases hh), fun l hl => by cases hl; exact ⟨v, fp, h1, h2, h5⟩⟩
theorem fine_colS {size times : Int} {ns : List Nd} (h : Fine size ns) (roots : List Int) : Fine size (colS times ns roots).ns := by
  unfold colS
  split
  · exact h
  · rename_i h2; exact fine_col h (by simpa using h2)
theorem roomS_len (size times : Int) (ns : List Nd) (n : Int) (roots : List Int) : (roomS size times ns n roots).list.length ≤ roots.length := by
  unfold roomS RoomR.list
  split
  · simp
  · split
    · simp
    · split
      · simp
      · split
        · simp
        · simp [colRoots]
theorem colS_len (times : Int) (ns : List Nd) (roots : List Int) : (colS times ns roots).list.length ≤ roots.length := by
  unfold colS RoomR.list
  split
  · simp
  · simp [colRoots]
end Go.Proofs.Ytnagmcdlepcgnaa
