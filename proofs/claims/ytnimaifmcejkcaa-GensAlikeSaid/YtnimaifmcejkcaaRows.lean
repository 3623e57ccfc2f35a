/-
  No cell of these rows narrows 'for every input' (looked for: loops, veiled, ifaces, maps, wideKeys, modest, calm, conditions, laid).
  DERIVED. THE GIVEN ROWS OF THIS SEAT. 3 by the template 'for every input the law returns true; each argument reads behind the call as it read before'; 0 by the template 'total and deterministic' (their statements: YtnimaifmcejkcaaTotals.lean).
  GIVEN WITH THE SEED: the statements are not yours to turn. If you find one false, say at which input.
  Laid BY PROGRAM, IN A SANDBOX (cutbox-rows.mjs): the forced cells as the released guide's own fill.sh prints them over the translation bcf28ba10e0e890c… (all of the seat's roots in one cut). By AI agents, Wed Nov 11 2026. No macro, syntax, notation, axiom, sorry.
-/
import Derived.Test.YtnimaifmcejkcaaChecked
import GoSem.Claim
import GoSem.ClaimJoined
import GoSem.ClaimMapViews
import Derived.JoinedTies
import Derived.KernelRfl
namespace Go.Proofs.Ytnimaifmcejkcaa
/- THE CELL 'sum', in the pinned program and in every row, IS THE sha256 OF THE DUMP (.gsa) THAT YtnimaifmcejkcaaProg.lean LOADS. Nothing in Lean hashes anything: it is a label: what it is worth is what the hold of that sum in a sandbox is worth. -/
noncomputable def Try.pinned : Pinned := { name := "ytnimaifmcejkcaa", sum := "bcf28ba10e0e890cf5584868618e41a5b4abb9760629e98b50f0f9d9aab30be2", checked := Try.checked }
namespace Rows
def none {H : Type} : Left H := { results := [], args := [] }

/-- 'slothlaw21.GensPlays': WHATEVER THE INPUT: true; the input reads as it did. -/
def gensPlaysSpec : ChangeSpec := { name := "gensPlays", fn := fun _ => fun
  | [d1, d2, d3] => { results := [.lit (.bool true)], args := [d1, d2, d3] }
  | _ => none }
def gensPlaysRow : OpenClaim := { program := "ytnimaifmcejkcaa", sum := "bcf28ba10e0e890cf5584868618e41a5b4abb9760629e98b50f0f9d9aab30be2", func := "sloth/slothlaw21.GensPlays", spec := "gensPlays", unfollowed := true, recurses := true, apart := false }
def GensPlaysSaid : Prop := gensPlaysRow.holds Try.pinned (OpenSpec.ofChange gensPlaysSpec)

/-- ITS FALSE NEIGHBOUR: 'it returns false'. Refute it at one input. -/
def gensPlaysWrong : ChangeSpec := { name := "gensPlays", fn := fun _ => fun
  | [d1, d2, d3] => { results := [.lit (.bool false)], args := [d1, d2, d3] }
  | _ => none }
def GensPlaysWrongFalsely : Prop := gensPlaysRow.holds Try.pinned (OpenSpec.ofChange gensPlaysWrong)

/-- 'slothlaw21.GensApart': WHATEVER THE INPUT: true; the input reads as it did. -/
def gensApartSpec : ChangeSpec := { name := "gensApart", fn := fun _ => fun
  | [d1, d2, d3, d4] => { results := [.lit (.bool true)], args := [d1, d2, d3, d4] }
  | _ => none }
def gensApartRow : OpenClaim := { program := "ytnimaifmcejkcaa", sum := "bcf28ba10e0e890cf5584868618e41a5b4abb9760629e98b50f0f9d9aab30be2", func := "sloth/slothlaw21.GensApart", spec := "gensApart", unfollowed := true, recurses := true, apart := false }
def GensApartSaid : Prop := gensApartRow.holds Try.pinned (OpenSpec.ofChange gensApartSpec)

/-- ITS FALSE NEIGHBOUR: 'it returns false'. Refute it at one input. -/
def gensApartWrong : ChangeSpec := { name := "gensApart", fn := fun _ => fun
  | [d1, d2, d3, d4] => { results := [.lit (.bool false)], args := [d1, d2, d3, d4] }
  | _ => none }
def GensApartWrongFalsely : Prop := gensApartRow.holds Try.pinned (OpenSpec.ofChange gensApartWrong)

/-- 'slothlaw21.GensAlike': WHATEVER THE INPUT: true; the input reads as it did. -/
def gensAlikeSpec : ChangeSpec := { name := "gensAlike", fn := fun _ => fun
  | [d1, d2, d3] => { results := [.lit (.bool true)], args := [d1, d2, d3] }
  | _ => none }
def gensAlikeRow : OpenClaim := { program := "ytnimaifmcejkcaa", sum := "bcf28ba10e0e890cf5584868618e41a5b4abb9760629e98b50f0f9d9aab30be2", func := "sloth/slothlaw21.GensAlike", spec := "gensAlike", unfollowed := true, recurses := true, apart := false }
def GensAlikeSaid : Prop := gensAlikeRow.holds Try.pinned (OpenSpec.ofChange gensAlikeSpec)

/-- ITS FALSE NEIGHBOUR: 'it returns false'. Refute it at one input. -/
def gensAlikeWrong : ChangeSpec := { name := "gensAlike", fn := fun _ => fun
  | [d1, d2, d3] => { results := [.lit (.bool false)], args := [d1, d2, d3] }
  | _ => none }
def GensAlikeWrongFalsely : Prop := gensAlikeRow.holds Try.pinned (OpenSpec.ofChange gensAlikeWrong)

/- THE SECOND FORM. 'bulk': how many values and letters a reading holds, each counted each time it is reached (what is shared counts as often as it is met; a slice's spare places count too). A statement '..UptoSaid' is the law's where the arguments, and the package variables that the reading takes, are together of bulk at most 1048576: NARROWER than '..Said'. Prove '..Said' where nothing that the law and all that it calls make is longer than what came in: it says more and counts as full. Else prove '..UptoSaid'. A law counts once. -/
mutual
def uptoBulk {H : Type} : DataW H → Nat
  | .lit (.string bytes) => bytes.length + 1
  | .lit _ => 1
  | .nil => 1
  | .ptr d => uptoBulk d + 1
  | .slice elems spare => uptoBulkAll elems + uptoBulkAll spare + 1
  | .agg parts => uptoBulkAll parts + 1
  | .iface _ d => uptoBulk d + 1
  | .map entries => uptoBulkEntries entries + 1
  | .held _ => 1
def uptoBulkAll {H : Type} : List (DataW H) → Nat
  | [] => 0
  | d :: r => uptoBulk d + uptoBulkAll r
def uptoBulkEntries {H : Type} : List (Lit × DataW H) → Nat
  | [] => 0
  | x :: r => uptoBulkEntry x + uptoBulkEntries r
def uptoBulkEntry {H : Type} : Lit × DataW H → Nat
  | (.string bytes, d) => bytes.length + uptoBulk d + 1
  | (_, d) => uptoBulk d + 1
 end
def uptoSmall : (H : Type) → List (DataW H) → Bool := fun _ ds => decide (uptoBulkAll ds ≤ 1048576)
def OpenSpec.upto (s : _root_.Go.ChangeSpec) : _root_.Go.OpenSpec := { _root_.Go.OpenSpec.ofChange s with cond := some uptoSmall }

/-- 'slothlaw21.GensPlays', WHERE WHAT IT READS IS OF BULK AT MOST 1048576: true; the input reads as it did. -/
def gensPlaysUptoRow : OpenClaim := { program := "ytnimaifmcejkcaa", sum := "bcf28ba10e0e890cf5584868618e41a5b4abb9760629e98b50f0f9d9aab30be2", func := "sloth/slothlaw21.GensPlays", spec := "gensPlays", unfollowed := true, recurses := true, apart := false, narrowed := true }
def GensPlaysUptoSaid : Prop := gensPlaysUptoRow.holds Try.pinned (OpenSpec.upto gensPlaysSpec)

/-- 'slothlaw21.GensApart', WHERE WHAT IT READS IS OF BULK AT MOST 1048576: true; the input reads as it did. -/
def gensApartUptoRow : OpenClaim := { program := "ytnimaifmcejkcaa", sum := "bcf28ba10e0e890cf5584868618e41a5b4abb9760629e98b50f0f9d9aab30be2", func := "sloth/slothlaw21.GensApart", spec := "gensApart", unfollowed := true, recurses := true, apart := false, narrowed := true }
def GensApartUptoSaid : Prop := gensApartUptoRow.holds Try.pinned (OpenSpec.upto gensApartSpec)

/-- 'slothlaw21.GensAlike', WHERE WHAT IT READS IS OF BULK AT MOST 1048576: true; the input reads as it did. -/
def gensAlikeUptoRow : OpenClaim := { program := "ytnimaifmcejkcaa", sum := "bcf28ba10e0e890cf5584868618e41a5b4abb9760629e98b50f0f9d9aab30be2", func := "sloth/slothlaw21.GensAlike", spec := "gensAlike", unfollowed := true, recurses := true, apart := false, narrowed := true }
def GensAlikeUptoSaid : Prop := gensAlikeUptoRow.holds Try.pinned (OpenSpec.upto gensAlikeSpec)

end Rows
end Go.Proofs.Ytnimaifmcejkcaa
