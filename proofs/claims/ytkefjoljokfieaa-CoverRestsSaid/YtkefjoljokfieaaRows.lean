/-
  No cell of these rows narrows 'for every input' (looked for: loops, veiled, ifaces, maps, wideKeys, modest, calm, conditions, laid).
  DERIVED. THE GIVEN ROWS OF THIS SEAT. 2 by the template 'for every input the law returns true; each argument reads behind the call as it read before'; 0 by the template 'total and deterministic' (their statements: YtkefjoljokfieaaTotals.lean).
  GIVEN WITH THE SEED: the statements are not yours to turn. If you find one false, say at which input.
  Laid BY PROGRAM, IN A SANDBOX (cutbox-rows.mjs): the forced cells as the released guide's own fill.sh prints them over the translation 831b8de82c8ea60d… (all of the seat's roots in one cut). By AI agents, Wed Nov 11 2026. No macro, syntax, notation, axiom, sorry.
-/
import Derived.Test.YtkefjoljokfieaaChecked
import GoSem.Claim
import GoSem.ClaimJoined
import GoSem.ClaimMapViews
import Derived.JoinedTies
import Derived.KernelRfl
namespace Go.Proofs.Ytkefjoljokfieaa
/- THE CELL 'sum', in the pinned program and in every row, IS THE sha256 OF THE DUMP (.gsa) THAT YtkefjoljokfieaaProg.lean LOADS. Nothing in Lean hashes anything: it is a label: what it is worth is what the hold of that sum in a sandbox is worth. -/
noncomputable def Try.pinned : Pinned := { name := "ytkefjoljokfieaa", sum := "831b8de82c8ea60da3d29456c8f9f3d8c33af69443b98cba4dfa0f4ac3257514", checked := Try.checked }
namespace Rows
def none {H : Type} : Left H := { results := [], args := [] }

/-- 'massiflaw04.CoverRests': WHATEVER THE INPUT: true; the input reads as it did. -/
def coverRestsSpec : ChangeSpec := { name := "coverRests", fn := fun _ => fun
  | [d1, d2] => { results := [.lit (.bool true)], args := [d1, d2] }
  | _ => none }
def coverRestsRow : OpenClaim := { program := "ytkefjoljokfieaa", sum := "831b8de82c8ea60da3d29456c8f9f3d8c33af69443b98cba4dfa0f4ac3257514", func := "massif/massiflaw04.CoverRests", spec := "coverRests", unfollowed := true, recurses := true, apart := false }
def CoverRestsSaid : Prop := coverRestsRow.holds Try.pinned (OpenSpec.ofChange coverRestsSpec)

/-- ITS FALSE NEIGHBOUR: 'it returns false'. Refute it at one input. -/
def coverRestsWrong : ChangeSpec := { name := "coverRests", fn := fun _ => fun
  | [d1, d2] => { results := [.lit (.bool false)], args := [d1, d2] }
  | _ => none }
def CoverRestsWrongFalsely : Prop := coverRestsRow.holds Try.pinned (OpenSpec.ofChange coverRestsWrong)

/-- 'massiflaw04.CoverFresh': WHATEVER THE INPUT: true; the input reads as it did. -/
def coverFreshSpec : ChangeSpec := { name := "coverFresh", fn := fun _ => fun
  | [d1, d2, d3] => { results := [.lit (.bool true)], args := [d1, d2, d3] }
  | _ => none }
def coverFreshRow : OpenClaim := { program := "ytkefjoljokfieaa", sum := "831b8de82c8ea60da3d29456c8f9f3d8c33af69443b98cba4dfa0f4ac3257514", func := "massif/massiflaw04.CoverFresh", spec := "coverFresh", unfollowed := true, recurses := true, apart := false }
def CoverFreshSaid : Prop := coverFreshRow.holds Try.pinned (OpenSpec.ofChange coverFreshSpec)

/-- ITS FALSE NEIGHBOUR: 'it returns false'. Refute it at one input. -/
def coverFreshWrong : ChangeSpec := { name := "coverFresh", fn := fun _ => fun
  | [d1, d2, d3] => { results := [.lit (.bool false)], args := [d1, d2, d3] }
  | _ => none }
def CoverFreshWrongFalsely : Prop := coverFreshRow.holds Try.pinned (OpenSpec.ofChange coverFreshWrong)

/- THE SECOND FORM. 'bulk': how many values and letters a reading holds, each counted each time it is reached (what is shared counts as often as it is met; a slice's spare places count too). A statement '..UptoSaid' is the law's where the arguments, and the package variables that the reading takes, are together of bulk at most 1048576: NARROWER than '..Said'. Prove '..Said' where nothing that the law and all that it calls make is longer than what came in: it says more and counts as full. Else prove '..UptoSaid'. A law counts once. -/
mutual
def uptoBulk {H : Type} : DataW H → Nat
  | .lit (.string bytes) => bytes.length + 1
  | .lit _ => 1
  | .nil => 1
  | .ptr d => uptoBulk d + 1
  | .slice elems spare => uptoBulkAll elems + uptoBulkAll spare + 1
  | .agg parts => uptoBulkAll parts + 1
  | .iface _ d => uptoBulk d + 1
  | .map entries => uptoBulkEntries entries + 1
  | .held _ => 1
def uptoBulkAll {H : Type} : List (DataW H) → Nat
  | [] => 0
  | d :: r => uptoBulk d + uptoBulkAll r
def uptoBulkEntries {H : Type} : List (Lit × DataW H) → Nat
  | [] => 0
  | x :: r => uptoBulkEntry x + uptoBulkEntries r
def uptoBulkEntry {H : Type} : Lit × DataW H → Nat
  | (.string bytes, d) => bytes.length + uptoBulk d + 1
  | (_, d) => uptoBulk d + 1
 end
def uptoSmall : (H : Type) → List (DataW H) → Bool := fun _ ds => decide (uptoBulkAll ds ≤ 1048576)
def OpenSpec.upto (s : _root_.Go.ChangeSpec) : _root_.Go.OpenSpec := { _root_.Go.OpenSpec.ofChange s with cond := some uptoSmall }

/-- 'massiflaw04.CoverRests', WHERE WHAT IT READS IS OF BULK AT MOST 1048576: true; the input reads as it did. -/
def coverRestsUptoRow : OpenClaim := { program := "ytkefjoljokfieaa", sum := "831b8de82c8ea60da3d29456c8f9f3d8c33af69443b98cba4dfa0f4ac3257514", func := "massif/massiflaw04.CoverRests", spec := "coverRests", unfollowed := true, recurses := true, apart := false, narrowed := true }
def CoverRestsUptoSaid : Prop := coverRestsUptoRow.holds Try.pinned (OpenSpec.upto coverRestsSpec)

/-- 'massiflaw04.CoverFresh', WHERE WHAT IT READS IS OF BULK AT MOST 1048576: true; the input reads as it did. -/
def coverFreshUptoRow : OpenClaim := { program := "ytkefjoljokfieaa", sum := "831b8de82c8ea60da3d29456c8f9f3d8c33af69443b98cba4dfa0f4ac3257514", func := "massif/massiflaw04.CoverFresh", spec := "coverFresh", unfollowed := true, recurses := true, apart := false, narrowed := true }
def CoverFreshUptoSaid : Prop := coverFreshUptoRow.holds Try.pinned (OpenSpec.upto coverFreshSpec)

end Rows
end Go.Proofs.Ytkefjoljokfieaa
