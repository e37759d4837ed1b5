/-
  No cell of these rows narrows 'for every input' (looked for: loops, veiled, ifaces, maps, wideKeys, modest, calm, conditions, laid).
  DERIVED. THE GIVEN ROWS OF THIS SEAT. 5 by the template 'for every input the law returns true; each argument reads behind the call as it read before'; 0 by the template 'total and deterministic' (their statements: YthjnnbgamnpegaaTotals.lean).
  GIVEN WITH THE SEED: the statements are not yours to turn. If you find one false, say at which input.
  Laid BY PROGRAM, IN A SANDBOX (cutbox-rows.mjs): the forced cells as the released guide's own fill.sh prints them over the translation 58b1f99185fe5d69… (all of the seat's roots in one cut). By AI agents, Wed Nov 11 2026. No macro, syntax, notation, axiom, sorry.
-/
import Derived.Test.YthjnnbgamnpegaaChecked
import GoSem.Claim
import GoSem.ClaimJoined
import GoSem.ClaimMapViews
import Derived.JoinedTies
import Derived.KernelRfl
namespace Go.Proofs.Ythjnnbgamnpegaa
/- THE CELL 'sum', in the pinned program and in every row, IS THE sha256 OF THE DUMP (.gsa) THAT YthjnnbgamnpegaaProg.lean LOADS. Nothing in Lean hashes anything: it is a label: what it is worth is what the hold of that sum in a sandbox is worth. -/
noncomputable def Try.pinned : Pinned := { name := "ythjnnbgamnpegaa", sum := "58b1f99185fe5d69a51c49bed9a5b0dd464ebed3fe4ee72ccb27331ca8b660ac", checked := Try.checked }
namespace Rows
def none {H : Type} : Left H := { results := [], args := [] }

/-- 'massiflaw01.ShaPieces': WHATEVER THE INPUT: true; the input reads as it did. -/
def shaPiecesSpec : ChangeSpec := { name := "shaPieces", fn := fun _ => fun
  | [d] => { results := [.lit (.bool true)], args := [d] }
  | _ => none }
def shaPiecesRow : OpenClaim := { program := "ythjnnbgamnpegaa", sum := "58b1f99185fe5d69a51c49bed9a5b0dd464ebed3fe4ee72ccb27331ca8b660ac", func := "massif/massiflaw01.ShaPieces", spec := "shaPieces", apart := false }
def ShaPiecesSaid : Prop := shaPiecesRow.holds Try.pinned (OpenSpec.ofChange shaPiecesSpec)

/-- ITS FALSE NEIGHBOUR: 'it returns false'. Refute it at one input. -/
def shaPiecesWrong : ChangeSpec := { name := "shaPieces", fn := fun _ => fun
  | [d] => { results := [.lit (.bool false)], args := [d] }
  | _ => none }
def ShaPiecesWrongFalsely : Prop := shaPiecesRow.holds Try.pinned (OpenSpec.ofChange shaPiecesWrong)

/-- 'massiflaw07.HashNumbers': WHATEVER THE INPUT: true; the input reads as it did. -/
def hashNumbersSpec : ChangeSpec := { name := "hashNumbers", fn := fun _ => fun
  | [d1, d2] => { results := [.lit (.bool true)], args := [d1, d2] }
  | _ => none }
def hashNumbersRow : OpenClaim := { program := "ythjnnbgamnpegaa", sum := "58b1f99185fe5d69a51c49bed9a5b0dd464ebed3fe4ee72ccb27331ca8b660ac", func := "massif/massiflaw07.HashNumbers", spec := "hashNumbers", apart := false }
def HashNumbersSaid : Prop := hashNumbersRow.holds Try.pinned (OpenSpec.ofChange hashNumbersSpec)

/-- ITS FALSE NEIGHBOUR: 'it returns false'. Refute it at one input. -/
def hashNumbersWrong : ChangeSpec := { name := "hashNumbers", fn := fun _ => fun
  | [d1, d2] => { results := [.lit (.bool false)], args := [d1, d2] }
  | _ => none }
def HashNumbersWrongFalsely : Prop := hashNumbersRow.holds Try.pinned (OpenSpec.ofChange hashNumbersWrong)

/-- 'massiflaw07.HashBags': WHATEVER THE INPUT: true; the input reads as it did. -/
def hashBagsSpec : ChangeSpec := { name := "hashBags", fn := fun _ => fun
  | [d1, d2] => { results := [.lit (.bool true)], args := [d1, d2] }
  | _ => none }
def hashBagsRow : OpenClaim := { program := "ythjnnbgamnpegaa", sum := "58b1f99185fe5d69a51c49bed9a5b0dd464ebed3fe4ee72ccb27331ca8b660ac", func := "massif/massiflaw07.HashBags", spec := "hashBags", apart := false }
def HashBagsSaid : Prop := hashBagsRow.holds Try.pinned (OpenSpec.ofChange hashBagsSpec)

/-- ITS FALSE NEIGHBOUR: 'it returns false'. Refute it at one input. -/
def hashBagsWrong : ChangeSpec := { name := "hashBags", fn := fun _ => fun
  | [d1, d2] => { results := [.lit (.bool false)], args := [d1, d2] }
  | _ => none }
def HashBagsWrongFalsely : Prop := hashBagsRow.holds Try.pinned (OpenSpec.ofChange hashBagsWrong)

/-- 'massiflaw08.PlainBegins': WHATEVER THE INPUT: true; the input reads as it did. -/
def plainBeginsSpec : ChangeSpec := { name := "plainBegins", fn := fun _ => fun
  | [d1, d2, d3] => { results := [.lit (.bool true)], args := [d1, d2, d3] }
  | _ => none }
def plainBeginsRow : OpenClaim := { program := "ythjnnbgamnpegaa", sum := "58b1f99185fe5d69a51c49bed9a5b0dd464ebed3fe4ee72ccb27331ca8b660ac", func := "massif/massiflaw08.PlainBegins", spec := "plainBegins", recurses := true, apart := false }
def PlainBeginsSaid : Prop := plainBeginsRow.holds Try.pinned (OpenSpec.ofChange plainBeginsSpec)

/-- ITS FALSE NEIGHBOUR: 'it returns false'. Refute it at one input. -/
def plainBeginsWrong : ChangeSpec := { name := "plainBegins", fn := fun _ => fun
  | [d1, d2, d3] => { results := [.lit (.bool false)], args := [d1, d2, d3] }
  | _ => none }
def PlainBeginsWrongFalsely : Prop := plainBeginsRow.holds Try.pinned (OpenSpec.ofChange plainBeginsWrong)

/-- 'massiflaw08.PlainSplits': WHATEVER THE INPUT: true; the input reads as it did. -/
def plainSplitsSpec : ChangeSpec := { name := "plainSplits", fn := fun _ => fun
  | [d1, d2] => { results := [.lit (.bool true)], args := [d1, d2] }
  | _ => none }
def plainSplitsRow : OpenClaim := { program := "ythjnnbgamnpegaa", sum := "58b1f99185fe5d69a51c49bed9a5b0dd464ebed3fe4ee72ccb27331ca8b660ac", func := "massif/massiflaw08.PlainSplits", spec := "plainSplits", recurses := true, apart := false }
def PlainSplitsSaid : Prop := plainSplitsRow.holds Try.pinned (OpenSpec.ofChange plainSplitsSpec)

/-- ITS FALSE NEIGHBOUR: 'it returns false'. Refute it at one input. -/
def plainSplitsWrong : ChangeSpec := { name := "plainSplits", fn := fun _ => fun
  | [d1, d2] => { results := [.lit (.bool false)], args := [d1, d2] }
  | _ => none }
def PlainSplitsWrongFalsely : Prop := plainSplitsRow.holds Try.pinned (OpenSpec.ofChange plainSplitsWrong)

/- THE SECOND FORM. 'bulk': how many values and letters a reading holds, each counted each time it is reached (what is shared counts as often as it is met; a slice's spare places count too). A statement '..UptoSaid' is the law's where the arguments, and the package variables that the reading takes, are together of bulk at most 1048576: NARROWER than '..Said'. Prove '..Said' where nothing that the law and all that it calls make is longer than what came in: it says more and counts as full. Else prove '..UptoSaid'. A law counts once. -/
mutual
def uptoBulk {H : Type} : DataW H → Nat
  | .lit (.string bytes) => bytes.length + 1
  | .lit _ => 1
  | .nil => 1
  | .ptr d => uptoBulk d + 1
  | .slice elems spare => uptoBulkAll elems + uptoBulkAll spare + 1
  | .agg parts => uptoBulkAll parts + 1
  | .iface _ d => uptoBulk d + 1
  | .map entries => uptoBulkEntries entries + 1
  | .held _ => 1
def uptoBulkAll {H : Type} : List (DataW H) → Nat
  | [] => 0
  | d :: r => uptoBulk d + uptoBulkAll r
def uptoBulkEntries {H : Type} : List (Lit × DataW H) → Nat
  | [] => 0
  | x :: r => uptoBulkEntry x + uptoBulkEntries r
def uptoBulkEntry {H : Type} : Lit × DataW H → Nat
  | (.string bytes, d) => bytes.length + uptoBulk d + 1
  | (_, d) => uptoBulk d + 1
 end
def uptoSmall : (H : Type) → List (DataW H) → Bool := fun _ ds => decide (uptoBulkAll ds ≤ 1048576)
def OpenSpec.upto (s : _root_.Go.ChangeSpec) : _root_.Go.OpenSpec := { _root_.Go.OpenSpec.ofChange s with cond := some uptoSmall }

/-- 'massiflaw01.ShaPieces', WHERE WHAT IT READS IS OF BULK AT MOST 1048576: true; the input reads as it did. -/
def shaPiecesUptoRow : OpenClaim := { program := "ythjnnbgamnpegaa", sum := "58b1f99185fe5d69a51c49bed9a5b0dd464ebed3fe4ee72ccb27331ca8b660ac", func := "massif/massiflaw01.ShaPieces", spec := "shaPieces", apart := false, narrowed := true }
def ShaPiecesUptoSaid : Prop := shaPiecesUptoRow.holds Try.pinned (OpenSpec.upto shaPiecesSpec)

/-- 'massiflaw07.HashNumbers', WHERE WHAT IT READS IS OF BULK AT MOST 1048576: true; the input reads as it did. -/
def hashNumbersUptoRow : OpenClaim := { program := "ythjnnbgamnpegaa", sum := "58b1f99185fe5d69a51c49bed9a5b0dd464ebed3fe4ee72ccb27331ca8b660ac", func := "massif/massiflaw07.HashNumbers", spec := "hashNumbers", apart := false, narrowed := true }
def HashNumbersUptoSaid : Prop := hashNumbersUptoRow.holds Try.pinned (OpenSpec.upto hashNumbersSpec)

/-- 'massiflaw07.HashBags', WHERE WHAT IT READS IS OF BULK AT MOST 1048576: true; the input reads as it did. -/
def hashBagsUptoRow : OpenClaim := { program := "ythjnnbgamnpegaa", sum := "58b1f99185fe5d69a51c49bed9a5b0dd464ebed3fe4ee72ccb27331ca8b660ac", func := "massif/massiflaw07.HashBags", spec := "hashBags", apart := false, narrowed := true }
def HashBagsUptoSaid : Prop := hashBagsUptoRow.holds Try.pinned (OpenSpec.upto hashBagsSpec)

/-- 'massiflaw08.PlainBegins', WHERE WHAT IT READS IS OF BULK AT MOST 1048576: true; the input reads as it did. -/
def plainBeginsUptoRow : OpenClaim := { program := "ythjnnbgamnpegaa", sum := "58b1f99185fe5d69a51c49bed9a5b0dd464ebed3fe4ee72ccb27331ca8b660ac", func := "massif/massiflaw08.PlainBegins", spec := "plainBegins", recurses := true, apart := false, narrowed := true }
def PlainBeginsUptoSaid : Prop := plainBeginsUptoRow.holds Try.pinned (OpenSpec.upto plainBeginsSpec)

/-- 'massiflaw08.PlainSplits', WHERE WHAT IT READS IS OF BULK AT MOST 1048576: true; the input reads as it did. -/
def plainSplitsUptoRow : OpenClaim := { program := "ythjnnbgamnpegaa", sum := "58b1f99185fe5d69a51c49bed9a5b0dd464ebed3fe4ee72ccb27331ca8b660ac", func := "massif/massiflaw08.PlainSplits", spec := "plainSplits", recurses := true, apart := false, narrowed := true }
def PlainSplitsUptoSaid : Prop := plainSplitsUptoRow.holds Try.pinned (OpenSpec.upto plainSplitsSpec)

end Rows
end Go.Proofs.Ythjnnbgamnpegaa
