/-
  No cell of these rows narrows 'for every input' (looked for: loops, veiled, ifaces, maps, wideKeys, modest, calm, conditions, laid).
  DERIVED. THE GIVEN ROWS OF THIS SEAT. 11 by the template 'for every input the law returns true; each argument reads behind the call as it read before'; 0 by the template 'total and deterministic' (their statements: YtjabaolcphhjkaaTotals.lean).
  GIVEN WITH THE SEED: the statements are not yours to turn. If you find one false, say at which input.
  Laid BY PROGRAM, IN A SANDBOX (cutbox-rows.mjs): the forced cells as the released guide's own fill.sh prints them over the translation 9ec1667b9873f7e1… (all of the seat's roots in one cut). By AI agents, Wed Nov 11 2026. No macro, syntax, notation, axiom, sorry.
-/
import Derived.Test.YtjabaolcphhjkaaChecked
import GoSem.Claim
import GoSem.ClaimJoined
import GoSem.ClaimMapViews
import Derived.JoinedTies
import Derived.KernelRfl
namespace Go.Proofs.Ytjabaolcphhjkaa
/- THE CELL 'sum', in the pinned program and in every row, IS THE sha256 OF THE DUMP (.gsa) THAT YtjabaolcphhjkaaProg.lean LOADS. Nothing in Lean hashes anything: it is a label: what it is worth is what the hold of that sum in a sandbox is worth. -/
noncomputable def Try.pinned : Pinned := { name := "ytjabaolcphhjkaa", sum := "9ec1667b9873f7e17f3576de6b643fb2c3b582f69a08e6120a6d1e20772c591a", checked := Try.checked }
namespace Rows
def none {H : Type} : Left H := { results := [], args := [] }

/-- 'massiflaw04.CoverSpans': WHATEVER THE INPUT: true; the input reads as it did. -/
def coverSpansSpec : ChangeSpec := { name := "coverSpans", fn := fun _ => fun
  | [d1, d2, d3] => { results := [.lit (.bool true)], args := [d1, d2, d3] }
  | _ => none }
def coverSpansRow : OpenClaim := { program := "ytjabaolcphhjkaa", sum := "9ec1667b9873f7e17f3576de6b643fb2c3b582f69a08e6120a6d1e20772c591a", func := "massif/massiflaw04.CoverSpans", spec := "coverSpans", unfollowed := true, recurses := true, apart := false }
def CoverSpansSaid : Prop := coverSpansRow.holds Try.pinned (OpenSpec.ofChange coverSpansSpec)

/-- ITS FALSE NEIGHBOUR: 'it returns false'. Refute it at one input. -/
def coverSpansWrong : ChangeSpec := { name := "coverSpans", fn := fun _ => fun
  | [d1, d2, d3] => { results := [.lit (.bool false)], args := [d1, d2, d3] }
  | _ => none }
def CoverSpansWrongFalsely : Prop := coverSpansRow.holds Try.pinned (OpenSpec.ofChange coverSpansWrong)

/-- 'massiflaw04.CoverRests': WHATEVER THE INPUT: true; the input reads as it did. -/
def coverRestsSpec : ChangeSpec := { name := "coverRests", fn := fun _ => fun
  | [d1, d2] => { results := [.lit (.bool true)], args := [d1, d2] }
  | _ => none }
def coverRestsRow : OpenClaim := { program := "ytjabaolcphhjkaa", sum := "9ec1667b9873f7e17f3576de6b643fb2c3b582f69a08e6120a6d1e20772c591a", func := "massif/massiflaw04.CoverRests", spec := "coverRests", unfollowed := true, recurses := true, apart := false }
def CoverRestsSaid : Prop := coverRestsRow.holds Try.pinned (OpenSpec.ofChange coverRestsSpec)

/-- ITS FALSE NEIGHBOUR: 'it returns false'. Refute it at one input. -/
def coverRestsWrong : ChangeSpec := { name := "coverRests", fn := fun _ => fun
  | [d1, d2] => { results := [.lit (.bool false)], args := [d1, d2] }
  | _ => none }
def CoverRestsWrongFalsely : Prop := coverRestsRow.holds Try.pinned (OpenSpec.ofChange coverRestsWrong)

/-- 'massiflaw04.CoverFresh': WHATEVER THE INPUT: true; the input reads as it did. -/
def coverFreshSpec : ChangeSpec := { name := "coverFresh", fn := fun _ => fun
  | [d1, d2, d3] => { results := [.lit (.bool true)], args := [d1, d2, d3] }
  | _ => none }
def coverFreshRow : OpenClaim := { program := "ytjabaolcphhjkaa", sum := "9ec1667b9873f7e17f3576de6b643fb2c3b582f69a08e6120a6d1e20772c591a", func := "massif/massiflaw04.CoverFresh", spec := "coverFresh", unfollowed := true, recurses := true, apart := false }
def CoverFreshSaid : Prop := coverFreshRow.holds Try.pinned (OpenSpec.ofChange coverFreshSpec)

/-- ITS FALSE NEIGHBOUR: 'it returns false'. Refute it at one input. -/
def coverFreshWrong : ChangeSpec := { name := "coverFresh", fn := fun _ => fun
  | [d1, d2, d3] => { results := [.lit (.bool false)], args := [d1, d2, d3] }
  | _ => none }
def CoverFreshWrongFalsely : Prop := coverFreshRow.holds Try.pinned (OpenSpec.ofChange coverFreshWrong)

/-- 'massiflaw04.CoverLeaves': WHATEVER THE INPUT: true; the input reads as it did. -/
def coverLeavesSpec : ChangeSpec := { name := "coverLeaves", fn := fun _ => fun
  | [d1, d2] => { results := [.lit (.bool true)], args := [d1, d2] }
  | _ => none }
def coverLeavesRow : OpenClaim := { program := "ytjabaolcphhjkaa", sum := "9ec1667b9873f7e17f3576de6b643fb2c3b582f69a08e6120a6d1e20772c591a", func := "massif/massiflaw04.CoverLeaves", spec := "coverLeaves", unfollowed := true, recurses := true, apart := false }
def CoverLeavesSaid : Prop := coverLeavesRow.holds Try.pinned (OpenSpec.ofChange coverLeavesSpec)

/-- ITS FALSE NEIGHBOUR: 'it returns false'. Refute it at one input. -/
def coverLeavesWrong : ChangeSpec := { name := "coverLeaves", fn := fun _ => fun
  | [d1, d2] => { results := [.lit (.bool false)], args := [d1, d2] }
  | _ => none }
def CoverLeavesWrongFalsely : Prop := coverLeavesRow.holds Try.pinned (OpenSpec.ofChange coverLeavesWrong)

/-- 'massiflaw04.CoverTiles': WHATEVER THE INPUT: true; the input reads as it did. -/
def coverTilesSpec : ChangeSpec := { name := "coverTiles", fn := fun _ => fun
  | [d1, d2, d3] => { results := [.lit (.bool true)], args := [d1, d2, d3] }
  | _ => none }
def coverTilesRow : OpenClaim := { program := "ytjabaolcphhjkaa", sum := "9ec1667b9873f7e17f3576de6b643fb2c3b582f69a08e6120a6d1e20772c591a", func := "massif/massiflaw04.CoverTiles", spec := "coverTiles", unfollowed := true, recurses := true, apart := false }
def CoverTilesSaid : Prop := coverTilesRow.holds Try.pinned (OpenSpec.ofChange coverTilesSpec)

/-- ITS FALSE NEIGHBOUR: 'it returns false'. Refute it at one input. -/
def coverTilesWrong : ChangeSpec := { name := "coverTiles", fn := fun _ => fun
  | [d1, d2, d3] => { results := [.lit (.bool false)], args := [d1, d2, d3] }
  | _ => none }
def CoverTilesWrongFalsely : Prop := coverTilesRow.holds Try.pinned (OpenSpec.ofChange coverTilesWrong)

/-- 'massiftop.WholeForm': WHATEVER THE INPUT: true; the input reads as it did. -/
def wholeFormSpec : ChangeSpec := { name := "wholeForm", fn := fun _ => fun
  | [d1, d2] => { results := [.lit (.bool true)], args := [d1, d2] }
  | _ => none }
def wholeFormRow : OpenClaim := { program := "ytjabaolcphhjkaa", sum := "9ec1667b9873f7e17f3576de6b643fb2c3b582f69a08e6120a6d1e20772c591a", func := "massif/massiftop.WholeForm", spec := "wholeForm", inPlace := ["internal/abi.NoEscape"], unfollowed := true, recurses := true, apart := false }
def WholeFormSaid : Prop := wholeFormRow.holds Try.pinned (OpenSpec.ofChange wholeFormSpec)

/-- ITS FALSE NEIGHBOUR: 'it returns false'. Refute it at one input. -/
def wholeFormWrong : ChangeSpec := { name := "wholeForm", fn := fun _ => fun
  | [d1, d2] => { results := [.lit (.bool false)], args := [d1, d2] }
  | _ => none }
def WholeFormWrongFalsely : Prop := wholeFormRow.holds Try.pinned (OpenSpec.ofChange wholeFormWrong)

/-- 'massiflaw14.CodecWrites': WHATEVER THE INPUT: true; the input reads as it did. -/
def codecWritesSpec : ChangeSpec := { name := "codecWrites", fn := fun _ => fun
  | [d] => { results := [.lit (.bool true)], args := [d] }
  | _ => none }
def codecWritesRow : OpenClaim := { program := "ytjabaolcphhjkaa", sum := "9ec1667b9873f7e17f3576de6b643fb2c3b582f69a08e6120a6d1e20772c591a", func := "massif/massiflaw14.CodecWrites", spec := "codecWrites", inPlace := ["internal/abi.NoEscape"], unfollowed := true, recurses := true, apart := false }
def CodecWritesSaid : Prop := codecWritesRow.holds Try.pinned (OpenSpec.ofChange codecWritesSpec)

/-- ITS FALSE NEIGHBOUR: 'it returns false'. Refute it at one input. -/
def codecWritesWrong : ChangeSpec := { name := "codecWrites", fn := fun _ => fun
  | [d] => { results := [.lit (.bool false)], args := [d] }
  | _ => none }
def CodecWritesWrongFalsely : Prop := codecWritesRow.holds Try.pinned (OpenSpec.ofChange codecWritesWrong)

/-- 'massiflaw14.CodecReads': WHATEVER THE INPUT: true; the input reads as it did. -/
def codecReadsSpec : ChangeSpec := { name := "codecReads", fn := fun _ => fun
  | [d] => { results := [.lit (.bool true)], args := [d] }
  | _ => none }
def codecReadsRow : OpenClaim := { program := "ytjabaolcphhjkaa", sum := "9ec1667b9873f7e17f3576de6b643fb2c3b582f69a08e6120a6d1e20772c591a", func := "massif/massiflaw14.CodecReads", spec := "codecReads", inPlace := ["internal/abi.NoEscape"], unfollowed := true, recurses := true, apart := false }
def CodecReadsSaid : Prop := codecReadsRow.holds Try.pinned (OpenSpec.ofChange codecReadsSpec)

/-- ITS FALSE NEIGHBOUR: 'it returns false'. Refute it at one input. -/
def codecReadsWrong : ChangeSpec := { name := "codecReads", fn := fun _ => fun
  | [d] => { results := [.lit (.bool false)], args := [d] }
  | _ => none }
def CodecReadsWrongFalsely : Prop := codecReadsRow.holds Try.pinned (OpenSpec.ofChange codecReadsWrong)

/-- 'massiflaw14.CodecBack': WHATEVER THE INPUT: true; the input reads as it did. -/
def codecBackSpec : ChangeSpec := { name := "codecBack", fn := fun _ => fun
  | [d1, d2, d3] => { results := [.lit (.bool true)], args := [d1, d2, d3] }
  | _ => none }
def codecBackRow : OpenClaim := { program := "ytjabaolcphhjkaa", sum := "9ec1667b9873f7e17f3576de6b643fb2c3b582f69a08e6120a6d1e20772c591a", func := "massif/massiflaw14.CodecBack", spec := "codecBack", inPlace := ["internal/abi.NoEscape"], unfollowed := true, recurses := true, apart := false }
def CodecBackSaid : Prop := codecBackRow.holds Try.pinned (OpenSpec.ofChange codecBackSpec)

/-- ITS FALSE NEIGHBOUR: 'it returns false'. Refute it at one input. -/
def codecBackWrong : ChangeSpec := { name := "codecBack", fn := fun _ => fun
  | [d1, d2, d3] => { results := [.lit (.bool false)], args := [d1, d2, d3] }
  | _ => none }
def CodecBackWrongFalsely : Prop := codecBackRow.holds Try.pinned (OpenSpec.ofChange codecBackWrong)

/-- 'massiflaw14.CodecKeeps': WHATEVER THE INPUT: true; the input reads as it did. -/
def codecKeepsSpec : ChangeSpec := { name := "codecKeeps", fn := fun _ => fun
  | [d1, d2] => { results := [.lit (.bool true)], args := [d1, d2] }
  | _ => none }
def codecKeepsRow : OpenClaim := { program := "ytjabaolcphhjkaa", sum := "9ec1667b9873f7e17f3576de6b643fb2c3b582f69a08e6120a6d1e20772c591a", func := "massif/massiflaw14.CodecKeeps", spec := "codecKeeps", inPlace := ["internal/abi.NoEscape"], unfollowed := true, recurses := true, apart := false }
def CodecKeepsSaid : Prop := codecKeepsRow.holds Try.pinned (OpenSpec.ofChange codecKeepsSpec)

/-- ITS FALSE NEIGHBOUR: 'it returns false'. Refute it at one input. -/
def codecKeepsWrong : ChangeSpec := { name := "codecKeeps", fn := fun _ => fun
  | [d1, d2] => { results := [.lit (.bool false)], args := [d1, d2] }
  | _ => none }
def CodecKeepsWrongFalsely : Prop := codecKeepsRow.holds Try.pinned (OpenSpec.ofChange codecKeepsWrong)

/-- 'massiftop.WholeSmall': WHATEVER THE INPUT: true; the input reads as it did. -/
def wholeSmallSpec : ChangeSpec := { name := "wholeSmall", fn := fun _ => fun
  | [d1, d2, d3] => { results := [.lit (.bool true)], args := [d1, d2, d3] }
  | _ => none }
def wholeSmallRow : OpenClaim := { program := "ytjabaolcphhjkaa", sum := "9ec1667b9873f7e17f3576de6b643fb2c3b582f69a08e6120a6d1e20772c591a", func := "massif/massiftop.WholeSmall", spec := "wholeSmall", inPlace := ["internal/abi.NoEscape"], unfollowed := true, recurses := true, apart := false }
def WholeSmallSaid : Prop := wholeSmallRow.holds Try.pinned (OpenSpec.ofChange wholeSmallSpec)

/-- ITS FALSE NEIGHBOUR: 'it returns false'. Refute it at one input. -/
def wholeSmallWrong : ChangeSpec := { name := "wholeSmall", fn := fun _ => fun
  | [d1, d2, d3] => { results := [.lit (.bool false)], args := [d1, d2, d3] }
  | _ => none }
def WholeSmallWrongFalsely : Prop := wholeSmallRow.holds Try.pinned (OpenSpec.ofChange wholeSmallWrong)

/- THE SECOND FORM. 'bulk': how many values and letters a reading holds, each counted each time it is reached (what is shared counts as often as it is met; a slice's spare places count too). A statement '..UptoSaid' is the law's where the arguments, and the package variables that the reading takes, are together of bulk at most 1048576: NARROWER than '..Said'. Prove '..Said' where nothing that the law and all that it calls make is longer than what came in: it says more and counts as full. Else prove '..UptoSaid'. A law counts once. -/
mutual
def uptoBulk {H : Type} : DataW H → Nat
  | .lit (.string bytes) => bytes.length + 1
  | .lit _ => 1
  | .nil => 1
  | .ptr d => uptoBulk d + 1
  | .slice elems spare => uptoBulkAll elems + uptoBulkAll spare + 1
  | .agg parts => uptoBulkAll parts + 1
  | .iface _ d => uptoBulk d + 1
  | .map entries => uptoBulkEntries entries + 1
  | .held _ => 1
def uptoBulkAll {H : Type} : List (DataW H) → Nat
  | [] => 0
  | d :: r => uptoBulk d + uptoBulkAll r
def uptoBulkEntries {H : Type} : List (Lit × DataW H) → Nat
  | [] => 0
  | x :: r => uptoBulkEntry x + uptoBulkEntries r
def uptoBulkEntry {H : Type} : Lit × DataW H → Nat
  | (.string bytes, d) => bytes.length + uptoBulk d + 1
  | (_, d) => uptoBulk d + 1
 end
def uptoSmall : (H : Type) → List (DataW H) → Bool := fun _ ds => decide (uptoBulkAll ds ≤ 1048576)
def OpenSpec.upto (s : _root_.Go.ChangeSpec) : _root_.Go.OpenSpec := { _root_.Go.OpenSpec.ofChange s with cond := some uptoSmall }

/-- 'massiflaw04.CoverSpans', WHERE WHAT IT READS IS OF BULK AT MOST 1048576: true; the input reads as it did. -/
def coverSpansUptoRow : OpenClaim := { program := "ytjabaolcphhjkaa", sum := "9ec1667b9873f7e17f3576de6b643fb2c3b582f69a08e6120a6d1e20772c591a", func := "massif/massiflaw04.CoverSpans", spec := "coverSpans", unfollowed := true, recurses := true, apart := false, narrowed := true }
def CoverSpansUptoSaid : Prop := coverSpansUptoRow.holds Try.pinned (OpenSpec.upto coverSpansSpec)

/-- 'massiflaw04.CoverRests', WHERE WHAT IT READS IS OF BULK AT MOST 1048576: true; the input reads as it did. -/
def coverRestsUptoRow : OpenClaim := { program := "ytjabaolcphhjkaa", sum := "9ec1667b9873f7e17f3576de6b643fb2c3b582f69a08e6120a6d1e20772c591a", func := "massif/massiflaw04.CoverRests", spec := "coverRests", unfollowed := true, recurses := true, apart := false, narrowed := true }
def CoverRestsUptoSaid : Prop := coverRestsUptoRow.holds Try.pinned (OpenSpec.upto coverRestsSpec)

/-- 'massiflaw04.CoverFresh', WHERE WHAT IT READS IS OF BULK AT MOST 1048576: true; the input reads as it did. -/
def coverFreshUptoRow : OpenClaim := { program := "ytjabaolcphhjkaa", sum := "9ec1667b9873f7e17f3576de6b643fb2c3b582f69a08e6120a6d1e20772c591a", func := "massif/massiflaw04.CoverFresh", spec := "coverFresh", unfollowed := true, recurses := true, apart := false, narrowed := true }
def CoverFreshUptoSaid : Prop := coverFreshUptoRow.holds Try.pinned (OpenSpec.upto coverFreshSpec)

/-- 'massiflaw04.CoverLeaves', WHERE WHAT IT READS IS OF BULK AT MOST 1048576: true; the input reads as it did. -/
def coverLeavesUptoRow : OpenClaim := { program := "ytjabaolcphhjkaa", sum := "9ec1667b9873f7e17f3576de6b643fb2c3b582f69a08e6120a6d1e20772c591a", func := "massif/massiflaw04.CoverLeaves", spec := "coverLeaves", unfollowed := true, recurses := true, apart := false, narrowed := true }
def CoverLeavesUptoSaid : Prop := coverLeavesUptoRow.holds Try.pinned (OpenSpec.upto coverLeavesSpec)

/-- 'massiflaw04.CoverTiles', WHERE WHAT IT READS IS OF BULK AT MOST 1048576: true; the input reads as it did. -/
def coverTilesUptoRow : OpenClaim := { program := "ytjabaolcphhjkaa", sum := "9ec1667b9873f7e17f3576de6b643fb2c3b582f69a08e6120a6d1e20772c591a", func := "massif/massiflaw04.CoverTiles", spec := "coverTiles", unfollowed := true, recurses := true, apart := false, narrowed := true }
def CoverTilesUptoSaid : Prop := coverTilesUptoRow.holds Try.pinned (OpenSpec.upto coverTilesSpec)

/-- 'massiftop.WholeForm', WHERE WHAT IT READS IS OF BULK AT MOST 1048576: true; the input reads as it did. -/
def wholeFormUptoRow : OpenClaim := { program := "ytjabaolcphhjkaa", sum := "9ec1667b9873f7e17f3576de6b643fb2c3b582f69a08e6120a6d1e20772c591a", func := "massif/massiftop.WholeForm", spec := "wholeForm", inPlace := ["internal/abi.NoEscape"], unfollowed := true, recurses := true, apart := false, narrowed := true }
def WholeFormUptoSaid : Prop := wholeFormUptoRow.holds Try.pinned (OpenSpec.upto wholeFormSpec)

/-- 'massiflaw14.CodecWrites', WHERE WHAT IT READS IS OF BULK AT MOST 1048576: true; the input reads as it did. -/
def codecWritesUptoRow : OpenClaim := { program := "ytjabaolcphhjkaa", sum := "9ec1667b9873f7e17f3576de6b643fb2c3b582f69a08e6120a6d1e20772c591a", func := "massif/massiflaw14.CodecWrites", spec := "codecWrites", inPlace := ["internal/abi.NoEscape"], unfollowed := true, recurses := true, apart := false, narrowed := true }
def CodecWritesUptoSaid : Prop := codecWritesUptoRow.holds Try.pinned (OpenSpec.upto codecWritesSpec)

/-- 'massiflaw14.CodecReads', WHERE WHAT IT READS IS OF BULK AT MOST 1048576: true; the input reads as it did. -/
def codecReadsUptoRow : OpenClaim := { program := "ytjabaolcphhjkaa", sum := "9ec1667b9873f7e17f3576de6b643fb2c3b582f69a08e6120a6d1e20772c591a", func := "massif/massiflaw14.CodecReads", spec := "codecReads", inPlace := ["internal/abi.NoEscape"], unfollowed := true, recurses := true, apart := false, narrowed := true }
def CodecReadsUptoSaid : Prop := codecReadsUptoRow.holds Try.pinned (OpenSpec.upto codecReadsSpec)

/-- 'massiflaw14.CodecBack', WHERE WHAT IT READS IS OF BULK AT MOST 1048576: true; the input reads as it did. -/
def codecBackUptoRow : OpenClaim := { program := "ytjabaolcphhjkaa", sum := "9ec1667b9873f7e17f3576de6b643fb2c3b582f69a08e6120a6d1e20772c591a", func := "massif/massiflaw14.CodecBack", spec := "codecBack", inPlace := ["internal/abi.NoEscape"], unfollowed := true, recurses := true, apart := false, narrowed := true }
def CodecBackUptoSaid : Prop := codecBackUptoRow.holds Try.pinned (OpenSpec.upto codecBackSpec)

/-- 'massiflaw14.CodecKeeps', WHERE WHAT IT READS IS OF BULK AT MOST 1048576: true; the input reads as it did. -/
def codecKeepsUptoRow : OpenClaim := { program := "ytjabaolcphhjkaa", sum := "9ec1667b9873f7e17f3576de6b643fb2c3b582f69a08e6120a6d1e20772c591a", func := "massif/massiflaw14.CodecKeeps", spec := "codecKeeps", inPlace := ["internal/abi.NoEscape"], unfollowed := true, recurses := true, apart := false, narrowed := true }
def CodecKeepsUptoSaid : Prop := codecKeepsUptoRow.holds Try.pinned (OpenSpec.upto codecKeepsSpec)

/-- 'massiftop.WholeSmall', WHERE WHAT IT READS IS OF BULK AT MOST 1048576: true; the input reads as it did. -/
def wholeSmallUptoRow : OpenClaim := { program := "ytjabaolcphhjkaa", sum := "9ec1667b9873f7e17f3576de6b643fb2c3b582f69a08e6120a6d1e20772c591a", func := "massif/massiftop.WholeSmall", spec := "wholeSmall", inPlace := ["internal/abi.NoEscape"], unfollowed := true, recurses := true, apart := false, narrowed := true }
def WholeSmallUptoSaid : Prop := wholeSmallUptoRow.holds Try.pinned (OpenSpec.upto wholeSmallSpec)

end Rows
end Go.Proofs.Ytjabaolcphhjkaa
