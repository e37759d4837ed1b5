/-
  No cell of these rows narrows 'for every input' (looked for: loops, veiled, ifaces, maps, wideKeys, modest, calm, conditions, laid).
  DERIVED. THE GIVEN ROWS OF THIS SEAT. 4 by the template 'for every input the law returns true; each argument reads behind the call as it read before'; 0 by the template 'total and deterministic' (their statements: YtelhpamhnnjgaaaTotals.lean).
  GIVEN WITH THE SEED: the statements are not yours to turn. If you find one false, say at which input.
  Laid BY PROGRAM, IN A SANDBOX (cutbox-rows.mjs): the forced cells as the released guide's own fill.sh prints them over the translation 941ed712a84dfccb… (all of the seat's roots in one cut). By AI agents, Wed Nov 11 2026. No macro, syntax, notation, axiom, sorry.
-/
import Derived.Test.YtelhpamhnnjgaaaChecked
import GoSem.Claim
import GoSem.ClaimJoined
import GoSem.ClaimMapViews
import Derived.JoinedTies
import Derived.KernelRfl
namespace Go.Proofs.Ytelhpamhnnjgaaa
/- THE CELL 'sum', in the pinned program and in every row, IS THE sha256 OF THE DUMP (.gsa) THAT YtelhpamhnnjgaaaProg.lean LOADS. Nothing in Lean hashes anything: it is a label: what it is worth is what the hold of that sum in a sandbox is worth. -/
noncomputable def Try.pinned : Pinned := { name := "ytelhpamhnnjgaaa", sum := "941ed712a84dfccbbeadcc62e128461fce3c7a7fc750e8570d4224543266e5fa", checked := Try.checked }
namespace Rows
def none {H : Type} : Left H := { results := [], args := [] }

/-- 'massiflaw10.ForestRow': WHATEVER THE INPUT: true; the input reads as it did. -/
def forestRowSpec : ChangeSpec := { name := "forestRow", fn := fun _ => fun
  | [d1, d2] => { results := [.lit (.bool true)], args := [d1, d2] }
  | _ => none }
def forestRowRow : OpenClaim := { program := "ytelhpamhnnjgaaa", sum := "941ed712a84dfccbbeadcc62e128461fce3c7a7fc750e8570d4224543266e5fa", func := "massif/massiflaw10.ForestRow", spec := "forestRow", plainKeys := false, apart := false }
def ForestRowSaid : Prop := forestRowRow.holds Try.pinned (OpenSpec.ofChange forestRowSpec)

/-- ITS FALSE NEIGHBOUR: 'it returns false'. Refute it at one input. -/
def forestRowWrong : ChangeSpec := { name := "forestRow", fn := fun _ => fun
  | [d1, d2] => { results := [.lit (.bool false)], args := [d1, d2] }
  | _ => none }
def ForestRowWrongFalsely : Prop := forestRowRow.holds Try.pinned (OpenSpec.ofChange forestRowWrong)

/-- 'massiflaw10.ForestFresh': WHATEVER THE INPUT: true; the input reads as it did. -/
def forestFreshSpec : ChangeSpec := { name := "forestFresh", fn := fun _ => fun
  | [d1, d2] => { results := [.lit (.bool true)], args := [d1, d2] }
  | _ => none }
def forestFreshRow : OpenClaim := { program := "ytelhpamhnnjgaaa", sum := "941ed712a84dfccbbeadcc62e128461fce3c7a7fc750e8570d4224543266e5fa", func := "massif/massiflaw10.ForestFresh", spec := "forestFresh", plainKeys := false, apart := false }
def ForestFreshSaid : Prop := forestFreshRow.holds Try.pinned (OpenSpec.ofChange forestFreshSpec)

/-- ITS FALSE NEIGHBOUR: 'it returns false'. Refute it at one input. -/
def forestFreshWrong : ChangeSpec := { name := "forestFresh", fn := fun _ => fun
  | [d1, d2] => { results := [.lit (.bool false)], args := [d1, d2] }
  | _ => none }
def ForestFreshWrongFalsely : Prop := forestFreshRow.holds Try.pinned (OpenSpec.ofChange forestFreshWrong)

/-- 'massiflaw10.ForestLong': WHATEVER THE INPUT: true; the input reads as it did. -/
def forestLongSpec : ChangeSpec := { name := "forestLong", fn := fun _ => fun
  | [d1, d2, d3] => { results := [.lit (.bool true)], args := [d1, d2, d3] }
  | _ => none }
def forestLongRow : OpenClaim := { program := "ytelhpamhnnjgaaa", sum := "941ed712a84dfccbbeadcc62e128461fce3c7a7fc750e8570d4224543266e5fa", func := "massif/massiflaw10.ForestLong", spec := "forestLong", plainKeys := false, apart := false }
def ForestLongSaid : Prop := forestLongRow.holds Try.pinned (OpenSpec.ofChange forestLongSpec)

/-- ITS FALSE NEIGHBOUR: 'it returns false'. Refute it at one input. -/
def forestLongWrong : ChangeSpec := { name := "forestLong", fn := fun _ => fun
  | [d1, d2, d3] => { results := [.lit (.bool false)], args := [d1, d2, d3] }
  | _ => none }
def ForestLongWrongFalsely : Prop := forestLongRow.holds Try.pinned (OpenSpec.ofChange forestLongWrong)

/-- 'massiflaw10.ForestPlain': WHATEVER THE INPUT: true; the input reads as it did. -/
def forestPlainSpec : ChangeSpec := { name := "forestPlain", fn := fun _ => fun
  | [d1, d2, d3] => { results := [.lit (.bool true)], args := [d1, d2, d3] }
  | _ => none }
def forestPlainRow : OpenClaim := { program := "ytelhpamhnnjgaaa", sum := "941ed712a84dfccbbeadcc62e128461fce3c7a7fc750e8570d4224543266e5fa", func := "massif/massiflaw10.ForestPlain", spec := "forestPlain", recurses := true, plainKeys := false, apart := false }
def ForestPlainSaid : Prop := forestPlainRow.holds Try.pinned (OpenSpec.ofChange forestPlainSpec)

/-- ITS FALSE NEIGHBOUR: 'it returns false'. Refute it at one input. -/
def forestPlainWrong : ChangeSpec := { name := "forestPlain", fn := fun _ => fun
  | [d1, d2, d3] => { results := [.lit (.bool false)], args := [d1, d2, d3] }
  | _ => none }
def ForestPlainWrongFalsely : Prop := forestPlainRow.holds Try.pinned (OpenSpec.ofChange forestPlainWrong)

/- THE SECOND FORM. 'bulk': how many values and letters a reading holds, each counted each time it is reached (what is shared counts as often as it is met; a slice's spare places count too). A statement '..UptoSaid' is the law's where the arguments, and the package variables that the reading takes, are together of bulk at most 1048576: NARROWER than '..Said'. Prove '..Said' where nothing that the law and all that it calls make is longer than what came in: it says more and counts as full. Else prove '..UptoSaid'. A law counts once. -/
mutual
def uptoBulk {H : Type} : DataW H → Nat
  | .lit (.string bytes) => bytes.length + 1
  | .lit _ => 1
  | .nil => 1
  | .ptr d => uptoBulk d + 1
  | .slice elems spare => uptoBulkAll elems + uptoBulkAll spare + 1
  | .agg parts => uptoBulkAll parts + 1
  | .iface _ d => uptoBulk d + 1
  | .map entries => uptoBulkEntries entries + 1
  | .held _ => 1
def uptoBulkAll {H : Type} : List (DataW H) → Nat
  | [] => 0
  | d :: r => uptoBulk d + uptoBulkAll r
def uptoBulkEntries {H : Type} : List (Lit × DataW H) → Nat
  | [] => 0
  | x :: r => uptoBulkEntry x + uptoBulkEntries r
def uptoBulkEntry {H : Type} : Lit × DataW H → Nat
  | (.string bytes, d) => bytes.length + uptoBulk d + 1
  | (_, d) => uptoBulk d + 1
 end
def uptoSmall : (H : Type) → List (DataW H) → Bool := fun _ ds => decide (uptoBulkAll ds ≤ 1048576)
def OpenSpec.upto (s : _root_.Go.ChangeSpec) : _root_.Go.OpenSpec := { _root_.Go.OpenSpec.ofChange s with cond := some uptoSmall }

/-- 'massiflaw10.ForestRow', WHERE WHAT IT READS IS OF BULK AT MOST 1048576: true; the input reads as it did. -/
def forestRowUptoRow : OpenClaim := { program := "ytelhpamhnnjgaaa", sum := "941ed712a84dfccbbeadcc62e128461fce3c7a7fc750e8570d4224543266e5fa", func := "massif/massiflaw10.ForestRow", spec := "forestRow", plainKeys := false, apart := false, narrowed := true }
def ForestRowUptoSaid : Prop := forestRowUptoRow.holds Try.pinned (OpenSpec.upto forestRowSpec)

/-- 'massiflaw10.ForestFresh', WHERE WHAT IT READS IS OF BULK AT MOST 1048576: true; the input reads as it did. -/
def forestFreshUptoRow : OpenClaim := { program := "ytelhpamhnnjgaaa", sum := "941ed712a84dfccbbeadcc62e128461fce3c7a7fc750e8570d4224543266e5fa", func := "massif/massiflaw10.ForestFresh", spec := "forestFresh", plainKeys := false, apart := false, narrowed := true }
def ForestFreshUptoSaid : Prop := forestFreshUptoRow.holds Try.pinned (OpenSpec.upto forestFreshSpec)

/-- 'massiflaw10.ForestLong', WHERE WHAT IT READS IS OF BULK AT MOST 1048576: true; the input reads as it did. -/
def forestLongUptoRow : OpenClaim := { program := "ytelhpamhnnjgaaa", sum := "941ed712a84dfccbbeadcc62e128461fce3c7a7fc750e8570d4224543266e5fa", func := "massif/massiflaw10.ForestLong", spec := "forestLong", plainKeys := false, apart := false, narrowed := true }
def ForestLongUptoSaid : Prop := forestLongUptoRow.holds Try.pinned (OpenSpec.upto forestLongSpec)

/-- 'massiflaw10.ForestPlain', WHERE WHAT IT READS IS OF BULK AT MOST 1048576: true; the input reads as it did. -/
def forestPlainUptoRow : OpenClaim := { program := "ytelhpamhnnjgaaa", sum := "941ed712a84dfccbbeadcc62e128461fce3c7a7fc750e8570d4224543266e5fa", func := "massif/massiflaw10.ForestPlain", spec := "forestPlain", recurses := true, plainKeys := false, apart := false, narrowed := true }
def ForestPlainUptoSaid : Prop := forestPlainUptoRow.holds Try.pinned (OpenSpec.upto forestPlainSpec)

end Rows
end Go.Proofs.Ytelhpamhnnjgaaa
