/-
  No cell of these rows narrows 'for every input' (looked for: loops, veiled, ifaces, maps, wideKeys, modest, calm, conditions, laid).
  DERIVED. THE GIVEN ROWS OF THIS SEAT. 7 by the template 'for every input the law returns true; each argument reads behind the call as it read before'; 0 by the template 'total and deterministic' (their statements: YtbfmdcccnneanaaTotals.lean).
  GIVEN WITH THE SEED: the statements are not yours to turn. If you find one false, say at which input.
  Laid BY PROGRAM, IN A SANDBOX (cutbox-rows.mjs): the forced cells as the released guide's own fill.sh prints them over the translation 1bcfa93db70c098d… (all of the seat's roots in one cut). By AI agents, Wed Nov 11 2026. No macro, syntax, notation, axiom, sorry.
-/
import Derived.Test.YtbfmdcccnneanaaChecked
import GoSem.Claim
import GoSem.ClaimJoined
import GoSem.ClaimMapViews
import Derived.JoinedTies
import Derived.KernelRfl
namespace Go.Proofs.Ytbfmdcccnneanaa
/- THE CELL 'sum', in the pinned program and in every row, IS THE sha256 OF THE DUMP (.gsa) THAT YtbfmdcccnneanaaProg.lean LOADS. Nothing in Lean hashes anything: it is a label: what it is worth is what the hold of that sum in a sandbox is worth. -/
noncomputable def Try.pinned : Pinned := { name := "ytbfmdcccnneanaa", sum := "1bcfa93db70c098dad441bfdc838e8d4ebaab03cd1e27bde5340e02d4f64119d", checked := Try.checked }
namespace Rows
def none {H : Type} : Left H := { results := [], args := [] }

/-- 'massiflaw02.NumAsks': WHATEVER THE INPUT: true; the input reads as it did. -/
def numAsksSpec : ChangeSpec := { name := "numAsks", fn := fun _ => fun
  | [d1, d2, d3] => { results := [.lit (.bool true)], args := [d1, d2, d3] }
  | _ => none }
def numAsksRow : OpenClaim := { program := "ytbfmdcccnneanaa", sum := "1bcfa93db70c098dad441bfdc838e8d4ebaab03cd1e27bde5340e02d4f64119d", func := "massif/massiflaw02.NumAsks", spec := "numAsks", apart := false }
def NumAsksSaid : Prop := numAsksRow.holds Try.pinned (OpenSpec.ofChange numAsksSpec)

/-- ITS FALSE NEIGHBOUR: 'it returns false'. Refute it at one input. -/
def numAsksWrong : ChangeSpec := { name := "numAsks", fn := fun _ => fun
  | [d1, d2, d3] => { results := [.lit (.bool false)], args := [d1, d2, d3] }
  | _ => none }
def NumAsksWrongFalsely : Prop := numAsksRow.holds Try.pinned (OpenSpec.ofChange numAsksWrong)

/-- 'massiflaw02.NumBits': WHATEVER THE INPUT: true; the input reads as it did. -/
def numBitsSpec : ChangeSpec := { name := "numBits", fn := fun _ => fun
  | [d] => { results := [.lit (.bool true)], args := [d] }
  | _ => none }
def numBitsRow : OpenClaim := { program := "ytbfmdcccnneanaa", sum := "1bcfa93db70c098dad441bfdc838e8d4ebaab03cd1e27bde5340e02d4f64119d", func := "massif/massiflaw02.NumBits", spec := "numBits", apart := false }
def NumBitsSaid : Prop := numBitsRow.holds Try.pinned (OpenSpec.ofChange numBitsSpec)

/-- ITS FALSE NEIGHBOUR: 'it returns false'. Refute it at one input. -/
def numBitsWrong : ChangeSpec := { name := "numBits", fn := fun _ => fun
  | [d] => { results := [.lit (.bool false)], args := [d] }
  | _ => none }
def NumBitsWrongFalsely : Prop := numBitsRow.holds Try.pinned (OpenSpec.ofChange numBitsWrong)

/-- 'massiflaw02.NumSums': WHATEVER THE INPUT: true; the input reads as it did. -/
def numSumsSpec : ChangeSpec := { name := "numSums", fn := fun _ => fun
  | [d1, d2, d3] => { results := [.lit (.bool true)], args := [d1, d2, d3] }
  | _ => none }
def numSumsRow : OpenClaim := { program := "ytbfmdcccnneanaa", sum := "1bcfa93db70c098dad441bfdc838e8d4ebaab03cd1e27bde5340e02d4f64119d", func := "massif/massiflaw02.NumSums", spec := "numSums", apart := false }
def NumSumsSaid : Prop := numSumsRow.holds Try.pinned (OpenSpec.ofChange numSumsSpec)

/-- ITS FALSE NEIGHBOUR: 'it returns false'. Refute it at one input. -/
def numSumsWrong : ChangeSpec := { name := "numSums", fn := fun _ => fun
  | [d1, d2, d3] => { results := [.lit (.bool false)], args := [d1, d2, d3] }
  | _ => none }
def NumSumsWrongFalsely : Prop := numSumsRow.holds Try.pinned (OpenSpec.ofChange numSumsWrong)

/-- 'massiflaw06.WireReads': WHATEVER THE INPUT: true; the input reads as it did. -/
def wireReadsSpec : ChangeSpec := { name := "wireReads", fn := fun _ => fun
  | [d1, d2, d3, d4] => { results := [.lit (.bool true)], args := [d1, d2, d3, d4] }
  | _ => none }
def wireReadsRow : OpenClaim := { program := "ytbfmdcccnneanaa", sum := "1bcfa93db70c098dad441bfdc838e8d4ebaab03cd1e27bde5340e02d4f64119d", func := "massif/massiflaw06.WireReads", spec := "wireReads", apart := false }
def WireReadsSaid : Prop := wireReadsRow.holds Try.pinned (OpenSpec.ofChange wireReadsSpec)

/-- ITS FALSE NEIGHBOUR: 'it returns false'. Refute it at one input. -/
def wireReadsWrong : ChangeSpec := { name := "wireReads", fn := fun _ => fun
  | [d1, d2, d3, d4] => { results := [.lit (.bool false)], args := [d1, d2, d3, d4] }
  | _ => none }
def WireReadsWrongFalsely : Prop := wireReadsRow.holds Try.pinned (OpenSpec.ofChange wireReadsWrong)

/-- 'massiflaw06.WireBack': WHATEVER THE INPUT: true; the input reads as it did. -/
def wireBackSpec : ChangeSpec := { name := "wireBack", fn := fun _ => fun
  | [d1, d2] => { results := [.lit (.bool true)], args := [d1, d2] }
  | _ => none }
def wireBackRow : OpenClaim := { program := "ytbfmdcccnneanaa", sum := "1bcfa93db70c098dad441bfdc838e8d4ebaab03cd1e27bde5340e02d4f64119d", func := "massif/massiflaw06.WireBack", spec := "wireBack", apart := false }
def WireBackSaid : Prop := wireBackRow.holds Try.pinned (OpenSpec.ofChange wireBackSpec)

/-- ITS FALSE NEIGHBOUR: 'it returns false'. Refute it at one input. -/
def wireBackWrong : ChangeSpec := { name := "wireBack", fn := fun _ => fun
  | [d1, d2] => { results := [.lit (.bool false)], args := [d1, d2] }
  | _ => none }
def WireBackWrongFalsely : Prop := wireBackRow.holds Try.pinned (OpenSpec.ofChange wireBackWrong)

/-- 'massiflaw06.WireCut': WHATEVER THE INPUT: true; the input reads as it did. -/
def wireCutSpec : ChangeSpec := { name := "wireCut", fn := fun _ => fun
  | [d1, d2] => { results := [.lit (.bool true)], args := [d1, d2] }
  | _ => none }
def wireCutRow : OpenClaim := { program := "ytbfmdcccnneanaa", sum := "1bcfa93db70c098dad441bfdc838e8d4ebaab03cd1e27bde5340e02d4f64119d", func := "massif/massiflaw06.WireCut", spec := "wireCut", apart := false }
def WireCutSaid : Prop := wireCutRow.holds Try.pinned (OpenSpec.ofChange wireCutSpec)

/-- ITS FALSE NEIGHBOUR: 'it returns false'. Refute it at one input. -/
def wireCutWrong : ChangeSpec := { name := "wireCut", fn := fun _ => fun
  | [d1, d2] => { results := [.lit (.bool false)], args := [d1, d2] }
  | _ => none }
def WireCutWrongFalsely : Prop := wireCutRow.holds Try.pinned (OpenSpec.ofChange wireCutWrong)

/-- 'massiftop.ApiLimits': WHATEVER THE INPUT: true; the input reads as it did. -/
def apiLimitsSpec : ChangeSpec := { name := "apiLimits", fn := fun _ => fun
  | [] => { results := [.lit (.bool true)], args := [] }
  | _ => none }
def apiLimitsRow : OpenClaim := { program := "ytbfmdcccnneanaa", sum := "1bcfa93db70c098dad441bfdc838e8d4ebaab03cd1e27bde5340e02d4f64119d", func := "massif/massiftop.ApiLimits", spec := "apiLimits", apart := false }
def ApiLimitsSaid : Prop := apiLimitsRow.holds Try.pinned (OpenSpec.ofChange apiLimitsSpec)

/-- ITS FALSE NEIGHBOUR: 'it returns false'. Refute it at one input. -/
def apiLimitsWrong : ChangeSpec := { name := "apiLimits", fn := fun _ => fun
  | [] => { results := [.lit (.bool false)], args := [] }
  | _ => none }
def ApiLimitsWrongFalsely : Prop := apiLimitsRow.holds Try.pinned (OpenSpec.ofChange apiLimitsWrong)

/- THE SECOND FORM. 'bulk': how many values and letters a reading holds, each counted each time it is reached (what is shared counts as often as it is met; a slice's spare places count too). A statement '..UptoSaid' is the law's where the arguments, and the package variables that the reading takes, are together of bulk at most 1048576: NARROWER than '..Said'. Prove '..Said' where nothing that the law and all that it calls make is longer than what came in: it says more and counts as full. Else prove '..UptoSaid'. A law counts once. -/
mutual
def uptoBulk {H : Type} : DataW H → Nat
  | .lit (.string bytes) => bytes.length + 1
  | .lit _ => 1
  | .nil => 1
  | .ptr d => uptoBulk d + 1
  | .slice elems spare => uptoBulkAll elems + uptoBulkAll spare + 1
  | .agg parts => uptoBulkAll parts + 1
  | .iface _ d => uptoBulk d + 1
  | .map entries => uptoBulkEntries entries + 1
  | .held _ => 1
def uptoBulkAll {H : Type} : List (DataW H) → Nat
  | [] => 0
  | d :: r => uptoBulk d + uptoBulkAll r
def uptoBulkEntries {H : Type} : List (Lit × DataW H) → Nat
  | [] => 0
  | x :: r => uptoBulkEntry x + uptoBulkEntries r
def uptoBulkEntry {H : Type} : Lit × DataW H → Nat
  | (.string bytes, d) => bytes.length + uptoBulk d + 1
  | (_, d) => uptoBulk d + 1
 end
def uptoSmall : (H : Type) → List (DataW H) → Bool := fun _ ds => decide (uptoBulkAll ds ≤ 1048576)
def OpenSpec.upto (s : _root_.Go.ChangeSpec) : _root_.Go.OpenSpec := { _root_.Go.OpenSpec.ofChange s with cond := some uptoSmall }

/-- 'massiflaw02.NumAsks', WHERE WHAT IT READS IS OF BULK AT MOST 1048576: true; the input reads as it did. -/
def numAsksUptoRow : OpenClaim := { program := "ytbfmdcccnneanaa", sum := "1bcfa93db70c098dad441bfdc838e8d4ebaab03cd1e27bde5340e02d4f64119d", func := "massif/massiflaw02.NumAsks", spec := "numAsks", apart := false, narrowed := true }
def NumAsksUptoSaid : Prop := numAsksUptoRow.holds Try.pinned (OpenSpec.upto numAsksSpec)

/-- 'massiflaw02.NumBits', WHERE WHAT IT READS IS OF BULK AT MOST 1048576: true; the input reads as it did. -/
def numBitsUptoRow : OpenClaim := { program := "ytbfmdcccnneanaa", sum := "1bcfa93db70c098dad441bfdc838e8d4ebaab03cd1e27bde5340e02d4f64119d", func := "massif/massiflaw02.NumBits", spec := "numBits", apart := false, narrowed := true }
def NumBitsUptoSaid : Prop := numBitsUptoRow.holds Try.pinned (OpenSpec.upto numBitsSpec)

/-- 'massiflaw02.NumSums', WHERE WHAT IT READS IS OF BULK AT MOST 1048576: true; the input reads as it did. -/
def numSumsUptoRow : OpenClaim := { program := "ytbfmdcccnneanaa", sum := "1bcfa93db70c098dad441bfdc838e8d4ebaab03cd1e27bde5340e02d4f64119d", func := "massif/massiflaw02.NumSums", spec := "numSums", apart := false, narrowed := true }
def NumSumsUptoSaid : Prop := numSumsUptoRow.holds Try.pinned (OpenSpec.upto numSumsSpec)

/-- 'massiflaw06.WireReads', WHERE WHAT IT READS IS OF BULK AT MOST 1048576: true; the input reads as it did. -/
def wireReadsUptoRow : OpenClaim := { program := "ytbfmdcccnneanaa", sum := "1bcfa93db70c098dad441bfdc838e8d4ebaab03cd1e27bde5340e02d4f64119d", func := "massif/massiflaw06.WireReads", spec := "wireReads", apart := false, narrowed := true }
def WireReadsUptoSaid : Prop := wireReadsUptoRow.holds Try.pinned (OpenSpec.upto wireReadsSpec)

/-- 'massiflaw06.WireBack', WHERE WHAT IT READS IS OF BULK AT MOST 1048576: true; the input reads as it did. -/
def wireBackUptoRow : OpenClaim := { program := "ytbfmdcccnneanaa", sum := "1bcfa93db70c098dad441bfdc838e8d4ebaab03cd1e27bde5340e02d4f64119d", func := "massif/massiflaw06.WireBack", spec := "wireBack", apart := false, narrowed := true }
def WireBackUptoSaid : Prop := wireBackUptoRow.holds Try.pinned (OpenSpec.upto wireBackSpec)

/-- 'massiflaw06.WireCut', WHERE WHAT IT READS IS OF BULK AT MOST 1048576: true; the input reads as it did. -/
def wireCutUptoRow : OpenClaim := { program := "ytbfmdcccnneanaa", sum := "1bcfa93db70c098dad441bfdc838e8d4ebaab03cd1e27bde5340e02d4f64119d", func := "massif/massiflaw06.WireCut", spec := "wireCut", apart := false, narrowed := true }
def WireCutUptoSaid : Prop := wireCutUptoRow.holds Try.pinned (OpenSpec.upto wireCutSpec)

/-- 'massiftop.ApiLimits', WHERE WHAT IT READS IS OF BULK AT MOST 1048576: true; the input reads as it did. -/
def apiLimitsUptoRow : OpenClaim := { program := "ytbfmdcccnneanaa", sum := "1bcfa93db70c098dad441bfdc838e8d4ebaab03cd1e27bde5340e02d4f64119d", func := "massif/massiftop.ApiLimits", spec := "apiLimits", apart := false, narrowed := true }
def ApiLimitsUptoSaid : Prop := apiLimitsUptoRow.holds Try.pinned (OpenSpec.upto apiLimitsSpec)

end Rows
end Go.Proofs.Ytbfmdcccnneanaa
