/-
  No cell of these rows narrows 'for every input' (looked for: loops, veiled, ifaces, maps, wideKeys, modest, calm, conditions, laid).
  DERIVED. THE GIVEN ROWS OF THIS SEAT. 3 by the template 'for every input the law returns true; each argument reads behind the call as it read before'; 0 by the template 'total and deterministic' (their statements: YtdclafjgfnbibaaTotals.lean).
  GIVEN WITH THE SEED: the statements are not yours to turn. If you find one false, say at which input.
  Laid BY PROGRAM, IN A SANDBOX (cutbox-rows.mjs): the forced cells as the released guide's own fill.sh prints them over the translation bcd561a41f245810… (all of the seat's roots in one cut). By AI agents, Wed Nov 11 2026. No macro, syntax, notation, axiom, sorry.
-/
import Derived.Test.YtdclafjgfnbibaaChecked
import GoSem.Claim
import GoSem.ClaimJoined
import GoSem.ClaimMapViews
import Derived.JoinedTies
import Derived.KernelRfl
namespace Go.Proofs.Ytdclafjgfnbibaa
/- THE CELL 'sum', in the pinned program and in every row, IS THE sha256 OF THE DUMP (.gsa) THAT YtdclafjgfnbibaaProg.lean LOADS. Nothing in Lean hashes anything: it is a label: what it is worth is what the hold of that sum in a sandbox is worth. -/
noncomputable def Try.pinned : Pinned := { name := "ytdclafjgfnbibaa", sum := "bcd561a41f2458106247a12587e3aaaa527f2886ee5899f023f70b8188a67d22", checked := Try.checked }
namespace Rows
def none {H : Type} : Left H := { results := [], args := [] }

/-- 'massiflaw09.PeaksMemory': WHATEVER THE INPUT: true; the input reads as it did. -/
def peaksMemorySpec : ChangeSpec := { name := "peaksMemory", fn := fun _ => fun
  | [d1, d2, d3] => { results := [.lit (.bool true)], args := [d1, d2, d3] }
  | _ => none }
def peaksMemoryRow : OpenClaim := { program := "ytdclafjgfnbibaa", sum := "bcd561a41f2458106247a12587e3aaaa527f2886ee5899f023f70b8188a67d22", func := "massif/massiflaw09.PeaksMemory", spec := "peaksMemory", unfollowed := true, recurses := true, apart := false }
def PeaksMemorySaid : Prop := peaksMemoryRow.holds Try.pinned (OpenSpec.ofChange peaksMemorySpec)

/-- ITS FALSE NEIGHBOUR: 'it returns false'. Refute it at one input. -/
def peaksMemoryWrong : ChangeSpec := { name := "peaksMemory", fn := fun _ => fun
  | [d1, d2, d3] => { results := [.lit (.bool false)], args := [d1, d2, d3] }
  | _ => none }
def PeaksMemoryWrongFalsely : Prop := peaksMemoryRow.holds Try.pinned (OpenSpec.ofChange peaksMemoryWrong)

/-- 'massiflaw09.PeaksOn': WHATEVER THE INPUT: true; the input reads as it did. -/
def peaksOnSpec : ChangeSpec := { name := "peaksOn", fn := fun _ => fun
  | [d1, d2, d3] => { results := [.lit (.bool true)], args := [d1, d2, d3] }
  | _ => none }
def peaksOnRow : OpenClaim := { program := "ytdclafjgfnbibaa", sum := "bcd561a41f2458106247a12587e3aaaa527f2886ee5899f023f70b8188a67d22", func := "massif/massiflaw09.PeaksOn", spec := "peaksOn", unfollowed := true, recurses := true, apart := false }
def PeaksOnSaid : Prop := peaksOnRow.holds Try.pinned (OpenSpec.ofChange peaksOnSpec)

/-- ITS FALSE NEIGHBOUR: 'it returns false'. Refute it at one input. -/
def peaksOnWrong : ChangeSpec := { name := "peaksOn", fn := fun _ => fun
  | [d1, d2, d3] => { results := [.lit (.bool false)], args := [d1, d2, d3] }
  | _ => none }
def PeaksOnWrongFalsely : Prop := peaksOnRow.holds Try.pinned (OpenSpec.ofChange peaksOnWrong)

/-- 'massiflaw09.PeaksRefused': WHATEVER THE INPUT: true; the input reads as it did. -/
def peaksRefusedSpec : ChangeSpec := { name := "peaksRefused", fn := fun _ => fun
  | [d1, d2, d3] => { results := [.lit (.bool true)], args := [d1, d2, d3] }
  | _ => none }
def peaksRefusedRow : OpenClaim := { program := "ytdclafjgfnbibaa", sum := "bcd561a41f2458106247a12587e3aaaa527f2886ee5899f023f70b8188a67d22", func := "massif/massiflaw09.PeaksRefused", spec := "peaksRefused", unfollowed := true, recurses := true, apart := false }
def PeaksRefusedSaid : Prop := peaksRefusedRow.holds Try.pinned (OpenSpec.ofChange peaksRefusedSpec)

/-- ITS FALSE NEIGHBOUR: 'it returns false'. Refute it at one input. -/
def peaksRefusedWrong : ChangeSpec := { name := "peaksRefused", fn := fun _ => fun
  | [d1, d2, d3] => { results := [.lit (.bool false)], args := [d1, d2, d3] }
  | _ => none }
def PeaksRefusedWrongFalsely : Prop := peaksRefusedRow.holds Try.pinned (OpenSpec.ofChange peaksRefusedWrong)

/- THE SECOND FORM. 'bulk': how many values and letters a reading holds, each counted each time it is reached (what is shared counts as often as it is met; a slice's spare places count too). A statement '..UptoSaid' is the law's where the arguments, and the package variables that the reading takes, are together of bulk at most 1048576: NARROWER than '..Said'. Prove '..Said' where nothing that the law and all that it calls make is longer than what came in: it says more and counts as full. Else prove '..UptoSaid'. A law counts once. -/
mutual
def uptoBulk {H : Type} : DataW H → Nat
  | .lit (.string bytes) => bytes.length + 1
  | .lit _ => 1
  | .nil => 1
  | .ptr d => uptoBulk d + 1
  | .slice elems spare => uptoBulkAll elems + uptoBulkAll spare + 1
  | .agg parts => uptoBulkAll parts + 1
  | .iface _ d => uptoBulk d + 1
  | .map entries => uptoBulkEntries entries + 1
  | .held _ => 1
def uptoBulkAll {H : Type} : List (DataW H) → Nat
  | [] => 0
  | d :: r => uptoBulk d + uptoBulkAll r
def uptoBulkEntries {H : Type} : List (Lit × DataW H) → Nat
  | [] => 0
  | x :: r => uptoBulkEntry x + uptoBulkEntries r
def uptoBulkEntry {H : Type} : Lit × DataW H → Nat
  | (.string bytes, d) => bytes.length + uptoBulk d + 1
  | (_, d) => uptoBulk d + 1
 end
def uptoSmall : (H : Type) → List (DataW H) → Bool := fun _ ds => decide (uptoBulkAll ds ≤ 1048576)
def OpenSpec.upto (s : _root_.Go.ChangeSpec) : _root_.Go.OpenSpec := { _root_.Go.OpenSpec.ofChange s with cond := some uptoSmall }

/-- 'massiflaw09.PeaksMemory', WHERE WHAT IT READS IS OF BULK AT MOST 1048576: true; the input reads as it did. -/
def peaksMemoryUptoRow : OpenClaim := { program := "ytdclafjgfnbibaa", sum := "bcd561a41f2458106247a12587e3aaaa527f2886ee5899f023f70b8188a67d22", func := "massif/massiflaw09.PeaksMemory", spec := "peaksMemory", unfollowed := true, recurses := true, apart := false, narrowed := true }
def PeaksMemoryUptoSaid : Prop := peaksMemoryUptoRow.holds Try.pinned (OpenSpec.upto peaksMemorySpec)

/-- 'massiflaw09.PeaksOn', WHERE WHAT IT READS IS OF BULK AT MOST 1048576: true; the input reads as it did. -/
def peaksOnUptoRow : OpenClaim := { program := "ytdclafjgfnbibaa", sum := "bcd561a41f2458106247a12587e3aaaa527f2886ee5899f023f70b8188a67d22", func := "massif/massiflaw09.PeaksOn", spec := "peaksOn", unfollowed := true, recurses := true, apart := false, narrowed := true }
def PeaksOnUptoSaid : Prop := peaksOnUptoRow.holds Try.pinned (OpenSpec.upto peaksOnSpec)

/-- 'massiflaw09.PeaksRefused', WHERE WHAT IT READS IS OF BULK AT MOST 1048576: true; the input reads as it did. -/
def peaksRefusedUptoRow : OpenClaim := { program := "ytdclafjgfnbibaa", sum := "bcd561a41f2458106247a12587e3aaaa527f2886ee5899f023f70b8188a67d22", func := "massif/massiflaw09.PeaksRefused", spec := "peaksRefused", unfollowed := true, recurses := true, apart := false, narrowed := true }
def PeaksRefusedUptoSaid : Prop := peaksRefusedUptoRow.holds Try.pinned (OpenSpec.upto peaksRefusedSpec)

end Rows
end Go.Proofs.Ytdclafjgfnbibaa
