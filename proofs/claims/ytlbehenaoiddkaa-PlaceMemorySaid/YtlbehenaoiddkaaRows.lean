/-
  No cell of these rows narrows 'for every input' (looked for: loops, veiled, ifaces, maps, wideKeys, modest, calm, conditions, laid).
  DERIVED. THE GIVEN ROWS OF THIS SEAT. 8 by the template 'for every input the law returns true; each argument reads behind the call as it read before'; 0 by the template 'total and deterministic' (their statements: YtlbehenaoiddkaaTotals.lean).
  GIVEN WITH THE SEED: the statements are not yours to turn. If you find one false, say at which input.
  Laid BY PROGRAM, IN A SANDBOX (cutbox-rows.mjs): the forced cells as the released guide's own fill.sh prints them over the translation e043f43cdf4e8a0e… (all of the seat's roots in one cut). By AI agents, Wed Nov 11 2026. No macro, syntax, notation, axiom, sorry.
-/
import Derived.Test.YtlbehenaoiddkaaChecked
import GoSem.Claim
import GoSem.ClaimJoined
import GoSem.ClaimMapViews
import Derived.JoinedTies
import Derived.KernelRfl
namespace Go.Proofs.Ytlbehenaoiddkaa
/- THE CELL 'sum', in the pinned program and in every row, IS THE sha256 OF THE DUMP (.gsa) THAT YtlbehenaoiddkaaProg.lean LOADS. Nothing in Lean hashes anything: it is a label: what it is worth is what the hold of that sum in a sandbox is worth. -/
noncomputable def Try.pinned : Pinned := { name := "ytlbehenaoiddkaa", sum := "e043f43cdf4e8a0ec95d2ae6e59854fb521be91595fe419698c6042b9e8f903f", checked := Try.checked }
namespace Rows
def none {H : Type} : Left H := { results := [], args := [] }

/-- 'massiflaw03.PlaceNumbers': WHATEVER THE INPUT: true; the input reads as it did. -/
def placeNumbersSpec : ChangeSpec := { name := "placeNumbers", fn := fun _ => fun
  | [d1, d2] => { results := [.lit (.bool true)], args := [d1, d2] }
  | _ => none }
def placeNumbersRow : OpenClaim := { program := "ytlbehenaoiddkaa", sum := "e043f43cdf4e8a0ec95d2ae6e59854fb521be91595fe419698c6042b9e8f903f", func := "massif/massiflaw03.PlaceNumbers", spec := "placeNumbers", apart := false }
def PlaceNumbersSaid : Prop := placeNumbersRow.holds Try.pinned (OpenSpec.ofChange placeNumbersSpec)

/-- ITS FALSE NEIGHBOUR: 'it returns false'. Refute it at one input. -/
def placeNumbersWrong : ChangeSpec := { name := "placeNumbers", fn := fun _ => fun
  | [d1, d2] => { results := [.lit (.bool false)], args := [d1, d2] }
  | _ => none }
def PlaceNumbersWrongFalsely : Prop := placeNumbersRow.holds Try.pinned (OpenSpec.ofChange placeNumbersWrong)

/-- 'massiflaw03.PlacePlaces': WHATEVER THE INPUT: true; the input reads as it did. -/
def placePlacesSpec : ChangeSpec := { name := "placePlaces", fn := fun _ => fun
  | [d] => { results := [.lit (.bool true)], args := [d] }
  | _ => none }
def placePlacesRow : OpenClaim := { program := "ytlbehenaoiddkaa", sum := "e043f43cdf4e8a0ec95d2ae6e59854fb521be91595fe419698c6042b9e8f903f", func := "massif/massiflaw03.PlacePlaces", spec := "placePlaces", apart := false }
def PlacePlacesSaid : Prop := placePlacesRow.holds Try.pinned (OpenSpec.ofChange placePlacesSpec)

/-- ITS FALSE NEIGHBOUR: 'it returns false'. Refute it at one input. -/
def placePlacesWrong : ChangeSpec := { name := "placePlaces", fn := fun _ => fun
  | [d] => { results := [.lit (.bool false)], args := [d] }
  | _ => none }
def PlacePlacesWrongFalsely : Prop := placePlacesRow.holds Try.pinned (OpenSpec.ofChange placePlacesWrong)

/-- 'massiflaw03.PlaceBack': WHATEVER THE INPUT: true; the input reads as it did. -/
def placeBackSpec : ChangeSpec := { name := "placeBack", fn := fun _ => fun
  | [d1, d2] => { results := [.lit (.bool true)], args := [d1, d2] }
  | _ => none }
def placeBackRow : OpenClaim := { program := "ytlbehenaoiddkaa", sum := "e043f43cdf4e8a0ec95d2ae6e59854fb521be91595fe419698c6042b9e8f903f", func := "massif/massiflaw03.PlaceBack", spec := "placeBack", apart := false }
def PlaceBackSaid : Prop := placeBackRow.holds Try.pinned (OpenSpec.ofChange placeBackSpec)

/-- ITS FALSE NEIGHBOUR: 'it returns false'. Refute it at one input. -/
def placeBackWrong : ChangeSpec := { name := "placeBack", fn := fun _ => fun
  | [d1, d2] => { results := [.lit (.bool false)], args := [d1, d2] }
  | _ => none }
def PlaceBackWrongFalsely : Prop := placeBackRow.holds Try.pinned (OpenSpec.ofChange placeBackWrong)

/-- 'massiflaw03.PlacePostorder': WHATEVER THE INPUT: true; the input reads as it did. -/
def placePostorderSpec : ChangeSpec := { name := "placePostorder", fn := fun _ => fun
  | [d] => { results := [.lit (.bool true)], args := [d] }
  | _ => none }
def placePostorderRow : OpenClaim := { program := "ytlbehenaoiddkaa", sum := "e043f43cdf4e8a0ec95d2ae6e59854fb521be91595fe419698c6042b9e8f903f", func := "massif/massiflaw03.PlacePostorder", spec := "placePostorder", apart := false }
def PlacePostorderSaid : Prop := placePostorderRow.holds Try.pinned (OpenSpec.ofChange placePostorderSpec)

/-- ITS FALSE NEIGHBOUR: 'it returns false'. Refute it at one input. -/
def placePostorderWrong : ChangeSpec := { name := "placePostorder", fn := fun _ => fun
  | [d] => { results := [.lit (.bool false)], args := [d] }
  | _ => none }
def PlacePostorderWrongFalsely : Prop := placePostorderRow.holds Try.pinned (OpenSpec.ofChange placePostorderWrong)

/-- 'massiflaw03.PlaceGrows': WHATEVER THE INPUT: true; the input reads as it did. -/
def placeGrowsSpec : ChangeSpec := { name := "placeGrows", fn := fun _ => fun
  | [d] => { results := [.lit (.bool true)], args := [d] }
  | _ => none }
def placeGrowsRow : OpenClaim := { program := "ytlbehenaoiddkaa", sum := "e043f43cdf4e8a0ec95d2ae6e59854fb521be91595fe419698c6042b9e8f903f", func := "massif/massiflaw03.PlaceGrows", spec := "placeGrows", apart := false }
def PlaceGrowsSaid : Prop := placeGrowsRow.holds Try.pinned (OpenSpec.ofChange placeGrowsSpec)

/-- ITS FALSE NEIGHBOUR: 'it returns false'. Refute it at one input. -/
def placeGrowsWrong : ChangeSpec := { name := "placeGrows", fn := fun _ => fun
  | [d] => { results := [.lit (.bool false)], args := [d] }
  | _ => none }
def PlaceGrowsWrongFalsely : Prop := placeGrowsRow.holds Try.pinned (OpenSpec.ofChange placeGrowsWrong)

/-- 'massiflaw03.PlacePeaks': WHATEVER THE INPUT: true; the input reads as it did. -/
def placePeaksSpec : ChangeSpec := { name := "placePeaks", fn := fun _ => fun
  | [d] => { results := [.lit (.bool true)], args := [d] }
  | _ => none }
def placePeaksRow : OpenClaim := { program := "ytlbehenaoiddkaa", sum := "e043f43cdf4e8a0ec95d2ae6e59854fb521be91595fe419698c6042b9e8f903f", func := "massif/massiflaw03.PlacePeaks", spec := "placePeaks", apart := false }
def PlacePeaksSaid : Prop := placePeaksRow.holds Try.pinned (OpenSpec.ofChange placePeaksSpec)

/-- ITS FALSE NEIGHBOUR: 'it returns false'. Refute it at one input. -/
def placePeaksWrong : ChangeSpec := { name := "placePeaks", fn := fun _ => fun
  | [d] => { results := [.lit (.bool false)], args := [d] }
  | _ => none }
def PlacePeaksWrongFalsely : Prop := placePeaksRow.holds Try.pinned (OpenSpec.ofChange placePeaksWrong)

/-- 'massiflaw03.PlaceRow': WHATEVER THE INPUT: true; the input reads as it did. -/
def placeRowSpec : ChangeSpec := { name := "placeRow", fn := fun _ => fun
  | [d] => { results := [.lit (.bool true)], args := [d] }
  | _ => none }
def placeRowRow : OpenClaim := { program := "ytlbehenaoiddkaa", sum := "e043f43cdf4e8a0ec95d2ae6e59854fb521be91595fe419698c6042b9e8f903f", func := "massif/massiflaw03.PlaceRow", spec := "placeRow", apart := false }
def PlaceRowSaid : Prop := placeRowRow.holds Try.pinned (OpenSpec.ofChange placeRowSpec)

/-- ITS FALSE NEIGHBOUR: 'it returns false'. Refute it at one input. -/
def placeRowWrong : ChangeSpec := { name := "placeRow", fn := fun _ => fun
  | [d] => { results := [.lit (.bool false)], args := [d] }
  | _ => none }
def PlaceRowWrongFalsely : Prop := placeRowRow.holds Try.pinned (OpenSpec.ofChange placeRowWrong)

/-- 'massiflaw03.PlaceMemory': WHATEVER THE INPUT: true; the input reads as it did. -/
def placeMemorySpec : ChangeSpec := { name := "placeMemory", fn := fun _ => fun
  | [d1, d2] => { results := [.lit (.bool true)], args := [d1, d2] }
  | _ => none }
def placeMemoryRow : OpenClaim := { program := "ytlbehenaoiddkaa", sum := "e043f43cdf4e8a0ec95d2ae6e59854fb521be91595fe419698c6042b9e8f903f", func := "massif/massiflaw03.PlaceMemory", spec := "placeMemory", apart := false }
def PlaceMemorySaid : Prop := placeMemoryRow.holds Try.pinned (OpenSpec.ofChange placeMemorySpec)

/-- ITS FALSE NEIGHBOUR: 'it returns false'. Refute it at one input. -/
def placeMemoryWrong : ChangeSpec := { name := "placeMemory", fn := fun _ => fun
  | [d1, d2] => { results := [.lit (.bool false)], args := [d1, d2] }
  | _ => none }
def PlaceMemoryWrongFalsely : Prop := placeMemoryRow.holds Try.pinned (OpenSpec.ofChange placeMemoryWrong)

/- THE SECOND FORM. 'bulk': how many values and letters a reading holds, each counted each time it is reached (what is shared counts as often as it is met; a slice's spare places count too). A statement '..UptoSaid' is the law's where the arguments, and the package variables that the reading takes, are together of bulk at most 1048576: NARROWER than '..Said'. Prove '..Said' where nothing that the law and all that it calls make is longer than what came in: it says more and counts as full. Else prove '..UptoSaid'. A law counts once. -/
mutual
def uptoBulk {H : Type} : DataW H → Nat
  | .lit (.string bytes) => bytes.length + 1
  | .lit _ => 1
  | .nil => 1
  | .ptr d => uptoBulk d + 1
  | .slice elems spare => uptoBulkAll elems + uptoBulkAll spare + 1
  | .agg parts => uptoBulkAll parts + 1
  | .iface _ d => uptoBulk d + 1
  | .map entries => uptoBulkEntries entries + 1
  | .held _ => 1
def uptoBulkAll {H : Type} : List (DataW H) → Nat
  | [] => 0
  | d :: r => uptoBulk d + uptoBulkAll r
def uptoBulkEntries {H : Type} : List (Lit × DataW H) → Nat
  | [] => 0
  | x :: r => uptoBulkEntry x + uptoBulkEntries r
def uptoBulkEntry {H : Type} : Lit × DataW H → Nat
  | (.string bytes, d) => bytes.length + uptoBulk d + 1
  | (_, d) => uptoBulk d + 1
 end
def uptoSmall : (H : Type) → List (DataW H) → Bool := fun _ ds => decide (uptoBulkAll ds ≤ 1048576)
def OpenSpec.upto (s : _root_.Go.ChangeSpec) : _root_.Go.OpenSpec := { _root_.Go.OpenSpec.ofChange s with cond := some uptoSmall }

/-- 'massiflaw03.PlaceNumbers', WHERE WHAT IT READS IS OF BULK AT MOST 1048576: true; the input reads as it did. -/
def placeNumbersUptoRow : OpenClaim := { program := "ytlbehenaoiddkaa", sum := "e043f43cdf4e8a0ec95d2ae6e59854fb521be91595fe419698c6042b9e8f903f", func := "massif/massiflaw03.PlaceNumbers", spec := "placeNumbers", apart := false, narrowed := true }
def PlaceNumbersUptoSaid : Prop := placeNumbersUptoRow.holds Try.pinned (OpenSpec.upto placeNumbersSpec)

/-- 'massiflaw03.PlacePlaces', WHERE WHAT IT READS IS OF BULK AT MOST 1048576: true; the input reads as it did. -/
def placePlacesUptoRow : OpenClaim := { program := "ytlbehenaoiddkaa", sum := "e043f43cdf4e8a0ec95d2ae6e59854fb521be91595fe419698c6042b9e8f903f", func := "massif/massiflaw03.PlacePlaces", spec := "placePlaces", apart := false, narrowed := true }
def PlacePlacesUptoSaid : Prop := placePlacesUptoRow.holds Try.pinned (OpenSpec.upto placePlacesSpec)

/-- 'massiflaw03.PlaceBack', WHERE WHAT IT READS IS OF BULK AT MOST 1048576: true; the input reads as it did. -/
def placeBackUptoRow : OpenClaim := { program := "ytlbehenaoiddkaa", sum := "e043f43cdf4e8a0ec95d2ae6e59854fb521be91595fe419698c6042b9e8f903f", func := "massif/massiflaw03.PlaceBack", spec := "placeBack", apart := false, narrowed := true }
def PlaceBackUptoSaid : Prop := placeBackUptoRow.holds Try.pinned (OpenSpec.upto placeBackSpec)

/-- 'massiflaw03.PlacePostorder', WHERE WHAT IT READS IS OF BULK AT MOST 1048576: true; the input reads as it did. -/
def placePostorderUptoRow : OpenClaim := { program := "ytlbehenaoiddkaa", sum := "e043f43cdf4e8a0ec95d2ae6e59854fb521be91595fe419698c6042b9e8f903f", func := "massif/massiflaw03.PlacePostorder", spec := "placePostorder", apart := false, narrowed := true }
def PlacePostorderUptoSaid : Prop := placePostorderUptoRow.holds Try.pinned (OpenSpec.upto placePostorderSpec)

/-- 'massiflaw03.PlaceGrows', WHERE WHAT IT READS IS OF BULK AT MOST 1048576: true; the input reads as it did. -/
def placeGrowsUptoRow : OpenClaim := { program := "ytlbehenaoiddkaa", sum := "e043f43cdf4e8a0ec95d2ae6e59854fb521be91595fe419698c6042b9e8f903f", func := "massif/massiflaw03.PlaceGrows", spec := "placeGrows", apart := false, narrowed := true }
def PlaceGrowsUptoSaid : Prop := placeGrowsUptoRow.holds Try.pinned (OpenSpec.upto placeGrowsSpec)

/-- 'massiflaw03.PlacePeaks', WHERE WHAT IT READS IS OF BULK AT MOST 1048576: true; the input reads as it did. -/
def placePeaksUptoRow : OpenClaim := { program := "ytlbehenaoiddkaa", sum := "e043f43cdf4e8a0ec95d2ae6e59854fb521be91595fe419698c6042b9e8f903f", func := "massif/massiflaw03.PlacePeaks", spec := "placePeaks", apart := false, narrowed := true }
def PlacePeaksUptoSaid : Prop := placePeaksUptoRow.holds Try.pinned (OpenSpec.upto placePeaksSpec)

/-- 'massiflaw03.PlaceRow', WHERE WHAT IT READS IS OF BULK AT MOST 1048576: true; the input reads as it did. -/
def placeRowUptoRow : OpenClaim := { program := "ytlbehenaoiddkaa", sum := "e043f43cdf4e8a0ec95d2ae6e59854fb521be91595fe419698c6042b9e8f903f", func := "massif/massiflaw03.PlaceRow", spec := "placeRow", apart := false, narrowed := true }
def PlaceRowUptoSaid : Prop := placeRowUptoRow.holds Try.pinned (OpenSpec.upto placeRowSpec)

/-- 'massiflaw03.PlaceMemory', WHERE WHAT IT READS IS OF BULK AT MOST 1048576: true; the input reads as it did. -/
def placeMemoryUptoRow : OpenClaim := { program := "ytlbehenaoiddkaa", sum := "e043f43cdf4e8a0ec95d2ae6e59854fb521be91595fe419698c6042b9e8f903f", func := "massif/massiflaw03.PlaceMemory", spec := "placeMemory", apart := false, narrowed := true }
def PlaceMemoryUptoSaid : Prop := placeMemoryUptoRow.holds Try.pinned (OpenSpec.upto placeMemorySpec)

end Rows
end Go.Proofs.Ytlbehenaoiddkaa
