/-
  NARROWER THAN 'FOR EVERY INPUT', by the rows' own cells (each row's printed sentence says how): ShaOf: laid · ShaLengths: laid · HashBegins: laid · HashAsks: laid · PlainFresh: laid · PlainAsks: laid.
  DERIVED. THE GIVEN ROWS OF THIS SEAT. 6 by the template 'for every input the law returns true; each argument reads behind the call as it read before'; 0 by the template 'total and deterministic' (their statements: YtcghicmdphfodaaDoorTotals.lean).
  GIVEN WITH THE SEED: the statements are not yours to turn. If you find one false, say at which input.
  Laid BY PROGRAM, IN A SANDBOX (cutbox-rows.mjs): the forced cells as the released guide's own fill.sh prints them over the translation 5d8faf4f7e2b7a65… (all of the seat's roots in one cut). By AI agents, Wed Nov 11 2026. No macro, syntax, notation, axiom, sorry.
-/
import Derived.Test.YtcghicmdphfodaaDoorChecked
import GoSem.Claim
import GoSem.ClaimJoined
import GoSem.ClaimMapViews
import Derived.JoinedTies
import Derived.KernelRfl
namespace Go.Proofs.YtcghicmdphfodaaDoor
/- THE CELL 'sum', in the pinned program and in every row, IS THE sha256 OF THE DUMP (.gsa) THAT YtcghicmdphfodaaDoorProg.lean LOADS. Nothing in Lean hashes anything: it is a label: what it is worth is what the hold of that sum in a sandbox is worth. -/
noncomputable def Tryd.pinned : Pinned := { name := "ytcghicmdphfodaadoor", sum := "5d8faf4f7e2b7a659e34de048422fb5baf8d9fdd0044bcb78858a007aa189a2f", checked := Tryd.checked }
namespace Rows
def none {H : Type} : Left H := { results := [], args := [] }

/- WHAT THE LISTED PACKAGE-LEVEL VARIABLES READ AS WHEN THE CALL BEGINS. Each datum BY PROGRAM (the guide's laid-datum.mjs) off the statement by which the dump's own 'gosem.cut.vars' lays the variable. In a bare row this is a premise. The card (YtcghicmdphfodaaDoorCards.lean) ties it to the program's text. -/
def laid_massif_massifref01_first {H : Type} : DataW H := .agg [.lit (.int .u32 1779033703), .lit (.int .u32 3144134277), .lit (.int .u32 1013904242), .lit (.int .u32 2773480762), .lit (.int .u32 1359893119), .lit (.int .u32 2600822924), .lit (.int .u32 528734635), .lit (.int .u32 1541459225)]
def laid_massif_massifref01_rounds {H : Type} : DataW H := .agg [.lit (.int .u32 1116352408), .lit (.int .u32 1899447441), .lit (.int .u32 3049323471), .lit (.int .u32 3921009573), .lit (.int .u32 961987163), .lit (.int .u32 1508970993), .lit (.int .u32 2453635748), .lit (.int .u32 2870763221), .lit (.int .u32 3624381080), .lit (.int .u32 310598401), .lit (.int .u32 607225278), .lit (.int .u32 1426881987), .lit (.int .u32 1925078388), .lit (.int .u32 2162078206), .lit (.int .u32 2614888103), .lit (.int .u32 3248222580), .lit (.int .u32 3835390401), .lit (.int .u32 4022224774), .lit (.int .u32 264347078), .lit (.int .u32 604807628), .lit (.int .u32 770255983), .lit (.int .u32 1249150122), .lit (.int .u32 1555081692), .lit (.int .u32 1996064986), .lit (.int .u32 2554220882), .lit (.int .u32 2821834349), .lit (.int .u32 2952996808), .lit (.int .u32 3210313671), .lit (.int .u32 3336571891), .lit (.int .u32 3584528711), .lit (.int .u32 113926993), .lit (.int .u32 338241895), .lit (.int .u32 666307205), .lit (.int .u32 773529912), .lit (.int .u32 1294757372), .lit (.int .u32 1396182291), .lit (.int .u32 1695183700), .lit (.int .u32 1986661051), .lit (.int .u32 2177026350), .lit (.int .u32 2456956037), .lit (.int .u32 2730485921), .lit (.int .u32 2820302411), .lit (.int .u32 3259730800), .lit (.int .u32 3345764771), .lit (.int .u32 3516065817), .lit (.int .u32 3600352804), .lit (.int .u32 4094571909), .lit (.int .u32 275423344), .lit (.int .u32 430227734), .lit (.int .u32 506948616), .lit (.int .u32 659060556), .lit (.int .u32 883997877), .lit (.int .u32 958139571), .lit (.int .u32 1322822218), .lit (.int .u32 1537002063), .lit (.int .u32 1747873779), .lit (.int .u32 1955562222), .lit (.int .u32 2024104815), .lit (.int .u32 2227730452), .lit (.int .u32 2361852424), .lit (.int .u32 2428436474), .lit (.int .u32 2756734187), .lit (.int .u32 3204031479), .lit (.int .u32 3329325298)]

/-- 'massiflaw01.ShaOf': WHATEVER THE INPUT: true; the input reads as it did. -/
def shaOfSpec : ChangeSpec := { name := "shaOf", fn := fun _ => fun
  | [d] => { results := [.lit (.bool true)], args := [d] }
  | _ => none }
def shaOfRow : OpenClaim := { program := "ytcghicmdphfodaadoor", sum := "5d8faf4f7e2b7a659e34de048422fb5baf8d9fdd0044bcb78858a007aa189a2f", func := "massif/massiflaw01.ShaOf", spec := "shaOf", named := ["massif/massifref01.first", "massif/massifref01.rounds"], apart := false, laid := [("massif/massifref01.first", laid_massif_massifref01_first), ("massif/massifref01.rounds", laid_massif_massifref01_rounds)] }
def ShaOfSaid : Prop := shaOfRow.holds Tryd.pinned (OpenSpec.ofChange shaOfSpec)

/-- ITS FALSE NEIGHBOUR: 'it returns false'. Refute it at one input. -/
def shaOfWrong : ChangeSpec := { name := "shaOf", fn := fun _ => fun
  | [d] => { results := [.lit (.bool false)], args := [d] }
  | _ => none }
def ShaOfWrongFalsely : Prop := shaOfRow.holds Tryd.pinned (OpenSpec.ofChange shaOfWrong)

/-- 'massiflaw01.ShaLengths': WHATEVER THE INPUT: true; the input reads as it did. -/
def shaLengthsSpec : ChangeSpec := { name := "shaLengths", fn := fun _ => fun
  | [d1, d2] => { results := [.lit (.bool true)], args := [d1, d2] }
  | _ => none }
def shaLengthsRow : OpenClaim := { program := "ytcghicmdphfodaadoor", sum := "5d8faf4f7e2b7a659e34de048422fb5baf8d9fdd0044bcb78858a007aa189a2f", func := "massif/massiflaw01.ShaLengths", spec := "shaLengths", named := ["massif/massifref01.first", "massif/massifref01.rounds"], apart := false, laid := [("massif/massifref01.first", laid_massif_massifref01_first), ("massif/massifref01.rounds", laid_massif_massifref01_rounds)] }
def ShaLengthsSaid : Prop := shaLengthsRow.holds Tryd.pinned (OpenSpec.ofChange shaLengthsSpec)

/-- ITS FALSE NEIGHBOUR: 'it returns false'. Refute it at one input. -/
def shaLengthsWrong : ChangeSpec := { name := "shaLengths", fn := fun _ => fun
  | [d1, d2] => { results := [.lit (.bool false)], args := [d1, d2] }
  | _ => none }
def ShaLengthsWrongFalsely : Prop := shaLengthsRow.holds Tryd.pinned (OpenSpec.ofChange shaLengthsWrong)

/-- 'massiflaw07.HashBegins': WHATEVER THE INPUT: true; the input reads as it did. -/
def hashBeginsSpec : ChangeSpec := { name := "hashBegins", fn := fun _ => fun
  | [d1, d2, d3] => { results := [.lit (.bool true)], args := [d1, d2, d3] }
  | _ => none }
def hashBeginsRow : OpenClaim := { program := "ytcghicmdphfodaadoor", sum := "5d8faf4f7e2b7a659e34de048422fb5baf8d9fdd0044bcb78858a007aa189a2f", func := "massif/massiflaw07.HashBegins", spec := "hashBegins", named := ["massif/massifref01.first", "massif/massifref01.rounds"], apart := false, laid := [("massif/massifref01.first", laid_massif_massifref01_first), ("massif/massifref01.rounds", laid_massif_massifref01_rounds)] }
def HashBeginsSaid : Prop := hashBeginsRow.holds Tryd.pinned (OpenSpec.ofChange hashBeginsSpec)

/-- ITS FALSE NEIGHBOUR: 'it returns false'. Refute it at one input. -/
def hashBeginsWrong : ChangeSpec := { name := "hashBegins", fn := fun _ => fun
  | [d1, d2, d3] => { results := [.lit (.bool false)], args := [d1, d2, d3] }
  | _ => none }
def HashBeginsWrongFalsely : Prop := hashBeginsRow.holds Tryd.pinned (OpenSpec.ofChange hashBeginsWrong)

/-- 'massiflaw07.HashAsks': WHATEVER THE INPUT: true; the input reads as it did. -/
def hashAsksSpec : ChangeSpec := { name := "hashAsks", fn := fun _ => fun
  | [d1, d2, d3] => { results := [.lit (.bool true)], args := [d1, d2, d3] }
  | _ => none }
def hashAsksRow : OpenClaim := { program := "ytcghicmdphfodaadoor", sum := "5d8faf4f7e2b7a659e34de048422fb5baf8d9fdd0044bcb78858a007aa189a2f", func := "massif/massiflaw07.HashAsks", spec := "hashAsks", named := ["massif/massifref01.first", "massif/massifref01.rounds"], apart := false, laid := [("massif/massifref01.first", laid_massif_massifref01_first), ("massif/massifref01.rounds", laid_massif_massifref01_rounds)] }
def HashAsksSaid : Prop := hashAsksRow.holds Tryd.pinned (OpenSpec.ofChange hashAsksSpec)

/-- ITS FALSE NEIGHBOUR: 'it returns false'. Refute it at one input. -/
def hashAsksWrong : ChangeSpec := { name := "hashAsks", fn := fun _ => fun
  | [d1, d2, d3] => { results := [.lit (.bool false)], args := [d1, d2, d3] }
  | _ => none }
def HashAsksWrongFalsely : Prop := hashAsksRow.holds Tryd.pinned (OpenSpec.ofChange hashAsksWrong)

/-- 'massiflaw08.PlainFresh': WHATEVER THE INPUT: true; the input reads as it did. -/
def plainFreshSpec : ChangeSpec := { name := "plainFresh", fn := fun _ => fun
  | [d] => { results := [.lit (.bool true)], args := [d] }
  | _ => none }
def plainFreshRow : OpenClaim := { program := "ytcghicmdphfodaadoor", sum := "5d8faf4f7e2b7a659e34de048422fb5baf8d9fdd0044bcb78858a007aa189a2f", func := "massif/massiflaw08.PlainFresh", spec := "plainFresh", recurses := true, named := ["massif/massifref01.first", "massif/massifref01.rounds"], apart := false, laid := [("massif/massifref01.first", laid_massif_massifref01_first), ("massif/massifref01.rounds", laid_massif_massifref01_rounds)] }
def PlainFreshSaid : Prop := plainFreshRow.holds Tryd.pinned (OpenSpec.ofChange plainFreshSpec)

/-- ITS FALSE NEIGHBOUR: 'it returns false'. Refute it at one input. -/
def plainFreshWrong : ChangeSpec := { name := "plainFresh", fn := fun _ => fun
  | [d] => { results := [.lit (.bool false)], args := [d] }
  | _ => none }
def PlainFreshWrongFalsely : Prop := plainFreshRow.holds Tryd.pinned (OpenSpec.ofChange plainFreshWrong)

/-- 'massiflaw08.PlainAsks': WHATEVER THE INPUT: true; the input reads as it did. -/
def plainAsksSpec : ChangeSpec := { name := "plainAsks", fn := fun _ => fun
  | [d1, d2, d3] => { results := [.lit (.bool true)], args := [d1, d2, d3] }
  | _ => none }
def plainAsksRow : OpenClaim := { program := "ytcghicmdphfodaadoor", sum := "5d8faf4f7e2b7a659e34de048422fb5baf8d9fdd0044bcb78858a007aa189a2f", func := "massif/massiflaw08.PlainAsks", spec := "plainAsks", recurses := true, named := ["massif/massifref01.first", "massif/massifref01.rounds"], apart := false, laid := [("massif/massifref01.first", laid_massif_massifref01_first), ("massif/massifref01.rounds", laid_massif_massifref01_rounds)] }
def PlainAsksSaid : Prop := plainAsksRow.holds Tryd.pinned (OpenSpec.ofChange plainAsksSpec)

/-- ITS FALSE NEIGHBOUR: 'it returns false'. Refute it at one input. -/
def plainAsksWrong : ChangeSpec := { name := "plainAsks", fn := fun _ => fun
  | [d1, d2, d3] => { results := [.lit (.bool false)], args := [d1, d2, d3] }
  | _ => none }
def PlainAsksWrongFalsely : Prop := plainAsksRow.holds Tryd.pinned (OpenSpec.ofChange plainAsksWrong)

/- THE SECOND FORM. 'bulk': how many values and letters a reading holds, each counted each time it is reached (what is shared counts as often as it is met; a slice's spare places count too). A statement '..UptoSaid' is the law's where the arguments, and the package variables that the reading takes, are together of bulk at most 1048576: NARROWER than '..Said'. Prove '..Said' where nothing that the law and all that it calls make is longer than what came in: it says more and counts as full. Else prove '..UptoSaid'. A law counts once. -/
mutual
def uptoBulk {H : Type} : DataW H → Nat
  | .lit (.string bytes) => bytes.length + 1
  | .lit _ => 1
  | .nil => 1
  | .ptr d => uptoBulk d + 1
  | .slice elems spare => uptoBulkAll elems + uptoBulkAll spare + 1
  | .agg parts => uptoBulkAll parts + 1
  | .iface _ d => uptoBulk d + 1
  | .map entries => uptoBulkEntries entries + 1
  | .held _ => 1
def uptoBulkAll {H : Type} : List (DataW H) → Nat
  | [] => 0
  | d :: r => uptoBulk d + uptoBulkAll r
def uptoBulkEntries {H : Type} : List (Lit × DataW H) → Nat
  | [] => 0
  | x :: r => uptoBulkEntry x + uptoBulkEntries r
def uptoBulkEntry {H : Type} : Lit × DataW H → Nat
  | (.string bytes, d) => bytes.length + uptoBulk d + 1
  | (_, d) => uptoBulk d + 1
 end
def uptoSmall : (H : Type) → List (DataW H) → Bool := fun _ ds => decide (uptoBulkAll ds ≤ 1048576)
def OpenSpec.upto (s : _root_.Go.ChangeSpec) : _root_.Go.OpenSpec := { _root_.Go.OpenSpec.ofChange s with cond := some uptoSmall }

/-- 'massiflaw01.ShaOf', WHERE WHAT IT READS IS OF BULK AT MOST 1048576: true; the input reads as it did. -/
def shaOfUptoRow : OpenClaim := { program := "ytcghicmdphfodaadoor", sum := "5d8faf4f7e2b7a659e34de048422fb5baf8d9fdd0044bcb78858a007aa189a2f", func := "massif/massiflaw01.ShaOf", spec := "shaOf", named := ["massif/massifref01.first", "massif/massifref01.rounds"], apart := false, laid := [("massif/massifref01.first", laid_massif_massifref01_first), ("massif/massifref01.rounds", laid_massif_massifref01_rounds)], narrowed := true }
def ShaOfUptoSaid : Prop := shaOfUptoRow.holds Tryd.pinned (OpenSpec.upto shaOfSpec)

/-- 'massiflaw01.ShaLengths', WHERE WHAT IT READS IS OF BULK AT MOST 1048576: true; the input reads as it did. -/
def shaLengthsUptoRow : OpenClaim := { program := "ytcghicmdphfodaadoor", sum := "5d8faf4f7e2b7a659e34de048422fb5baf8d9fdd0044bcb78858a007aa189a2f", func := "massif/massiflaw01.ShaLengths", spec := "shaLengths", named := ["massif/massifref01.first", "massif/massifref01.rounds"], apart := false, laid := [("massif/massifref01.first", laid_massif_massifref01_first), ("massif/massifref01.rounds", laid_massif_massifref01_rounds)], narrowed := true }
def ShaLengthsUptoSaid : Prop := shaLengthsUptoRow.holds Tryd.pinned (OpenSpec.upto shaLengthsSpec)

/-- 'massiflaw07.HashBegins', WHERE WHAT IT READS IS OF BULK AT MOST 1048576: true; the input reads as it did. -/
def hashBeginsUptoRow : OpenClaim := { program := "ytcghicmdphfodaadoor", sum := "5d8faf4f7e2b7a659e34de048422fb5baf8d9fdd0044bcb78858a007aa189a2f", func := "massif/massiflaw07.HashBegins", spec := "hashBegins", named := ["massif/massifref01.first", "massif/massifref01.rounds"], apart := false, laid := [("massif/massifref01.first", laid_massif_massifref01_first), ("massif/massifref01.rounds", laid_massif_massifref01_rounds)], narrowed := true }
def HashBeginsUptoSaid : Prop := hashBeginsUptoRow.holds Tryd.pinned (OpenSpec.upto hashBeginsSpec)

/-- 'massiflaw07.HashAsks', WHERE WHAT IT READS IS OF BULK AT MOST 1048576: true; the input reads as it did. -/
def hashAsksUptoRow : OpenClaim := { program := "ytcghicmdphfodaadoor", sum := "5d8faf4f7e2b7a659e34de048422fb5baf8d9fdd0044bcb78858a007aa189a2f", func := "massif/massiflaw07.HashAsks", spec := "hashAsks", named := ["massif/massifref01.first", "massif/massifref01.rounds"], apart := false, laid := [("massif/massifref01.first", laid_massif_massifref01_first), ("massif/massifref01.rounds", laid_massif_massifref01_rounds)], narrowed := true }
def HashAsksUptoSaid : Prop := hashAsksUptoRow.holds Tryd.pinned (OpenSpec.upto hashAsksSpec)

/-- 'massiflaw08.PlainFresh', WHERE WHAT IT READS IS OF BULK AT MOST 1048576: true; the input reads as it did. -/
def plainFreshUptoRow : OpenClaim := { program := "ytcghicmdphfodaadoor", sum := "5d8faf4f7e2b7a659e34de048422fb5baf8d9fdd0044bcb78858a007aa189a2f", func := "massif/massiflaw08.PlainFresh", spec := "plainFresh", recurses := true, named := ["massif/massifref01.first", "massif/massifref01.rounds"], apart := false, laid := [("massif/massifref01.first", laid_massif_massifref01_first), ("massif/massifref01.rounds", laid_massif_massifref01_rounds)], narrowed := true }
def PlainFreshUptoSaid : Prop := plainFreshUptoRow.holds Tryd.pinned (OpenSpec.upto plainFreshSpec)

/-- 'massiflaw08.PlainAsks', WHERE WHAT IT READS IS OF BULK AT MOST 1048576: true; the input reads as it did. -/
def plainAsksUptoRow : OpenClaim := { program := "ytcghicmdphfodaadoor", sum := "5d8faf4f7e2b7a659e34de048422fb5baf8d9fdd0044bcb78858a007aa189a2f", func := "massif/massiflaw08.PlainAsks", spec := "plainAsks", recurses := true, named := ["massif/massifref01.first", "massif/massifref01.rounds"], apart := false, laid := [("massif/massifref01.first", laid_massif_massifref01_first), ("massif/massifref01.rounds", laid_massif_massifref01_rounds)], narrowed := true }
def PlainAsksUptoSaid : Prop := plainAsksUptoRow.holds Tryd.pinned (OpenSpec.upto plainAsksSpec)

end Rows
end Go.Proofs.YtcghicmdphfodaaDoor
