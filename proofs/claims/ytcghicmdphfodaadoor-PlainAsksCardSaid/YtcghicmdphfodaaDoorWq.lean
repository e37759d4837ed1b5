/- A region that draws its order, whose callees only lay memory, walked once in the order of the text, behind a wall. No condition beyond those that each theorem names; no program. -/
import Derived.Test.YtcghicmdphfodaaDoorWWords
import Derived.Lib.QuietBelow
import Derived.BigQuiet
set_option linter.unusedVariables false
namespace Go.Proofs.YtcghicmdphfodaaDoor.Wq
open Go.RowKit
/-- wpQuiet behind a wall, so that nothing lays it open (laid open, it reckons the guards, and stands still where one is false). -/
structure WQ (P : Program) (ops : Array Oper) (C : World → Prop) (Q : Act → Prop) (l : List Oper) (a : Act) : Prop where
  out : wpQuiet P ops C Q l a
theorem WQ.step {P : Program} {ops : Array Oper} {C : World → Prop} {Q : Act → Prop} {a : Act} {o : Oper} {rest : List Oper}
    (h : ∀ K : Act → Prop, (∀ a, WQ P ops C Q rest a → K a) → if Region.wanted o (yielded ops a.tmps) = true then o.quiet P a C K else K (a.put o.dst undef)) : WQ P ops C Q (o :: rest) a :=
  ⟨wpQuiet_step (fun K hK => h K (fun a ha => hK a ha.out))⟩
theorem WQ.nil {P : Program} {ops : Array Oper} {C : World → Prop} {Q : Act → Prop} {a : Act} (h : Q a) : WQ P ops C Q [] a := ⟨wpQuiet_nil h⟩
theorem region_wq {P : Program} {id : Nat} {Q : Exit → Act → World → Prop} {a : Act} {w : World} {l : List Oper} (hm : P.follows .mixedOrders = true) (hB : Region.lexB .any l.toArray = true)
    (h : WQ P l.toArray (fun w' => ∃ p : Regrown, w' = Go.Sort.grow (redrawn w p.d) p.os) (fun a' => ∀ w', (∃ p : Regrown, w' = Go.Sort.grow (redrawn w p.d) p.os) → Q .normal a' w') l a) : (Code.region id l.toArray true).wp P Q a w :=
  wp_region_quiet_below hm hB h.out
end Go.Proofs.YtcghicmdphfodaaDoor.Wq
