/- A map from pairs of numbers to texts, as it stands in a world: what it tells, and what a store turns. No program. -/
import Derived.Maps.OwnSet
import Derived.Maps.StringElems
import Derived.DeepKeys4
import Derived.Laws.AppendOwn
set_option linter.unusedVariables false
namespace Go.Proofs.Ytelhpamhnnjgaaa.Mp
open Go.Maps (Keyed)
/-- The types of such a map: t of keys k (an int and a uint64) and elements e (texts). -/
structure Ty (P : Program) (t k e : TypeId) : Prop where
  map : P.underlying t = some (.map k e)
  str : P.underlying e = some .string
  keyed : Keyed P k
  key : ∀ h i : Int, (Lit.int .i64 h).wf = true → (Lit.int .u64 i).wf = true → ∃ l, keyOf P k (.agg #[.int .i64 h, .int .u64 i]) = some l
  zero : ∀ w, (zeroValue e).run P w = .ok (.string ⟨#[]⟩) w
variable {P : Program} {t k e : TypeId}
/-- Block b is a map of at most n entries that tells F. -/
def Mp (P : Program) (k e : TypeId) (w : World) (b n : Nat) (F : Int → Int → Option ByteArray) : Prop :=
  ∃ D : DataW Unit, w.ownsMap P k (plainElem P e) b n D ∧
    ∀ h i l, keyOf P k (.agg #[.int .i64 h, .int .u64 i]) = some l → Maps.has D l = (F h i).isSome ∧ ∀ d, F h i = some d → ∀ z, D.atKey l z = .lit (.string d.data.toList)
/-- F with d at (h, i). -/
def put (F : Int → Int → Option ByteArray) (h i : Int) (d : ByteArray) : Int → Int → Option ByteArray := fun a b => if a = h ∧ b = i then some d else F a b
theorem pair_inj {h i a b : Int} (e : (Value.agg #[.int .i64 h, .int .u64 i]) = .agg #[.int .i64 a, .int .u64 b]) : h = a ∧ i = b := by
  injection e with e; injection e with e; injection e with e1 e2; injection e1 with _ e1; injection e2 with e2 _; injection e2 with _ e2
  exact ⟨e1, e2⟩
theorem Mp.made (w : World) : Mp P k e (w.alloc (.map #[] 0)) w.heap.size 0 (fun _ _ => none) :=
  ⟨.map [], World.ownsMap_made w P k _, fun h i l _ => ⟨rfl, fun d hd => by cases hd⟩⟩
theorem Mp.mono {w : World} {b n m : Nat} {F : Int → Int → Option ByteArray} (h : Mp P k e w b n F) (hn : n ≤ m) : Mp P k e w b m F := by
  obtain ⟨D, h1, h2⟩ := h; exact ⟨D, h1.mono hn, h2⟩
theorem Mp.lt {w : World} {b n : Nat} {F : Int → Int → Option ByteArray} (h : Mp P k e w b n F) : b < w.heap.size := by obtain ⟨D, h1, h2⟩ := h; exact h1.lt
theorem Mp.step {w w1 : World} {b n : Nat} {F : Int → Int → Option ByteArray} (h : Mp P k e w b n F) (hb : w1.heap[b]? = w.heap[b]?) : Mp P k e w1 b n F := by
  obtain ⟨D, ⟨es, c, h1, r⟩, h2⟩ := h
  exact ⟨D, ⟨es, c, hb.trans h1, r⟩, h2⟩
theorem Mp.look {w : World} {b n : Nat} {F : Int → Int → Option ByteArray} (T : Ty P t k e) (h : Mp P k e w b n F) {a i : Int} (ha : (Lit.int .i64 a).wf = true) (hi : (Lit.int .u64 i).wf = true) (ok : Bool) :
    (Instr.lookup t (.map (some b)) (.agg #[.int .i64 a, .int .u64 i]) ok).run P w = .ok (if ok then .tuple #[.string ((F a i).getD ⟨#[]⟩), .bool (F a i).isSome] else .string ((F a i).getD ⟨#[]⟩)) w := by
  obtain ⟨D, h1, h2⟩ := h
  obtain ⟨l, hl⟩ := T.key a i ha hi
  obtain ⟨h3, h4⟩ := h2 a i l hl
  have hz : plainElem (H := Unit) P e (.string ⟨#[]⟩) = some (.lit (.string (⟨#[]⟩ : ByteArray).data.toList), []) := plainElem_string T.str (by decide)
  have el : ∀ v ps, plainElem (H := Unit) P e v = some (D.atKey l (.lit (.string (⟨#[]⟩ : ByteArray).data.toList)), ps) → v = .string ((F a i).getD ⟨#[]⟩) := by
    intro v ps hv
    obtain ⟨s, rfl, he, _⟩ := plainElem_string_inv T.str hv
    simp only [Prod.mk.injEq] at he
    have hs : ∀ x y : ByteArray, x.data.toList = y.data.toList → x = y := fun x y h => by
      cases x; cases y; simp only [ByteArray.mk.injEq] at h ⊢; exact Array.ext' h
    cases hF : F a i with
    | none =>
      rw [Maps.atKey_of_not_has (by rw [h3, hF]; rfl)] at he
      have e2 := he.1
      injection e2 with e2; injection e2 with e2
      rw [Option.getD_none, ← hs ⟨#[]⟩ s e2]
    | some d =>
      rw [h4 d hF] at he
      have e2 := he.1
      injection e2 with e2; injection e2 with e2
      rw [Option.getD_some, hs _ _ e2]
  cases ok with
  | true =>
    obtain ⟨v, ps, hr, hv⟩ := h1.look_ok T.keyed T.map (T.zero w) hz hl
    rw [hr, el v ps hv, h3]; rfl
  | false =>
    obtain ⟨v, ps, hr, hv⟩ := h1.lookup T.keyed T.map (T.zero w) hz hl
    rw [hr, el v ps hv]; rfl
theorem Mp.store {w : World} {b n : Nat} {F : Int → Int → Option ByteArray} (T : Ty P t k e) (h : Mp P k e w b n F) (hn : n < maxLen) {a i : Int} (ha : (Lit.int .i64 a).wf = true) (hi : (Lit.int .u64 i).wf = true) {d : ByteArray} (hd : d.size ≤ maxLen) :
    ∃ w', (Instr.mapUpdate t (.map (some b)) (.agg #[.int .i64 a, .int .u64 i]) (.string d)).run P w = .ok () w' ∧ Mp P k e w' b (n + 1) (put F a i d) ∧ w.grownBy w' (some b) := by
  obtain ⟨D, h1, h2⟩ := h
  obtain ⟨l, hl⟩ := T.key a i ha hi
  obtain ⟨w', hr, ho, hg⟩ := h1.update (d := .lit (.string d.data.toList)) (ps := []) T.keyed T.map hn hl (plainElem_string T.str hd)
  refine ⟨w', hr, ⟨_, ho, fun x y lx hx => ?_⟩, hg⟩
  unfold put
  by_cases c : x = a ∧ y = i
  · obtain ⟨rfl, rfl⟩ := c
    rw [hl] at hx; injection hx with hx; subst hx
    rw [if_pos ⟨rfl, rfl⟩]
    exact ⟨Maps.has_put_same h1.isMap (T.keyed.key hl) _, fun d' hd' z => by injection hd' with hd'; subst hd'; exact Maps.atKey_put_same h1.isMap (T.keyed.key hl) _ _⟩
  · rw [if_neg c]
    have hne : lx ≠ l := fun hh => by subst hh; exact c (pair_inj (T.keyed.inj hx hl))
    obtain ⟨h3, h4⟩ := h2 x y lx hx
    exact ⟨(Maps.has_put_other hne _).trans h3, fun d' hd' z => (Maps.atKey_put_other hne _ _).trans (h4 d' hd' z)⟩
/-! At the operation. -/
theorem wpList_look (T : Ty P t k e) (w : World) {ops : Array Oper} {rest : List Oper} {o : Oper} {A : Act} {Q : Exit → Act → World → Prop}
    (hg : o.guard = none) (m x : Operand) (ok : Bool) (hop : o.op = Op.lookup t m x ok) (b n : Nat) (F : Int → Int → Option ByteArray) (hm : A.eval m = .map (some b)) (h : Mp P k e w b n F) (a i : Int) (hx : A.eval x = .agg #[.int .i64 a, .int .u64 i])
    (ha : (Lit.int .i64 a).wf = true) (hi : (Lit.int .u64 i).wf = true)
    (hK : wpList P ops Q rest (A.put o.dst (if ok then .tuple #[.string ((F a i).getD ⟨#[]⟩), .bool (F a i).isSome] else .string ((F a i).getD ⟨#[]⟩))) w) : wpList P ops Q (o :: rest) A w := by
  refine wpList_plain hg fun K' hK' => ?_
  unfold Oper.wp
  simp [execOp, hop, hm, hx, h.look T ha hi ok, Result.andThen]
  exact hK' _ _ hK
theorem wpList_store (T : Ty P t k e) (w : World) {ops : Array Oper} {rest : List Oper} {o : Oper} {A : Act} {Q : Exit → Act → World → Prop}
    (hg : o.guard = none) (m x v : Operand) (hop : o.op = Op.mapUpdate t m x v) (b n : Nat) (F : Int → Int → Option ByteArray) (hm : A.eval m = .map (some b)) (h : Mp P k e w b n F) (hn : n < maxLen) (a i : Int) (hx : A.eval x = .agg #[.int .i64 a, .int .u64 i])
    (ha : (Lit.int .i64 a).wf = true) (hi : (Lit.int .u64 i).wf = true) (d : ByteArray) (hv : A.eval v = .string d) (hd : d.size ≤ maxLen)
    (hK : ∀ w', Mp P k e w' b (n + 1) (put F a i d) → w.grownBy w' (some b) → wpList P ops Q rest (A.put o.dst undef) w') : wpList P ops Q (o :: rest) A w := by
  refine wpList_plain hg fun K' hK' => ?_
  obtain ⟨w', hr, r1, r2⟩ := h.store T hn ha hi hd
  unfold Oper.wp
  simp [execOp, hop, hm, hx, hv, hr, Result.andThen]
  exact hK' _ _ (hK w' r1 r2)
end Go.Proofs.Ytelhpamhnnjgaaa.Mp
