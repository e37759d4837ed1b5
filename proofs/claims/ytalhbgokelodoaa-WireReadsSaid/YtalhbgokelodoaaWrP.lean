/- wire: the document's reader and number, beside the program's. No condition beyond those that each theorem names. -/
import Derived.Test.YtalhbgokelodoaaQWireReads
set_option linter.unusedVariables false
namespace Go.Proofs.Ytalhbgokelodoaa.PWireReads
open Go Go.RowKit Go.Proofs.Ytalhbgokelodoaa.MB Go.Proofs.YtalhbgokelodoaaW.PrintWords Go.Proofs.YtalhbgokelodoaaW.PrintLast Go.Proofs.YtalhbgokelodoaaW.PrintMore
theorem ref_Number.run : ∀ (d k n : Nat) (acc : List Int), n < 128 ^ d → d < k → d ≤ 10 → acc.length + d ≤ 100 → n < 2 ^ 64 → massifref06_Number.l0 k n acc = some (strOfNums (acc ++ ints (enc n))) := by
  intro d
  induction d with
  | zero =>
    intro k n acc hn hk _ hl _
    obtain ⟨k, rfl⟩ : ∃ m, k = m + 1 := ⟨k - 1, by omega⟩
    have : n = 0 := by simpa using hn
    subst this
    simp only [massifref06_Number.l0]
    rw [if_neg (by omega), if_pos (by omega), enc_small 0 (by omega)]; rfl
  | succ d ih =>
    intro k n acc hn hk hd hl h64
    obtain ⟨k, rfl⟩ : ∃ m, k = m + 1 := ⟨k - 1, by omega⟩
    simp only [massifref06_Number.l0]
    by_cases h : n < 128
    · rw [if_neg (by omega), if_pos (by omega), enc_small n h]
      have : (n : Int) % 256 = n := by omega
      rw [this]; rfl
    · have h2 : n / 128 < 128 ^ d := by rw [Nat.pow_succ] at hn; omega
      have t1 : Int.tmod (n : Int) 128 = ((n % 128 : Nat) : Int) := by rw [Int.tmod_eq_emod_of_nonneg (by omega)]; omega
      have t2 : Int.tdiv (n : Int) 128 = ((n / 128 : Nat) : Int) := by rw [Int.tdiv_eq_ediv_of_nonneg (by omega)]; omega
      rw [if_pos (by omega), if_pos (by omega), t1, t2, wraps_u64 _ (by omega) (by omega), enc_big n (by omega), ints_cons]
      have e : (((n % 128 : Nat) : Int) % 256 + 128) % 256 = ((n % 128 + 128 : Nat) : Int) := by omega
      rw [e, ih k (n / 128) _ h2 (by omega) (by omega) (by rw [List.length_append]; simp; omega) (by omega), List.append_assoc]
      rfl
theorem ref_Number.is (n k : Nat) (h : n < 2 ^ 64) (hk : 11 ≤ k) : massifref06_Number.f k n = some (strOfNums (ints (enc n))) := by
  have := ref_Number.run 10 k n [] (by omega) (by omega) (by omega) (by simp) h
  exact this
theorem wadd (a i : Nat) (h : a + i < 2 ^ 63) : wrap64 ((a : Int) + (i : Int)) = ((a + i : Nat) : Int) := by rw [wrap64_in _ (by omega) (by omega)]; omega
theorem wadd1 (a : Nat) (h : a + 1 < 2 ^ 63) : wrap64 ((a : Int) + 1) = ((a + 1 : Nat) : Int) := wadd a 1 h
/-- One round of the document's reader. -/
theorem ref_step (T : ByteArray) (a i n0 c k : Nat) (hi : i < 10) (hs : T.size < 2 ^ 62) (hc : (bys T)[a + i]? = some c) (h0 : n0 < 2 ^ (7 * i)) (h9 : ¬ (i = 9 ∧ 1 < c)) :
    massifref06_Reader_Number.l0 (k + 2) n0 ((2 ^ (7 * i) : Nat) : Int) i T a 0 =
      if 128 ≤ c then massifref06_Reader_Number.l0 k ((n0 + c % 128 * 2 ^ (7 * i) : Nat) : Int) ((2 ^ (7 * (i + 1)) : Nat) : Int) ((i + 1 : Nat) : Int) T a 0
      else if c = 0 ∧ 0 < i then some (T, (a : Int), 61, 0, 61)
      else some (T, ((a + (i + 1) : Nat) : Int), 0, ((n0 + c % 128 * 2 ^ (7 * i) : Nat) : Int), 0) := by
  obtain ⟨hl, hg⟩ := List.getElem?_eq_some_iff.1 hc
  have hsz := bys_length T
  have hc256 : c < 256 := by rw [← hg]; exact bys_lt T _ (List.getElem_mem hl)
  have z1 : a + i < 2 ^ 63 := by omega
  have z2 : i + 1 < 2 ^ 63 := by omega
  have z3 : a + i + 1 < 2 ^ 63 := by omega
  have y1 : ¬ (((a + i : Nat) : Int) ≥ (T.size : Int)) := by omega
  have y2 : (0 : Int) ≤ ((a + i : Nat) : Int) := by omega
  have y3 : ((a + i : Nat) : Int) < (T.size : Int) := by omega
  have hbt : bt T ((a + i : Nat) : Int) = (c : Int) := by rw [bt_bys T (a + i) hl, hg]
  obtain ⟨b1, b2⟩ := step_bound n0 c i (by omega) (by omega) h0
  have hp : 2 ^ (7 * i) < 2 ^ 64 := Nat.pow_lt_pow_right (by omega) (by omega)
  have hq : 2 ^ (7 * (i + 1)) = 128 * 2 ^ (7 * i) := by rw [Nat.mul_add, Nat.pow_add, Nat.mul_comm]
  have hq2 : i < 9 → 2 ^ (7 * (i + 1)) < 2 ^ 64 := fun h => Nat.pow_lt_pow_right (by omega) (by omega)
  generalize 2 ^ (7 * (i + 1)) = p2 at *
  generalize 2 ^ (7 * i) = p at *
  have hj : (if (i : Int) = 9 then (if (c : Int) > 1 then massifref06_Reader_Number.j1 (k + 1) n0 (p : Int) i c true T a 0 else (if (i : Int) > 0 then massifref06_Reader_Number.j1 (k + 1) n0 (p : Int) i c ((c : Int) == 0) T a 0 else massifref06_Reader_Number.j1 (k + 1) n0 (p : Int) i c false T a 0)) else (if (i : Int) > 0 then massifref06_Reader_Number.j1 (k + 1) n0 (p : Int) i c ((c : Int) == 0) T a 0 else massifref06_Reader_Number.j1 (k + 1) n0 (p : Int) i c false T a 0)) = massifref06_Reader_Number.j1 (k + 1) n0 (p : Int) i c (decide (c = 0 ∧ 0 < i)) T a 0 := by
    have hb : (if (i : Int) > 0 then massifref06_Reader_Number.j1 (k + 1) n0 (p : Int) i c ((c : Int) == 0) T a 0 else massifref06_Reader_Number.j1 (k + 1) n0 (p : Int) i c false T a 0) = massifref06_Reader_Number.j1 (k + 1) n0 (p : Int) i c (decide (c = 0 ∧ 0 < i)) T a 0 := by
      by_cases hi0 : 0 < i
      · rw [if_pos (by omega)]
        by_cases hz : c = 0
        · have q1 : ((c : Int) == 0) = true := by rw [hz]; rfl
          rw [q1, decide_eq_true ⟨hz, hi0⟩]
        · have q1 : ((c : Int) == 0) = false := beq_eq_false_iff_ne.mpr (by omega)
          rw [q1, decide_eq_false (fun h => hz h.1)]
      · rw [if_neg (by omega), decide_eq_false (fun h => hi0 h.2)]
    by_cases h : (i : Int) = 9
    · rw [if_pos h, if_neg (by omega)]; exact hb
    · rw [if_neg h]; exact hb
  have t1 : Int.tmod (c : Int) 128 = ((c % 128 : Nat) : Int) := by rw [Int.tmod_eq_emod_of_nonneg (Int.natCast_nonneg c)]; omega
  have m1 : (p : Int) * ((c % 128 : Nat) : Int) = ((c % 128 * p : Nat) : Int) := by rw [← Int.natCast_mul, Nat.mul_comm]
  generalize c % 128 * p = r at *
  have w1 : IntKind.u64.wrap ((n0 : Int) + IntKind.u64.wrap ((p : Int) * IntKind.u64.wrap (Int.tmod (c : Int) 128))) = ((n0 + r : Nat) : Int) := by
    rw [t1, wraps_u64 ((c % 128 : Nat) : Int) (by omega) (by omega), m1, wraps_u64 (r : Int) (by omega) (by omega), wraps_u64 ((n0 : Int) + (r : Int)) (by omega) (by omega)]; omega
  have e0 : wrap64 ((a : Int) + (i : Int)) = ((a + i : Nat) : Int) := wadd a i z1
  have e1 : wrap64 ((i : Int) + 1) = ((i + 1 : Nat) : Int) := wadd1 i z2
  have e2 : wrap64 (((a + i : Nat) : Int) + 1) = ((a + (i + 1) : Nat) : Int) := wadd1 (a + i) z3
  have w2 : 128 ≤ c → IntKind.u64.wrap ((p : Int) * 128) = (p2 : Int) := fun h => by
    clear e0 e1 e2 w1 t1 m1
    have hi9 : i < 9 := by omega
    have hq3 := hq2 hi9
    have e : (p : Int) * 128 = (p2 : Int) := by omega
    rw [e]; exact wraps_u64 _ (by omega) (by omega)
  rw [massifref06_Reader_Number.l0, e0]
  rw [if_neg y1, if_pos y2, if_pos y3, hbt]
  clear y1 y2 y3 z1 z2 z3
  rw [hj, massifref06_Reader_Number.j1]
  by_cases hz : c = 0 ∧ 0 < i
  · have z8 : ¬ 128 ≤ c := by have := hz.1; clear e0 e1 e2 w1 t1 m1 w2; omega
    rw [if_pos (decide_eq_true hz), if_neg z8, if_pos hz]
  · rw [if_neg (by rw [decide_eq_false hz]; simp), w1, e0, e2, e1]
    by_cases h128 : 128 ≤ c
    · have z8 : ¬ ((c : Int) < 128) := by clear e0 e1 e2 w1 t1 m1 w2; omega
      rw [if_neg z8, if_pos h128, w2 h128]
    · have z8 : (c : Int) < 128 := by clear e0 e1 e2 w1 t1 m1 w2; omega
      rw [if_pos z8, if_neg h128, if_neg hz]
theorem ref_nine (T : ByteArray) (a n0 c k : Nat) (one : Int) (hs : T.size < 2 ^ 62) (hc : (bys T)[a + 9]? = some c) (h9 : 1 < c) :
    massifref06_Reader_Number.l0 (k + 2) n0 one ((9 : Nat) : Int) T a 0 = some (T, (a : Int), 61, 0, 61) := by
  obtain ⟨hl, hg⟩ := List.getElem?_eq_some_iff.1 hc
  have hsz := bys_length T
  have e0 : wrap64 ((a : Int) + ((9 : Nat) : Int)) = ((a + 9 : Nat) : Int) := wadd a 9 (by omega)
  have hbt : bt T ((a + 9 : Nat) : Int) = (c : Int) := by rw [bt_bys T (a + 9) hl, hg]
  rw [massifref06_Reader_Number.l0, e0]
  rw [if_neg (by omega), if_pos (by omega), if_pos (by omega), hbt, if_pos (by omega), if_pos (by omega), massifref06_Reader_Number.j1, if_pos rfl]
theorem ref_end (T : ByteArray) (a i n0 k : Nat) (one : Int) (hi : i < 10) (hs : T.size < 2 ^ 62) (ha : a ≤ T.size) (hl : T.size ≤ a + i) : massifref06_Reader_Number.l0 (k + 1) n0 one i T a 0 = some (T, (a : Int), 60, 0, 60) := by
  have y1 : ((a + i : Nat) : Int) ≥ (T.size : Int) := by omega
  rw [massifref06_Reader_Number.l0, wadd a i (by omega), if_pos y1]
/-- Program's reader (what is left, the first error) beside the document's (the text, where it stands). -/
def Rel (left : ByteArray) (bad : Int) (T : ByteArray) (a : Nat) : Prop := a ≤ T.size ∧ (bad = 0 → left = T.extract a T.size) ∧ (bad ≠ 0 → left = ⟨#[]⟩)
theorem ext_ext (T : ByteArray) (a i : Nat) : (T.extract a T.size).extract i (T.extract a T.size).size = T.extract (a + i) T.size := by
  refine bys_ext ?_
  rw [bys_extract, bys_extract, bys_extract, ← bys_length, bys_extract, List.take_length, List.drop_drop]
theorem read_both (T : ByteArray) (a : Nat) (hs : T.size < 2 ^ 62) (ha : a ≤ T.size) : ∀ (d i n0 k k2 : Nat), i + d = 9 → n0 < 2 ^ (7 * i) → a + i ≤ T.size → 2 * d + 4 ≤ k → 2 * d + 4 ≤ k2 →
    ∃ (n e : Int) (left : ByteArray) (a2 : Nat), wire_Reader_Number.l0 k n0 i (T.extract a T.size) 0 = some (n, e, left, e) ∧
      massifref06_Reader_Number.l0 k2 n0 ((2 ^ (7 * i) : Nat) : Int) i T a 0 = some (T, (a2 : Int), e, n, e) ∧ Rel left e T a2 := by
  have hlen : (bys (T.extract a T.size)).length = T.size - a := by
    rw [bys_extract, List.length_drop, List.length_take, bys_length]; omega
  have hsz2 : (T.extract a T.size).size < 2 ^ 62 := by rw [← bys_length, hlen]; omega
  have hget : ∀ i, a + i < T.size → (bys (T.extract a T.size))[i]? = (bys T)[a + i]? := fun i hi => by
    rw [bys_extract, List.getElem?_drop, List.getElem?_take_of_lt hi]
  have one : ∀ (i n0 k k2 : Nat), i < 10 → n0 < 2 ^ (7 * i) → a + i ≤ T.size → (i < 9 → ∀ n1 : Nat, n1 < 2 ^ (7 * (i + 1)) → a + (i + 1) ≤ T.size → ∃ (n e : Int) (left : ByteArray) (a2 : Nat), wire_Reader_Number.l0 k n1 ((i + 1 : Nat) : Int) (T.extract a T.size) 0 = some (n, e, left, e) ∧
      massifref06_Reader_Number.l0 k2 n1 ((2 ^ (7 * (i + 1)) : Nat) : Int) ((i + 1 : Nat) : Int) T a 0 = some (T, (a2 : Int), e, n, e) ∧ Rel left e T a2) →
    ∃ (n e : Int) (left : ByteArray) (a2 : Nat), wire_Reader_Number.l0 (k + 2) n0 i (T.extract a T.size) 0 = some (n, e, left, e) ∧
      massifref06_Reader_Number.l0 (k2 + 2) n0 ((2 ^ (7 * i) : Nat) : Int) i T a 0 = some (T, (a2 : Int), e, n, e) ∧ Rel left e T a2 := by
    intro i n0 k k2 hi h0 hai hnext
    rcases Nat.lt_or_ge (a + i) T.size with hlt | hge
    · obtain ⟨c, hc⟩ : ∃ c, (bys T)[a + i]? = some c := ⟨_, List.getElem?_eq_getElem (by rw [bys_length]; exact hlt)⟩
      have hc2 := (hget i hlt).trans hc
      rw [reader_step (T.extract a T.size) i n0 c k hi hsz2 hc2 h0]
      by_cases h9 : i = 9 ∧ 1 < c
      · rw [if_pos h9]
        obtain ⟨rfl, hc1⟩ := h9
        exact ⟨0, 61, ⟨#[]⟩, a, rfl, ref_nine T a n0 c k2 _ hs hc hc1, ha, fun h => absurd h (by decide), fun _ => rfl⟩
      · rw [if_neg h9, ref_step T a i n0 c k2 hi hs hc h0 h9]
        obtain ⟨b1, b2⟩ := step_bound n0 c i (by omega) (by omega) h0
        by_cases h128 : 128 ≤ c
        · rw [if_pos h128, if_pos h128]
          exact hnext (by omega) _ (b2 (by omega)) (by omega)
        · rw [if_neg h128, if_neg h128]
          by_cases hz : c = 0 ∧ 0 < i
          · rw [if_pos hz, if_pos hz]
            exact ⟨0, 61, ⟨#[]⟩, a, rfl, rfl, ha, fun h => absurd h (by decide), fun _ => rfl⟩
          · rw [if_neg hz, if_neg hz]
            exact ⟨_, 0, _, a + (i + 1), rfl, rfl, by omega, fun _ => ext_ext T a (i + 1), fun h => absurd rfl h⟩
    · rw [reader_end (T.extract a T.size) i n0 (k + 1) hi (by omega), ref_end T a i n0 (k2 + 1) _ hi hs ha hge]
      exact ⟨0, 60, ⟨#[]⟩, a, rfl, rfl, ha, fun h => absurd h (by decide), fun _ => rfl⟩
  intro d
  induction d with
  | zero =>
    intro i n0 k k2 hi h0 hai hk hk2
    obtain ⟨k, rfl⟩ : ∃ m, k = m + 2 := ⟨k - 2, by omega⟩
    obtain ⟨k2, rfl⟩ : ∃ m, k2 = m + 2 := ⟨k2 - 2, by omega⟩
    exact one i n0 k k2 (by omega) h0 hai (fun h => by omega)
  | succ d ih =>
    intro i n0 k k2 hi h0 hai hk hk2
    obtain ⟨k, rfl⟩ : ∃ m, k = m + 2 := ⟨k - 2, by omega⟩
    obtain ⟨k2, rfl⟩ : ∃ m, k2 = m + 2 := ⟨k2 - 2, by omega⟩
    exact one i n0 k k2 (by omega) h0 hai (fun h n1 hn1 ha1 => ih (i + 1) n1 k k2 (by omega) hn1 ha1 (by omega) (by omega))
/-- Number, asked of both. -/
theorem both_Number (left T : ByteArray) (bad : Int) (a : Nat) (hs : T.size < 2 ^ 62) (h : Rel left bad T a) : ∃ (n e : Int) (left2 : ByteArray) (a2 : Nat),
    wire_Reader_Number.f 40 left bad = some (n, e, left2, e) ∧ massifref06_Reader_Number.f 40 T a bad = some (T, (a2 : Int), e, n, e) ∧ Rel left2 e T a2 := by
  obtain ⟨h1, h2, h3⟩ := h
  by_cases hb : bad = 0
  · subst hb
    obtain ⟨n, e, l2, a2, r1, r2, r3⟩ := read_both T a hs h1 9 0 0 40 40 (by omega) (by omega) (by omega) (by omega) (by omega)
    refine ⟨n, e, l2, a2, ?_, ?_, r3⟩
    · unfold wire_Reader_Number.f; rw [if_pos rfl, h2 rfl]; exact r1
    · unfold massifref06_Reader_Number.f; rw [if_pos rfl]; exact r2
  · refine ⟨0, bad, left, a, ?_, ?_, h1, fun h => absurd h hb, h3⟩
    · unfold wire_Reader_Number.f; rw [if_neg hb]
    · unfold massifref06_Reader_Number.f; rw [if_neg hb]
/-- Take, asked of both. -/
theorem both_Take (left T : ByteArray) (bad m : Int) (a : Nat) (hs : T.size < 2 ^ 62) (h : Rel left bad T a) : ∃ (s : ByteArray) (e : Int) (left2 : ByteArray) (a2 : Nat),
    wire_Reader_Take.f left bad m = some (s, e, left2, e) ∧ massifref06_Reader_Take.f 40 T a bad m = some (T, (a2 : Int), e, s, e) ∧ Rel left2 e T a2 := by
  obtain ⟨h1, h2, h3⟩ := h
  by_cases hb : bad = 0
  · subst hb
    have hl := h2 rfl
    have hsz : left.size = T.size - a := by rw [hl, ← bys_length, bys_extract, List.length_drop, List.length_take, bys_length]; omega
    have e0 : wrap64 ((T.size : Int) - (a : Int)) = (left.size : Int) := by rw [wrap64_in _ (by omega) (by omega)]; omega
    unfold wire_Reader_Take.f massifref06_Reader_Take.f
    rw [if_pos rfl, if_pos rfl, e0]
    by_cases c1 : m < 0
    · rw [if_pos c1, if_pos c1]
      refine ⟨⟨#[]⟩, 60, ⟨#[]⟩, a, ?_, ?_, h1, fun h => absurd h (by decide), fun _ => rfl⟩
      · simp only [fail_is, Option.bind_some]
      · rw [massifref06_Reader_Take.j0, if_pos rfl, if_neg (by decide)]
    · rw [if_neg c1, if_neg c1]
      by_cases c2 : m > (left.size : Int)
      · rw [if_pos c2, decide_eq_true c2]
        refine ⟨⟨#[]⟩, 60, ⟨#[]⟩, a, ?_, ?_, h1, fun h => absurd h (by decide), fun _ => rfl⟩
        · simp only [fail_is, Option.bind_some]
        · rw [massifref06_Reader_Take.j0, if_pos rfl, if_neg (by decide)]
      · obtain ⟨q, rfl⟩ : ∃ q : Nat, m = (q : Int) := ⟨m.toNat, by omega⟩
        have e1 : wrap64 ((a : Int) + (q : Int)) = ((a + q : Nat) : Int) := by rw [wrap64_in _ (by omega) (by omega)]; omega
        rw [if_neg c2, decide_eq_false c2, if_pos (by omega), if_pos (by omega), massifref06_Reader_Take.j0, if_neg (by simp), if_pos rfl, e1, if_pos (by omega), if_pos (by omega), if_pos (by omega)]
        refine ⟨_, 0, _, a + q, rfl, ?_, by omega, fun _ => ?_, fun h => absurd rfl h⟩
        · rw [Int.toNat_natCast, Int.toNat_natCast, Int.toNat_natCast, hl]
          have : T.extract a (a + q) = (T.extract a T.size).extract 0 q := by
            refine bys_ext ?_
            rw [bys_extract, bys_extract, bys_extract, List.drop_zero, ← bys_length, List.take_length, List.take_drop]
          rw [this]
        · rw [Int.toNat_natCast]
          have := ext_ext T a q
          rw [← hl] at this; exact this
  · unfold wire_Reader_Take.f massifref06_Reader_Take.f
    rw [if_neg hb, if_neg hb]
    refine ⟨⟨#[]⟩, bad, left, a, rfl, ?_, h1, fun h => absurd h hb, h3⟩
    rw [massifref06_Reader_Take.j0, if_neg (by simp), if_neg hb]
/-- Left, asked of both. -/
theorem both_Left (left T : ByteArray) (bad : Int) (a : Nat) (hs : T.size < 2 ^ 62) (h : Rel left bad T a) : massifref06_Reader_Left.f T a bad = some (left.size : Int) := by
  obtain ⟨h1, h2, h3⟩ := h
  unfold massifref06_Reader_Left.f
  by_cases hb : bad = 0
  · have hsz : left.size = T.size - a := by rw [h2 hb, ← bys_length, bys_extract, List.length_drop, List.length_take, bys_length]; omega
    rw [if_pos hb, wrap64_in _ (by omega) (by omega)]; congr 1; omega
  · rw [if_neg hb, h3 hb]; rfl
end Go.Proofs.Ytalhbgokelodoaa.PWireReads
