/- What the inner rest of cover comes to, in plain Lean: how a row of numbers is cut, and which blocks have none of them. -/
import Derived.Test.YtkefjoljokfieaaPCoverRestsXRange
import Derived.Test.YtkefjoljokfieaaPCoverRestsx0
import Derived.Test.YtkefjoljokfieaaPCoverRestsx2
set_option linter.unusedVariables false
set_option linter.unusedSimpArgs false
namespace Go.Proofs.Ytkefjoljokfieaa.PCoverRests
open Go.RowKit Go.Proofs.YtkefjoljokfieaaW.PrintWords Go.Proofs.YtkefjoljokfieaaW.PrintLast Go.Proofs.YtkefjoljokfieaaW.PrintMore Go.Proofs.Ytkefjoljokfieaa.MB Go.Proofs.Ytkefjoljokfieaa.PCoverRests
attribute [local go_sem] max2_int min2_int max_two min_two max_three min_three max_four min_four
/-- How many of a row's first numbers are below x. -/
def cutI (x : Int) : List Int → Nat
  | [] => 0
  | y :: l => if y < x then cutI x l + 1 else 0
theorem cutI_le (x : Int) : ∀ l, cutI x l ≤ l.length
  | [] => Nat.le_refl _
  | y :: l => by
    rw [cutI]
    split
    · have := cutI_le x l; simp; omega
    · simp
theorem cutI_lt (x : Int) : ∀ l m (h : m < l.length), m < cutI x l → l[m] < x
  | [], m, h, _ => absurd h (by simp)
  | y :: l, m, h, hc => by
    rw [cutI] at hc
    split at hc
    · rename_i hy
      cases m with
      | zero => simpa using hy
      | succ m => simpa using cutI_lt x l m (by simpa using h) (by omega)
    · omega
theorem cutI_ge (x : Int) : ∀ l, l.Pairwise (· < ·) → ∀ m (h : m < l.length), cutI x l ≤ m → x ≤ l[m]
  | [], _, m, h, _ => absurd h (by simp)
  | y :: l, hp, m, h, hc => by
    obtain ⟨h1, h2⟩ := List.pairwise_cons.1 hp
    rw [cutI] at hc
    split at hc
    · rename_i hy
      cases m with
      | zero => omega
      | succ m => simpa using cutI_ge x l h2 m (by simpa using h) (by omega)
    · rename_i hy
      cases m with
      | zero => simpa using hy
      | succ m =>
        have := h1 (l[m]'(by simpa using h)) (List.getElem_mem _)
        simp
        omega
theorem rd_at (l : List Int) (m : Nat) (h : m < l.length) : rd l (m : Int) = l[m] := by
  simp [rd, h]
theorem less_is (a b : Int) : cmp_Less_uint64.f a b = some (decide (a < b)) := by
  simp [cmp_Less_uint64.f, cmp_isNaN_uint64.f]
theorem bsearch0 (l : List Int) (x : Int) (hp : l.Pairwise (· < ·)) (hl : l.length ≤ 9223372036854775807) : ∀ (K i j : Nat), i ≤ cutI x l → cutI x l ≤ j → j ≤ l.length → j < i + K →
    ∃ b, slices_BinarySearch_uint64_uint64.l0 K l x (l.length : Int) (i : Int) (j : Int) = some ((cutI x l : Int), b) := by
  intro K
  induction K with
  | zero => intro i j h1 h2 h3 h4; omega
  | succ K ih =>
    intro i j h1 h2 h3 h4
    rw [slices_BinarySearch_uint64_uint64.l0]
    by_cases hij : i < j
    · rw [if_pos (by omega)]
      have em : wrap64 ((IntKind.u64.wrap (wrap64 ((i : Int) + (j : Int)))) / 2) = (((i + j) / 2 : Nat) : Int) := by
        have e0 : IntKind.u64.wrap (wrap64 ((i : Int) + (j : Int))) = (i : Int) + (j : Int) := by
          simp [IntKind.wrap, IntKind.bits, IntKind.signed, Go.RowKit.wrap64]; omega
        rw [e0, wrap64_in _ (by omega) (by omega)]
        omega
      rw [em]
      have hm : (i + j) / 2 < l.length := by omega
      have em1 : wrap64 ((((i + j) / 2 : Nat) : Int) + 1) = (((i + j) / 2 + 1 : Nat) : Int) := by
        rw [wrap64_in _ (by omega) (by omega)]; omega
      rw [if_pos (by omega), if_pos (by omega), rd_at l _ hm, less_is, Option.bind_some, em1]
      by_cases hc : (i + j) / 2 < cutI x l
      · have := cutI_lt x l _ hm hc
        rw [if_pos (by simpa using this)]
        exact ih _ _ (by omega) h2 h3 (by omega)
      · have := cutI_ge x l hp _ hm (by omega)
        rw [if_neg (by simpa using this)]
        exact ih _ _ h1 (by omega) (by omega) (by omega)
    · rw [if_neg (by omega)]
      have e : i = cutI x l := by omega
      subst e
      by_cases hn : ((cutI x l : Nat) : Int) < (l.length : Int)
      · rw [if_pos hn, if_pos (by omega), if_pos hn]
        by_cases hq : rd l ((cutI x l : Nat) : Int) = x
        · rw [if_pos hq]; exact ⟨_, rfl⟩
        · rw [if_neg hq]; simp [slices_isNaN_uint64.f]
      · rw [if_neg hn]; exact ⟨_, rfl⟩
theorem bsearch (l : List Int) (x : Int) (hp : l.Pairwise (· < ·)) (hl : l.length ≤ 9223372036854775807) : ∃ b, slices_BinarySearch_uint64_uint64.f (l.length + 1) l x = some ((cutI x l : Int), b) := by
  unfold slices_BinarySearch_uint64_uint64.f
  exact bsearch0 l x hp hl (l.length + 1) 0 l.length (Nat.zero_le _) (cutI_le x l) (Nat.le_refl _) (by omega)
/-- The blocks below block (h, k) that have no number of the row. -/
def wrest : Nat → Nat → List Int → List (Nat × Nat)
  | h, k, [] => [(h, k)]
  | 0, _, _ :: _ => []
  | h + 1, k, x :: l => wrest h (2 * k) ((x :: l).take (cutI (((2 * k + 1) * 2 ^ h : Nat) : Int) (x :: l))) ++ wrest h (2 * k + 1) ((x :: l).drop (cutI (((2 * k + 1) * 2 ^ h : Nat) : Int) (x :: l)))
theorem wrest_nil (h k : Nat) : wrest h k [] = [(h, k)] := by cases h <;> rfl
theorem wrest_le : ∀ h k l, (wrest h k l).length ≤ 2 ^ h
  | h, k, [] => by rw [wrest_nil]; have := two_pow_pos h; simp; omega
  | 0, _, _ :: _ => by simp [wrest]
  | h + 1, k, x :: l => by
    rw [wrest, List.length_append]
    have h1 := wrest_le h (2 * k) ((x :: l).take (cutI (((2 * k + 1) * 2 ^ h : Nat) : Int) (x :: l)))
    have h2 := wrest_le h (2 * k + 1) ((x :: l).drop (cutI (((2 * k + 1) * 2 ^ h : Nat) : Int) (x :: l)))
    rw [Nat.pow_succ]; omega
theorem asc_step (l : List Int) (m : Nat) (h1 : m + 1 < l.length) (h : (l.take (m + 1)).Pairwise (· < ·)) (hx : l[m] < l[m + 1]) : (l.take (m + 2)).Pairwise (· < ·) := by
  rw [show m + 2 = (m + 1) + 1 from rfl, List.take_succ_eq_append_getElem h1, List.pairwise_append]
  refine ⟨h, List.pairwise_singleton .., fun a ha b hb => ?_⟩
  rw [List.mem_singleton] at hb
  subst hb
  rw [List.take_succ_eq_append_getElem (by omega : m < l.length), List.mem_append] at ha
  rcases ha with ha | ha
  · rw [List.take_succ_eq_append_getElem (by omega : m < l.length), List.pairwise_append] at h
    exact Int.lt_trans (h.2.2 a ha _ (List.mem_singleton.2 rfl)) hx
  · rw [List.mem_singleton] at ha
    subst ha; exact hx
theorem asc_not (l : List Int) (m : Nat) (h1 : m + 1 < l.length) (hx : l[m + 1] ≤ l[m]) : ¬ l.Pairwise (· < ·) := fun h => by
  have := List.pairwise_iff_getElem.1 h m (m + 1) (by omega) h1 (by omega)
  omega
/-- The blocks within a list of mountains that have no number of a row. -/
def restAll : List (Nat × Nat) → List Int → List (Nat × Nat)
  | [], _ => []
  | b :: ms, l => wrest b.1 b.2 (l.take (cutI (((b.2 + 1) * 2 ^ b.1 : Nat) : Int) l)) ++ restAll ms (l.drop (cutI (((b.2 + 1) * 2 ^ b.1 : Nat) : Int) l))
/-- What the inner rest comes to: its number, and the blocks that it tells. -/
def restF (n : Nat) (l : List Int) : Int × List (Nat × Nat) :=
  if 1099511627776 < n then (30, []) else if l = [] then (40, []) else if ¬ l.Pairwise (· < ·) then (40, []) else if (n : Int) ≤ rd l ((l.length - 1 : Nat) : Int) then (31, []) else (0, restAll (mtS n 41) l)
theorem sum_le (n : Nat) : ∀ d, ((mtS n d).map fun b => 2 ^ b.1).sum ≤ n % 2 ^ d
  | 0 => by simp [mtS]
  | d + 1 => by
    have ih := sum_le n d
    have hb := bit_lt n d
    have hm := mod_succ n d
    rw [mtS]
    by_cases e : bit n d = 1
    · rw [if_pos e]
      rw [e, Nat.mul_one] at hm
      rw [List.map_append, List.sum_append, List.map_cons, List.map_nil, List.sum_cons, List.sum_nil]; simp only []; omega
    · rw [if_neg e]
      have e0 : bit n d = 0 := by omega
      rw [e0, Nat.mul_zero] at hm
      rw [List.nil_append]; omega
theorem sum_take (l : List (Nat × Nat)) (i : Nat) : ((l.take i).map fun b => 2 ^ b.1).sum ≤ (l.map fun b => 2 ^ b.1).sum := by
  have e : (l.map fun b => 2 ^ b.1).sum = ((l.take i).map fun b => 2 ^ b.1).sum + ((l.drop i).map fun b => 2 ^ b.1).sum := by
    rw [← List.sum_append, ← List.map_append, List.take_append_drop]
  omega
theorem mtS_len (n : Nat) : ∀ d, (mtS n d).length ≤ d
  | 0 => by simp [mtS]
  | d + 1 => by
    have ih := mtS_len n d
    rw [mtS, List.length_append]
    split <;> simp <;> omega
end Go.Proofs.Ytkefjoljokfieaa.PCoverRests
