/- massiflaw04.CoverFresh: what the program's covers come to. No condition beyond those that each theorem names. -/
import Derived.Test.YtkefjoljokfieaaPCoverFreshx
set_option maxRecDepth 10000
set_option linter.unusedVariables false
namespace Go.Proofs.Ytkefjoljokfieaa.Pure
open Go Go.RowKit Go.Proofs.Ytkefjoljokfieaa.PCoverFresh Go.Proofs.Ytkefjoljokfieaa.MB Go.Proofs.YtkefjoljokfieaaW.PrintWords Go.Proofs.YtkefjoljokfieaaW.PrintLast

theorem rd_blks (l : List (Nat × Nat)) (i : Nat) (h : i < l.length) : rd_T42 (blks l) (i : Int) = ⟨(l[i].1 : Int), (l[i].2 : Int)⟩ := blks_get l i h
theorem same_l0 (l : List S42) (hl : l.length < 2 ^ 60) : ∀ (d i k : Nat), i + d = l.length → d < k → massiflaw04_same.l0 k l l (i : Int) = some true := by
  intro d
  induction d with
  | zero =>
    intro i k hi hk
    obtain ⟨k, rfl⟩ : ∃ m, k = m + 1 := ⟨k - 1, by omega⟩
    rw [massiflaw04_same.l0, if_neg (by omega)]
  | succ d ih =>
    intro i k hi hk
    obtain ⟨k, rfl⟩ : ∃ m, k = m + 1 := ⟨k - 1, by omega⟩
    rw [massiflaw04_same.l0, if_pos (by omega), if_pos (by omega), if_pos (by omega)]
    have e : wrap64 ((i : Int) + 1) = ((i + 1 : Nat) : Int) := by rw [wrap64_in _ (by omega) (by omega)]; omega
    rw [e]
    simp only [beq_self_eq_true, Bool.not_true, Bool.or_self, Bool.false_eq_true, if_false]
    exact ih (i + 1) k (by omega) (by omega)
theorem same_is (l : List S42) (k : Nat) (hl : l.length < 2 ^ 60) (hk : l.length < k) : massiflaw04_same.f k l l = some true := by
  unfold massiflaw04_same.f
  rw [if_pos rfl]
  exact same_l0 l hl l.length 0 k (by omega) hk
deriving instance DecidableEq for S42
theorem alive_is (k : Nat) (hk : 400 ≤ k) : massiflaw04_alive.f k = some true := by
  have h1 : cover_Mountains.f k 7 = some (blks (mtS 7 41), 0) := cover_Mountains.is 7 k (by omega) (by omega)
  have h2 : cover_Range.f 1 7 7 = some (blks [(0, 1), (1, 1), (1, 2), (0, 6)], 0) := by decide +kernel
  have h3 : cover_Rest.f 7 [4] = some (blks [(2, 0), (0, 5), (0, 6)], 0) := by decide +kernel
  have h4 : cover_Count.f 1099511627776 [0] = some (40, 0) := by decide +kernel
  have h5 : cover_Range.f 5 3 4 = some ([], 41) := by decide +kernel
  have h6 : cover_Rest.f 4 [5, 3] = some ([], 40) := by decide +kernel
  have hm : blks (mtS 7 41) = [⟨2, 0⟩, ⟨1, 2⟩, ⟨0, 6⟩] := by decide +kernel
  unfold massiflaw04_alive.f
  rw [h1, h2, h3, h4, h5, h6, hm]
  have s1 := same_is [⟨2, 0⟩, ⟨1, 2⟩, ⟨0, 6⟩] k (by simp) (by simp; omega)
  have s2 := same_is [⟨0, 1⟩, ⟨1, 1⟩, ⟨1, 2⟩, ⟨0, 6⟩] k (by simp) (by simp; omega)
  have s3 := same_is [⟨2, 0⟩, ⟨0, 5⟩, ⟨0, 6⟩] k (by simp) (by simp; omega)
  simp only [Option.bind_some, massiflaw04_num.f, if_true]
  rw [show blks [(0, 1), (1, 1), (1, 2), (0, 6)] = [(⟨0, 1⟩ : S42), ⟨1, 1⟩, ⟨1, 2⟩, ⟨0, 6⟩] from rfl, show blks [(2, 0), (0, 5), (0, 6)] = [(⟨2, 0⟩ : S42), ⟨0, 5⟩, ⟨0, 6⟩] from rfl, s1, s2, s3]
  rfl
/-- Blocks that lie one behind the other, from lo to hi. -/
def Tl : List (Nat × Nat) → Nat → Nat → Prop
  | [], lo, hi => lo = hi
  | b :: l, lo, hi => May b.1 b.2 ∧ b.2 * 2 ^ b.1 = lo ∧ Tl l ((b.2 + 1) * 2 ^ b.1) hi
theorem Tl.append : ∀ {a b : List (Nat × Nat)} {p q r : Nat}, Tl a p q → Tl b q r → Tl (a ++ b) p r
  | [], _, _, _, _, ha, hb => by rw [show _ = _ from ha]; exact hb
  | _ :: _, _, _, _, _, ⟨h1, h2, h3⟩, hb => ⟨h1, h2, Tl.append h3 hb⟩
theorem Tl.may : ∀ {l : List (Nat × Nat)} {p q : Nat}, Tl l p q → ∀ b ∈ l, May b.1 b.2
  | [], _, _, _, b, hb => by cases hb
  | c :: l, _, _, ⟨h1, _, h3⟩, b, hb => by
    rcases List.mem_cons.1 hb with e | e
    · rw [e]; exact h1
    · exact Tl.may h3 b e
/-- A number brought between lo and hi. -/
def cl (lo hi t : Nat) : Nat := if t < lo then lo else if hi < t then hi else t
theorem cl_spec (lo hi t : Nat) (h : lo ≤ hi) : (t ≤ lo ∧ cl lo hi t = lo) ∨ (lo ≤ t ∧ t ≤ hi ∧ cl lo hi t = t) ∨ (hi ≤ t ∧ cl lo hi t = hi) := by
  unfold cl
  split
  · exact .inl ⟨by omega, rfl⟩
  · split
    · exact .inr (.inr ⟨by omega, rfl⟩)
    · exact .inr (.inl ⟨by omega, by omega, rfl⟩)
theorem gath_tiles (lo hi : Nat) (hlh : lo ≤ hi) : ∀ h k, May h k → Tl (gath lo hi h k) (cl lo hi (k * 2 ^ h)) (cl lo hi ((k + 1) * 2 ^ h)) := by
  intro h
  induction h with
  | zero =>
    intro k m
    have hm : (k + 1) * 2 ^ 0 = k * 2 ^ 0 + 1 := by rw [Nat.add_mul, Nat.one_mul]
    by_cases c1 : (k + 1) * 2 ^ 0 ≤ lo ∨ hi ≤ k * 2 ^ 0
    · rw [gath_none lo hi 0 k c1]
      show cl lo hi _ = cl lo hi _
      generalize (k + 1) * 2 ^ 0 = y at *
      generalize k * 2 ^ 0 = x at *
      have hx := cl_spec lo hi x hlh; have hy := cl_spec lo hi y hlh; omega
    · have c2 : lo ≤ k * 2 ^ 0 ∧ (k + 1) * 2 ^ 0 ≤ hi := by omega
      rw [gath_all lo hi 0 k c1 c2]
      refine ⟨m, ?_, ?_⟩
      · generalize (k + 1) * 2 ^ 0 = y at *
        show k * 2 ^ 0 = _
        generalize k * 2 ^ 0 = x at *
        have hx := cl_spec lo hi x hlh; have hy := cl_spec lo hi y hlh; omega
      · show (k + 1) * 2 ^ 0 = _
        generalize (k + 1) * 2 ^ 0 = y at *
        generalize k * 2 ^ 0 = x at *
        have hx := cl_spec lo hi x hlh; have hy := cl_spec lo hi y hlh; omega
  | succ h ih =>
    intro k m
    have hp := two_pow_pos (h + 1)
    have hm : (k + 1) * 2 ^ (h + 1) = k * 2 ^ (h + 1) + 2 ^ (h + 1) := by rw [Nat.add_mul, Nat.one_mul]
    by_cases c1 : (k + 1) * 2 ^ (h + 1) ≤ lo ∨ hi ≤ k * 2 ^ (h + 1)
    · rw [gath_none lo hi (h + 1) k c1]
      show cl lo hi _ = cl lo hi _
      generalize (k + 1) * 2 ^ (h + 1) = y at *
      generalize k * 2 ^ (h + 1) = x at *
      generalize 2 ^ (h + 1) = p at *
      have hx := cl_spec lo hi x hlh; have hy := cl_spec lo hi y hlh; omega
    · by_cases c2 : lo ≤ k * 2 ^ (h + 1) ∧ (k + 1) * 2 ^ (h + 1) ≤ hi
      · rw [gath_all lo hi (h + 1) k c1 c2]
        refine ⟨m, ?_, ?_⟩
        · show k * 2 ^ (h + 1) = _
          generalize (k + 1) * 2 ^ (h + 1) = y at *
          generalize k * 2 ^ (h + 1) = x at *
          generalize 2 ^ (h + 1) = p at *
          have hx := cl_spec lo hi x hlh; have hy := cl_spec lo hi y hlh; omega
        · show (k + 1) * 2 ^ (h + 1) = _
          generalize (k + 1) * 2 ^ (h + 1) = y at *
          generalize k * 2 ^ (h + 1) = x at *
          generalize 2 ^ (h + 1) = p at *
          have hx := cl_spec lo hi x hlh; have hy := cl_spec lo hi y hlh; omega
      · rw [gath_half lo hi h k c1 c2]
        have h1 := ih (2 * k) m.left
        have h2 := ih (2 * k + 1) m.right
        have ep : 2 ^ (h + 1) = 2 * 2 ^ h := by rw [Nat.pow_succ, Nat.mul_comm]
        have e1 : 2 * k * 2 ^ h = k * 2 ^ (h + 1) := by rw [ep, Nat.mul_comm 2 k, Nat.mul_assoc]
        have e2 : (2 * k + 1 + 1) * 2 ^ h = (k + 1) * 2 ^ (h + 1) := by rw [ep, show 2 * k + 1 + 1 = (k + 1) * 2 from by omega, Nat.mul_assoc]
        rw [e1] at h1
        rw [e2] at h2
        exact h1.append h2
theorem gathAll_tiles (lo hi n : Nat) (hn : n ≤ 2 ^ 40) (hlh : lo ≤ hi) : ∀ d, d ≤ 41 → Tl (gathAll lo hi (mtS n d)) (cl lo hi (n / 2 ^ d * 2 ^ d)) (cl lo hi n)
  | 0, _ => by
    rw [Nat.pow_zero, Nat.div_one, Nat.mul_one]; rfl
  | d + 1, hd => by
    have ih := gathAll_tiles lo hi n hn hlh d (by omega)
    have hb := bit_lt n d
    have hu := half_up n d
    have ep : 2 ^ (d + 1) = 2 * 2 ^ d := by rw [Nat.pow_succ, Nat.mul_comm]
    have hmul : n / 2 ^ (d + 1) * 2 ^ (d + 1) = 2 * (n / 2 ^ (d + 1)) * 2 ^ d := by rw [ep, ← Nat.mul_assoc, Nat.mul_comm _ 2]
    rw [mtS]
    by_cases e : bit n d = 1
    · rw [if_pos e]
      have g := gath_tiles lo hi hlh d (n / 2 ^ d - 1) (may_of_bit n d hn (by omega) e)
      have es : gathAll lo hi ([(d, n / 2 ^ d - 1)] ++ mtS n d) = gath lo hi d (n / 2 ^ d - 1) ++ gathAll lo hi (mtS n d) := by unfold gathAll; simp
      have e1 : n / 2 ^ d - 1 = 2 * (n / 2 ^ (d + 1)) := by omega
      have e2 : n / 2 ^ d - 1 + 1 = n / 2 ^ d := by omega
      rw [es]
      rw [e2, e1, ← hmul] at g
      rw [e1]
      exact g.append ih
    · have e0 : bit n d = 0 := by omega
      rw [if_neg e, List.nil_append, hmul, show 2 * (n / 2 ^ (d + 1)) = n / 2 ^ d from by omega]
      exact ih
theorem range_tiles (lo hi n : Nat) (hn : n ≤ 2 ^ 40) (hlh : lo ≤ hi) (hhn : hi ≤ n) : Tl (gathAll lo hi (mtS n 41)) lo hi := by
  have h := gathAll_tiles lo hi n hn hlh 41 (by omega)
  rw [Nat.div_eq_of_lt (show n < 2 ^ 41 from by omega), Nat.zero_mul] at h
  rw [show cl lo hi 0 = lo from by have := cl_spec lo hi 0 hlh; omega, show cl lo hi n = hi from by have := cl_spec lo hi n hlh; omega] at h
  exact h
/-- The whole size's blocks are the mountains. -/
theorem gathAll_whole (n : Nat) : ∀ l : List (Nat × Nat), (∀ b ∈ l, (b.2 + 1) * 2 ^ b.1 ≤ n) → gathAll 0 n l = l
  | [], _ => rfl
  | b :: l, h => by
    have h1 := h b (List.mem_cons_self ..)
    have hp := two_pow_pos b.1
    have hm : (b.2 + 1) * 2 ^ b.1 = b.2 * 2 ^ b.1 + 2 ^ b.1 := by rw [Nat.add_mul, Nat.one_mul]
    have e : gathAll 0 n (b :: l) = gath 0 n b.1 b.2 ++ gathAll 0 n l := by unfold gathAll; simp
    rw [e, gathAll_whole n l (fun c hc => h c (List.mem_cons_of_mem _ hc)), gath_all 0 n b.1 b.2 (by omega) ⟨by omega, h1⟩]
    rfl
theorem mtS_end (n : Nat) : ∀ d, ∀ b ∈ mtS n d, (b.2 + 1) * 2 ^ b.1 ≤ n
  | 0, b, hb => by simp [mtS] at hb
  | d + 1, b, hb => by
    rw [mtS, List.mem_append] at hb
    rcases hb with h | h
    · by_cases e : bit n d = 1
      · rw [if_pos e, List.mem_singleton] at h
        subst h
        have hu := half_up n d
        show (n / 2 ^ d - 1 + 1) * 2 ^ d ≤ n
        rw [show n / 2 ^ d - 1 + 1 = n / 2 ^ d from by omega]
        exact Nat.div_mul_le_self n _
      · rw [if_neg e] at h; cases h
    · exact mtS_end n d b h
theorem mountains_tiles (n : Nat) (hn : n ≤ 2 ^ 40) : Tl (mtS n 41) 0 n := by
  have h := range_tiles 0 n n hn (Nat.zero_le _) (Nat.le_refl _)
  rwa [gathAll_whole n _ (mtS_end n 41)] at h
/-- A block of which the range holds the end, or the beginning. -/
theorem gath_suffix (lo hi : Nat) : ∀ h k, (k + 1) * 2 ^ h ≤ hi → (gath lo hi h k).length ≤ h + 1 ∧ (k * 2 ^ h < lo → (gath lo hi h k).length ≤ h)
  | 0, k, hy => by
    have hm : (k + 1) * 2 ^ 0 = k * 2 ^ 0 + 1 := by rw [Nat.add_mul, Nat.one_mul]
    by_cases c1 : (k + 1) * 2 ^ 0 ≤ lo ∨ hi ≤ k * 2 ^ 0
    · rw [gath_none lo hi 0 k c1]; simp
    · rw [gath_all lo hi 0 k c1 (by omega)]
      exact ⟨by simp, fun h => by omega⟩
  | h + 1, k, hy => by
    have ep : 2 ^ (h + 1) = 2 * 2 ^ h := by rw [Nat.pow_succ, Nat.mul_comm]
    have hp := two_pow_pos h
    have hm : (k + 1) * 2 ^ (h + 1) = k * 2 ^ (h + 1) + 2 ^ (h + 1) := by rw [Nat.add_mul, Nat.one_mul]
    have e1 : 2 * k * 2 ^ h = k * 2 ^ (h + 1) := by rw [ep, Nat.mul_comm 2 k, Nat.mul_assoc]
    have e2 : (2 * k + 1 + 1) * 2 ^ h = (k + 1) * 2 ^ (h + 1) := by rw [ep, show 2 * k + 1 + 1 = (k + 1) * 2 from by omega, Nat.mul_assoc]
    have e3 : (2 * k + 1) * 2 ^ h = 2 * k * 2 ^ h + 2 ^ h := by rw [Nat.add_mul, Nat.one_mul]
    by_cases c1 : (k + 1) * 2 ^ (h + 1) ≤ lo ∨ hi ≤ k * 2 ^ (h + 1)
    · rw [gath_none lo hi (h + 1) k c1]; simp
    · by_cases c2 : lo ≤ k * 2 ^ (h + 1)
      · rw [gath_all lo hi (h + 1) k c1 ⟨c2, hy⟩]
        exact ⟨by simp, fun h => by omega⟩
      · rw [gath_half lo hi h k c1 (by omega), List.length_append]
        have l1 := gath_suffix lo hi h (2 * k) (by omega)
        have l2 := gath_suffix lo hi h (2 * k + 1) (by omega)
        by_cases c3 : lo ≤ (2 * k + 1) * 2 ^ h
        · have hw : (gath lo hi h (2 * k + 1)).length ≤ 1 := by
            rw [gath_all lo hi h (2 * k + 1) (by omega) ⟨c3, by omega⟩]; simp
          have := l1.2 (by omega)
          omega
        · rw [gath_none lo hi h (2 * k) (.inl (by omega))]
          have := l2.2 (by omega)
          simp; omega
theorem gath_prefix (lo hi : Nat) : ∀ h k, lo ≤ k * 2 ^ h → (gath lo hi h k).length ≤ h + 1 ∧ (hi < (k + 1) * 2 ^ h → (gath lo hi h k).length ≤ h)
  | 0, k, hy => by
    have hm : (k + 1) * 2 ^ 0 = k * 2 ^ 0 + 1 := by rw [Nat.add_mul, Nat.one_mul]
    by_cases c1 : (k + 1) * 2 ^ 0 ≤ lo ∨ hi ≤ k * 2 ^ 0
    · rw [gath_none lo hi 0 k c1]; simp
    · rw [gath_all lo hi 0 k c1 (by omega)]
      exact ⟨by simp, fun h => by omega⟩
  | h + 1, k, hy => by
    have ep : 2 ^ (h + 1) = 2 * 2 ^ h := by rw [Nat.pow_succ, Nat.mul_comm]
    have hp := two_pow_pos h
    have hm : (k + 1) * 2 ^ (h + 1) = k * 2 ^ (h + 1) + 2 ^ (h + 1) := by rw [Nat.add_mul, Nat.one_mul]
    have e1 : 2 * k * 2 ^ h = k * 2 ^ (h + 1) := by rw [ep, Nat.mul_comm 2 k, Nat.mul_assoc]
    have e2 : (2 * k + 1 + 1) * 2 ^ h = (k + 1) * 2 ^ (h + 1) := by rw [ep, show 2 * k + 1 + 1 = (k + 1) * 2 from by omega, Nat.mul_assoc]
    have e3 : (2 * k + 1) * 2 ^ h = 2 * k * 2 ^ h + 2 ^ h := by rw [Nat.add_mul, Nat.one_mul]
    by_cases c1 : (k + 1) * 2 ^ (h + 1) ≤ lo ∨ hi ≤ k * 2 ^ (h + 1)
    · rw [gath_none lo hi (h + 1) k c1]; simp
    · by_cases c2 : (k + 1) * 2 ^ (h + 1) ≤ hi
      · rw [gath_all lo hi (h + 1) k c1 ⟨hy, c2⟩]
        exact ⟨by simp, fun h => by omega⟩
      · rw [gath_half lo hi h k c1 (by omega), List.length_append]
        have l1 := gath_prefix lo hi h (2 * k) (by omega)
        have l2 := gath_prefix lo hi h (2 * k + 1) (by omega)
        by_cases c3 : (2 * k + 1) * 2 ^ h ≤ hi
        · have hw : (gath lo hi h (2 * k)).length ≤ 1 := by
            rw [gath_all lo hi h (2 * k) (by omega) ⟨by omega, c3⟩]; simp
          have := l2.2 (by omega)
          omega
        · rw [gath_none lo hi h (2 * k + 1) (.inr (by omega))]
          have := l1.2 (by omega)
          simp; omega
theorem gath_any (lo hi : Nat) : ∀ h k, (gath lo hi h k).length ≤ 2 * h + 1 ∧ (0 < h → (gath lo hi h k).length ≤ 2 * h)
  | 0, k => by have := gath_le lo hi 0 k; omega
  | h + 1, k => by
    have ep : 2 ^ (h + 1) = 2 * 2 ^ h := by rw [Nat.pow_succ, Nat.mul_comm]
    have hp := two_pow_pos h
    have e1 : 2 * k * 2 ^ h = k * 2 ^ (h + 1) := by rw [ep, Nat.mul_comm 2 k, Nat.mul_assoc]
    have e2 : (2 * k + 1 + 1) * 2 ^ h = (k + 1) * 2 ^ (h + 1) := by rw [ep, show 2 * k + 1 + 1 = (k + 1) * 2 from by omega, Nat.mul_assoc]
    by_cases c1 : (k + 1) * 2 ^ (h + 1) ≤ lo ∨ hi ≤ k * 2 ^ (h + 1)
    · rw [gath_none lo hi (h + 1) k c1]; simp
    · by_cases c2 : lo ≤ k * 2 ^ (h + 1) ∧ (k + 1) * 2 ^ (h + 1) ≤ hi
      · rw [gath_all lo hi (h + 1) k c1 c2]; simp; omega
      · rw [gath_half lo hi h k c1 c2, List.length_append]
        by_cases c3 : hi ≤ (2 * k + 1) * 2 ^ h
        · rw [gath_none lo hi h (2 * k + 1) (.inr c3)]
          have := (gath_any lo hi h (2 * k)).1
          simp; omega
        · by_cases c4 : (2 * k + 1) * 2 ^ h ≤ lo
          · rw [gath_none lo hi h (2 * k) (.inl c4)]
            have := (gath_any lo hi h (2 * k + 1)).1
            simp; omega
          · have := (gath_suffix lo hi h (2 * k) (by omega)).1
            have := (gath_prefix lo hi h (2 * k + 1) (by omega)).1
            omega
theorem mtS_start (n : Nat) : ∀ d, ∀ b ∈ mtS n d, n / 2 ^ d * 2 ^ d ≤ b.2 * 2 ^ b.1
  | 0, b, hb => by simp [mtS] at hb
  | d + 1, b, hb => by
    have hu := half_up n d
    have hbit := bit_lt n d
    have ep : 2 ^ (d + 1) = 2 * 2 ^ d := by rw [Nat.pow_succ, Nat.mul_comm]
    have hmul : n / 2 ^ (d + 1) * 2 ^ (d + 1) = 2 * (n / 2 ^ (d + 1)) * 2 ^ d := by rw [ep, ← Nat.mul_assoc, Nat.mul_comm _ 2]
    rw [mtS, List.mem_append] at hb
    rcases hb with h | h
    · by_cases e : bit n d = 1
      · rw [if_pos e, List.mem_singleton] at h
        subst h
        show _ ≤ (n / 2 ^ d - 1) * 2 ^ d
        rw [hmul, show 2 * (n / 2 ^ (d + 1)) = n / 2 ^ d - 1 from by omega]
        exact Nat.le_refl _
      · rw [if_neg e] at h; cases h
    · have := mtS_start n d b h
      rw [hmul]
      exact Nat.le_trans (Nat.mul_le_mul_right _ (by omega)) this
theorem gathAll_none (lo hi : Nat) : ∀ l : List (Nat × Nat), (∀ b ∈ l, hi ≤ b.2 * 2 ^ b.1) → gathAll lo hi l = []
  | [], _ => rfl
  | b :: l, h => by
    have e : gathAll lo hi (b :: l) = gath lo hi b.1 b.2 ++ gathAll lo hi l := by unfold gathAll; simp
    rw [e, gath_none lo hi _ _ (.inr (h b (List.mem_cons_self ..))), gathAll_none lo hi l (fun c hc => h c (List.mem_cons_of_mem _ hc))]; rfl
theorem forest_prefix (lo hi n : Nat) : ∀ d, lo ≤ n / 2 ^ d * 2 ^ d → (gathAll lo hi (mtS n d)).length ≤ d
  | 0, _ => by simp [mtS, gathAll]
  | d + 1, h => by
    have hu := half_up n d
    have hbit := bit_lt n d
    have ep : 2 ^ (d + 1) = 2 * 2 ^ d := by rw [Nat.pow_succ, Nat.mul_comm]
    have hmul : n / 2 ^ (d + 1) * 2 ^ (d + 1) = 2 * (n / 2 ^ (d + 1)) * 2 ^ d := by rw [ep, ← Nat.mul_assoc, Nat.mul_comm _ 2]
    rw [hmul] at h
    have h' : lo ≤ n / 2 ^ d * 2 ^ d := Nat.le_trans h (Nat.mul_le_mul_right _ (by omega))
    have ih := forest_prefix lo hi n d h'
    rw [mtS]
    by_cases e : bit n d = 1
    · rw [if_pos e]
      have es : gathAll lo hi ([(d, n / 2 ^ d - 1)] ++ mtS n d) = gath lo hi d (n / 2 ^ d - 1) ++ gathAll lo hi (mtS n d) := by unfold gathAll; simp
      rw [es, List.length_append]
      have e1 : n / 2 ^ d - 1 = 2 * (n / 2 ^ (d + 1)) := by omega
      have e2 : n / 2 ^ d - 1 + 1 = n / 2 ^ d := by omega
      have hp := gath_prefix lo hi d (n / 2 ^ d - 1) (by rw [e1]; exact h)
      rw [e2] at hp
      by_cases c : hi < n / 2 ^ d * 2 ^ d
      · rw [gathAll_none lo hi (mtS n d) (fun b hb => Nat.le_trans (Nat.le_of_lt c) (mtS_start n d b hb))]
        have := hp.2 c
        simp; omega
      · have hw : (gath lo hi d (n / 2 ^ d - 1)).length ≤ 1 := by
          by_cases c1 : (n / 2 ^ d - 1 + 1) * 2 ^ d ≤ lo ∨ hi ≤ (n / 2 ^ d - 1) * 2 ^ d
          · rw [gath_none lo hi _ _ c1]; simp
          · rw [gath_all lo hi _ _ c1 ⟨by rw [e1]; exact h, by rw [e2]; omega⟩]; simp
        omega
    · rw [if_neg e, List.nil_append]; omega
theorem forest_any (lo hi n : Nat) : ∀ d, (gathAll lo hi (mtS n d)).length ≤ 2 * d
  | 0 => by simp [mtS, gathAll]
  | d + 1 => by
    have ih := forest_any lo hi n d
    have hu := half_up n d
    have hbit := bit_lt n d
    rw [mtS]
    by_cases e : bit n d = 1
    · rw [if_pos e]
      have es : gathAll lo hi ([(d, n / 2 ^ d - 1)] ++ mtS n d) = gath lo hi d (n / 2 ^ d - 1) ++ gathAll lo hi (mtS n d) := by unfold gathAll; simp
      rw [es, List.length_append]
      have e2 : n / 2 ^ d - 1 + 1 = n / 2 ^ d := by omega
      by_cases c0 : n / 2 ^ d * 2 ^ d ≤ lo
      · rw [gath_none lo hi d _ (.inl (by rw [e2]; exact c0))]; simp; omega
      · have hf := forest_prefix lo hi n d (by omega)
        by_cases c : hi ≤ n / 2 ^ d * 2 ^ d
        · rw [gathAll_none lo hi (mtS n d) (fun b hb => Nat.le_trans c (mtS_start n d b hb))]
          have := (gath_any lo hi d (n / 2 ^ d - 1)).1
          simp; omega
        · have := (gath_suffix lo hi d (n / 2 ^ d - 1) (by rw [e2]; omega)).1
          omega
    · rw [if_neg e, List.nil_append]; omega
/-- No block's parent lies in the range. -/
theorem gath_max (lo hi : Nat) : ∀ h k, ∀ b ∈ gath lo hi h k, b = (h, k) ∨ ¬ (lo ≤ b.2 / 2 * 2 ^ (b.1 + 1) ∧ (b.2 / 2 + 1) * 2 ^ (b.1 + 1) ≤ hi)
  | 0, k, b, hb => by
    by_cases c1 : (k + 1) * 2 ^ 0 ≤ lo ∨ hi ≤ k * 2 ^ 0
    · rw [gath_none lo hi 0 k c1] at hb; cases hb
    · have hm : (k + 1) * 2 ^ 0 = k * 2 ^ 0 + 1 := by rw [Nat.add_mul, Nat.one_mul]
      rw [gath_all lo hi 0 k c1 (by omega), List.mem_singleton] at hb
      exact .inl hb
  | h + 1, k, b, hb => by
    by_cases c1 : (k + 1) * 2 ^ (h + 1) ≤ lo ∨ hi ≤ k * 2 ^ (h + 1)
    · rw [gath_none lo hi (h + 1) k c1] at hb; cases hb
    · by_cases c2 : lo ≤ k * 2 ^ (h + 1) ∧ (k + 1) * 2 ^ (h + 1) ≤ hi
      · rw [gath_all lo hi (h + 1) k c1 c2, List.mem_singleton] at hb
        exact .inl hb
      · rw [gath_half lo hi h k c1 c2, List.mem_append] at hb
        rcases hb with hb | hb
        · rcases gath_max lo hi h (2 * k) b hb with e | e
          · subst e
            right
            simp only [show 2 * k / 2 = k from by omega]
            exact c2
          · exact .inr e
        · rcases gath_max lo hi h (2 * k + 1) b hb with e | e
          · subst e
            right
            simp only [show (2 * k + 1) / 2 = k from by omega]
            exact c2
          · exact .inr e
theorem forest_max (lo hi n : Nat) (hhn : hi ≤ n) : ∀ d, ∀ b ∈ gathAll lo hi (mtS n d), ¬ (lo ≤ b.2 / 2 * 2 ^ (b.1 + 1) ∧ (b.2 / 2 + 1) * 2 ^ (b.1 + 1) ≤ hi)
  | 0, b, hb => by simp [mtS, gathAll] at hb
  | d + 1, b, hb => by
    have hu := half_up n d
    rw [mtS] at hb
    by_cases e : bit n d = 1
    · rw [if_pos e] at hb
      have es : gathAll lo hi ([(d, n / 2 ^ d - 1)] ++ mtS n d) = gath lo hi d (n / 2 ^ d - 1) ++ gathAll lo hi (mtS n d) := by unfold gathAll; simp
      rw [es, List.mem_append] at hb
      rcases hb with hb | hb
      · rcases gath_max lo hi d _ b hb with e' | e'
        · subst e'
          have hlt : n < (n / 2 ^ (d + 1) + 1) * 2 ^ (d + 1) := by have := Nat.div_add_mod n (2 ^ (d + 1)); have := Nat.mod_lt n (two_pow_pos (d + 1)); rw [Nat.add_mul, Nat.one_mul, Nat.mul_comm (n / 2 ^ (d + 1))]; omega
          simp only [show (n / 2 ^ d - 1) / 2 = n / 2 ^ (d + 1) from by omega]
          omega
        · exact e'
      · exact forest_max lo hi n hhn d b hb
    · rw [if_neg e, List.nil_append] at hb
      exact forest_max lo hi n hhn d b hb
theorem range_len (lo hi n : Nat) (hn : n ≤ 2 ^ 40) : (gathAll lo hi (mtS n 41)).length ≤ 80 := by
  by_cases e : n = 2 ^ 40
  · have e1 : mtS n 41 = [(40, 0)] := by rw [e]; decide +kernel
    rw [e1]
    have es : gathAll lo hi [(40, 0)] = gath lo hi 40 0 := by unfold gathAll; simp
    rw [es]
    exact (gath_any lo hi 40 0).2 (by omega)
  · have e1 : mtS n 41 = mtS n 40 := by
      rw [mtS, if_neg, List.nil_append]
      unfold bit
      rw [Nat.div_eq_of_lt (by omega)]; decide
    rw [e1]
    exact forest_any lo hi n 40
theorem mountains_len (n : Nat) (hn : n ≤ 2 ^ 40) : (mtS n 41).length ≤ 40 := by
  by_cases e : n = 2 ^ 40
  · have e1 : mtS n 41 = [(40, 0)] := by rw [e]; decide +kernel
    rw [e1]; simp
  · have e1 : mtS n 41 = mtS n 40 := by
      rw [mtS, if_neg, List.nil_append]
      unfold bit
      rw [Nat.div_eq_of_lt (by omega)]; decide
    rw [e1]
    exact mtS_le n 40
/-- Blocks and numbers that lie one behind the other, from lo to hi. -/
inductive Mg : List (Nat × Nat) → List Int → Nat → Nat → Prop
  | nil (p : Nat) : Mg [] [] p p
  | num {bs : List (Nat × Nat)} {l : List Int} {p q : Nat} : Mg bs l (p + 1) q → Mg bs ((p : Int) :: l) p q
  | blk {h k : Nat} {bs : List (Nat × Nat)} {l : List Int} {q : Nat} : May h k → (∀ x ∈ l, (((k + 1) * 2 ^ h : Nat) : Int) ≤ x) → Mg bs l ((k + 1) * 2 ^ h) q → Mg ((h, k) :: bs) l (k * 2 ^ h) q
theorem Mg.le {bs : List (Nat × Nat)} {l : List Int} {p q : Nat} (m : Mg bs l p q) : p ≤ q := by
  induction m with
  | nil p => exact Nat.le_refl _
  | num _ ih => omega
  | @blk h k bs l q _ _ _ ih => exact Nat.le_trans (Nat.mul_le_mul_right _ (Nat.le_succ k)) ih
theorem Mg.append {a b : List (Nat × Nat)} {l m : List Int} {p q r : Nat} (x : Mg a l p q) (y : Mg b m q r) (hm : ∀ z ∈ m, (q : Int) ≤ z) : Mg (a ++ b) (l ++ m) p r := by
  induction x with
  | nil p => exact y
  | num _ ih => exact .num (ih y hm)
  | @blk h k bs l q m1 m2 m3 ih =>
    refine .blk m1 (fun z hz => ?_) (ih y hm)
    rcases List.mem_append.1 hz with hz | hz
    · exact m2 z hz
    · have := hm z hz; have := m3.le; omega
theorem cut_lt (x : Int) (l : List Int) : ∀ z ∈ l.take (cutI x l), z < x := by
  intro z hz
  obtain ⟨i, hi, rfl⟩ := List.getElem_of_mem hz
  rw [List.length_take] at hi
  rw [List.getElem_take]
  exact cutI_lt x l i (by omega) (by omega)
theorem cut_ge (x : Int) (l : List Int) (hp : l.Pairwise (· < ·)) : ∀ z ∈ l.drop (cutI x l), x ≤ z := by
  intro z hz
  obtain ⟨i, hi, rfl⟩ := List.getElem_of_mem hz
  rw [List.length_drop] at hi
  rw [List.getElem_drop]
  exact cutI_ge x l hp _ (by omega) (by omega)
theorem wrest_step (h k : Nat) (l : List Int) (hl : l ≠ []) : wrest (h + 1) k l = wrest h (2 * k) (l.take (cutI (((2 * k + 1) * 2 ^ h : Nat) : Int) l)) ++ wrest h (2 * k + 1) (l.drop (cutI (((2 * k + 1) * 2 ^ h : Nat) : Int) l)) := by
  cases l with
  | nil => exact absurd rfl hl
  | cons x l => rw [wrest]
theorem two_halves (h k : Nat) : 2 * k * 2 ^ h = k * 2 ^ (h + 1) ∧ (2 * k + 1 + 1) * 2 ^ h = (k + 1) * 2 ^ (h + 1) ∧ (2 * k + 1) * 2 ^ h = 2 * k * 2 ^ h + 2 ^ h ∧ (k + 1) * 2 ^ (h + 1) = k * 2 ^ (h + 1) + 2 * 2 ^ h := by
  have ep : 2 ^ (h + 1) = 2 * 2 ^ h := by rw [Nat.pow_succ, Nat.mul_comm]
  refine ⟨by rw [ep, Nat.mul_comm 2 k, Nat.mul_assoc], by rw [ep, show 2 * k + 1 + 1 = (k + 1) * 2 from by omega, Nat.mul_assoc], by rw [Nat.add_mul, Nat.one_mul], by rw [Nat.add_mul, Nat.one_mul, ep]⟩
theorem wrest_mg : ∀ h k (l : List Int), May h k → l.Pairwise (· < ·) → (∀ x ∈ l, ((k * 2 ^ h : Nat) : Int) ≤ x ∧ x < (((k + 1) * 2 ^ h : Nat) : Int)) → Mg (wrest h k l) l (k * 2 ^ h) ((k + 1) * 2 ^ h)
  | h, k, [], m, _, _ => by rw [wrest_nil]; exact .blk m (fun _ h => by cases h) (.nil _)
  | 0, k, x :: l, m, hp, hr => by
    have hx := hr x (List.mem_cons_self ..)
    rw [Nat.pow_zero, Nat.mul_one, Nat.mul_one] at hx
    have e : x = (k : Int) := by omega
    have el : l = [] := by
      cases l with
      | nil => rfl
      | cons y l =>
        have hy := hr y (by simp)
        have := (List.pairwise_cons.1 hp).1 y (by simp)
        rw [Nat.pow_zero, Nat.mul_one, Nat.mul_one] at hy
        omega
    subst el
    rw [e, Nat.pow_zero, Nat.mul_one, Nat.mul_one]
    exact .num (.nil _)
  | h + 1, k, x :: l, m, hp, hr => by
    obtain ⟨e1, e2, e3, e4⟩ := two_halves h k
    have g1 := cut_lt (((2 * k + 1) * 2 ^ h : Nat) : Int) (x :: l)
    have g2 := cut_ge (((2 * k + 1) * 2 ^ h : Nat) : Int) (x :: l) hp
    rw [wrest_step h k _ (by simp)]
    have q1 := wrest_mg h (2 * k) ((x :: l).take (cutI (((2 * k + 1) * 2 ^ h : Nat) : Int) (x :: l))) m.left (hp.sublist (List.take_sublist _ _)) (fun z hz => ⟨by rw [e1]; exact (hr z (List.mem_of_mem_take hz)).1, g1 z hz⟩)
    have q2 := wrest_mg h (2 * k + 1) ((x :: l).drop (cutI (((2 * k + 1) * 2 ^ h : Nat) : Int) (x :: l))) m.right (hp.sublist (List.drop_sublist _ _)) (fun z hz => ⟨g2 z hz, by rw [e2]; exact (hr z (List.mem_of_mem_drop hz)).2⟩)
    have q := q1.append q2 g2
    rw [List.take_append_drop, e1, e2] at q
    exact q
/-- Every block of a rest is as great as can be. -/
def Mx (n : Nat) (set : List Int) (b : Nat × Nat) : Prop := (b.2 / 2 + 1) * 2 ^ (b.1 + 1) ≤ n → ∃ x ∈ set, ((b.2 / 2 * 2 ^ (b.1 + 1) : Nat) : Int) ≤ x ∧ x < (((b.2 / 2 + 1) * 2 ^ (b.1 + 1) : Nat) : Int)
theorem wrest_max (n : Nat) : ∀ h k (l : List Int), l ≠ [] → l.Pairwise (· < ·) → (∀ x ∈ l, ((k * 2 ^ h : Nat) : Int) ≤ x ∧ x < (((k + 1) * 2 ^ h : Nat) : Int)) → ∀ b ∈ wrest h k l, Mx n l b
  | h, k, [], hl, _, _ => absurd rfl hl
  | 0, k, x :: l, _, hp, hr => by intro b hb; simp [wrest] at hb
  | h + 1, k, x :: l, _, hp, hr => by
    obtain ⟨e1, e2, e3, e4⟩ := two_halves h k
    have g1 := cut_lt (((2 * k + 1) * 2 ^ h : Nat) : Int) (x :: l)
    have g2 := cut_ge (((2 * k + 1) * 2 ^ h : Nat) : Int) (x :: l) hp
    rw [wrest_step h k _ (by simp)]
    intro b hb
    have hx := hr x (List.mem_cons_self ..)
    rcases List.mem_append.1 hb with hb | hb
    · by_cases c : (x :: l).take (cutI (((2 * k + 1) * 2 ^ h : Nat) : Int) (x :: l)) = []
      · rw [c, wrest_nil, List.mem_singleton] at hb
        subst hb
        intro _
        refine ⟨x, List.mem_cons_self .., ?_⟩
        rw [show 2 * k / 2 = k from by omega]
        exact hx
      · intro hn
        obtain ⟨z, hz, hq⟩ := wrest_max n h (2 * k) _ c (hp.sublist (List.take_sublist _ _)) (fun z hz => ⟨by rw [e1]; exact (hr z (List.mem_of_mem_take hz)).1, g1 z hz⟩) b hb hn
        exact ⟨z, List.mem_of_mem_take hz, hq⟩
    · by_cases c : (x :: l).drop (cutI (((2 * k + 1) * 2 ^ h : Nat) : Int) (x :: l)) = []
      · rw [c, wrest_nil, List.mem_singleton] at hb
        subst hb
        intro _
        refine ⟨x, List.mem_cons_self .., ?_⟩
        rw [show (2 * k + 1) / 2 = k from by omega]
        exact hx
      · intro hn
        obtain ⟨z, hz, hq⟩ := wrest_max n h (2 * k + 1) _ c (hp.sublist (List.drop_sublist _ _)) (fun z hz => ⟨g2 z hz, by rw [e2]; exact (hr z (List.mem_of_mem_drop hz)).2⟩) b hb hn
        exact ⟨z, List.mem_of_mem_drop hz, hq⟩
theorem wrest_len : ∀ h k (l : List Int), l ≠ [] → (wrest h k l).length ≤ l.length * h
  | h, k, [], hl => absurd rfl hl
  | 0, k, x :: l, _ => by simp [wrest]
  | h + 1, k, x :: l, _ => by
    rw [wrest_step h k _ (by simp), List.length_append]
    generalize hc : cutI (((2 * k + 1) * 2 ^ h : Nat) : Int) (x :: l) = c
    have hle : c ≤ (x :: l).length := by rw [← hc]; exact cutI_le _ _
    have hlen : ((x :: l).take c).length + ((x :: l).drop c).length = (x :: l).length := by rw [List.length_take, List.length_drop]; omega
    have hpos : 0 < (x :: l).length := by simp
    have one : ∀ (m : List Int) k', (wrest h k' m).length ≤ m.length * h + (if m = [] then 1 else 0) := by
      intro m k'
      by_cases cm : m = []
      · subst cm; rw [wrest_nil]; simp
      · have := wrest_len h k' m cm; rw [if_neg cm]; omega
    have o1 := one ((x :: l).take c) (2 * k)
    have o2 := one ((x :: l).drop c) (2 * k + 1)
    have em : (x :: l).length * (h + 1) = ((x :: l).take c).length * h + ((x :: l).drop c).length * h + (x :: l).length := by
      rw [← Nat.add_mul, hlen, Nat.mul_succ]
    rw [em]
    generalize ((x :: l).take c).length * h = A at *
    generalize ((x :: l).drop c).length * h = B at *
    have i1 : (if (x :: l).take c = [] then 1 else 0) + (if (x :: l).drop c = [] then 1 else 0) ≤ (x :: l).length := by
      split
      · rename_i u1
        rw [u1] at hlen
        split
        · rename_i u2
          rw [u2] at hlen
          simp at hlen
        · omega
      · split <;> omega
    omega
theorem restAll_len (c : Nat) : ∀ (ms : List (Nat × Nat)) (l : List Int), (∀ b ∈ ms, b.1 ≤ c) → (restAll ms l).length ≤ l.length * c + ms.length
  | [], l, _ => by simp [restAll]
  | b :: ms, l, hc => by
    rw [restAll, List.length_append]
    generalize hcut : cutI (((b.2 + 1) * 2 ^ b.1 : Nat) : Int) l = q
    have hle : q ≤ l.length := by rw [← hcut]; exact cutI_le _ _
    have ih := restAll_len c ms (l.drop q) (fun x hx => hc x (List.mem_cons_of_mem _ hx))
    have hb := hc b (List.mem_cons_self ..)
    have h1 : (wrest b.1 b.2 (l.take q)).length ≤ (l.take q).length * c + 1 := by
      by_cases cm : l.take q = []
      · rw [cm, wrest_nil]; simp
      · have := wrest_len b.1 b.2 _ cm
        have := Nat.mul_le_mul_left (l.take q).length hb
        omega
    have e : l.length * c = (l.take q).length * c + (l.drop q).length * c := by
      rw [← Nat.add_mul, List.length_take, List.length_drop, Nat.min_eq_left hle]; congr 1; omega
    rw [e]
    simp only [List.length_cons]
    omega
theorem restAll_mg (n : Nat) : ∀ (ms : List (Nat × Nat)) (p : Nat) (l : List Int), Tl ms p n → l.Pairwise (· < ·) → (∀ x ∈ l, (p : Int) ≤ x ∧ x < (n : Int)) → Mg (restAll ms l) l p n
  | [], p, l, ht, hp, hr => by
    have e : p = n := ht
    have el : l = [] := by
      cases l with
      | nil => rfl
      | cons y l => have := hr y (List.mem_cons_self ..); omega
    subst e; subst el
    exact .nil _
  | b :: ms, p, l, ⟨t1, t2, t3⟩, hp, hr => by
    have g1 := cut_lt (((b.2 + 1) * 2 ^ b.1 : Nat) : Int) l
    have g2 := cut_ge (((b.2 + 1) * 2 ^ b.1 : Nat) : Int) l hp
    have q1 := wrest_mg b.1 b.2 (l.take (cutI (((b.2 + 1) * 2 ^ b.1 : Nat) : Int) l)) t1 (hp.sublist (List.take_sublist _ _)) (fun z hz => ⟨by rw [t2]; exact (hr z (List.mem_of_mem_take hz)).1, g1 z hz⟩)
    have q2 := restAll_mg n ms _ (l.drop (cutI (((b.2 + 1) * 2 ^ b.1 : Nat) : Int) l)) t3 (hp.sublist (List.drop_sublist _ _)) (fun z hz => ⟨g2 z hz, (hr z (List.mem_of_mem_drop hz)).2⟩)
    have q := q1.append q2 g2
    rw [List.take_append_drop, t2] at q
    rw [restAll]
    exact q
theorem restAll_max (n : Nat) : ∀ (ms : List (Nat × Nat)) (p : Nat) (l : List Int), Tl ms p n → l.Pairwise (· < ·) → (∀ x ∈ l, (p : Int) ≤ x ∧ x < (n : Int)) → (∀ b ∈ ms, ¬ (b.2 / 2 + 1) * 2 ^ (b.1 + 1) ≤ n) → ∀ b ∈ restAll ms l, Mx n l b
  | [], p, l, ht, hp, hr, hm => by intro b hb; simp [restAll] at hb
  | b :: ms, p, l, ⟨t1, t2, t3⟩, hp, hr, hm => by
    have g1 := cut_lt (((b.2 + 1) * 2 ^ b.1 : Nat) : Int) l
    have g2 := cut_ge (((b.2 + 1) * 2 ^ b.1 : Nat) : Int) l hp
    rw [restAll]
    intro a ha
    rcases List.mem_append.1 ha with ha | ha
    · by_cases c : l.take (cutI (((b.2 + 1) * 2 ^ b.1 : Nat) : Int) l) = []
      · rw [c, wrest_nil, List.mem_singleton] at ha
        subst ha
        intro hn
        exact absurd hn (hm b (List.mem_cons_self ..))
      · intro hn
        obtain ⟨z, hz, hq⟩ := wrest_max n b.1 b.2 _ c (hp.sublist (List.take_sublist _ _)) (fun z hz => ⟨by rw [t2]; exact (hr z (List.mem_of_mem_take hz)).1, g1 z hz⟩) a ha hn
        exact ⟨z, List.mem_of_mem_take hz, hq⟩
    · intro hn
      obtain ⟨z, hz, hq⟩ := restAll_max n ms _ (l.drop (cutI (((b.2 + 1) * 2 ^ b.1 : Nat) : Int) l)) t3 (hp.sublist (List.drop_sublist _ _)) (fun z hz => ⟨g2 z hz, (hr z (List.mem_of_mem_drop hz)).2⟩) (fun c hc => hm c (List.mem_cons_of_mem _ hc)) a ha hn
      exact ⟨z, List.mem_of_mem_drop hz, hq⟩
/-- Of one number: the two ranges beside it. -/
theorem gath_split (lo hi h k : Nat) (c : ¬ (lo ≤ k * 2 ^ (h + 1) ∧ (k + 1) * 2 ^ (h + 1) ≤ hi)) : gath lo hi (h + 1) k = gath lo hi h (2 * k) ++ gath lo hi h (2 * k + 1) := by
  by_cases c1 : (k + 1) * 2 ^ (h + 1) ≤ lo ∨ hi ≤ k * 2 ^ (h + 1)
  · obtain ⟨e1, e2, e3, e4⟩ := two_halves h k
    rw [gath_none lo hi (h + 1) k c1, gath_none lo hi h (2 * k) (by rcases c1 with c1 | c1; exact .inl (by omega); exact .inr (by omega)), gath_none lo hi h (2 * k + 1) (by rcases c1 with c1 | c1; exact .inl (by omega); exact .inr (by omega))]; rfl
  · exact gath_half lo hi h k c1 c
theorem cut_one_lt (y x : Nat) (h : x < y) : cutI (y : Int) [(x : Int)] = 1 := by simp [cutI]; omega
theorem cut_one_ge (y x : Nat) (h : y ≤ x) : cutI (y : Int) [(x : Int)] = 0 := by simp [cutI]; omega
theorem wrest_one (n x : Nat) : ∀ h k, k * 2 ^ h ≤ x → x < (k + 1) * 2 ^ h → (k + 1) * 2 ^ h ≤ n → wrest h k [(x : Int)] = gath 0 x h k ++ gath (x + 1) n h k
  | 0, k, h1, h2, h3 => by
    rw [gath_none 0 x 0 k (.inr (by rw [Nat.pow_zero, Nat.mul_one] at *; omega)), gath_none (x + 1) n 0 k (.inl (by rw [Nat.pow_zero, Nat.mul_one] at *; omega))]
    simp [wrest]
  | h + 1, k, h1, h2, h3 => by
    obtain ⟨e1, e2, e3, e4⟩ := two_halves h k
    have hp := two_pow_pos h
    rw [wrest_step h k _ (by simp), gath_split 0 x h k (by omega), gath_split (x + 1) n h k (by omega)]
    by_cases c : x < (2 * k + 1) * 2 ^ h
    · rw [cut_one_lt _ x c, gath_none 0 x h (2 * k + 1) (.inr (by omega)), gath_all (x + 1) n h (2 * k + 1) (by omega) ⟨by omega, by omega⟩]
      rw [show [(x : Int)].take 1 = [(x : Int)] from rfl, show [(x : Int)].drop 1 = [] from rfl, wrest_nil, wrest_one n x h (2 * k) (by omega) c (by omega), List.append_nil, List.append_assoc]
    · rw [cut_one_ge _ x (by omega), gath_none (x + 1) n h (2 * k) (.inl (by omega)), gath_all 0 x h (2 * k) (by omega) ⟨by omega, by omega⟩]
      rw [show [(x : Int)].take 0 = [] from rfl, show [(x : Int)].drop 0 = [(x : Int)] from rfl, wrest_nil, wrest_one n x h (2 * k + 1) (by omega) (by omega) (by omega), List.nil_append, List.append_assoc]
theorem restAll_nil : ∀ ms : List (Nat × Nat), restAll ms [] = ms
  | [] => rfl
  | b :: ms => by rw [restAll]; simp only [List.take_nil, List.drop_nil]; rw [wrest_nil, restAll_nil ms]; rfl
theorem gathAll_cons (lo hi : Nat) (b : Nat × Nat) (ms : List (Nat × Nat)) : gathAll lo hi (b :: ms) = gath lo hi b.1 b.2 ++ gathAll lo hi ms := by unfold gathAll; simp
theorem Tl.le : ∀ {l : List (Nat × Nat)} {p q : Nat}, Tl l p q → p ≤ q
  | [], _, _, h => Nat.le_of_eq h
  | b :: _, _, _, ⟨_, h2, h3⟩ => by
    have := Tl.le h3
    have : b.2 * 2 ^ b.1 ≤ (b.2 + 1) * 2 ^ b.1 := Nat.mul_le_mul_right (2 ^ b.1) (Nat.le_succ b.2)
    omega
theorem all_right (lo n : Nat) : ∀ (ms : List (Nat × Nat)) (p : Nat), Tl ms p n → lo ≤ p → gathAll lo n ms = ms
  | [], _, _, _ => rfl
  | b :: ms, p, ⟨t1, t2, t3⟩, h => by
    have hp := two_pow_pos b.1
    have hm : (b.2 + 1) * 2 ^ b.1 = b.2 * 2 ^ b.1 + 2 ^ b.1 := by rw [Nat.add_mul, Nat.one_mul]
    have hle := Tl.le t3
    rw [gathAll_cons, all_right lo n ms _ t3 (by omega), gath_all lo n b.1 b.2 (by omega) ⟨by omega, hle⟩]; rfl
theorem none_right (x n : Nat) : ∀ (ms : List (Nat × Nat)) (p : Nat), Tl ms p n → x ≤ p → gathAll 0 x ms = []
  | [], _, _, _ => rfl
  | b :: ms, p, ⟨t1, t2, t3⟩, h => by
    have hp := two_pow_pos b.1
    have hm : (b.2 + 1) * 2 ^ b.1 = b.2 * 2 ^ b.1 + 2 ^ b.1 := by rw [Nat.add_mul, Nat.one_mul]
    rw [gathAll_cons, none_right x n ms _ t3 (by omega), gath_none 0 x b.1 b.2 (.inr (by omega))]; rfl
theorem restAll_one (n x : Nat) : ∀ (ms : List (Nat × Nat)) (p : Nat), Tl ms p n → p ≤ x → x < n → restAll ms [(x : Int)] = gathAll 0 x ms ++ gathAll (x + 1) n ms
  | [], p, ht, h1, h2 => by have : p = n := ht; omega
  | b :: ms, p, ⟨t1, t2, t3⟩, h1, h2 => by
    have hp := two_pow_pos b.1
    have hm : (b.2 + 1) * 2 ^ b.1 = b.2 * 2 ^ b.1 + 2 ^ b.1 := by rw [Nat.add_mul, Nat.one_mul]
    have hle := Tl.le t3
    rw [restAll, gathAll_cons, gathAll_cons]
    by_cases c : x < (b.2 + 1) * 2 ^ b.1
    · rw [cut_one_lt _ x c, show [(x : Int)].take 1 = [(x : Int)] from rfl, show [(x : Int)].drop 1 = [] from rfl, restAll_nil, wrest_one n x b.1 b.2 (by omega) c hle, none_right x n ms _ t3 (by omega), all_right (x + 1) n ms _ t3 (by omega), List.append_nil, List.append_assoc]
    · rw [cut_one_ge _ x (by omega), show [(x : Int)].take 0 = [] from rfl, show [(x : Int)].drop 0 = [(x : Int)] from rfl, wrest_nil, restAll_one n x ms _ t3 (by omega) h2, gath_all 0 x b.1 b.2 (by omega) ⟨by omega, by omega⟩, gath_none (x + 1) n b.1 b.2 (.inl (by omega)), List.nil_append, List.append_assoc]
theorem within_is (a m : Nat) (hm : m ≤ 2 ^ 40) : massiflaw04_within.f a m = some ((a % (m + 1) : Nat) : Int) := by
  have e : IntKind.u64.wrap ((m : Int) + 1) = ((m + 1 : Nat) : Int) := by rw [wrap_u64_in _ (by omega) (by omega)]; omega
  unfold massiflaw04_within.f
  rw [e, if_neg (by omega), Int.tmod_eq_emod_of_nonneg (Int.natCast_nonneg _)]
  rfl
theorem range_in (lo hi n : Nat) (h1 : lo ≤ hi) (h2 : hi ≤ n) (h3 : n ≤ 2 ^ 40) : cover_Range.f lo hi n = some (blks (gathAll lo hi (mtS n 41)), 0) := by
  unfold cover_Range.f
  rw [if_pos ⟨by omega, by omega, by omega⟩, if_neg (by omega), if_neg (by omega), if_neg (by omega)]
  rfl
def ceil (n : Nat) : Int := if n < 2 then 0 else lg (n - 1) + 1
theorem mod_le (a m : Nat) : a % (m + 1) ≤ m := Nat.le_of_lt_succ (Nat.mod_lt a (Nat.succ_pos m))
/-- What a rising set is. -/
def Good (n : Nat) (l : List Int) : Prop := l.Pairwise (· < ·) ∧ (∀ z ∈ l, 0 ≤ z ∧ z < (n : Int)) ∧ l.length ≤ 60
theorem good_put (n : Nat) (out : List Int) (a : Nat) (x : Int) (hg : Good n out) (hx : 0 ≤ x ∧ x < (n : Int)) (hl : out.length ≤ 59) (h1 : ∀ z ∈ out.take a, z < x) (h2 : ∀ z ∈ out.drop a, x < z) : Good n (out.take a ++ [x] ++ out.drop a) := by
  obtain ⟨g1, g2, g3⟩ := hg
  refine ⟨?_, ?_, ?_⟩
  · rw [List.append_assoc, List.pairwise_append]
    refine ⟨g1.sublist (List.take_sublist _ _), List.pairwise_cons.2 ⟨h2, g1.sublist (List.drop_sublist _ _)⟩, fun p hp q hq => ?_⟩
    rcases List.mem_cons.1 hq with e | e
    · rw [e]; exact h1 p hp
    · exact Int.lt_trans (h1 p hp) (h2 q e)
  · intro z hz
    rcases List.mem_append.1 hz with hz | hz
    · rcases List.mem_append.1 hz with hz | hz
      · exact g2 z (List.mem_of_mem_take hz)
      · rw [List.mem_singleton] at hz; rw [hz]; exact hx
    · exact g2 z (List.mem_of_mem_drop hz)
  · simp only [List.length_append, List.length_take, List.length_drop, List.length_cons, List.length_nil]
    omega
theorem put_len (out : List Int) (a : Nat) (x : Int) (ha : a ≤ out.length) : (out.take a ++ [x] ++ out.drop a).length = out.length + 1 := by
  simp only [List.length_append, List.length_take, List.length_drop, List.length_cons, List.length_nil]; omega
theorem rd_in (l : List Int) (i : Nat) (h : i < l.length) : rd l (i : Int) = l[i] := rd_at l i h
theorem rise_in (n : Nat) (xs out : List Int) (i B : Nat) (x : Int) (hg : Good n out) (hi : i < 60) (hlen : out.length ≤ i) (hx : 0 ≤ x ∧ x < (n : Int))
    (hnext : ∀ (o : List Int) (K : Nat), B ≤ K → Good n o → o ≠ [] → o.length ≤ i + 1 → ∃ s, massiflaw04_rising.l0 K n xs o ((i + 1 : Nat) : Int) = some s ∧ Good n s ∧ s ≠ []) :
    ∀ (d a K : Nat), a + d = out.length → B + d + 1 ≤ K → (∀ z ∈ out.take a, z < x) → ∃ s, massiflaw04_rising.l1 K n xs out (i : Int) x (a : Int) = some s ∧ Good n s ∧ s ≠ [] := by
  have ei : wrap64 ((i : Int) + 1) = ((i + 1 : Nat) : Int) := by rw [wrap64_in _ (by omega) (by omega)]; omega
  intro d
  induction d with
  | zero =>
    intro a K ha hK ht
    obtain ⟨K, rfl⟩ : ∃ m, K = m + 1 := ⟨K - 1, by omega⟩
    have hd : out.drop a = [] := List.drop_eq_nil_of_le (by omega)
    have hput := good_put n out a x hg hx (by omega) ht (by rw [hd]; intro z hz; cases hz)
    have hpl := put_len out a x (by omega)
    have e1 := List.length_take_le a out
    rw [massiflaw04_rising.l1, if_neg (by omega), if_pos (by omega), if_pos (by omega), Option.bind_some, Int.toNat_natCast, if_pos (by simp; omega), Option.bind_some, List.nil_append, if_pos (by omega), Option.bind_some, Option.bind_some, if_pos (by rw [← List.length_append, hpl]; omega), ei]
    exact hnext _ K (by omega) hput (by intro h; rw [h] at hpl; simp at hpl) (by omega)
  | succ d ih =>
    intro a K ha hK ht
    obtain ⟨K, rfl⟩ : ∃ m, K = m + 1 := ⟨K - 1, by omega⟩
    have hal : a < out.length := by omega
    have ea : wrap64 ((a : Int) + 1) = ((a + 1 : Nat) : Int) := by rw [wrap64_in _ (by omega) (by omega)]; omega
    rw [massiflaw04_rising.l1, if_pos (by omega), if_pos (by omega), rd_in out a hal]
    by_cases c : out[a] < x
    · rw [if_pos c, ea]
      refine ih (a + 1) K (by omega) (by omega) (fun z hz => ?_)
      rw [List.take_succ_eq_append_getElem hal, List.mem_append, List.mem_singleton] at hz
      rcases hz with hz | hz
      · exact ht z hz
      · rw [hz]; exact c
    · rw [if_neg c]
      by_cases c2 : out[a] = x
      · rw [if_pos c2, ei]
        exact hnext out K (by omega) hg (by intro h; rw [h] at hal; simp at hal) (by omega)
      · have hdr : ∀ z ∈ out.drop a, x < z := by
          intro z hz
          obtain ⟨j, hj, rfl⟩ := List.getElem_of_mem hz
          rw [List.length_drop] at hj
          rw [List.getElem_drop]
          by_cases e : j = 0
          · subst e; simp only [Nat.add_zero]; omega
          · have := List.pairwise_iff_getElem.1 hg.1 a (a + j) hal (by omega) (by omega); omega
        have hput := good_put n out a x hg hx (by omega) ht hdr
        have hpl := put_len out a x (by omega)
        have e1 := List.length_take_le a out
        rw [if_neg c2, if_pos (by omega), Option.bind_some, Int.toNat_natCast, if_pos (by simp; omega), Option.bind_some, List.nil_append, if_pos (by omega), Option.bind_some, Option.bind_some, if_pos (by rw [← List.length_append, hpl]; omega), ei]
        exact hnext _ K (by omega) hput (by intro h; rw [h] at hpl; simp at hpl) (by omega)
theorem rise_out (n : Nat) (xs : List Int) (hn : 0 < n) (hx : ∀ z ∈ xs, 0 ≤ z) (hxl : xs.length ≤ 9223372036854775806) :
    ∀ (d i K : Nat) (out : List Int), i + d = 61 → 70 * d + 10 ≤ K → i ≤ 60 → Good n out → out.length ≤ i → out ≠ [] ∨ (i = 0 ∧ 0 < xs.length) → ∃ s, massiflaw04_rising.l0 K n xs out (i : Int) = some s ∧ Good n s ∧ s ≠ [] := by
  intro d
  induction d with
  | zero => intro i K out h hK hi; omega
  | succ d ih =>
    intro i K out h hK hi hg hl hne
    obtain ⟨K, rfl⟩ : ∃ m, K = m + 1 + 1 := ⟨K - 2, by omega⟩
    rw [massiflaw04_rising.l0]
    by_cases c : i < xs.length
    · rw [if_pos (by omega)]
      by_cases c2 : i < 60
      · have hz := hx xs[i] (List.getElem_mem c)
        have hm1 := Int.emod_nonneg xs[i] (show (n : Int) ≠ 0 by omega)
        have hm2 := Int.emod_lt_of_pos xs[i] (show (0 : Int) < n by omega)
        rw [decide_eq_true (by omega), massiflaw04_rising.j1, if_pos rfl, if_pos (by omega), if_pos (by omega), if_neg (by omega), rd_in xs i c, Int.tmod_eq_emod_of_nonneg hz]
        refine rise_in n xs out i (70 * d + 10) _ hg c2 hl ⟨hm1, hm2⟩ (fun o K' h1 h2 h3 h4 => ih (i + 1) K' o (by omega) h1 (by omega) h2 (by omega) (.inl h3)) out.length 0 K (by omega) (by omega) (by intro z hz; cases hz)
      · rw [decide_eq_false (by omega), massiflaw04_rising.j1, if_neg (by decide)]
        refine ⟨out, rfl, hg, ?_⟩
        rcases hne with e | e
        · exact e
        · omega
    · rw [if_neg (by omega), massiflaw04_rising.j1, if_neg (by decide)]
      refine ⟨out, rfl, hg, ?_⟩
      rcases hne with e | e
      · exact e
      · omega
theorem rest_in (n : Nat) (l : List Int) (hn : n ≤ 2 ^ 40) (hl : l ≠ []) (hp : l.Pairwise (· < ·)) (hb : ∀ z ∈ l, z < (n : Int)) : cover_Rest.f n l = some (blks (restAll (mtS n 41) l), 0) ∧ cover_Count.f n l = some (((restAll (mtS n 41) l).length : Int), 0) := by
  have hpos : 0 < l.length := List.length_pos_iff.2 hl
  have e : restF n l = (0, restAll (mtS n 41) l) := by
    unfold restF
    rw [if_neg (by omega), if_neg hl, if_neg (fun h => h hp), rd_in l (l.length - 1) (by omega), if_neg (by have := hb _ (List.getElem_mem (show l.length - 1 < l.length by omega)); omega)]
  unfold cover_Rest.f cover_Count.f
  have h0 : (0 : Int) ≤ (n : Int) := Int.natCast_nonneg n
  refine ⟨?_, ?_⟩
  · rw [if_pos h0, Int.toNat_natCast, e]; rfl
  · rw [if_pos h0, Int.toNat_natCast, e]; rfl
theorem heights (n : Nat) (hn : n ≤ 2 ^ 40) (h0 : 0 < n) : ∃ c : Nat, ceil n = (c : Int) ∧ c ≤ 64 ∧ ∀ b ∈ mtS n 41, b.1 ≤ c := by
  have hb : ∀ b ∈ mtS n 41, 2 ^ b.1 ≤ n := fun b hb => Nat.le_trans (Nat.le_mul_of_pos_left _ (Nat.succ_pos b.2)) (mtS_end n 41 b hb)
  unfold ceil
  by_cases c : n < 2
  · refine ⟨0, by rw [if_pos c]; rfl, by omega, fun b hm => ?_⟩
    have h1 := hb b hm
    by_cases e : b.1 = 0
    · omega
    · have := Nat.pow_le_pow_right (n := 2) (by omega) (show 1 ≤ b.1 by omega); omega
  · rw [if_neg c]
    obtain ⟨m, hm, h1, h2⟩ := lg_spec (n - 1) (by omega)
    refine ⟨m + 1, by rw [hm]; rfl, ?_, fun b hmm => ?_⟩
    · have := lg_lt (n - 1) 41 (by omega); omega
    · have h3 := hb b hmm
      refine Nat.le_of_not_lt fun h4 => ?_
      have h5 := Nat.pow_le_pow_right (n := 2) (by omega) (show m + 1 + 1 ≤ b.1 by omega)
      have ep : 2 ^ (m + 1 + 1) = 2 * 2 ^ (m + 1) := by rw [Nat.pow_succ, Nat.mul_comm]
      omega
def fewI (l : List Int) : List Int := if 200 < l.length then l.take 200 else l
theorem few_is (l : List Int) : massiflaw04_few.f l = some (fewI l) := by
  unfold massiflaw04_few.f fewI
  by_cases h : 200 < l.length
  · rw [if_pos (by omega), if_pos (by omega), if_pos h]
  · rw [if_neg (by omega), if_neg h]
theorem few_len (l : List Int) : (fewI l).length ≤ 200 := by
  unfold fewI; split
  · rw [List.length_take]; omega
  · omega
theorem few_mem (l : List Int) : ∀ z ∈ fewI l, z ∈ l := by
  intro z hz; unfold fewI at hz; split at hz
  · exact List.mem_of_mem_take hz
  · exact hz
end Go.Proofs.Ytkefjoljokfieaa.Pure
