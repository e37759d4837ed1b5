/- massiflaw04.CoverTiles answers true for all numbers of the parameters' type. No further condition. -/
import Derived.Test.YtjabaolcphhjkaaPCoverTilesx
import Derived.Test.YtjabaolcphhjkaaQCoverTiles
set_option maxRecDepth 10000
set_option linter.unusedVariables false
namespace Go.Proofs.Ytjabaolcphhjkaa.Pure
open Go.RowKit Go.Proofs.Ytjabaolcphhjkaa.PCoverTiles Go.Proofs.Ytjabaolcphhjkaa.MB Go.Proofs.YtjabaolcphhjkaaW.PrintWords Go.Proofs.YtjabaolcphhjkaaW.PrintLast

theorem rd_blks (l : List (Nat × Nat)) (i : Nat) (h : i < l.length) : rd_T43 (blks l) (i : Int) = ⟨(l[i].1 : Int), (l[i].2 : Int)⟩ := blks_get l i h
theorem same_l0 (l : List S43) (hl : l.length < 2 ^ 60) : ∀ (d i k : Nat), i + d = l.length → d < k → massiflaw04_same.l0 k l l (i : Int) = some true := by
  intro d
  induction d with
  | zero =>
    intro i k hi hk
    obtain ⟨k, rfl⟩ : ∃ m, k = m + 1 := ⟨k - 1, by omega⟩
    rw [massiflaw04_same.l0, if_neg (by omega)]
  | succ d ih =>
    intro i k hi hk
    obtain ⟨k, rfl⟩ : ∃ m, k = m + 1 := ⟨k - 1, by omega⟩
    rw [massiflaw04_same.l0, if_pos (by omega), if_pos (by omega), if_pos (by omega)]
    have e : wrap64 ((i : Int) + 1) = ((i + 1 : Nat) : Int) := by rw [wrap64_in _ (by omega) (by omega)]; omega
    rw [e]
    simp only [beq_self_eq_true, Bool.not_true, Bool.or_self, Bool.false_eq_true, if_false]
    exact ih (i + 1) k (by omega) (by omega)
theorem same_is (l : List S43) (k : Nat) (hl : l.length < 2 ^ 60) (hk : l.length < k) : massiflaw04_same.f k l l = some true := by
  unfold massiflaw04_same.f
  rw [if_pos rfl]
  exact same_l0 l hl l.length 0 k (by omega) hk
deriving instance DecidableEq for S43
theorem alive_is (k : Nat) (hk : 400 ≤ k) : massiflaw04_alive.f k = some true := by
  have h1 : cover_Mountains.f k 7 = some (blks (mtS 7 41), 0) := cover_Mountains.is 7 k (by omega) (by omega)
  have h2 : cover_Range.f 1 7 7 = some (blks [(0, 1), (1, 1), (1, 2), (0, 6)], 0) := by decide +kernel
  have h3 : cover_Rest.f 7 [4] = some (blks [(2, 0), (0, 5), (0, 6)], 0) := by decide +kernel
  have h4 : cover_Count.f 1099511627776 [0] = some (40, 0) := by decide +kernel
  have h5 : cover_Range.f 5 3 4 = some ([], 41) := by decide +kernel
  have h6 : cover_Rest.f 4 [5, 3] = some ([], 40) := by decide +kernel
  have hm : blks (mtS 7 41) = [⟨2, 0⟩, ⟨1, 2⟩, ⟨0, 6⟩] := by decide +kernel
  unfold massiflaw04_alive.f
  rw [h1, h2, h3, h4, h5, h6, hm]
  have s1 := same_is [⟨2, 0⟩, ⟨1, 2⟩, ⟨0, 6⟩] k (by simp) (by simp; omega)
  have s2 := same_is [⟨0, 1⟩, ⟨1, 1⟩, ⟨1, 2⟩, ⟨0, 6⟩] k (by simp) (by simp; omega)
  have s3 := same_is [⟨2, 0⟩, ⟨0, 5⟩, ⟨0, 6⟩] k (by simp) (by simp; omega)
  simp only [Option.bind_some, massiflaw04_num.f, if_true]
  rw [show blks [(0, 1), (1, 1), (1, 2), (0, 6)] = [(⟨0, 1⟩ : S43), ⟨1, 1⟩, ⟨1, 2⟩, ⟨0, 6⟩] from rfl, show blks [(2, 0), (0, 5), (0, 6)] = [(⟨2, 0⟩ : S43), ⟨0, 5⟩, ⟨0, 6⟩] from rfl, s1, s2, s3]
  rfl
/-- Blocks that lie one behind the other, from lo to hi. -/
def Tl : List (Nat × Nat) → Nat → Nat → Prop
  | [], lo, hi => lo = hi
  | b :: l, lo, hi => May b.1 b.2 ∧ b.2 * 2 ^ b.1 = lo ∧ Tl l ((b.2 + 1) * 2 ^ b.1) hi
theorem Tl.append : ∀ {a b : List (Nat × Nat)} {p q r : Nat}, Tl a p q → Tl b q r → Tl (a ++ b) p r
  | [], _, _, _, _, ha, hb => by rw [show _ = _ from ha]; exact hb
  | _ :: _, _, _, _, _, ⟨h1, h2, h3⟩, hb => ⟨h1, h2, Tl.append h3 hb⟩
theorem Tl.may : ∀ {l : List (Nat × Nat)} {p q : Nat}, Tl l p q → ∀ b ∈ l, May b.1 b.2
  | [], _, _, _, b, hb => by cases hb
  | c :: l, _, _, ⟨h1, _, h3⟩, b, hb => by
    rcases List.mem_cons.1 hb with e | e
    · rw [e]; exact h1
    · exact Tl.may h3 b e
/-- A number brought between lo and hi. -/
def cl (lo hi t : Nat) : Nat := if t < lo then lo else if hi < t then hi else t
theorem cl_spec (lo hi t : Nat) (h : lo ≤ hi) : (t ≤ lo ∧ cl lo hi t = lo) ∨ (lo ≤ t ∧ t ≤ hi ∧ cl lo hi t = t) ∨ (hi ≤ t ∧ cl lo hi t = hi) := by
  unfold cl
  split
  · exact .inl ⟨by omega, rfl⟩
  · split
    · exact .inr (.inr ⟨by omega, rfl⟩)
    · exact .inr (.inl ⟨by omega, by omega, rfl⟩)
theorem gath_tiles (lo hi : Nat) (hlh : lo ≤ hi) : ∀ h k, May h k → Tl (gath lo hi h k) (cl lo hi (k * 2 ^ h)) (cl lo hi ((k + 1) * 2 ^ h)) := by
  intro h
  induction h with
  | zero =>
    intro k m
    have hm : (k + 1) * 2 ^ 0 = k * 2 ^ 0 + 1 := by rw [Nat.add_mul, Nat.one_mul]
    by_cases c1 : (k + 1) * 2 ^ 0 ≤ lo ∨ hi ≤ k * 2 ^ 0
    · rw [gath_none lo hi 0 k c1]
      show cl lo hi _ = cl lo hi _
      generalize (k + 1) * 2 ^ 0 = y at *
      generalize k * 2 ^ 0 = x at *
      have hx := cl_spec lo hi x hlh; have hy := cl_spec lo hi y hlh; omega
    · have c2 : lo ≤ k * 2 ^ 0 ∧ (k + 1) * 2 ^ 0 ≤ hi := by omega
      rw [gath_all lo hi 0 k c1 c2]
      refine ⟨m, ?_, ?_⟩
      · generalize (k + 1) * 2 ^ 0 = y at *
        show k * 2 ^ 0 = _
        generalize k * 2 ^ 0 = x at *
        have hx := cl_spec lo hi x hlh; have hy := cl_spec lo hi y hlh; omega
      · show (k + 1) * 2 ^ 0 = _
        generalize (k + 1) * 2 ^ 0 = y at *
        generalize k * 2 ^ 0 = x at *
        have hx := cl_spec lo hi x hlh; have hy := cl_spec lo hi y hlh; omega
  | succ h ih =>
    intro k m
    have hp := two_pow_pos (h + 1)
    have hm : (k + 1) * 2 ^ (h + 1) = k * 2 ^ (h + 1) + 2 ^ (h + 1) := by rw [Nat.add_mul, Nat.one_mul]
    by_cases c1 : (k + 1) * 2 ^ (h + 1) ≤ lo ∨ hi ≤ k * 2 ^ (h + 1)
    · rw [gath_none lo hi (h + 1) k c1]
      show cl lo hi _ = cl lo hi _
      generalize (k + 1) * 2 ^ (h + 1) = y at *
      generalize k * 2 ^ (h + 1) = x at *
      generalize 2 ^ (h + 1) = p at *
      have hx := cl_spec lo hi x hlh; have hy := cl_spec lo hi y hlh; omega
    · by_cases c2 : lo ≤ k * 2 ^ (h + 1) ∧ (k + 1) * 2 ^ (h + 1) ≤ hi
      · rw [gath_all lo hi (h + 1) k c1 c2]
        refine ⟨m, ?_, ?_⟩
        · show k * 2 ^ (h + 1) = _
          generalize (k + 1) * 2 ^ (h + 1) = y at *
          generalize k * 2 ^ (h + 1) = x at *
          generalize 2 ^ (h + 1) = p at *
          have hx := cl_spec lo hi x hlh; have hy := cl_spec lo hi y hlh; omega
        · show (k + 1) * 2 ^ (h + 1) = _
          generalize (k + 1) * 2 ^ (h + 1) = y at *
          generalize k * 2 ^ (h + 1) = x at *
          generalize 2 ^ (h + 1) = p at *
          have hx := cl_spec lo hi x hlh; have hy := cl_spec lo hi y hlh; omega
      · rw [gath_half lo hi h k c1 c2]
        have h1 := ih (2 * k) m.left
        have h2 := ih (2 * k + 1) m.right
        have ep : 2 ^ (h + 1) = 2 * 2 ^ h := by rw [Nat.pow_succ, Nat.mul_comm]
        have e1 : 2 * k * 2 ^ h = k * 2 ^ (h + 1) := by rw [ep, Nat.mul_comm 2 k, Nat.mul_assoc]
        have e2 : (2 * k + 1 + 1) * 2 ^ h = (k + 1) * 2 ^ (h + 1) := by rw [ep, show 2 * k + 1 + 1 = (k + 1) * 2 from by omega, Nat.mul_assoc]
        rw [e1] at h1
        rw [e2] at h2
        exact h1.append h2
theorem gathAll_tiles (lo hi n : Nat) (hn : n ≤ 2 ^ 40) (hlh : lo ≤ hi) : ∀ d, d ≤ 41 → Tl (gathAll lo hi (mtS n d)) (cl lo hi (n / 2 ^ d * 2 ^ d)) (cl lo hi n)
  | 0, _ => by
    rw [Nat.pow_zero, Nat.div_one, Nat.mul_one]; rfl
  | d + 1, hd => by
    have ih := gathAll_tiles lo hi n hn hlh d (by omega)
    have hb := bit_lt n d
    have hu := half_up n d
    have ep : 2 ^ (d + 1) = 2 * 2 ^ d := by rw [Nat.pow_succ, Nat.mul_comm]
    have hmul : n / 2 ^ (d + 1) * 2 ^ (d + 1) = 2 * (n / 2 ^ (d + 1)) * 2 ^ d := by rw [ep, ← Nat.mul_assoc, Nat.mul_comm _ 2]
    rw [mtS]
    by_cases e : bit n d = 1
    · rw [if_pos e]
      have g := gath_tiles lo hi hlh d (n / 2 ^ d - 1) (may_of_bit n d hn (by omega) e)
      have es : gathAll lo hi ([(d, n / 2 ^ d - 1)] ++ mtS n d) = gath lo hi d (n / 2 ^ d - 1) ++ gathAll lo hi (mtS n d) := by unfold gathAll; simp
      have e1 : n / 2 ^ d - 1 = 2 * (n / 2 ^ (d + 1)) := by omega
      have e2 : n / 2 ^ d - 1 + 1 = n / 2 ^ d := by omega
      rw [es]
      rw [e2, e1, ← hmul] at g
      rw [e1]
      exact g.append ih
    · have e0 : bit n d = 0 := by omega
      rw [if_neg e, List.nil_append, hmul, show 2 * (n / 2 ^ (d + 1)) = n / 2 ^ d from by omega]
      exact ih
theorem range_tiles (lo hi n : Nat) (hn : n ≤ 2 ^ 40) (hlh : lo ≤ hi) (hhn : hi ≤ n) : Tl (gathAll lo hi (mtS n 41)) lo hi := by
  have h := gathAll_tiles lo hi n hn hlh 41 (by omega)
  rw [Nat.div_eq_of_lt (show n < 2 ^ 41 from by omega), Nat.zero_mul] at h
  rw [show cl lo hi 0 = lo from by have := cl_spec lo hi 0 hlh; omega, show cl lo hi n = hi from by have := cl_spec lo hi n hlh; omega] at h
  exact h
/-- The whole size's blocks are the mountains. -/
theorem gathAll_whole (n : Nat) : ∀ l : List (Nat × Nat), (∀ b ∈ l, (b.2 + 1) * 2 ^ b.1 ≤ n) → gathAll 0 n l = l
  | [], _ => rfl
  | b :: l, h => by
    have h1 := h b (List.mem_cons_self ..)
    have hp := two_pow_pos b.1
    have hm : (b.2 + 1) * 2 ^ b.1 = b.2 * 2 ^ b.1 + 2 ^ b.1 := by rw [Nat.add_mul, Nat.one_mul]
    have e : gathAll 0 n (b :: l) = gath 0 n b.1 b.2 ++ gathAll 0 n l := by unfold gathAll; simp
    rw [e, gathAll_whole n l (fun c hc => h c (List.mem_cons_of_mem _ hc)), gath_all 0 n b.1 b.2 (by omega) ⟨by omega, h1⟩]
    rfl
theorem mtS_end (n : Nat) : ∀ d, ∀ b ∈ mtS n d, (b.2 + 1) * 2 ^ b.1 ≤ n
  | 0, b, hb => by simp [mtS] at hb
  | d + 1, b, hb => by
    rw [mtS, List.mem_append] at hb
    rcases hb with h | h
    · by_cases e : bit n d = 1
      · rw [if_pos e, List.mem_singleton] at h
        subst h
        have hu := half_up n d
        show (n / 2 ^ d - 1 + 1) * 2 ^ d ≤ n
        rw [show n / 2 ^ d - 1 + 1 = n / 2 ^ d from by omega]
        exact Nat.div_mul_le_self n _
      · rw [if_neg e] at h; cases h
    · exact mtS_end n d b h
theorem mountains_tiles (n : Nat) (hn : n ≤ 2 ^ 40) : Tl (mtS n 41) 0 n := by
  have h := range_tiles 0 n n hn (Nat.zero_le _) (Nat.le_refl _)
  rwa [gathAll_whole n _ (mtS_end n 41)] at h
/-- A block of which the range holds the end, or the beginning. -/
theorem gath_suffix (lo hi : Nat) : ∀ h k, (k + 1) * 2 ^ h ≤ hi → (gath lo hi h k).length ≤ h + 1 ∧ (k * 2 ^ h < lo → (gath lo hi h k).length ≤ h)
  | 0, k, hy => by
    have hm : (k + 1) * 2 ^ 0 = k * 2 ^ 0 + 1 := by rw [Nat.add_mul, Nat.one_mul]
    by_cases c1 : (k + 1) * 2 ^ 0 ≤ lo ∨ hi ≤ k * 2 ^ 0
    · rw [gath_none lo hi 0 k c1]; simp
    · rw [gath_all lo hi 0 k c1 (by omega)]
      exact ⟨by simp, fun h => by omega⟩
  | h + 1, k, hy => by
    have ep : 2 ^ (h + 1) = 2 * 2 ^ h := by rw [Nat.pow_succ, Nat.mul_comm]
    have hp := two_pow_pos h
    have hm : (k + 1) * 2 ^ (h + 1) = k * 2 ^ (h + 1) + 2 ^ (h + 1) := by rw [Nat.add_mul, Nat.one_mul]
    have e1 : 2 * k * 2 ^ h = k * 2 ^ (h + 1) := by rw [ep, Nat.mul_comm 2 k, Nat.mul_assoc]
    have e2 : (2 * k + 1 + 1) * 2 ^ h = (k + 1) * 2 ^ (h + 1) := by rw [ep, show 2 * k + 1 + 1 = (k + 1) * 2 from by omega, Nat.mul_assoc]
    have e3 : (2 * k + 1) * 2 ^ h = 2 * k * 2 ^ h + 2 ^ h := by rw [Nat.add_mul, Nat.one_mul]
    by_cases c1 : (k + 1) * 2 ^ (h + 1) ≤ lo ∨ hi ≤ k * 2 ^ (h + 1)
    · rw [gath_none lo hi (h + 1) k c1]; simp
    · by_cases c2 : lo ≤ k * 2 ^ (h + 1)
      · rw [gath_all lo hi (h + 1) k c1 ⟨c2, hy⟩]
        exact ⟨by simp, fun h => by omega⟩
      · rw [gath_half lo hi h k c1 (by omega), List.length_append]
        have l1 := gath_suffix lo hi h (2 * k) (by omega)
        have l2 := gath_suffix lo hi h (2 * k + 1) (by omega)
        by_cases c3 : lo ≤ (2 * k + 1) * 2 ^ h
        · have hw : (gath lo hi h (2 * k + 1)).length ≤ 1 := by
            rw [gath_all lo hi h (2 * k + 1) (by omega) ⟨c3, by omega⟩]; simp
          have := l1.2 (by omega)
          omega
        · rw [gath_none lo hi h (2 * k) (.inl (by omega))]
          have := l2.2 (by omega)
          simp; omega
theorem gath_prefix (lo hi : Nat) : ∀ h k, lo ≤ k * 2 ^ h → (gath lo hi h k).length ≤ h + 1 ∧ (hi < (k + 1) * 2 ^ h → (gath lo hi h k).length ≤ h)
  | 0, k, hy => by
    have hm : (k + 1) * 2 ^ 0 = k * 2 ^ 0 + 1 := by rw [Nat.add_mul, Nat.one_mul]
    by_cases c1 : (k + 1) * 2 ^ 0 ≤ lo ∨ hi ≤ k * 2 ^ 0
    · rw [gath_none lo hi 0 k c1]; simp
    · rw [gath_all lo hi 0 k c1 (by omega)]
      exact ⟨by simp, fun h => by omega⟩
  | h + 1, k, hy => by
    have ep : 2 ^ (h + 1) = 2 * 2 ^ h := by rw [Nat.pow_succ, Nat.mul_comm]
    have hp := two_pow_pos h
    have hm : (k + 1) * 2 ^ (h + 1) = k * 2 ^ (h + 1) + 2 ^ (h + 1) := by rw [Nat.add_mul, Nat.one_mul]
    have e1 : 2 * k * 2 ^ h = k * 2 ^ (h + 1) := by rw [ep, Nat.mul_comm 2 k, Nat.mul_assoc]
    have e2 : (2 * k + 1 + 1) * 2 ^ h = (k + 1) * 2 ^ (h + 1) := by rw [ep, show 2 * k + 1 + 1 = (k + 1) * 2 from by omega, Nat.mul_assoc]
    have e3 : (2 * k + 1) * 2 ^ h = 2 * k * 2 ^ h + 2 ^ h := by rw [Nat.add_mul, Nat.one_mul]
    by_cases c1 : (k + 1) * 2 ^ (h + 1) ≤ lo ∨ hi ≤ k * 2 ^ (h + 1)
    · rw [gath_none lo hi (h + 1) k c1]; simp
    · by_cases c2 : (k + 1) * 2 ^ (h + 1) ≤ hi
      · rw [gath_all lo hi (h + 1) k c1 ⟨hy, c2⟩]
        exact ⟨by simp, fun h => by omega⟩
      · rw [gath_half lo hi h k c1 (by omega), List.length_append]
        have l1 := gath_prefix lo hi h (2 * k) (by omega)
        have l2 := gath_prefix lo hi h (2 * k + 1) (by omega)
        by_cases c3 : (2 * k + 1) * 2 ^ h ≤ hi
        · have hw : (gath lo hi h (2 * k)).length ≤ 1 := by
            rw [gath_all lo hi h (2 * k) (by omega) ⟨by omega, c3⟩]; simp
          have := l2.2 (by omega)
          omega
        · rw [gath_none lo hi h (2 * k + 1) (.inr (by omega))]
          have := l1.2 (by omega)
          simp; omega
theorem gath_any (lo hi : Nat) : ∀ h k, (gath lo hi h k).length ≤ 2 * h + 1 ∧ (0 < h → (gath lo hi h k).length ≤ 2 * h)
  | 0, k => by have := gath_le lo hi 0 k; omega
  | h + 1, k => by
    have ep : 2 ^ (h + 1) = 2 * 2 ^ h := by rw [Nat.pow_succ, Nat.mul_comm]
    have hp := two_pow_pos h
    have e1 : 2 * k * 2 ^ h = k * 2 ^ (h + 1) := by rw [ep, Nat.mul_comm 2 k, Nat.mul_assoc]
    have e2 : (2 * k + 1 + 1) * 2 ^ h = (k + 1) * 2 ^ (h + 1) := by rw [ep, show 2 * k + 1 + 1 = (k + 1) * 2 from by omega, Nat.mul_assoc]
    by_cases c1 : (k + 1) * 2 ^ (h + 1) ≤ lo ∨ hi ≤ k * 2 ^ (h + 1)
    · rw [gath_none lo hi (h + 1) k c1]; simp
    · by_cases c2 : lo ≤ k * 2 ^ (h + 1) ∧ (k + 1) * 2 ^ (h + 1) ≤ hi
      · rw [gath_all lo hi (h + 1) k c1 c2]; simp; omega
      · rw [gath_half lo hi h k c1 c2, List.length_append]
        by_cases c3 : hi ≤ (2 * k + 1) * 2 ^ h
        · rw [gath_none lo hi h (2 * k + 1) (.inr c3)]
          have := (gath_any lo hi h (2 * k)).1
          simp; omega
        · by_cases c4 : (2 * k + 1) * 2 ^ h ≤ lo
          · rw [gath_none lo hi h (2 * k) (.inl c4)]
            have := (gath_any lo hi h (2 * k + 1)).1
            simp; omega
          · have := (gath_suffix lo hi h (2 * k) (by omega)).1
            have := (gath_prefix lo hi h (2 * k + 1) (by omega)).1
            omega
theorem mtS_start (n : Nat) : ∀ d, ∀ b ∈ mtS n d, n / 2 ^ d * 2 ^ d ≤ b.2 * 2 ^ b.1
  | 0, b, hb => by simp [mtS] at hb
  | d + 1, b, hb => by
    have hu := half_up n d
    have hbit := bit_lt n d
    have ep : 2 ^ (d + 1) = 2 * 2 ^ d := by rw [Nat.pow_succ, Nat.mul_comm]
    have hmul : n / 2 ^ (d + 1) * 2 ^ (d + 1) = 2 * (n / 2 ^ (d + 1)) * 2 ^ d := by rw [ep, ← Nat.mul_assoc, Nat.mul_comm _ 2]
    rw [mtS, List.mem_append] at hb
    rcases hb with h | h
    · by_cases e : bit n d = 1
      · rw [if_pos e, List.mem_singleton] at h
        subst h
        show _ ≤ (n / 2 ^ d - 1) * 2 ^ d
        rw [hmul, show 2 * (n / 2 ^ (d + 1)) = n / 2 ^ d - 1 from by omega]
        exact Nat.le_refl _
      · rw [if_neg e] at h; cases h
    · have := mtS_start n d b h
      rw [hmul]
      exact Nat.le_trans (Nat.mul_le_mul_right _ (by omega)) this
theorem gathAll_none (lo hi : Nat) : ∀ l : List (Nat × Nat), (∀ b ∈ l, hi ≤ b.2 * 2 ^ b.1) → gathAll lo hi l = []
  | [], _ => rfl
  | b :: l, h => by
    have e : gathAll lo hi (b :: l) = gath lo hi b.1 b.2 ++ gathAll lo hi l := by unfold gathAll; simp
    rw [e, gath_none lo hi _ _ (.inr (h b (List.mem_cons_self ..))), gathAll_none lo hi l (fun c hc => h c (List.mem_cons_of_mem _ hc))]; rfl
theorem forest_prefix (lo hi n : Nat) : ∀ d, lo ≤ n / 2 ^ d * 2 ^ d → (gathAll lo hi (mtS n d)).length ≤ d
  | 0, _ => by simp [mtS, gathAll]
  | d + 1, h => by
    have hu := half_up n d
    have hbit := bit_lt n d
    have ep : 2 ^ (d + 1) = 2 * 2 ^ d := by rw [Nat.pow_succ, Nat.mul_comm]
    have hmul : n / 2 ^ (d + 1) * 2 ^ (d + 1) = 2 * (n / 2 ^ (d + 1)) * 2 ^ d := by rw [ep, ← Nat.mul_assoc, Nat.mul_comm _ 2]
    rw [hmul] at h
    have h' : lo ≤ n / 2 ^ d * 2 ^ d := Nat.le_trans h (Nat.mul_le_mul_right _ (by omega))
    have ih := forest_prefix lo hi n d h'
    rw [mtS]
    by_cases e : bit n d = 1
    · rw [if_pos e]
      have es : gathAll lo hi ([(d, n / 2 ^ d - 1)] ++ mtS n d) = gath lo hi d (n / 2 ^ d - 1) ++ gathAll lo hi (mtS n d) := by unfold gathAll; simp
      rw [es, List.length_append]
      have e1 : n / 2 ^ d - 1 = 2 * (n / 2 ^ (d + 1)) := by omega
      have e2 : n / 2 ^ d - 1 + 1 = n / 2 ^ d := by omega
      have hp := gath_prefix lo hi d (n / 2 ^ d - 1) (by rw [e1]; exact h)
      rw [e2] at hp
      by_cases c : hi < n / 2 ^ d * 2 ^ d
      · rw [gathAll_none lo hi (mtS n d) (fun b hb => Nat.le_trans (Nat.le_of_lt c) (mtS_start n d b hb))]
        have := hp.2 c
        simp; omega
      · have hw : (gath lo hi d (n / 2 ^ d - 1)).length ≤ 1 := by
          by_cases c1 : (n / 2 ^ d - 1 + 1) * 2 ^ d ≤ lo ∨ hi ≤ (n / 2 ^ d - 1) * 2 ^ d
          · rw [gath_none lo hi _ _ c1]; simp
          · rw [gath_all lo hi _ _ c1 ⟨by rw [e1]; exact h, by rw [e2]; omega⟩]; simp
        omega
    · rw [if_neg e, List.nil_append]; omega
theorem forest_any (lo hi n : Nat) : ∀ d, (gathAll lo hi (mtS n d)).length ≤ 2 * d
  | 0 => by simp [mtS, gathAll]
  | d + 1 => by
    have ih := forest_any lo hi n d
    have hu := half_up n d
    have hbit := bit_lt n d
    rw [mtS]
    by_cases e : bit n d = 1
    · rw [if_pos e]
      have es : gathAll lo hi ([(d, n / 2 ^ d - 1)] ++ mtS n d) = gath lo hi d (n / 2 ^ d - 1) ++ gathAll lo hi (mtS n d) := by unfold gathAll; simp
      rw [es, List.length_append]
      have e2 : n / 2 ^ d - 1 + 1 = n / 2 ^ d := by omega
      by_cases c0 : n / 2 ^ d * 2 ^ d ≤ lo
      · rw [gath_none lo hi d _ (.inl (by rw [e2]; exact c0))]; simp; omega
      · have hf := forest_prefix lo hi n d (by omega)
        by_cases c : hi ≤ n / 2 ^ d * 2 ^ d
        · rw [gathAll_none lo hi (mtS n d) (fun b hb => Nat.le_trans c (mtS_start n d b hb))]
          have := (gath_any lo hi d (n / 2 ^ d - 1)).1
          simp; omega
        · have := (gath_suffix lo hi d (n / 2 ^ d - 1) (by rw [e2]; omega)).1
          omega
    · rw [if_neg e, List.nil_append]; omega
/-- No block's parent lies in the range. -/
theorem gath_max (lo hi : Nat) : ∀ h k, ∀ b ∈ gath lo hi h k, b = (h, k) ∨ ¬ (lo ≤ b.2 / 2 * 2 ^ (b.1 + 1) ∧ (b.2 / 2 + 1) * 2 ^ (b.1 + 1) ≤ hi)
  | 0, k, b, hb => by
    by_cases c1 : (k + 1) * 2 ^ 0 ≤ lo ∨ hi ≤ k * 2 ^ 0
    · rw [gath_none lo hi 0 k c1] at hb; cases hb
    · have hm : (k + 1) * 2 ^ 0 = k * 2 ^ 0 + 1 := by rw [Nat.add_mul, Nat.one_mul]
      rw [gath_all lo hi 0 k c1 (by omega), List.mem_singleton] at hb
      exact .inl hb
  | h + 1, k, b, hb => by
    by_cases c1 : (k + 1) * 2 ^ (h + 1) ≤ lo ∨ hi ≤ k * 2 ^ (h + 1)
    · rw [gath_none lo hi (h + 1) k c1] at hb; cases hb
    · by_cases c2 : lo ≤ k * 2 ^ (h + 1) ∧ (k + 1) * 2 ^ (h + 1) ≤ hi
      · rw [gath_all lo hi (h + 1) k c1 c2, List.mem_singleton] at hb
        exact .inl hb
      · rw [gath_half lo hi h k c1 c2, List.mem_append] at hb
        rcases hb with hb | hb
        · rcases gath_max lo hi h (2 * k) b hb with e | e
          · subst e
            right
            simp only [show 2 * k / 2 = k from by omega]
            exact c2
          · exact .inr e
        · rcases gath_max lo hi h (2 * k + 1) b hb with e | e
          · subst e
            right
            simp only [show (2 * k + 1) / 2 = k from by omega]
            exact c2
          · exact .inr e
theorem forest_max (lo hi n : Nat) (hhn : hi ≤ n) : ∀ d, ∀ b ∈ gathAll lo hi (mtS n d), ¬ (lo ≤ b.2 / 2 * 2 ^ (b.1 + 1) ∧ (b.2 / 2 + 1) * 2 ^ (b.1 + 1) ≤ hi)
  | 0, b, hb => by simp [mtS, gathAll] at hb
  | d + 1, b, hb => by
    have hu := half_up n d
    rw [mtS] at hb
    by_cases e : bit n d = 1
    · rw [if_pos e] at hb
      have es : gathAll lo hi ([(d, n / 2 ^ d - 1)] ++ mtS n d) = gath lo hi d (n / 2 ^ d - 1) ++ gathAll lo hi (mtS n d) := by unfold gathAll; simp
      rw [es, List.mem_append] at hb
      rcases hb with hb | hb
      · rcases gath_max lo hi d _ b hb with e' | e'
        · subst e'
          have hlt : n < (n / 2 ^ (d + 1) + 1) * 2 ^ (d + 1) := by have := Nat.div_add_mod n (2 ^ (d + 1)); have := Nat.mod_lt n (two_pow_pos (d + 1)); rw [Nat.add_mul, Nat.one_mul, Nat.mul_comm (n / 2 ^ (d + 1))]; omega
          simp only [show (n / 2 ^ d - 1) / 2 = n / 2 ^ (d + 1) from by omega]
          omega
        · exact e'
      · exact forest_max lo hi n hhn d b hb
    · rw [if_neg e, List.nil_append] at hb
      exact forest_max lo hi n hhn d b hb
theorem range_len (lo hi n : Nat) (hn : n ≤ 2 ^ 40) : (gathAll lo hi (mtS n 41)).length ≤ 80 := by
  by_cases e : n = 2 ^ 40
  · have e1 : mtS n 41 = [(40, 0)] := by rw [e]; decide +kernel
    rw [e1]
    have es : gathAll lo hi [(40, 0)] = gath lo hi 40 0 := by unfold gathAll; simp
    rw [es]
    exact (gath_any lo hi 40 0).2 (by omega)
  · have e1 : mtS n 41 = mtS n 40 := by
      rw [mtS, if_neg, List.nil_append]
      unfold bit
      rw [Nat.div_eq_of_lt (by omega)]; decide
    rw [e1]
    exact forest_any lo hi n 40
theorem mountains_len (n : Nat) (hn : n ≤ 2 ^ 40) : (mtS n 41).length ≤ 40 := by
  by_cases e : n = 2 ^ 40
  · have e1 : mtS n 41 = [(40, 0)] := by rw [e]; decide +kernel
    rw [e1]; simp
  · have e1 : mtS n 41 = mtS n 40 := by
      rw [mtS, if_neg, List.nil_append]
      unfold bit
      rw [Nat.div_eq_of_lt (by omega)]; decide
    rw [e1]
    exact mtS_le n 40
theorem lspan_yes (h k : Nat) (m : May h k) : massiflaw04_span.f h k = some (((k * 2 ^ h : Nat) : Int), (((k + 1) * 2 ^ h : Nat) : Int), true) := by
  have hl := may_lt m
  have hk := m.lt
  have h1 := m.1
  have e0 : wrap64 (40 - (h : Int)) = ((40 - h : Nat) : Int) := by rw [wrap64_in _ (by omega) (by omega)]; omega
  have es := shlc 1 (40 - h) (by omega) (by rw [Nat.one_mul]; exact Nat.lt_of_le_of_lt (Nat.pow_le_pow_right (by omega) (Nat.sub_le 40 h)) (by decide))
  rw [Nat.one_mul] at es
  have e : IntKind.u64.wrap ((k : Int) + 1) = ((k + 1 : Nat) : Int) := by rw [wrap_u64_in _ (by omega) (by omega)]; omega
  have hit := cover_items.is h k m
  unfold cover_items.f at hit
  rw [if_pos (by omega)] at hit
  have hit := Option.some.inj hit
  have g1 := congrArg Prod.fst hit
  have g2 := congrArg Prod.snd hit
  simp only [] at g1 g2
  unfold massiflaw04_span.f
  rw [if_neg (by omega), if_neg (by omega), e0, if_pos (by omega), show shl .u64 1 ((40 - h : Nat) : Int) = ((2 ^ (40 - h) : Nat) : Int) from es, if_neg (by generalize 2 ^ (40 - h) = p at *; omega), if_pos (by omega), g1, g2]
theorem lspan_no (h k : Nat) (hh : h ≤ 41) (m : ¬ May h k) : massiflaw04_span.f h k = some (0, 0, false) := by
  unfold massiflaw04_span.f
  rw [if_neg (by omega)]
  by_cases c : h = 41
  · rw [if_pos (by omega)]
  · rw [if_neg (by omega)]
    have e0 : wrap64 (40 - (h : Int)) = ((40 - h : Nat) : Int) := by rw [wrap64_in _ (by omega) (by omega)]; omega
    have es := shlc 1 (40 - h) (by omega) (by rw [Nat.one_mul]; exact Nat.lt_of_le_of_lt (Nat.pow_le_pow_right (by omega) (Nat.sub_le 40 h)) (by decide))
    rw [Nat.one_mul] at es
    have hk : 2 ^ (40 - h) ≤ k := Nat.le_of_not_lt (fun hlt => m (may_of (by omega) hlt))
    rw [e0, if_pos (by omega), show shl .u64 1 ((40 - h : Nat) : Int) = ((2 ^ (40 - h) : Nat) : Int) from es, if_pos (by generalize 2 ^ (40 - h) = p at *; omega)]
theorem ltiles_l0 (l : List (Nat × Nat)) (hi : Nat) (hl : l.length < 2 ^ 60) : ∀ (d i k lo : Nat), i + d = l.length → d < k → Tl (l.drop i) lo hi → massiflaw04_tiles.l0 k (blks l) lo hi (i : Int) = some true := by
  intro d
  induction d with
  | zero =>
    intro i k lo hi' hk ht
    obtain ⟨k, rfl⟩ : ∃ m, k = m + 1 := ⟨k - 1, by omega⟩
    rw [List.drop_eq_nil_of_le (by omega)] at ht
    rw [massiflaw04_tiles.l0, if_neg (by rw [blks_length]; omega), show lo = hi from ht]
    simp
  | succ d ih =>
    intro i k lo hi' hk ht
    obtain ⟨k, rfl⟩ : ∃ m, k = m + 1 := ⟨k - 1, by omega⟩
    have hil : i < l.length := by omega
    rw [List.drop_eq_getElem_cons hil] at ht
    obtain ⟨t1, t2, t3⟩ := ht
    have e : wrap64 ((i : Int) + 1) = ((i + 1 : Nat) : Int) := by rw [wrap64_in _ (by omega) (by omega)]; omega
    rw [massiflaw04_tiles.l0, if_pos (by rw [blks_length]; omega), if_pos (by omega), rd_blks l i hil]
    simp only []
    rw [lspan_yes _ _ t1, t2, e]
    simp only [Option.bind_some, if_true]
    exact ih (i + 1) k _ (by omega) (by omega) t3
theorem ltiles_is (l : List (Nat × Nat)) (lo hi k : Nat) (hl : l.length < 1000) (hk : 2000 ≤ k) (ht : Tl l lo hi) : massiflaw04_tiles.f k (blks l) lo hi = some true := by
  unfold massiflaw04_tiles.f
  exact ltiles_l0 l hi (by omega) l.length 0 k lo (by omega) (by omega) ht
theorem within_is (a m : Nat) (hm : m ≤ 2 ^ 40) : massiflaw04_within.f a m = some ((a % (m + 1) : Nat) : Int) := by
  have e : IntKind.u64.wrap ((m : Int) + 1) = ((m + 1 : Nat) : Int) := by rw [wrap_u64_in _ (by omega) (by omega)]; omega
  unfold massiflaw04_within.f
  rw [e, if_neg (by omega), Int.tmod_eq_emod_of_nonneg (Int.natCast_nonneg _)]
  rfl
theorem range_in (lo hi n : Nat) (h1 : lo ≤ hi) (h2 : hi ≤ n) (h3 : n ≤ 2 ^ 40) : cover_Range.f lo hi n = some (blks (gathAll lo hi (mtS n 41)), 0) := by
  unfold cover_Range.f
  rw [if_pos ⟨by omega, by omega, by omega⟩, if_neg (by omega), if_neg (by omega), if_neg (by omega)]
  rfl
theorem max_l0 (lo hi n : Nat) (h1 : lo ≤ hi) (h2 : hi ≤ n) (h3 : n ≤ 2 ^ 40) : ∀ (d i k : Nat), i + d = (gathAll lo hi (mtS n 41)).length → 3000 + d ≤ k → massiflaw04_CoverTiles.l0 k n hi lo (blks (gathAll lo hi (mtS n 41))) (i : Int) = some true := by
  intro d
  have hlen := range_len lo hi n h3
  have hlen2 := range_len hi n n h3
  induction d with
  | zero =>
    intro i k hi' hk
    obtain ⟨k, rfl⟩ : ∃ m, k = m + 1 := ⟨k - 1, by omega⟩
    have hml := mountains_len hi (by omega)
    rw [massiflaw04_CoverTiles.l0, if_neg (by rw [blks_length]; omega), range_in hi n n h2 (Nat.le_refl _) h3, cover_Mountains.is hi k (by omega) (by omega)]
    simp only [Option.bind_some, massiflaw04_num.f, if_true]
    rw [if_pos (by rw [blks_length]; simp; omega), if_pos (by rw [List.nil_append, blks_length, blks_length]; omega), List.nil_append, ← blks_append, show massiflaw04_tiles.f k (blks (mtS hi 41 ++ gathAll hi n (mtS n 41))) 0 n = some true from ltiles_is _ 0 n k (by rw [List.length_append]; omega) (by omega) ((mountains_tiles hi (by omega)).append (range_tiles hi n n h3 h2 (Nat.le_refl _)))]
    rfl
  | succ d ih =>
    intro i k hi' hk
    obtain ⟨k, rfl⟩ : ∃ m, k = m + 1 := ⟨k - 1, by omega⟩
    have hil : i < (gathAll lo hi (mtS n 41)).length := by omega
    have hmem := List.getElem_mem hil
    have hmax := forest_max lo hi n h2 41 _ hmem
    have hmay : May (gathAll lo hi (mtS n 41))[i].1 (gathAll lo hi (mtS n 41))[i].2 := Tl.may (range_tiles lo hi n h3 h1 h2) _ hmem
    have ihk := ih (i + 1) k (by omega) (by omega)
    have e : wrap64 ((i : Int) + 1) = ((i + 1 : Nat) : Int) := by rw [wrap64_in _ (by omega) (by omega)]; omega
    rw [massiflaw04_CoverTiles.l0, if_pos (by rw [blks_length]; omega), if_pos (by omega), rd_blks _ i hil, e]
    simp only []
    rw [ihk]
    clear ih ihk
    generalize (gathAll lo hi (mtS n 41))[i] = b at *
    have hk1 := hmay.lt
    have hk2 := hmay.1
    have e1 : wrap64 ((b.1 : Int) + 1) = ((b.1 + 1 : Nat) : Int) := by rw [wrap64_in _ (by omega) (by omega)]; omega
    have e2 : IntKind.u64.wrap (Int.tdiv (b.2 : Int) 2) = ((b.2 / 2 : Nat) : Int) := by
      rw [Int.tdiv_eq_ediv_of_nonneg (by omega), wrap_u64_in _ (by omega) (by omega)]; omega
    rw [e1, e2]
    by_cases c : May (b.1 + 1) (b.2 / 2)
    · rw [lspan_yes _ _ c]
      simp only [Option.bind_some, if_true, ge_iff_le, Int.ofNat_le]
      split
      · rename_i c1
        rw [if_neg (fun c2 => hmax ⟨c1, c2⟩)]
      · rfl
    · rw [lspan_no _ _ (Nat.succ_le_succ hk2) c]
      simp
theorem mod_le (a m : Nat) : a % (m + 1) ≤ m := Nat.le_of_lt_succ (Nat.mod_lt a (Nat.succ_pos m))
theorem CoverTiles : massiflaw04_CoverTiles.Pure := by
  intro a0 a1 a2 w0 w1 w2
  obtain ⟨a, rfl, ha⟩ := wf_u64 w0
  obtain ⟨b, rfl, hb⟩ := wf_u64 w1
  obtain ⟨c, rfl, hc⟩ := wf_u64 w2
  have hn : a % (2 ^ 40 + 1) ≤ 2 ^ 40 := mod_le a (2 ^ 40)
  have e1 : massiflaw04_within.f a 1099511627776 = some ((a % (2 ^ 40 + 1) : Nat) : Int) := within_is a (2 ^ 40) (Nat.le_refl _)
  generalize a % (2 ^ 40 + 1) = n at *
  have e2 := within_is b n hn
  have hh : b % (n + 1) ≤ n := mod_le b n
  generalize b % (n + 1) = hi at *
  have e3 := within_is c hi (by omega)
  have hl : c % (hi + 1) ≤ hi := mod_le c hi
  generalize c % (hi + 1) = lo at *
  refine ⟨5000, ?_⟩
  have hr0 := range_in 0 n n (Nat.zero_le _) (Nat.le_refl _) hn
  rw [gathAll_whole n _ (mtS_end n 41)] at hr0
  have hml := mountains_len n hn
  have hrl := range_len lo hi n hn
  have ho : (mtS n 41).length = ones n := by rw [mtS_length]; exact onesF_eq 41 n (by omega) (by omega)
  unfold massiflaw04_CoverTiles.f
  rw [alive_is _ (by omega), e1]
  simp only [Option.bind_some, if_true]
  rw [e2]
  simp only [Option.bind_some]
  rw [e3]
  simp only [Option.bind_some]
  rw [range_in lo hi n hl hh hn, cover_Mountains.is n _ hn (by omega), show ((0 : Int)) = ((0 : Nat) : Int) from rfl, hr0]
  simp only [Option.bind_some, massiflaw04_num.f, if_true]
  rw [ltiles_is _ lo hi _ (by omega) (by omega) (range_tiles lo hi n hn hl hh), ltiles_is _ 0 n _ (by omega) (by omega) (mountains_tiles n hn), same_is _ _ (by rw [blks_length]; omega) (by rw [blks_length]; omega)]
  simp only [Option.bind_some, if_true, Int.natCast_zero]
  rw [if_neg (by rw [blks_length]; omega), if_neg (by rw [blks_length]; omega), num_Ones.is n _ (by omega) (by omega)]
  simp only [Option.bind_some]
  have hm := max_l0 lo hi n hl hh hn (gathAll lo hi (mtS n 41)).length 0 4999 (by omega) (by omega)
  rw [massiflaw04_CoverTiles.j0, if_neg (by rw [blks_length, ho]; simp)]
  exact hm
end Go.Proofs.Ytjabaolcphhjkaa.Pure
