/- massiflaw04.CoverSpans answers true for all numbers of the parameters' type. No further condition. -/
import Derived.Test.YtjabaolcphhjkaaPCoverSpansx
set_option maxRecDepth 10000
set_option linter.unusedVariables false
namespace Go.Proofs.Ytjabaolcphhjkaa.Pure
open Go.RowKit Go.Proofs.Ytjabaolcphhjkaa.PCoverSpans Go.Proofs.Ytjabaolcphhjkaa.MB Go.Proofs.YtjabaolcphhjkaaW.PrintWords Go.Proofs.YtjabaolcphhjkaaW.PrintLast

--SNIP cover
theorem rd_blks (l : List (Nat × Nat)) (i : Nat) (h : i < l.length) : rd_T43 (blks l) (i : Int) = ⟨(l[i].1 : Int), (l[i].2 : Int)⟩ := blks_get l i h
theorem same_l0 (l : List S43) (hl : l.length < 2 ^ 60) : ∀ (d i k : Nat), i + d = l.length → d < k → massiflaw04_same.l0 k l l (i : Int) = some true := by
  intro d
  induction d with
  | zero =>
    intro i k hi hk
    obtain ⟨k, rfl⟩ : ∃ m, k = m + 1 := ⟨k - 1, by omega⟩
    rw [massiflaw04_same.l0, if_neg (by omega)]
  | succ d ih =>
    intro i k hi hk
    obtain ⟨k, rfl⟩ : ∃ m, k = m + 1 := ⟨k - 1, by omega⟩
    rw [massiflaw04_same.l0, if_pos (by omega), if_pos (by omega), if_pos (by omega)]
    have e : wrap64 ((i : Int) + 1) = ((i + 1 : Nat) : Int) := by rw [wrap64_in _ (by omega) (by omega)]; omega
    rw [e]
    simp only [beq_self_eq_true, Bool.not_true, Bool.or_self, Bool.false_eq_true, if_false]
    exact ih (i + 1) k (by omega) (by omega)
theorem same_is (l : List S43) (k : Nat) (hl : l.length < 2 ^ 60) (hk : l.length < k) : massiflaw04_same.f k l l = some true := by
  unfold massiflaw04_same.f
  rw [if_pos rfl]
  exact same_l0 l hl l.length 0 k (by omega) hk
theorem rmount_l0 (n : Nat) (hn : n ≤ 2 ^ 40) : ∀ (d k : Nat) (acc : List S43), d ≤ 41 → d < k → acc.length + d ≤ 50 →
    massifref04_mountains.l0 k n acc ((n / 2 ^ d * 2 ^ d : Nat) : Int) ((2 ^ d / 2 : Nat) : Int) ((d : Int) - 1) = some (acc ++ blks (mtS n d)) := by
  intro d
  induction d with
  | zero =>
    intro k acc _ hk _
    obtain ⟨k, rfl⟩ : ∃ m, k = m + 1 := ⟨k - 1, by omega⟩
    rw [massifref04_mountains.l0, if_neg (by omega)]
    simp [blks, mtS]
  | succ d ih =>
    intro k acc hd hk hl
    obtain ⟨k, rfl⟩ : ∃ m, k = m + 1 := ⟨k - 1, by omega⟩
    have hb := bit_lt n d
    have hms := mod_succ n d
    have hu := half_up n d
    have hp := two_pow_pos d
    have ep : 2 ^ (d + 1) = 2 * 2 ^ d := by rw [Nat.pow_succ, Nat.mul_comm]
    have hpd : 2 ^ d ≤ 2 ^ 40 := Nat.pow_le_pow_right (by omega) (by omega)
    have hlt := Nat.mod_lt n hp
    have hmul : n / 2 ^ (d + 1) * 2 ^ (d + 1) = 2 * (n / 2 ^ (d + 1)) * 2 ^ d := by rw [ep, ← Nat.mul_assoc, Nat.mul_comm _ 2]
    have hdm : n / 2 ^ (d + 1) * 2 ^ (d + 1) + n % 2 ^ (d + 1) = n := by rw [Nat.mul_comm]; exact Nat.div_add_mod n _
    have e0 : IntKind.u64.wrap ((n : Int) - ((n / 2 ^ (d + 1) * 2 ^ (d + 1) : Nat) : Int)) = ((n % 2 ^ (d + 1) : Nat) : Int) := by
      generalize n / 2 ^ (d + 1) * 2 ^ (d + 1) = q at *
      generalize n % 2 ^ (d + 1) = r at *
      rw [wrap_u64_in _ (by omega) (by omega)]; omega
    have e1 : 2 ^ (d + 1) / 2 = 2 ^ d := by omega
    have e2 : ((d + 1 : Nat) : Int) - 1 = (d : Int) := by omega
    have e3 : wrap64 ((d : Int) - 1) = (d : Int) - 1 := wrap64_in _ (by omega) (by omega)
    have e4 : IntKind.u64.wrap (Int.tdiv ((2 ^ d : Nat) : Int) 2) = ((2 ^ d / 2 : Nat) : Int) := by
      generalize 2 ^ d = p at *
      rw [Int.tdiv_eq_ediv_of_nonneg (by omega), wrap_u64_in _ (by omega) (by omega)]; omega
    rw [massifref04_mountains.l0, e1, e2, e0, e3, e4, if_pos (by omega)]
    by_cases e : bit n d = 1
    · rw [e] at hu
      rw [e, Nat.mul_one] at hms
      have hle := Nat.div_mul_le_self n (2 ^ (d + 1))
      have hq : n / 2 ^ (d + 1) * 2 ^ (d + 1) / 2 ^ d = n / 2 ^ d - 1 := by
        rw [hmul, Nat.mul_div_cancel _ hp]; omega
      have hs : n / 2 ^ (d + 1) * 2 ^ (d + 1) + 2 ^ d = n / 2 ^ d * 2 ^ d := by
        rw [hmul, hu, Nat.add_mul, Nat.one_mul]
      have e5 : IntKind.u64.wrap (((n / 2 ^ (d + 1) * 2 ^ (d + 1) : Nat) : Int) + ((2 ^ d : Nat) : Int)) = ((n / 2 ^ d * 2 ^ d : Nat) : Int) := by
        have hle2 := Nat.div_mul_le_self n (2 ^ d)
        rw [← hs] at hle2 ⊢
        generalize n / 2 ^ (d + 1) * 2 ^ (d + 1) = q at *
        generalize 2 ^ d = p at *
        rw [wrap_u64_in _ (by omega) (by omega)]; omega
      have e6 : IntKind.u64.wrap (Int.tdiv ((n / 2 ^ (d + 1) * 2 ^ (d + 1) : Nat) : Int) ((2 ^ d : Nat) : Int)) = ((n / 2 ^ d - 1 : Nat) : Int) := by
        rw [Int.tdiv_eq_ediv_of_nonneg (Int.natCast_nonneg _), ← Int.natCast_ediv, hq]
        have h1 := Nat.div_le_self n (2 ^ d)
        generalize n / 2 ^ d = q at *
        rw [wrap_u64_in _ (by omega) (by omega)]
      rw [if_pos (by rw [hms]; generalize 2 ^ d = p at *; generalize n % p = r at *; omega), if_neg (by generalize 2 ^ d = p at *; omega), if_pos (by omega), e5, e6, ih k _ (by omega) (by omega) (by rw [List.length_append]; simp; omega), mtS, if_pos e, blks_append, List.append_assoc]
      rfl
    · have e0 : bit n d = 0 := by omega
      rw [e0, Nat.mul_zero, Nat.add_zero] at hms
      rw [e0, Nat.add_zero] at hu
      have hs : n / 2 ^ (d + 1) * 2 ^ (d + 1) = n / 2 ^ d * 2 ^ d := by rw [hmul, hu]
      rw [if_neg (by rw [hms]; generalize 2 ^ d = p at *; generalize n % p = r at *; omega), hs, ih k acc (by omega) (by omega) (by omega), mtS, if_neg e]
      rfl
theorem rmount_is (n k : Nat) (hn : n ≤ 2 ^ 40) (hk : 50 ≤ k) : massifref04_mountains.f k n = some (blks (mtS n 41)) := by
  unfold massifref04_mountains.f
  have h := rmount_l0 n hn 41 k [] (by omega) (by omega) (by simp)
  rw [Nat.div_eq_of_lt (show n < 2 ^ 41 from by omega), Nat.zero_mul] at h
  exact h
theorem rspan_l0 (h k : Nat) (m : May h k) : ∀ (d i K : Nat), i + d = h → d < K → massifref04_span.l0 K ((k * 2 ^ i : Nat) : Int) (((k + 1) * 2 ^ i : Nat) : Int) (i : Int) (h : Int) (k : Int) = some (((k * 2 ^ h : Nat) : Int), (((k + 1) * 2 ^ h : Nat) : Int)) := by
  intro d
  induction d with
  | zero =>
    intro i K hi hK
    obtain ⟨K, rfl⟩ : ∃ m, K = m + 1 := ⟨K - 1, by omega⟩
    have : i = h := by omega
    subst this
    rw [massifref04_span.l0, if_neg (by omega)]
  | succ d ih =>
    intro i K hi hK
    obtain ⟨K, rfl⟩ : ∃ m, K = m + 1 := ⟨K - 1, by omega⟩
    have hm1 := m.1
    have f3 : wrap64 ((i : Int) + 1) = ((i + 1 : Nat) : Int) := by rw [wrap64_in _ (by omega) (by omega)]; omega
    have f4 : (i : Int) < (h : Int) := by omega
    have f5 : i + 1 + d = h := by omega
    have f6 : d < K := by omega
    have hm2 := m.2
    have hle : 2 ^ (i + 1) ≤ 2 ^ h := Nat.pow_le_pow_right (by omega) (by omega)
    have hk1 : k * 2 ^ (i + 1) ≤ k * 2 ^ h := Nat.mul_le_mul_left _ hle
    have ep : 2 ^ (i + 1) = 2 * 2 ^ i := by rw [Nat.pow_succ, Nat.mul_comm]
    have e1 : k * 2 ^ (i + 1) = 2 * (k * 2 ^ i) := by rw [ep, Nat.mul_left_comm]
    have e2 : (k + 1) * 2 ^ (i + 1) = 2 * ((k + 1) * 2 ^ i) := by rw [ep, Nat.mul_left_comm]
    have e3 : (k + 1) * 2 ^ (i + 1) = k * 2 ^ (i + 1) + 2 ^ (i + 1) := by rw [Nat.add_mul, Nat.one_mul]
    have f1 : IntKind.u64.wrap (2 * ((k * 2 ^ i : Nat) : Int)) = ((k * 2 ^ (i + 1) : Nat) : Int) := by
      rw [e1] at hk1 ⊢
      generalize k * 2 ^ i = q at *
      rw [wrap_u64_in _ (by omega) (by omega)]; omega
    have f2 : IntKind.u64.wrap (2 * (((k + 1) * 2 ^ i : Nat) : Int)) = (((k + 1) * 2 ^ (i + 1) : Nat) : Int) := by
      have hb : (k + 1) * 2 ^ (i + 1) ≤ 2 ^ 40 := by omega
      rw [e2] at hb ⊢
      generalize (k + 1) * 2 ^ i = q at *
      rw [wrap_u64_in _ (by omega) (by omega)]; omega
    rw [massifref04_span.l0, if_pos f4, f1, f2, f3]
    exact ih (i + 1) K f5 f6
theorem rspan_is (h k K : Nat) (m : May h k) (hK : 50 ≤ K) : massifref04_span.f K h k = some (((k * 2 ^ h : Nat) : Int), (((k + 1) * 2 ^ h : Nat) : Int)) := by
  unfold massifref04_span.f
  have hk := m.lt
  have h1 := m.1
  have e : IntKind.u64.wrap ((k : Int) + 1) = ((k + 1 : Nat) : Int) := by rw [wrap_u64_in _ (by omega) (by omega)]; omega
  have hh := rspan_l0 h k m h 0 K (Nat.zero_add h) (by clear hk e m; omega)
  rw [Nat.pow_zero, Nat.mul_one, Nat.mul_one] at hh
  rw [e]
  exact hh
--END
theorem rwithin_is (lo hi : Nat) : ∀ (h k K : Nat), May h k → 3 * h + 60 ≤ K → massifref04_within.f K h k lo hi = some (blks (gath lo hi h k)) := by
  intro h
  induction h with
  | zero =>
    intro k K m hK
    obtain ⟨K, rfl⟩ : ∃ m, K = m + 2 := ⟨K - 2, by omega⟩
    obtain ⟨K', rfl⟩ : ∃ m, K = m + 1 := ⟨K - 1, by omega⟩
    have hp := two_pow_pos 0
    have hm : (k + 1) * 2 ^ 0 = k * 2 ^ 0 + 2 ^ 0 := by rw [Nat.add_mul, Nat.one_mul]
    rw [massifref04_within.f, rspan_is 0 k _ m (by omega)]
    simp only [Option.bind_some, ge_iff_le, massifref04_within.j0, massifref04_within.j1, Int.ofNat_le]
    generalize hx : k * 2 ^ 0 = x at *
    generalize hy : (k + 1) * 2 ^ 0 = y at *
    by_cases c1 : y ≤ lo ∨ hi ≤ x
    · rw [gath_none lo hi 0 k (by rw [hx, hy]; exact c1)]
      by_cases c2 : lo ≤ x
      · rw [if_pos c2, if_neg (by simp; omega)]
        rw [if_neg (by omega), if_pos (by simp; omega)]; rfl
      · rw [if_neg c2, if_neg (by simp)]
        by_cases c3 : y ≤ lo
        · rw [if_pos c3, if_true]; rfl
        · rw [if_neg c3, if_pos (by simp; omega)]; rfl
    · rw [gath_all lo hi 0 k (by rw [hx, hy]; exact c1) (by rw [hx, hy]; omega)]
      rw [if_pos (by omega), if_pos (by simp; omega)]; rfl
  | succ h ih =>
    intro k K m hK
    obtain ⟨K, rfl⟩ : ∃ m, K = m + 3 := ⟨K - 3, by omega⟩
    have hkl := m.lt
    have hm1 := m.1
    have hp := two_pow_pos (h + 1)
    have hm : (k + 1) * 2 ^ (h + 1) = k * 2 ^ (h + 1) + 2 ^ (h + 1) := by rw [Nat.add_mul, Nat.one_mul]
    have hL := ih (2 * k) K m.left (by omega)
    have hR := ih (2 * k + 1) K m.right (by omega)
    have g1 : wrap64 (((h + 1 : Nat) : Int) - 1) = (h : Int) := by rw [wrap64_in _ (by omega) (by omega)]; omega
    have g2 : IntKind.u64.wrap (2 * (k : Int)) = ((2 * k : Nat) : Int) := by rw [wrap_u64_in _ (by omega) (by omega)]; omega
    have g3 : IntKind.u64.wrap (((2 * k : Nat) : Int) + 1) = ((2 * k + 1 : Nat) : Int) := by rw [wrap_u64_in _ (by omega) (by omega)]; omega
    have hl1 := gath_le lo hi h (2 * k)
    have hl2 := gath_le lo hi h (2 * k + 1)
    have hp40 := m.left.pow
    have hlen : (blks (gath lo hi h (2 * k))).length + (blks (gath lo hi h (2 * k + 1))).length < 8796093022208 := by rw [blks_length, blks_length]; omega
    rw [massifref04_within.f, rspan_is (h + 1) k _ m (by omega)]
    simp only [Option.bind_some, ge_iff_le, massifref04_within.j0, massifref04_within.j1, Int.ofNat_le, g1, g2, g3, hL, hR, if_pos hlen]
    clear hL hR hlen g1 g2 g3 ih
    generalize hx : k * 2 ^ (h + 1) = x at *
    generalize hy : (k + 1) * 2 ^ (h + 1) = y at *
    by_cases c1 : y ≤ lo ∨ hi ≤ x
    · rw [gath_none lo hi (h + 1) k (by rw [hx, hy]; exact c1)]
      by_cases c2 : lo ≤ x
      · rw [if_pos c2, if_neg (by simp; omega)]
        rw [if_neg (by omega), if_pos (by simp; omega)]; rfl
      · rw [if_neg c2, if_neg (by simp)]
        by_cases c3 : y ≤ lo
        · rw [if_pos c3, if_true]; rfl
        · rw [if_neg c3, if_pos (by simp; omega)]; rfl
    · by_cases c2 : lo ≤ x ∧ y ≤ hi
      · rw [gath_all lo hi (h + 1) k (by rw [hx, hy]; exact c1) (by rw [hx, hy]; exact c2)]
        rw [if_pos c2.1, if_pos (by simp; omega)]; rfl
      · rw [gath_half lo hi h k (by rw [hx, hy]; exact c1) (by rw [hx, hy]; exact c2), blks_append]
        by_cases c3 : lo ≤ x
        · rw [if_pos c3, if_neg (by simp; omega), if_neg (by omega), if_neg (by simp; omega)]
        · rw [if_neg c3, if_neg (by simp), if_neg (by omega), if_neg (by simp; omega)]
theorem rrange_l0 (lo hi : Nat) (ms : List (Nat × Nat)) (hm : ∀ b ∈ ms, May b.1 b.2) (hml : ms.length ≤ 64) (hs : (gathAll lo hi ms).length ≤ 2 ^ 42) : ∀ (d i k : Nat), i + d = ms.length → 250 + d ≤ k →
    massifref04_Range.l0 k lo hi (blks (gathAll lo hi (ms.take i))) (blks ms) (i : Int) = some (blks (gathAll lo hi ms), 0) := by
  intro d
  induction d with
  | zero =>
    intro i k hi' hk
    obtain ⟨k, rfl⟩ : ∃ m, k = m + 1 := ⟨k - 1, by omega⟩
    rw [massifref04_Range.l0, if_neg (by rw [blks_length]; omega), List.take_of_length_le (by omega)]
  | succ d ih =>
    intro i k hi' hk
    obtain ⟨k, rfl⟩ : ∃ m, k = m + 1 := ⟨k - 1, by omega⟩
    have hil : i < ms.length := by omega
    have hM := hm _ (List.getElem_mem hil)
    have h40 := hM.1
    have e3 : wrap64 ((i : Int) + 1) = ((i + 1 : Nat) : Int) := by rw [wrap64_in _ (by omega) (by omega)]; omega
    have hg : gathAll lo hi (ms.take (i + 1)) = gathAll lo hi (ms.take i) ++ gath lo hi ms[i].1 ms[i].2 := by
      rw [List.take_succ_eq_append_getElem hil, gathAll_snoc]
    have hcut := gathAll_cut lo hi (i + 1) ms
    rw [massifref04_Range.l0, if_pos (by rw [blks_length]; omega), if_pos (by omega), rd_blks ms i hil]
    simp only []
    rw [rwithin_is lo hi _ _ k hM (by omega)]
    simp only [Option.bind_some]
    rw [if_pos (by rw [hg, List.length_append] at hcut; rw [blks_length, blks_length]; omega), ← blks_append, ← hg, e3]
    exact ih (i + 1) k (by omega) (by omega)
theorem rrange_is (lo hi n k : Nat) (hk : 400 ≤ k) : massifref04_Range.f k lo hi n = cover_Range.f lo hi n := by
  unfold massifref04_Range.f cover_Range.f
  rw [if_pos (show 0 ≤ (lo : Int) ∧ 0 ≤ (hi : Int) ∧ 0 ≤ (n : Int) from ⟨by omega, by omega, by omega⟩)]
  split
  · rfl
  rename_i h1
  split
  · rfl
  split
  · rfl
  have hn : n ≤ 2 ^ 40 := by omega
  rw [rmount_is n k hn (by omega)]
  simp only [Option.bind_some, Int.toNat_natCast]
  have hl := gathAll_le lo hi n 41
  have hle := Nat.mod_le n (2 ^ 41)
  have h := rrange_l0 lo hi (mtS n 41) (mtS_may n hn 41 (by omega)) (by have := mtS_len n 41; omega) (by omega) (mtS n 41).length 0 k (by omega) (by have := mtS_len n 41; omega)
  exact h
theorem rmounts_is (n k : Nat) (hk : 200 ≤ k) : massifref04_Mountains.f k n = cover_Mountains.f k n := by
  unfold massifref04_Mountains.f
  by_cases h : (n : Int) > 1099511627776
  · rw [if_pos h, cover_Mountains.no n k (by omega)]
  · rw [if_neg h, rmount_is n k (by omega) (by omega), cover_Mountains.is n k (by omega) (by omega)]; rfl
--SNIP alive
deriving instance DecidableEq for S43
theorem alive_is (k : Nat) (hk : 400 ≤ k) : massiflaw04_alive.f k = some true := by
  have h1 : cover_Mountains.f k 7 = some (blks (mtS 7 41), 0) := cover_Mountains.is 7 k (by omega) (by omega)
  have h2 : cover_Range.f 1 7 7 = some (blks [(0, 1), (1, 1), (1, 2), (0, 6)], 0) := by decide +kernel
  have h3 : cover_Rest.f 7 [4] = some (blks [(2, 0), (0, 5), (0, 6)], 0) := by decide +kernel
  have h4 : cover_Count.f 1099511627776 [0] = some (40, 0) := by decide +kernel
  have h5 : cover_Range.f 5 3 4 = some ([], 41) := by decide +kernel
  have h6 : cover_Rest.f 4 [5, 3] = some ([], 40) := by decide +kernel
  have hm : blks (mtS 7 41) = [⟨2, 0⟩, ⟨1, 2⟩, ⟨0, 6⟩] := by decide +kernel
  unfold massiflaw04_alive.f
  rw [h1, h2, h3, h4, h5, h6, hm]
  have s1 := same_is [⟨2, 0⟩, ⟨1, 2⟩, ⟨0, 6⟩] k (by simp) (by simp; omega)
  have s2 := same_is [⟨0, 1⟩, ⟨1, 1⟩, ⟨1, 2⟩, ⟨0, 6⟩] k (by simp) (by simp; omega)
  have s3 := same_is [⟨2, 0⟩, ⟨0, 5⟩, ⟨0, 6⟩] k (by simp) (by simp; omega)
  simp only [Option.bind_some, massiflaw04_num.f, if_true]
  rw [show blks [(0, 1), (1, 1), (1, 2), (0, 6)] = [(⟨0, 1⟩ : S43), ⟨1, 1⟩, ⟨1, 2⟩, ⟨0, 6⟩] from rfl, show blks [(2, 0), (0, 5), (0, 6)] = [(⟨2, 0⟩ : S43), ⟨0, 5⟩, ⟨0, 6⟩] from rfl, s1, s2, s3]
  rfl
--END
theorem CoverSpans : massiflaw04_CoverSpans.Pure := by
  intro a0 a1 a2 w0 w1 w2
  obtain ⟨lo, rfl, hlo⟩ := wf_u64 w0
  obtain ⟨hi, rfl, hhi⟩ := wf_u64 w1
  obtain ⟨n, rfl, hn⟩ := wf_u64 w2
  obtain ⟨r, hr⟩ : ∃ r, cover_Range.f lo hi n = some r ∧ r.1.length < 2 ^ 60 := by
    unfold cover_Range.f
    rw [if_pos ⟨by omega, by omega, by omega⟩]
    split
    · exact ⟨_, rfl, by simp⟩
    split
    · exact ⟨_, rfl, by simp⟩
    split
    · exact ⟨_, rfl, by simp⟩
    refine ⟨_, rfl, ?_⟩
    simp only [Int.toNat_natCast]
    rw [blks_length]
    have hl := gathAll_le lo hi n 41
    have hle := Nat.mod_lt n (show 0 < 2 ^ 41 by omega)
    omega
  obtain ⟨m, hm⟩ : ∃ m, (∀ k, 200 ≤ k → cover_Mountains.f k n = some m) ∧ m.1.length < 100 := by
    by_cases h : 2 ^ 40 < n
    · exact ⟨_, fun k _ => cover_Mountains.no n k h, by simp⟩
    · exact ⟨_, fun k hk => cover_Mountains.is n k (by omega) (by omega), by have := mtS_len n 41; simp only []; rw [blks_length]; omega⟩
  refine ⟨r.1.length + 500, ?_⟩
  unfold massiflaw04_CoverSpans.f
  rw [alive_is _ (by omega), rmounts_is n _ (by omega), hm.1 _ (by omega), rrange_is lo hi n _ (by omega), hr.1]
  simp only [Option.bind_some, massiflaw04_num.f, if_true]
  rw [same_is m.1 _ (by omega) (by omega)]
  simp only [Option.bind_some, if_true]
  rw [same_is r.1 _ hr.2 (by omega)]
  rfl
end Go.Proofs.Ytjabaolcphhjkaa.Pure
