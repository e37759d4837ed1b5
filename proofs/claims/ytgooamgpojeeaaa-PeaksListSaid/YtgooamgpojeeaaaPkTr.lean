/- Ranges over a list: the peaks of a list's first n items, and what a whole tree behind them makes. No condition, no program but few's printed function. -/
import Derived.Test.YtgooamgpojeeaaaPk5
import Derived.Test.YtgooamgpojeeaaaMT
set_option linter.unusedVariables false
set_option linter.unusedSimpArgs false
namespace Go.Proofs.Ytgooamgpojeeaaa.Pk
open Go.RowKit Go.Proofs.Ytgooamgpojeeaaa.MB Go.Proofs.Ytgooamgpojeeaaa.MH Go.Proofs.YtgooamgpojeeaaaW.PrintWords Go.Proofs.Ytgooamgpojeeaaa.PPeaksList
theorem bit_shift (n h i : Nat) : bit (n / 2 ^ h) i = bit n (h + i) := by unfold bit; rw [Nat.div_div_eq_div_mul, ← Nat.pow_add]
/-- The lowest i of the ones at the end, put off. -/
theorem mt_tail (n h : Nat) (hn : n / 2 ^ h + 1 < 2 ^ 64) : ∀ i, i ≤ t1 (n / 2 ^ h) → h + i ≤ 41 → ∃ R : List (Nat × Nat), R.length = i ∧ mtT n h (41 - h) = mtT n (h + i) (41 - (h + i)) ++ R
  | 0, _, _ => ⟨[], rfl, by simp⟩
  | i + 1, hi, h41 => by
    obtain ⟨R, h1, h2⟩ := mt_tail n h hn i (by omega) (by omega)
    have hb : bit n (h + i) = 1 := by rw [← bit_shift]; exact t1_odd _ i hn (by omega)
    have e : mtT n (h + i) (41 - (h + i)) = mtT n (h + i + 1) (41 - (h + i + 1)) ++ [(h + i, n / 2 ^ (h + i) - 1)] := by
      have := mtT_low n (h + i) (41 - (h + i + 1))
      rw [if_pos hb, show 41 - (h + i + 1) + 1 = 41 - (h + i) from by omega] at this; exact this
    refine ⟨(h + i, n / 2 ^ (h + i) - 1) :: R, by simp [h1], ?_⟩
    rw [h2, e, List.append_assoc]; rfl
theorem mt_all (n h : Nat) (hh : h ≤ 41) (hm : n % 2 ^ h = 0) : mtS n 41 = mtT n h (41 - h) := by
  have := mtS_split n h (41 - h)
  rw [show h + (41 - h) = 41 from by omega, mtS_none n h hm, List.append_nil] at this; exact this
theorem t1_fit (n h : Nat) (hn : n + 2 ^ h ≤ 2 ^ 40) : h + t1 (n / 2 ^ h) ≤ 40 := by
  have hp : 0 < 2 ^ h := Nat.pow_pos (by omega)
  have hdle : n / 2 ^ h ≤ n := Nat.div_le_self _ _
  have h1 := (t1_spec (n / 2 ^ h) (by omega)).1
  have h2 : 2 ^ t1 (n / 2 ^ h) ≤ n / 2 ^ h + 1 := Nat.le_of_dvd (Nat.succ_pos _) (Nat.dvd_of_mod_eq_zero h1)
  have h3 : 2 ^ (h + t1 (n / 2 ^ h)) ≤ 2 ^ 40 := by
    rw [Nat.pow_add]
    have h4 : 2 ^ h * 2 ^ t1 (n / 2 ^ h) ≤ 2 ^ h * (n / 2 ^ h + 1) := Nat.mul_le_mul_left _ h2
    have h5 : 2 ^ h * (n / 2 ^ h) ≤ n := Nat.mul_div_le _ _
    rw [Nat.mul_add] at h4; omega
  exact (Nat.pow_le_pow_iff_right (by omega)).1 h3
/-- Trees put together are the block above. -/
theorem ups_tr (k : Int) (l : List ByteArray) (n h : Nat) (hm : n % 2 ^ h = 0) (hn : n + 2 ^ h ≤ 2 ^ 40) : ∀ i, i ≤ t1 (n / 2 ^ h) → ups k (MT.pkL k l n 41) (MT.trB k l (h, n / 2 ^ h)) i = MT.trB k l (h + i, n / 2 ^ h / 2 ^ i)
  | 0, _ => by simp [ups]
  | i + 1, hi => by
    have hp : 0 < 2 ^ h := Nat.pow_pos (by omega)
    have hdle : n / 2 ^ h ≤ n := Nat.div_le_self _ _
    have hf := t1_fit n h hn
    have ih := ups_tr k l n h hm hn i (by omega)
    have hodd := t1_odd (n / 2 ^ h) i (by omega) (by omega)
    have hb : bit n (h + i) = 1 := by rw [← bit_shift]; exact hodd
    obtain ⟨R, hR, hs⟩ := mt_tail n h (by omega) i (by omega) (by omega)
    have e : mtT n (h + i) (41 - (h + i)) = mtT n (h + i + 1) (41 - (h + i + 1)) ++ [(h + i, n / 2 ^ (h + i) - 1)] := by
      have := mtT_low n (h + i) (41 - (h + i + 1))
      rw [if_pos hb, show 41 - (h + i + 1) + 1 = 41 - (h + i) from by omega] at this; exact this
    have hL : MT.pkL k l n 41 = (mtT n (h + i + 1) (41 - (h + i + 1))).map (MT.trB k l) ++ (MT.trB k l (h + i, n / 2 ^ (h + i) - 1) :: R.map (MT.trB k l)) := by
      unfold MT.pkL
      rw [mt_all n h (by omega) hm, hs, e, List.append_assoc, List.map_append]; rfl
    have hg : (MT.pkL k l n 41).getD ((MT.pkL k l n 41).length - 1 - i) ByteArray.empty = MT.trB k l (h + i, n / 2 ^ (h + i) - 1) := by
      rw [hL, List.getD_eq_getElem?_getD]
      have e1 : ((mtT n (h + i + 1) (41 - (h + i + 1))).map (MT.trB k l) ++ (MT.trB k l (h + i, n / 2 ^ (h + i) - 1) :: R.map (MT.trB k l))).length - 1 - i = ((mtT n (h + i + 1) (41 - (h + i + 1))).map (MT.trB k l)).length := by
        rw [List.length_append, List.length_cons, List.length_map, List.length_map, hR]; omega
      rw [e1, List.getElem?_append_right (Nat.le_refl _), Nat.sub_self]; rfl
    have ed : n / 2 ^ h / 2 ^ i = n / 2 ^ (h + i) := by rw [Nat.div_div_eq_div_mul, ← Nat.pow_add]
    have e2 : n / 2 ^ h / 2 ^ (i + 1) = n / 2 ^ h / 2 ^ i / 2 := by rw [Nat.pow_succ, ← Nat.div_div_eq_div_mul]
    rw [ups, hg, ih, e2, show h + (i + 1) = (h + i) + 1 from by omega, MT.trB_node]
    rw [← ed]
    obtain ⟨x, hx⟩ : ∃ x, x = n / 2 ^ h / 2 ^ i := ⟨_, rfl⟩
    rw [← hx] at hodd ⊢
    rw [show 2 * (x / 2) + 1 = x from by omega, show x - 1 = 2 * (x / 2) from by omega]
/-- A whole tree behind a list's peaks. -/
theorem carL_tr (k : Int) (l : List ByteArray) (n h : Nat) (hm : n % 2 ^ h = 0) (hn : n + 2 ^ h ≤ 2 ^ 40) :
    carL k (MT.pkL k l n 41) (MT.trB k l (h, n / 2 ^ h)) (t1 (n / 2 ^ h)) = MT.pkL k l (n + 2 ^ h) 41 := by
  have hp : 0 < 2 ^ h := Nat.pow_pos (by omega)
  have hdle : n / 2 ^ h ≤ n := Nat.div_le_self _ _
  have hf := t1_fit n h hn
  obtain ⟨t, ht⟩ : ∃ t, t = t1 (n / 2 ^ h) := ⟨_, rfl⟩
  have hup := ups_tr k l n h hm hn t (by omega)
  obtain ⟨R, hR, hs⟩ := mt_tail n h (by omega) t (by omega) (by omega)
  have hev := t1_even (n / 2 ^ h) (by omega)
  have hdv := (t1_spec (n / 2 ^ h) (by omega)).1
  rw [← ht] at hf hev hdv ⊢
  obtain ⟨q, hq⟩ : ∃ q, q = n / 2 ^ h / 2 ^ t := ⟨_, rfl⟩
  have ed : n / 2 ^ h / 2 ^ t = n / 2 ^ (h + t) := by rw [Nat.div_div_eq_div_mul, ← Nat.pow_add]
  have hb0 : bit n (h + t) = 0 := by unfold bit; rw [← ed]; exact hev
  have em : n / 2 ^ h * 2 ^ h = n := by have := Nat.div_add_mod n (2 ^ h); rw [Nat.mul_comm]; omega
  have en : n + 2 ^ h = (q + 1) * 2 ^ (h + t) := by
    have e1 : n / 2 ^ h + 1 = (q + 1) * 2 ^ t := by
      have h1 : n / 2 ^ h + 1 = 2 ^ t * ((n / 2 ^ h + 1) / 2 ^ t) := by have := Nat.div_add_mod (n / 2 ^ h + 1) (2 ^ t); omega
      have h2 := div_pred (n / 2 ^ h) t _ h1
      have h3 : 0 < (n / 2 ^ h + 1) / 2 ^ t := by
        rcases Nat.eq_zero_or_pos ((n / 2 ^ h + 1) / 2 ^ t) with h0 | h0
        · rw [h0, Nat.mul_zero] at h1; exact absurd h1 (Nat.succ_ne_zero _)
        · exact h0
      rw [hq, h2, show (n / 2 ^ h + 1) / 2 ^ t - 1 + 1 = (n / 2 ^ h + 1) / 2 ^ t from by omega, Nat.mul_comm]; exact h1
    calc n + 2 ^ h = (n / 2 ^ h + 1) * 2 ^ h := by rw [Nat.add_mul, em]; omega
      _ = (q + 1) * 2 ^ (h + t) := by rw [e1, Nat.mul_assoc, ← Nat.pow_add, Nat.add_comm t h]
  have hpt : 0 < 2 ^ (h + t) := Nat.pow_pos (by omega)
  have q1 : (n + 2 ^ h) / 2 ^ (h + t) = q + 1 := by rw [en]; exact Nat.mul_div_cancel _ hpt
  have q0 : (n + 2 ^ h) % 2 ^ (h + t) = 0 := by rw [en]; exact Nat.mul_mod_left _ _
  have hqe : q % 2 = 0 := by rw [hq]; exact hev
  have hb1 : bit (n + 2 ^ h) (h + t) = 1 := by unfold bit; rw [q1]; omega
  have hup2 : n / 2 ^ (h + t + 1) = (n + 2 ^ h) / 2 ^ (h + t + 1) := by
    rw [Nat.pow_succ, ← Nat.div_div_eq_div_mul, ← Nat.div_div_eq_div_mul, q1, ← ed, ← hq]; omega
  have eA : mtT n (h + t) (41 - (h + t)) = mtT n (h + t + 1) (41 - (h + t + 1)) := by
    have := mtT_low n (h + t) (41 - (h + t + 1))
    rw [if_neg (by omega), List.append_nil, show 41 - (h + t + 1) + 1 = 41 - (h + t) from by omega] at this; exact this
  have eB : mtS (n + 2 ^ h) 41 = mtT (n + 2 ^ h) (h + t + 1) (41 - (h + t + 1)) ++ [(h + t, q)] := by
    rw [mt_all (n + 2 ^ h) (h + t) (by omega) q0]
    have := mtT_low (n + 2 ^ h) (h + t) (41 - (h + t + 1))
    rw [if_pos hb1, show 41 - (h + t + 1) + 1 = 41 - (h + t) from by omega, q1] at this; exact this
  unfold carL
  rw [hup]
  have eL : MT.pkL k l n 41 = (mtT n (h + t) (41 - (h + t))).map (MT.trB k l) ++ R.map (MT.trB k l) := by
    unfold MT.pkL; rw [mt_all n h (by omega) hm, hs, List.map_append]
  have eT : (MT.pkL k l n 41).take ((MT.pkL k l n 41).length - t) = (mtT n (h + t) (41 - (h + t))).map (MT.trB k l) := by
    rw [eL, List.length_append, List.length_map, List.length_map, hR, Nat.add_sub_cancel]
    conv => lhs; arg 1; rw [← List.length_map (f := MT.trB k l)]
    exact List.take_left
  rw [eT, eA, mtT_congr n (n + 2 ^ h) (h + t + 1) hup2, ← hq]
  unfold MT.pkL
  rw [eB, List.map_append]; rfl
theorem pk_inv (k : Int) (hk1 : 1 ≤ k) (hk2 : k ≤ 32) (l : List ByteArray) (n : Nat) (hn : n ≤ 2 ^ 40) : Inv k n (MT.pkL k l n 41) := by
  refine ⟨hk1, hk2, hn, ?_, fun s hs => ?_⟩
  · unfold MT.pkL; rw [List.length_map, mtS_length]; exact onesF_eq 41 n (by omega) (by omega)
  · unfold MT.pkL at hs
    obtain ⟨b, _, rfl⟩ := List.mem_map.1 hs
    rw [MT.trB_size]; exact MH.hK_of k ⟨hk1, hk2⟩
theorem op_tr (k : Int) (hk1 : 1 ≤ k) (hk2 : k ≤ 32) (l : List ByteArray) (n h : Nat) (hh : h ≤ 40) (hm : n % 2 ^ h = 0) (hn : n + 2 ^ h ≤ 2 ^ 40) :
    opE k n (h : Int) (MT.trB k l (h, n / 2 ^ h)) = 0 ∧ opN k n (h : Int) (MT.trB k l (h, n / 2 ^ h)) = n + 2 ^ h ∧ opL k n (MT.pkL k l n 41) (h : Int) (MT.trB k l (h, n / 2 ^ h)) = MT.pkL k l (n + 2 ^ h) 41 := by
  have e0 : opE k n (h : Int) (MT.trB k l (h, n / 2 ^ h)) = 0 := by
    have hs : ((MT.trB k l (h, n / 2 ^ h)).size : Int) = k := by rw [MT.trB_size]; exact MH.hK_of k ⟨hk1, hk2⟩
    unfold opE
    rw [if_neg (by simpa using hs), Int.toNat_natCast, if_neg (by rintro (h1 | h1 | h1) <;> omega), if_neg (by omega)]
  refine ⟨e0, ?_, ?_⟩
  · unfold opN; rw [if_pos e0, Int.toNat_natCast]
  · unfold opL; rw [if_pos e0, Int.toNat_natCast]; exact carL_tr k l n h hm hn
theorem pk_zero (k : Int) (l : List ByteArray) : MT.pkL k l 0 41 = [] := MT.pkL_none k l 0 41 rfl
/-- few: some list of at most m texts of at most 200 bytes. -/
theorem few_l0 (l : List ByteArray) (m : Nat) (hm : m ≤ 100) (hl : l.length ≤ 140737488351232) : ∀ (d i K : Nat) (r : List ByteArray), i + d = min l.length m → 2 * d + 2 ≤ K → r.length = i → (∀ s ∈ r, s.size ≤ 200) →
    ∃ r', massiflaw09_few.l0 K l (m : Int) r (i : Int) = some r' ∧ r'.length ≤ m ∧ ∀ s ∈ r', s.size ≤ 200 := by
  intro d
  induction d with
  | zero =>
    intro i K r hi hK hr hs
    obtain ⟨K, rfl⟩ : ∃ x, K = x + 2 := ⟨K - 2, by omega⟩
    refine ⟨r, ?_, by omega, hs⟩
    rw [massiflaw09_few.l0]
    by_cases c : (i : Int) < (l.length : Int)
    · rw [if_pos c, decide_eq_false (by omega), massiflaw09_few.j1, if_neg (by simp)]
    · rw [if_neg c, massiflaw09_few.j1, if_neg (by simp)]
  | succ d ih =>
    intro i K r hi hK hr hs
    obtain ⟨K, rfl⟩ : ∃ x, K = x + 2 := ⟨K - 2, by omega⟩
    have e1 : wrap64 ((i : Int) + 1) = ((i + 1 : Nat) : Int) := by rw [MB.wrap64_in _ (by omega) (by omega)]; omega
    rw [massiflaw09_few.l0, if_pos (by omega), decide_eq_true (by omega), massiflaw09_few.j1, if_pos rfl, if_pos (by omega), if_pos (by omega)]
    by_cases c : ((rdOf ByteArray.empty l (i : Int)).size : Int) > 200
    · rw [if_pos c, if_pos (by omega), if_pos (by omega), if_pos (by omega), e1]
      refine ih (i + 1) K _ (by omega) (by omega) (by simp [hr]) (fun s h => ?_)
      rcases List.mem_append.1 h with h | h
      · exact hs s h
      · rw [List.mem_singleton.1 h, ByteArray.size_extract]; omega
    · rw [if_neg c, if_pos (by omega), e1]
      refine ih (i + 1) K _ (by omega) (by omega) (by simp [hr]) (fun s h => ?_)
      rcases List.mem_append.1 h with h | h
      · exact hs s h
      · rw [List.mem_singleton.1 h]; omega
theorem few_some (l : List ByteArray) (hl : l.length ≤ 140737488351232) : ∃ r, massiflaw09_few.f 100 l 40 = some r ∧ r.length ≤ 40 ∧ ∀ s ∈ r, s.size ≤ 200 := by
  unfold massiflaw09_few.f
  exact few_l0 l 40 (by omega) hl (min l.length 40) 0 100 [] (by omega) (by omega) rfl (fun s h => by cases h)
end Go.Proofs.Ytgooamgpojeeaaa.Pk
