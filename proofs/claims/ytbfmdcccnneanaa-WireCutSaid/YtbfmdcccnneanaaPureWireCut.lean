/- massiflaw06.WireCut answers true for all numbers of the parameters' types. No further condition. -/
import Derived.Test.YtbfmdcccnneanaaPWireCutx
import Derived.Test.YtbfmdcccnneanaaQWireCut
namespace Go.Proofs.Ytbfmdcccnneanaa.Pure
open Go.RowKit Go.Proofs.Ytbfmdcccnneanaa.PWireCut Go.Proofs.Ytbfmdcccnneanaa.MB Go.Proofs.YtbfmdcccnneanaaW.PrintWords Go.Proofs.YtbfmdcccnneanaaW.PrintLast

theorem enc_many : ∀ (j x : Nat), 128 ^ j ≤ x → j < (enc x).length
  | 0, x, _ => enc_length_pos x
  | j + 1, x, hx => by
    have h4 : 128 ^ j ≤ x / 128 := by rw [Nat.pow_succ] at hx; omega
    have h5 : 128 ≤ x := by
      have : 1 ≤ 128 ^ j := Nat.pow_pos (by omega)
      omega
    rw [enc_big x h5, List.length_cons]
    have := enc_many j (x / 128) h4
    omega
/-- The law's own loop counts the bytes; then the text is cut. -/
theorem cut_l0 (n : Nat) (hn : n < 2 ^ 64) (x1 : Int) : ∀ (d k c m : Nat), m < 128 ^ d → d ≤ 10 → c + (if m = 0 then 0 else (enc m).length) = (enc n).length → 0 < c → d + 30 ≤ k →
    massiflaw06_WireCut.l0 k x1 (strOfNums (ints (enc n))) c m = some true := by
  have hsz : (strOfNums (ints (enc n))).size = (enc n).length := by rw [← bys_length, bys_number n hn]
  have h10 := enc_len10 n hn
  have hpos := enc_length_pos n
  have fin : ∀ (k c : Nat), c = (enc n).length → 30 ≤ k → massiflaw06_WireCut.l0 k x1 (strOfNums (ints (enc n))) c 0 = some true := by
    intro k c hc hk
    obtain ⟨k, rfl⟩ : ∃ m, k = m + 1 := ⟨k - 1, by omega⟩
    obtain ⟨r, hr, hr2⟩ : ∃ r : Nat, Int.tmod (wrap64 (Int.tmod x1 (c : Int) + (c : Int))) (c : Int) = r ∧ r < c := by
      have h1 := Int.tmod_lt_of_pos x1 (show (0 : Int) < c from by omega)
      have h2 : -(c : Int) < Int.tmod x1 (c : Int) := by
        by_cases h : 0 ≤ x1
        · have := Int.tmod_nonneg (c : Int) h; omega
        · have e : x1 = -(-x1) := by omega
          have h3 := Int.tmod_lt_of_pos (-x1) (show (0 : Int) < c from by omega)
          rw [e, Int.neg_tmod]; omega
      rw [wrap64_in _ (by omega) (by omega)]
      have h3 : 0 ≤ Int.tmod x1 (c : Int) + c := by omega
      rw [Int.tmod_eq_emod_of_nonneg h3]
      have h4 := Int.emod_nonneg (Int.tmod x1 (c : Int) + c) (show (c : Int) ≠ 0 from by omega)
      have h5 := Int.emod_lt_of_pos (Int.tmod x1 (c : Int) + c) (show (0 : Int) < c from by omega)
      exact ⟨((Int.tmod x1 (c : Int) + c) % c).toNat, by omega, by omega⟩
    simp only [massiflaw06_WireCut.l0]
    rw [if_neg (by omega), hsz, if_pos (by omega), if_neg (by omega), hr, if_pos (by omega), if_pos (by omega), Int.toNat_natCast]
    simp only [wire_NewReader.f, Option.bind_some]
    have hb : bys ((strOfNums (ints (enc n))).extract 0 r) = (enc n).take r := by rw [bys_extract, bys_number n hn, List.drop_zero]
    have hb2 : ((strOfNums (ints (enc n))).extract 0 r).size ≤ 10 := by rw [← bys_length, hb, List.length_take]; omega
    have hne : (enc n).drop r ≠ [] := by
      intro h
      have := congrArg List.length h
      rw [List.length_drop, List.length_nil] at this; omega
    have hrc := reader_cut ((strOfNums (ints (enc n))).extract 0 r) (by omega) 10 0 0 k n ((enc n).drop r) (by omega) (by omega) (by omega) (by rw [hb, List.drop_zero, List.take_append_drop]) hne (fun h => by omega) (by omega) (by omega)
    rw [show (((0 : Nat) : Int)) = 0 from rfl] at hrc
    rw [reader_start, hrc]
    rfl
  intro d
  induction d with
  | zero =>
    intro k c m hm _ hc hc0 hk
    have : m = 0 := by simpa using hm
    subst this
    rw [if_pos rfl] at hc
    exact fin k c (by omega) (by omega)
  | succ d ih =>
    intro k c m hm hd hc hc0 hk
    by_cases h : m = 0
    · subst h
      rw [if_pos rfl] at hc
      exact fin k c (by omega) (by omega)
    · obtain ⟨k, rfl⟩ : ∃ m, k = m + 1 := ⟨k - 1, by omega⟩
      rw [if_neg h] at hc
      have h64 : 128 ^ (d + 1) ≤ 128 ^ 10 := Nat.pow_le_pow_right (by omega) hd
      have hbig : (128 : Nat) ^ 10 = 1180591620717411303424 := by decide
      have hmn : m < 128 ^ (d + 1) := hm
      have hdiv : m / 128 < 128 ^ d := by rw [Nat.pow_succ] at hm; omega
      have hlen : (enc m).length = 1 + (if m / 128 = 0 then 0 else (enc (m / 128)).length) := by
        by_cases h1 : m < 128
        · rw [enc_small m h1, if_pos (by omega)]; rfl
        · rw [enc_big m (by omega), if_neg (by omega), List.length_cons]; omega
      by_cases hm64 : m < 2 ^ 64
      · have e1 : IntKind.u64.wrap (Int.tdiv (m : Int) 128) = ((m / 128 : Nat) : Int) := by
          rw [Int.tdiv_eq_ediv_of_nonneg (by omega), wrap_u64_in _ (by omega) (by omega)]; omega
        have e2 : wrap64 ((c : Int) + 1) = ((c + 1 : Nat) : Int) := by rw [wrap64_in _ (by omega) (by omega)]; omega
        have hc2 : c + 1 + (if m / 128 = 0 then 0 else (enc (m / 128)).length) = (enc n).length := by rw [Nat.add_assoc, ← hlen]; exact hc
        have hk2 : d + 30 ≤ k := by omega
        have hd2 : d ≤ 10 := by omega
        have hm0 : (m : Int) > 0 := by omega
        simp only [massiflaw06_WireCut.l0]
        rw [if_pos hm0, e1, e2]
        exact ih k (c + 1) (m / 128) hdiv hd2 hc2 (Nat.succ_pos c) hk2
      · exfalso
        have h3 : (enc m).length ≥ 10 := by
          have h9 : (128 : Nat) ^ 9 = 9223372036854775808 := by decide
          have := enc_many 9 m (by omega)
          omega
        omega

theorem WireCut : massiflaw06_WireCut.Pure := by
  intro a0 a1 h0 _
  obtain ⟨n, rfl, hn⟩ := wf_u64 h0
  refine ⟨100, ?_⟩
  unfold massiflaw06_WireCut.f
  rw [massiflaw06_fixed.is 100 (by omega), wire_Number.is n 100 hn (by omega)]
  simp only [Option.bind_some, if_true]
  have e1 : IntKind.u64.wrap (Int.tdiv (n : Int) 128) = ((n / 128 : Nat) : Int) := by
    rw [Int.tdiv_eq_ediv_of_nonneg (by omega), wrap_u64_in _ (by omega) (by omega)]; omega
  rw [e1]
  refine cut_l0 n hn a1 10 100 1 (n / 128) (by omega) (by omega) ?_ (by omega) (by omega)
  by_cases h : n < 128
  · rw [enc_small n h, if_pos (by omega)]; rfl
  · rw [enc_big n (by omega), if_neg (by omega), List.length_cons]; omega

end Go.Proofs.Ytbfmdcccnneanaa.Pure
