/- What the printed functions of WireReads come to, function by function. No condition beyond those that each theorem names. -/
import Derived.Test.YtalhbgokelodoaaPWireReadsx
import Derived.Test.YtalhbgokelodoaaMB
import Derived.Test.YtalhbgokelodoaaMP
import Derived.Test.YtalhbgokelodoaaMS
set_option linter.unusedVariables false
set_option linter.unusedSimpArgs false
namespace Go.Proofs.Ytalhbgokelodoaa.PWireReads
open Go Go.RowKit Go.Proofs.Ytalhbgokelodoaa.MB Go.Proofs.YtalhbgokelodoaaW.PrintWords Go.Proofs.YtalhbgokelodoaaW.PrintLast Go.Proofs.YtalhbgokelodoaaW.PrintMore

/-- A number's bytes. -/
def enc (n : Nat) : List Nat := if n < 128 then [n] else (n % 128 + 128) :: enc (n / 128)
termination_by n
decreasing_by omega
theorem enc_small (n : Nat) (h : n < 128) : enc n = [n] := by rw [enc, if_pos h]
theorem enc_big (n : Nat) (h : 128 ≤ n) : enc n = (n % 128 + 128) :: enc (n / 128) := by rw [enc, if_neg (by omega)]
theorem or128 (c : Int) (h0 : 0 ≤ c) (h1 : c < 256) : Go.bits .or .u8 c 128 = c % 128 + 128 := by
  have h := (bits_nat .u8 8 (by decide) wraps_u8 c.toNat 128 (by omega) (by omega)).2
  have hx : ∀ a : Fin 256, (a.val ||| 128) = a.val % 128 + 128 := by decide +kernel
  have h2 := hx ⟨c.toNat, by omega⟩
  simp only at h2
  rw [h2, Int.toNat_of_nonneg h0] at h
  have e : ((c.toNat % 128 + 128 : Nat) : Int) = c % 128 + 128 := by omega
  exact h.trans e
theorem enc_length_pos (n : Nat) : 0 < (enc n).length := by
  by_cases h : n < 128
  · rw [enc_small n h]; simp
  · rw [enc_big n (by omega)]; simp
theorem enc_length_le : ∀ (d n : Nat), n < 128 ^ d → 0 < d → (enc n).length ≤ d
  | 0, n, _, h => by omega
  | d + 1, n, h, _ => by
    by_cases h1 : n < 128
    · rw [enc_small n h1]; simp
    · rw [enc_big n (by omega)]
      have h2 : n / 128 < 128 ^ d := by rw [Nat.pow_succ] at h; omega
      have hd : 0 < d := by
        rcases Nat.eq_zero_or_pos d with e | e
        · subst e; simp at h2; omega
        · exact e
      have := enc_length_le d (n / 128) h2 hd
      simp; omega
theorem enc_len10 (n : Nat) (h : n < 2 ^ 64) : (enc n).length ≤ 10 := enc_length_le 10 n (by omega) (by omega)
theorem wire_Number.run : ∀ (d k n : Nat) (acc : List Int), n < 128 ^ d → d < k → d ≤ 10 → acc.length + d ≤ 100 → n < 2 ^ 64 → wire_Number.l0 k n acc = some (strOfNums (acc ++ ints (enc n))) := by
  intro d
  induction d with
  | zero =>
    intro k n acc hn hk _ hl _
    obtain ⟨k, rfl⟩ : ∃ m, k = m + 1 := ⟨k - 1, by omega⟩
    have : n = 0 := by simpa using hn
    subst this
    simp only [wire_Number.l0]
    rw [if_neg (by omega), if_pos (by omega), enc_small 0 (by omega)]; rfl
  | succ d ih =>
    intro k n acc hn hk hd hl h64
    obtain ⟨k, rfl⟩ : ∃ m, k = m + 1 := ⟨k - 1, by omega⟩
    simp only [wire_Number.l0]
    by_cases h : n < 128
    · rw [if_neg (by omega), if_pos (by omega), enc_small n h]
      have : (n : Int) % 256 = n := by omega
      rw [this]; rfl
    · have h2 : n / 128 < 128 ^ d := by rw [Nat.pow_succ] at hn; omega
      rw [if_pos (by omega), if_pos (by omega), or128 _ (by omega) (by omega), enc_big n (by omega), ints_cons]
      have e : (n : Int) % 256 % 128 + 128 = ((n % 128 + 128 : Nat) : Int) := by omega
      have e2 : (n : Int) / 128 = ((n / 128 : Nat) : Int) := by omega
      rw [e, e2, ih k (n / 128) _ h2 (by omega) (by omega) (by rw [List.length_append]; simp; omega) (by omega), List.append_assoc]
      rfl
theorem wire_Number.is (n k : Nat) (h : n < 2 ^ 64) (hk : 11 ≤ k) : wire_Number.f k n = some (strOfNums (ints (enc n))) := by
  have := wire_Number.run 10 k n [] (by omega) (by omega) (by omega) (by simp) h
  exact this
/-! A text, byte by byte. -/
/-- The text's bytes as numbers. -/
def bys (s : ByteArray) : List Nat := s.data.toList.map UInt8.toNat
theorem bys_length (s : ByteArray) : (bys s).length = s.size := by unfold bys; rw [List.length_map]; rfl
theorem bt_bys (s : ByteArray) (i : Nat) (h : i < (bys s).length) : bt s (i : Int) = ((bys s)[i] : Int) := by
  rw [bys_length] at h
  unfold bt
  rw [Int.toNat_natCast, dif_pos h]
  have e : (bys s)[i]? = some (s[i].toNat) := by
    unfold bys
    rw [List.getElem?_map]
    have h2 : i < s.data.toList.length := h
    rw [List.getElem?_eq_getElem h2]
    rfl
  rw [(List.getElem?_eq_some_iff.1 e).2]
theorem bys_ext {s t : ByteArray} (h : bys s = bys t) : s = t := by
  unfold bys at h
  have inj : ∀ (a b : List UInt8), a.map UInt8.toNat = b.map UInt8.toNat → a = b := by
    intro a
    induction a with
    | nil => intro b hb; cases b with
      | nil => rfl
      | cons y b => simp at hb
    | cons x a ih => intro b hb; cases b with
      | nil => simp at hb
      | cons y b =>
        simp only [List.map_cons, List.cons.injEq] at hb
        rw [UInt8.toNat_inj.1 hb.1, ih b hb.2]
  have h2 := inj _ _ h
  have h3 := Array.toList_inj.1 h2
  cases s; cases t
  simp only at h3
  subst h3
  rfl
theorem bys_lt (s : ByteArray) : ∀ c ∈ bys s, c < 256 := by
  intro c hc
  unfold bys at hc
  obtain ⟨b, _, rfl⟩ := List.mem_map.1 hc
  exact b.toNat_lt
theorem bys_append (s t : ByteArray) : bys (s ++ t) = bys s ++ bys t := by
  unfold bys
  rw [ByteArray.data_append, Array.toList_append, List.map_append]
theorem bys_extract (s : ByteArray) (a b : Nat) : bys (s.extract a b) = ((bys s).take b).drop a := by
  unfold bys
  rw [ByteArray.data_extract, Array.toList_extract, List.extract_eq_take_drop, List.map_take, List.map_drop, List.drop_take]
theorem bys_nums (l : List Nat) (h : ∀ c ∈ l, c < 256) : bys (strOfNums (ints l)) = l := by
  unfold bys strOfNums ints
  simp only [List.map_map]
  rw [List.map_congr_left (g := id)]
  · simp
  · intro c hc
    have := h c hc
    simp
    omega
theorem enc_lt : ∀ (d n : Nat), n < 128 ^ d → ∀ c ∈ enc n, c < 256
  | 0, n, h => by have : n = 0 := by simpa using h
                  subst this; rw [enc_small 0 (by omega)]; simp
  | d + 1, n, h => by
    by_cases h1 : n < 128
    · rw [enc_small n h1]; simp; omega
    · rw [enc_big n (by omega)]
      intro c hc
      rcases List.mem_cons.1 hc with e | e
      · omega
      · exact enc_lt d (n / 128) (by rw [Nat.pow_succ] at h; omega) c e
theorem bys_number (n : Nat) (h : n < 2 ^ 64) : bys (strOfNums (ints (enc n))) = enc n := bys_nums _ (enc_lt 10 n (by omega))
theorem and127 (c : Nat) (h1 : c < 256) : IntKind.u64.wrap (Go.bits .and .u8 (c : Int) 127) = ((c % 128 : Nat) : Int) := by
  have h := bits_mask .u8 8 (by decide) wraps_u8 7 (by decide) (c : Int) (by omega) (by omega)
  rw [show ((2 : Int) ^ 7 - 1) = 127 from rfl, show ((2 : Int) ^ 7) = 128 from rfl] at h
  rw [h, wrap_u64_in _ (by omega) (by omega)]; omega
theorem wraps_u64 (n : Int) (h0 : 0 ≤ n) (h1 : n < 2 ^ 64) : IntKind.u64.wrap n = n := wrap_u64_in n h0 (by omega)
theorem or_high (n0 c j : Nat) (h0 : n0 < 2 ^ j) (h1 : n0 + c * 2 ^ j < 2 ^ 64) : Go.bits .or .u64 (n0 : Int) ((c * 2 ^ j : Nat) : Int) = ((n0 + c * 2 ^ j : Nat) : Int) := by
  have h := (bits_nat .u64 64 (by decide) wraps_u64 n0 (c * 2 ^ j) (by omega) (by omega)).2
  rw [h, Nat.or_comm, Nat.mul_comm c, ← Nat.two_pow_add_eq_or_of_lt h0, Nat.add_comm]
theorem read_byte (n0 c i : Nat) (hi : i ≤ 9) (hc : c < 256) (h0 : n0 < 2 ^ (7 * i)) (h1 : n0 + c % 128 * 2 ^ (7 * i) < 2 ^ 64) :
    Go.bits .or .u64 (n0 : Int) (shl .u64 (IntKind.u64.wrap (Go.bits .and .u8 (c : Int) 127)) (wrap64 (7 * (i : Int)))) = ((n0 + c % 128 * 2 ^ (7 * i) : Nat) : Int) := by
  rw [and127 c hc, wrap64_in (7 * (i : Int)) (by omega) (by omega), show (7 * (i : Int)) = ((7 * i : Nat) : Int) from by omega, shlc _ _ (by omega) (by omega), or_high n0 _ _ h0 h1]
theorem step_bound (n0 c i : Nat) (hi : i ≤ 9) (h9 : i = 9 → c ≤ 1) (h0 : n0 < 2 ^ (7 * i)) : n0 + c % 128 * 2 ^ (7 * i) < 2 ^ 64 ∧ (i < 9 → n0 + c % 128 * 2 ^ (7 * i) < 2 ^ (7 * (i + 1))) := by
  have h2 : c % 128 * 2 ^ (7 * i) ≤ 127 * 2 ^ (7 * i) := Nat.mul_le_mul_right _ (by omega)
  have e : 2 ^ (7 * (i + 1)) = 128 * 2 ^ (7 * i) := by rw [Nat.mul_add, Nat.pow_add, Nat.mul_comm]
  by_cases h : i = 9
  · subst h
    have := h9 rfl
    refine ⟨?_, fun hx => by omega⟩
    have h3 : c % 128 * 2 ^ (7 * 9) ≤ 1 * 2 ^ (7 * 9) := Nat.mul_le_mul_right _ (by omega)
    omega
  · have h3 : 2 ^ (7 * (i + 1)) ≤ 2 ^ 63 := Nat.pow_le_pow_right (by omega) (by omega)
    refine ⟨by omega, fun _ => by omega⟩
theorem fail_is (s : ByteArray) (e : Int) : wire_Reader_fail.f s 0 e = some (e, (⟨#[]⟩ : ByteArray), e) := by
  unfold wire_Reader_fail.f; rw [if_pos rfl]
/-- One round of the reader, told by the byte at hand. -/
theorem reader_step (s : ByteArray) (i n0 c k : Nat) (hi : i < 10) (hs : s.size < 2 ^ 62) (hc : (bys s)[i]? = some c) (h0 : n0 < 2 ^ (7 * i)) :
    wire_Reader_Number.l0 (k + 2) n0 i s 0 =
      if i = 9 ∧ 1 < c then some (0, 61, (⟨#[]⟩ : ByteArray), 61)
      else if 128 ≤ c then wire_Reader_Number.l0 k ((n0 + c % 128 * 2 ^ (7 * i) : Nat) : Int) ((i + 1 : Nat) : Int) s 0
      else if c = 0 ∧ 0 < i then some (0, 61, (⟨#[]⟩ : ByteArray), 61)
      else some (((n0 + c % 128 * 2 ^ (7 * i) : Nat) : Int), 0, s.extract (i + 1) s.size, 0) := by
  obtain ⟨hl, hg⟩ := List.getElem?_eq_some_iff.1 hc
  have hsz := bys_length s
  have hc256 : c < 256 := by rw [← hg]; exact bys_lt s _ (List.getElem_mem hl)
  have hbt : bt s (i : Int) = (c : Int) := by rw [bt_bys s i hl, hg]
  have e1 : wrap64 ((i : Int) + 1) = ((i + 1 : Nat) : Int) := by rw [wrap64_in _ (by omega) (by omega)]; omega
  have e2 : wrap64 (7 * (i : Int)) = 7 * (i : Int) := wrap64_in _ (by omega) (by omega)
  have e3 : (((i + 1 : Nat) : Int)).toNat = i + 1 := Int.toNat_natCast _
  rw [wire_Reader_Number.l0]
  rw [if_pos (by omega), if_neg (by omega), if_pos (by omega), if_pos (by omega), hbt]
  by_cases h9 : i = 9 ∧ 1 < c
  · rw [if_pos (by omega), decide_eq_true (by omega), if_pos h9, wire_Reader_Number.j1]
    simp only [if_true, fail_is, Option.bind_some]
  · have hj : (if (i : Int) = 9 then wire_Reader_Number.j1 (k + 1) n0 i c i (decide ((c : Int) > 1)) s 0 else wire_Reader_Number.j1 (k + 1) n0 i c i false s 0) = wire_Reader_Number.j1 (k + 1) n0 i c i false s 0 := by
      by_cases h : (i : Int) = 9
      · rw [if_pos h, decide_eq_false (by omega)]
      · rw [if_neg h]
    obtain ⟨b1, b2⟩ := step_bound n0 c i (by omega) (by omega) h0
    have hrb := read_byte n0 c i (by omega) hc256 h0 b1
    rw [hj, if_neg h9, wire_Reader_Number.j1, hrb, e2, e1, e3]
    rw [if_neg (by simp), if_pos (by omega)]
    by_cases h128 : 128 ≤ c
    · rw [if_pos (by omega), if_pos h128]
    · rw [if_neg (by omega), if_neg h128]
      by_cases hz : c = 0
      · rw [if_pos (by omega)]
        by_cases hi0 : 0 < i
        · rw [if_pos (by omega), if_pos ⟨hz, hi0⟩]
          simp only [fail_is, Option.bind_some]
        · rw [if_neg (by omega), if_pos (by omega), if_pos (by omega), if_neg (by omega)]
      · rw [if_neg (by omega), if_pos (by omega), if_pos (by omega), if_neg (by omega)]
theorem reader_end (s : ByteArray) (i n0 k : Nat) (hi : i < 10) (hl : (bys s).length = i) : wire_Reader_Number.l0 (k + 1) n0 i s 0 = some (0, 60, (⟨#[]⟩ : ByteArray), 60) := by
  rw [bys_length] at hl
  rw [wire_Reader_Number.l0, if_pos (by omega), if_pos (by omega)]
  simp only [fail_is, Option.bind_some]
/-- Whatever stands there: refused, or a number's own bytes. -/
theorem reader_any (s : ByteArray) (hs : s.size < 2 ^ 62) : ∀ (d i n0 k : Nat), i + d = 10 → n0 < 2 ^ (7 * i) → i ≤ (bys s).length → 2 * d + 2 ≤ k →
    (∃ e : Int, (e = 60 ∨ e = 61) ∧ wire_Reader_Number.l0 k n0 i s 0 = some (0, e, (⟨#[]⟩ : ByteArray), e)) ∨
    ∃ m rest, (bys s).drop i = enc m ++ rest ∧ (0 < i → 0 < m) ∧ n0 + m * 2 ^ (7 * i) < 2 ^ 64 ∧ i + (enc m).length ≤ 10 ∧
      wire_Reader_Number.l0 k n0 i s 0 = some (((n0 + m * 2 ^ (7 * i) : Nat) : Int), 0, s.extract (i + (enc m).length) s.size, 0) := by
  intro d
  induction d with
  | zero =>
    intro i n0 k hi h0 hl hk
    obtain ⟨k, rfl⟩ : ∃ m, k = m + 1 := ⟨k - 1, by omega⟩
    left
    refine ⟨61, .inr rfl, ?_⟩
    rw [wire_Reader_Number.l0, if_neg (by omega)]
    simp only [fail_is, Option.bind_some]
  | succ d ih =>
    intro i n0 k hi h0 hl hk
    obtain ⟨k, rfl⟩ : ∃ m, k = m + 2 := ⟨k - 2, by omega⟩
    by_cases he : (bys s).length = i
    · exact .inl ⟨60, .inl rfl, reader_end s i n0 (k + 1) (by omega) he⟩
    · have hil : i < (bys s).length := by omega
      obtain ⟨c, hc⟩ : ∃ c, (bys s)[i]? = some c := ⟨_, List.getElem?_eq_getElem hil⟩
      have hg := (List.getElem?_eq_some_iff.1 hc).2
      have hdrop : (bys s).drop i = c :: (bys s).drop (i + 1) := by rw [List.drop_eq_getElem_cons hil, hg]
      have hc256 : c < 256 := by rw [← hg]; exact bys_lt s _ (List.getElem_mem hil)
      rw [reader_step s i n0 c k (by omega) hs hc h0]
      by_cases h9 : i = 9 ∧ 1 < c
      · rw [if_pos h9]; exact .inl ⟨61, .inr rfl, rfl⟩
      · obtain ⟨b1, b2⟩ := step_bound n0 c i (by omega) (by omega) h0
        rw [if_neg h9]
        by_cases h128 : 128 ≤ c
        · rw [if_pos h128]
          rcases ih (i + 1) _ k (by omega) (b2 (by omega)) (by omega) (by omega) with h | ⟨m, rest, q1, q2, q3, q4, q5⟩
          · exact .inl h
          · right
            have hm := q2 (by omega)
            have e : 2 ^ (7 * (i + 1)) = 128 * 2 ^ (7 * i) := by rw [Nat.mul_add, Nat.pow_add, Nat.mul_comm]
            have hsum : n0 + c % 128 * 2 ^ (7 * i) + m * 2 ^ (7 * (i + 1)) = n0 + (m * 128 + (c - 128)) * 2 ^ (7 * i) := by
              rw [e, Nat.add_mul, Nat.mul_assoc m, show c % 128 = c - 128 from by omega]; omega
            have henc : enc (m * 128 + (c - 128)) = c :: enc m := by
              rw [enc_big _ (by omega), show (m * 128 + (c - 128)) % 128 + 128 = c from by omega, show (m * 128 + (c - 128)) / 128 = m from by omega]
            refine ⟨m * 128 + (c - 128), rest, ?_, fun _ => by omega, by omega, ?_, ?_⟩
            · rw [henc, hdrop, q1]; rfl
            · rw [henc, List.length_cons]; omega
            · rw [q5, hsum, henc, List.length_cons, show i + 1 + (enc m).length = i + ((enc m).length + 1) from by omega]
        · rw [if_neg h128]
          by_cases hz : c = 0 ∧ 0 < i
          · rw [if_pos hz]; exact .inl ⟨61, .inr rfl, rfl⟩
          · rw [if_neg hz]
            right
            have hmod : c % 128 = c := by omega
            refine ⟨c, (bys s).drop (i + 1), ?_, fun _ => by omega, ?_, ?_, ?_⟩
            · rw [enc_small c (by omega), hdrop]; rfl
            · rw [hmod] at b1; exact b1
            · rw [enc_small c (by omega)]; simp; omega
            · rw [hmod, enc_small c (by omega)]; rfl
/-- A number's own bytes are read back. -/
theorem reader_back (s : ByteArray) (hs : s.size < 2 ^ 62) : ∀ (d i n0 k m : Nat) (rest : List Nat), i + d = 10 → n0 < 2 ^ (7 * i) → (bys s).drop i = enc m ++ rest → (0 < i → 0 < m) → n0 + m * 2 ^ (7 * i) < 2 ^ 64 → 2 * d + 2 ≤ k →
    wire_Reader_Number.l0 k n0 i s 0 = some (((n0 + m * 2 ^ (7 * i) : Nat) : Int), 0, s.extract (i + (enc m).length) s.size, 0) := by
  intro d
  induction d with
  | zero =>
    intro i n0 k m rest hi h0 hdr hm hb hk
    exfalso
    have : i = 10 := by omega
    subst this
    have := hm (by omega)
    have : 1 * 2 ^ (7 * 10) ≤ m * 2 ^ (7 * 10) := Nat.mul_le_mul_right _ this
    omega
  | succ d ih =>
    intro i n0 k m rest hi h0 hdr hm hb hk
    obtain ⟨k, rfl⟩ : ∃ m, k = m + 2 := ⟨k - 2, by omega⟩
    have h9 : i = 9 → m ≤ 1 := by
      intro h; subst h
      have : ¬ 2 ≤ m := fun h2 => by
        have : 2 * 2 ^ (7 * 9) ≤ m * 2 ^ (7 * 9) := Nat.mul_le_mul_right _ h2
        omega
      omega
    have hil : i < (bys s).length := by
      have h1 := congrArg List.length hdr
      have h2 := enc_length_pos m
      rw [List.length_drop, List.length_append] at h1; omega
    have hd2 := List.drop_eq_getElem_cons hil
    have e : 2 ^ (7 * (i + 1)) = 128 * 2 ^ (7 * i) := by rw [Nat.mul_add, Nat.pow_add, Nat.mul_comm]
    by_cases h : m < 128
    · rw [enc_small m h] at hdr ⊢
      rw [hdr] at hd2
      simp only [List.cons_append, List.nil_append, List.cons.injEq] at hd2
      have hc : (bys s)[i]? = some m := by rw [List.getElem?_eq_getElem hil, ← hd2.1]
      rw [reader_step s i n0 m k (by omega) hs hc h0, if_neg (by omega), if_neg (by omega), if_neg (by omega), show m % 128 = m from by omega]
      rfl
    · rw [enc_big m (by omega)] at hdr ⊢
      rw [hdr] at hd2
      simp only [List.cons_append, List.cons.injEq] at hd2
      have hc : (bys s)[i]? = some (m % 128 + 128) := by rw [List.getElem?_eq_getElem hil, ← hd2.1]
      obtain ⟨b1, b2⟩ := step_bound n0 (m % 128 + 128) i (by omega) (by omega) h0
      have hsum : n0 + (m % 128 + 128) % 128 * 2 ^ (7 * i) + m / 128 * 2 ^ (7 * (i + 1)) = n0 + m * 2 ^ (7 * i) := by
        rw [e, ← Nat.mul_assoc, Nat.add_assoc, ← Nat.add_mul]; congr 2; omega
      rw [reader_step s i n0 _ k (by omega) hs hc h0, if_neg (by omega), if_pos (by omega)]
      have h2 := ih (i + 1) _ k (m / 128) rest (by omega) (b2 (by omega)) hd2.2.symm (fun _ => by omega) (by rw [hsum]; exact hb) (by omega)
      rw [h2, hsum, List.length_cons, show i + 1 + (enc (m / 128)).length = i + ((enc (m / 128)).length + 1) from by omega]
/-- Cut anywhere, they are too short. -/
theorem reader_cut (s : ByteArray) (hs : s.size < 2 ^ 62) : ∀ (d i n0 k m : Nat) (t : List Nat), i + d = 10 → n0 < 2 ^ (7 * i) → i ≤ (bys s).length → (bys s).drop i ++ t = enc m → t ≠ [] → (0 < i → 0 < m) → n0 + m * 2 ^ (7 * i) < 2 ^ 64 → 2 * d + 2 ≤ k →
    wire_Reader_Number.l0 k n0 i s 0 = some (0, 60, (⟨#[]⟩ : ByteArray), 60) := by
  intro d
  induction d with
  | zero =>
    intro i n0 k m t hi h0 hl hdr ht hm hb hk
    exfalso
    have : i = 10 := by omega
    subst this
    have := hm (by omega)
    have : 1 * 2 ^ (7 * 10) ≤ m * 2 ^ (7 * 10) := Nat.mul_le_mul_right _ this
    omega
  | succ d ih =>
    intro i n0 k m t hi h0 hl hdr ht hm hb hk
    obtain ⟨k, rfl⟩ : ∃ m, k = m + 2 := ⟨k - 2, by omega⟩
    by_cases he : (bys s).length = i
    · exact reader_end s i n0 (k + 1) (by omega) he
    · have hil : i < (bys s).length := by omega
      have hd2 := List.drop_eq_getElem_cons hil
      have e : 2 ^ (7 * (i + 1)) = 128 * 2 ^ (7 * i) := by rw [Nat.mul_add, Nat.pow_add, Nat.mul_comm]
      rw [hd2, List.cons_append] at hdr
      have h : ¬ m < 128 := fun h => by
        rw [enc_small m h] at hdr
        simp only [List.cons.injEq, List.append_eq_nil_iff] at hdr
        exact ht hdr.2.2
      have h9 : i ≠ 9 := fun h => by
        subst h
        have : 2 * 2 ^ (7 * 9) ≤ m * 2 ^ (7 * 9) := Nat.mul_le_mul_right _ (by omega)
        omega
      rw [enc_big m (by omega)] at hdr
      simp only [List.cons.injEq] at hdr
      have hc : (bys s)[i]? = some (m % 128 + 128) := by rw [List.getElem?_eq_getElem hil, hdr.1]
      obtain ⟨b1, b2⟩ := step_bound n0 (m % 128 + 128) i (by omega) (by omega) h0
      have hsum : n0 + (m % 128 + 128) % 128 * 2 ^ (7 * i) + m / 128 * 2 ^ (7 * (i + 1)) = n0 + m * 2 ^ (7 * i) := by
        rw [e, ← Nat.mul_assoc, Nat.add_assoc, ← Nat.add_mul]; congr 2; omega
      rw [reader_step s i n0 _ k (by omega) hs hc h0, if_neg (by omega), if_pos (by omega)]
      exact ih (i + 1) _ k (m / 128) t (by omega) (b2 (by omega)) (by omega) hdr.2 ht (fun _ => by omega) (by rw [hsum]; exact hb) (by omega)
theorem reader_start (s : ByteArray) (k : Nat) : wire_Reader_Number.f k s 0 = wire_Reader_Number.l0 k 0 0 s 0 := by
  unfold wire_Reader_Number.f; rw [if_pos rfl]
theorem massiflaw06_fixed.is20 : massiflaw06_fixed.f 40 = some true := by decide +kernel
theorem massiflaw06_fixed.is (k : Nat) (hk : 40 ≤ k) : massiflaw06_fixed.f k = some true := at_rounds (fun k => massiflaw06_fixed.mono k) hk massiflaw06_fixed.is20

end Go.Proofs.Ytalhbgokelodoaa.PWireReads
