/- massiflaw06.WireBack answers true for every list of numbers and every text that fit. No further condition than the row's own. -/
import Derived.Test.YtbfmdcccnneanaaPWireBackx3
import Derived.Test.YtbfmdcccnneanaaQWireBack
namespace Go.Proofs.Ytbfmdcccnneanaa.Pure
open Go.RowKit Go.Proofs.Ytbfmdcccnneanaa.PWireBack Go.Proofs.Ytbfmdcccnneanaa.MB Go.Proofs.YtbfmdcccnneanaaW.PrintWords Go.Proofs.YtbfmdcccnneanaaW.PrintLast

/-- The bytes of numbers, one behind the other. -/
def encs (l : List Nat) : List Nat := l.flatMap enc
theorem encs_nil : encs [] = [] := rfl
theorem encs_cons (x : Nat) (l : List Nat) : encs (x :: l) = enc x ++ encs l := rfl
theorem encs_snoc (l : List Nat) (x : Nat) : encs (l ++ [x]) = encs l ++ enc x := by unfold encs; rw [List.flatMap_append]; simp
theorem encs_le : ∀ (l : List Nat), (∀ x ∈ l, x < 2 ^ 64) → (encs l).length ≤ 10 * l.length
  | [], _ => by simp [encs]
  | x :: l, h => by
    have h1 := enc_len10 x (h x (by simp))
    have h2 := encs_le l (fun y hy => h y (by simp [hy]))
    rw [encs_cons, List.length_append, List.length_cons]; omega
theorem nats_of (l : List Int) (h : ∀ x ∈ l, (Lit.int .u64 x).wf = true) : ∃ ns : List Nat, l = ints ns ∧ ∀ x ∈ ns, x < 2 ^ 64 := by
  induction l with
  | nil => exact ⟨[], rfl, by simp⟩
  | cons x l ih =>
    obtain ⟨n, rfl, hn⟩ := wf_u64 (h x (by simp))
    obtain ⟨ns, rfl, hns⟩ := ih (fun y hy => h y (by simp [hy]))
    exact ⟨n :: ns, rfl, by intro y hy; rcases List.mem_cons.1 hy with e | e; · omega
                            · exact hns y e⟩

theorem tail_ok (tail : ByteArray) (ht : tail.size ≤ 140737488351232) (ns : List Nat) (k : Nat) (hk : 40 ≤ k) : massiflaw06_WireBack.l1 (k + 1) (ints ns) tail (ns.length : Int) tail 0 = some true := by
  simp only [massiflaw06_WireBack.l1]
  rw [ints_length, if_neg (by omega)]
  simp only [wire_Reader_Left.f, Option.bind_some, if_true]
  rw [reader_start]
  rcases reader_any tail (by omega) 10 0 0 k (by omega) (by omega) (by omega) (by omega) with ⟨e, he, hr⟩ | ⟨m, rest, q1, _, q3, q4, hr⟩
  · rw [show (((0 : Nat) : Int)) = 0 from rfl] at hr
    rw [hr]
    rcases he with rfl | rfl <;> rfl
  · rw [show (((0 : Nat) : Int)) = 0 from rfl] at hr
    rw [hr]
    have hL := enc_length_pos m
    have hm64 : m < 2 ^ 64 := by simpa using q3
    have hlen2 : (enc m).length ≤ tail.size := by
      have := congrArg List.length q1
      rw [List.drop_zero, List.length_append, bys_length] at this; omega
    have hsz : (tail.extract (0 + (enc m).length) tail.size).size = tail.size - (enc m).length := by
      rw [← bys_length, bys_extract, List.length_drop, List.length_take, bys_length]; omega
    have hval : (0 + m * 2 ^ (7 * 0) : Nat) = m := by simp
    simp only [Option.bind_some, if_true, hsz, hval]
    have hw : wrap64 ((tail.size : Int) - ((tail.size - (enc m).length : Nat) : Int)) = ((enc m).length : Int) := by rw [wrap64_in _ (by omega) (by omega)]; omega
    rw [hw, if_pos (by omega), if_pos (by omega), if_pos (by omega), if_pos (by omega), wire_Number.is m k hm64 (by omega), Int.toNat_natCast]
    have hx : tail.extract 0 (enc m).length = strOfNums (ints (enc m)) := by
      apply bys_ext
      rw [bys_extract, bys_number m hm64, List.drop_zero]
      rw [List.drop_zero] at q1
      rw [q1, List.take_left]
    simp [hx]

theorem back_l1 (tail : ByteArray) (ht : tail.size ≤ 140737488351232) (ns : List Nat) (hns : ∀ x ∈ ns, x < 2 ^ 64) (hlen : ns.length ≤ 2 ^ 45) : ∀ (d i k : Nat) (s : ByteArray), i + d = ns.length → bys s = encs (ns.drop i) ++ bys tail → d + 50 ≤ k →
    massiflaw06_WireBack.l1 k (ints ns) tail (i : Int) s 0 = some true := by
  intro d
  induction d with
  | zero =>
    intro i k s hi hb hk
    obtain ⟨k, rfl⟩ : ∃ m, k = m + 1 := ⟨k - 1, by omega⟩
    have hin : i = ns.length := by omega
    rw [List.drop_of_length_le (by omega), encs_nil, List.nil_append] at hb
    obtain rfl := bys_ext hb
    rw [hin]
    exact tail_ok s ht ns k (by omega)
  | succ d ih =>
    intro i k s hi hb hk
    obtain ⟨k, rfl⟩ : ∃ m, k = m + 1 := ⟨k - 1, by omega⟩
    have hil : i < ns.length := by omega
    have hx := hns _ (List.getElem_mem hil)
    have hd := List.drop_eq_getElem_cons hil
    rw [hd, encs_cons, List.append_assoc] at hb
    have hss : s.size < 2 ^ 62 := by
      have h1 := congrArg List.length hb
      have h2 := enc_len10 _ hx
      have h3 := encs_le (ns.drop (i + 1)) (fun y hy => hns y (List.mem_of_mem_drop hy))
      rw [bys_length, List.length_append, List.length_append, bys_length] at h1
      rw [List.length_drop] at h3
      omega
    have hr := reader_back s hss 10 0 0 k ns[i] (encs (ns.drop (i + 1)) ++ bys tail) (by omega) (by omega) (by rw [List.drop_zero]; exact hb) (fun h => by omega) (by simpa using hx) (by omega)
    rw [show (((0 : Nat) : Int)) = 0 from rfl] at hr
    have hval : (0 + ns[i] * 2 ^ (7 * 0) : Nat) = ns[i] := by simp
    simp only [massiflaw06_WireBack.l1]
    rw [ints_length, if_pos (by omega), reader_start, hr, hval]
    simp only [Option.bind_some, if_true]
    rw [if_pos (by omega), rd_ints _ _ hil, if_pos rfl, wrap64_in _ (by omega) (by omega)]
    refine ih (i + 1) k _ (by omega) ?_ (by omega)
    have hlen2 : s.size = (bys s).length := (bys_length s).symm
    rw [bys_extract, hlen2, List.take_length, Nat.zero_add, hb, List.drop_left]

theorem back_l0 (tail : ByteArray) (ht : tail.size ≤ 140737488351232) (ns : List Nat) (hns : ∀ x ∈ ns, x < 2 ^ 64) (hlen : ns.length ≤ 2 ^ 45) : ∀ (d i k : Nat) (s : ByteArray), i + d = ns.length → bys s = encs (ns.take i) → d + ns.length + 100 ≤ k →
    massiflaw06_WireBack.l0 k (ints ns) tail s (i : Int) = some true := by
  intro d
  induction d with
  | zero =>
    intro i k s hi hb hk
    obtain ⟨k, rfl⟩ : ∃ m, k = m + 1 := ⟨k - 1, by omega⟩
    rw [List.take_of_length_le (by omega)] at hb
    have hss : s.size ≤ 10 * ns.length := by rw [← bys_length, hb]; exact encs_le ns hns
    simp only [massiflaw06_WireBack.l0]
    rw [ints_length, if_neg (by omega), if_pos (by omega)]
    simp only [wire_NewReader.f, Option.bind_some]
    have h := back_l1 tail ht ns hns hlen ns.length 0 k (s ++ tail) (by omega) (by rw [bys_append, hb, List.drop_zero]) (by omega)
    exact h
  | succ d ih =>
    intro i k s hi hb hk
    obtain ⟨k, rfl⟩ : ∃ m, k = m + 1 := ⟨k - 1, by omega⟩
    have hil : i < ns.length := by omega
    have hx := hns _ (List.getElem_mem hil)
    have h10 := enc_len10 _ hx
    have hss : s.size ≤ 10 * ns.length := by
      rw [← bys_length, hb]
      have h3 := encs_le (ns.take i) (fun y hy => hns y (List.mem_of_mem_take hy))
      rw [List.length_take] at h3
      omega
    have hsn : (strOfNums (ints (enc ns[i]))).size = (enc ns[i]).length := by rw [← bys_length, bys_number _ hx]
    simp only [massiflaw06_WireBack.l0]
    rw [ints_length, if_pos (by omega), if_pos (by omega), rd_ints _ _ hil, wire_Number.is _ k hx (by omega)]
    simp only [Option.bind_some]
    rw [if_pos (by omega), wrap64_in _ (by omega) (by omega)]
    refine ih (i + 1) k _ (by omega) ?_ (by omega)
    rw [bys_append, bys_number _ hx, hb, List.take_succ_eq_append_getElem hil, encs_snoc]

theorem WireBack : massiflaw06_WireBack.Pure := by
  intro l0 a1 _ hl hw ht
  obtain ⟨ns, rfl, hns⟩ := nats_of l0 hw
  rw [ints_length] at hl
  refine ⟨2 * ns.length + 200, ?_⟩
  unfold massiflaw06_WireBack.f
  rw [massiflaw06_fixed.is _ (by omega)]
  simp only [Option.bind_some, if_true]
  exact back_l0 a1 ht ns hns (by omega) ns.length 0 _ ⟨#[]⟩ (by omega) rfl (by omega)

end Go.Proofs.Ytbfmdcccnneanaa.Pure
