/- What the printed functions of HashBegins come to, function by function. No condition beyond those that each theorem names. -/
import Derived.Test.YtcghicmdphfodaaDoorPHashBeginsx
import Derived.Test.YtcghicmdphfodaaDoorMB
import Derived.Test.YtcghicmdphfodaaDoorMH
set_option linter.unusedVariables false
set_option linter.unusedSimpArgs false
namespace Go.Proofs.YtcghicmdphfodaaDoor.PHashBegins
open Go Go.RowKit Go.Proofs.YtcghicmdphfodaaDoor.MB Go.Proofs.YtcghicmdphfodaaDoorW.PrintWords Go.Proofs.YtcghicmdphfodaaDoorW.PrintLast Go.Proofs.YtcghicmdphfodaaDoorW.PrintMore

theorem hash_first.is (a : Int) : hash_first.f a = some (strOfNums [a]) := rfl
theorem sha_Of.is1 (s : ByteArray) (h : s.size ≤ 9223372036854775807) : sha_Of.f [s] = some (Sha.sha (Sha.bI s)) := by
  unfold sha_Of.f
  rw [if_pos (by simpa using h)]
  simp
theorem hash_Of.is (k : Int) (s : ByteArray) (h : s.size ≤ 9223372036854775807) : hash_Of.f k s = some (MH.dig k s) := by
  have h1 := MH.hK_in k
  have h2 := MH.sha_size (Sha.bI s)
  unfold hash_Of.f
  rw [sha_Of.is1 s h]
  simp only [Option.bind_some]
  rw [MH.hK_cast, if_pos (by omega), if_pos (by omega)]
  rfl
theorem hash_LeafText.is (s : ByteArray) (h : 1 + s.size ≤ 9223372036854775807) : hash_LeafText.f s = some (MH.leafT s) := by
  unfold hash_LeafText.f
  rw [hash_first.is]
  simp only [Option.bind_some]
  rw [MH.str_size, if_pos (by simpa using h)]
  rfl
theorem hash_Leaf.is (k : Int) (s : ByteArray) (h : 1 + s.size ≤ 9223372036854775807) : hash_Leaf.f k s = some (MH.lf k s) := by
  unfold hash_Leaf.f
  rw [hash_LeafText.is s h]
  simp only [Option.bind_some]
  rw [hash_Of.is k _ (by rw [MH.leafT_size]; exact h)]
  rfl
theorem hash_BagText.is (a b : ByteArray) (h : 1 + a.size + b.size ≤ 9223372036854775807) : hash_BagText.f a b = some (MH.bagT a b) := by
  unfold hash_BagText.f
  rw [hash_first.is]
  simp only [Option.bind_some]
  rw [MH.str_size, if_pos (by simp; omega), ByteArray.size_append, MH.str_size, if_pos (by simp; omega)]
  rfl
theorem big_same (n : Int) : ∀ i, RootW.big n i = MH.big n i
  | 0 => rfl
  | i + 1 => by rw [RootW.big, MH.big, big_same n i]
theorem hash_RootText.is (n : Int) (d : ByteArray) (h : 9 + d.size ≤ 9223372036854775807) : hash_RootText.f n d = some (MH.rootT n d) := by
  unfold hash_RootText.f
  rw [if_pos h, big_same]
  rfl
theorem hash_Check.is (k : Int) : hash_Check.f k = some (if 1 ≤ k ∧ k ≤ 32 then 0 else 70) := by
  unfold hash_Check.f
  by_cases h1 : k < 1
  · rw [if_pos h1, if_neg (by omega)]
  · rw [if_neg h1]
    by_cases h2 : k > 32
    · rw [if_pos h2, if_neg (by omega)]
    · rw [if_neg h2, if_pos (by omega)]
theorem hash_Bagged.loop (k : Int) (l : List ByteArray) (B : Nat) (hB : 32 ≤ B) (hB2 : B ≤ 140737488351232) (hl : ∀ s ∈ l, s.size ≤ B) (hll : l.length ≤ 140737488351232) :
    ∀ (i K : Nat), i < K → i < l.length → hash_Bagged.l0 K k l (MH.bag k (l.drop i)) ((i : Int) - 1) = some (MH.bag k l) := by
  intro i
  induction i with
  | zero =>
    intro K hK hi
    obtain ⟨K, rfl⟩ : ∃ m, K = m + 1 := ⟨K - 1, by omega⟩
    rw [hash_Bagged.l0, if_neg (by omega), List.drop_zero]
  | succ i ih =>
    intro K hK hi
    obtain ⟨K, rfl⟩ : ∃ m, K = m + 1 := ⟨K - 1, by omega⟩
    have e0 : (((i + 1 : Nat) : Int) - 1) = (i : Int) := by omega
    have hil : i < l.length := by omega
    have hx : rdOf ByteArray.empty l (i : Int) = l[i] := by unfold rdOf; simp [hil]
    have hb := MH.bag_size k B hB (l.drop (i + 1)) (fun s hs => hl s (List.mem_of_mem_drop hs))
    have hs := hl l[i] (List.getElem_mem hil)
    rw [e0, hash_Bagged.l0, if_pos (by omega), if_pos (by omega), if_pos (by omega), hx, hash_BagText.is _ _ (by omega)]
    simp only [Option.bind_some]
    rw [hash_Of.is k _ (by rw [MH.bagT_size]; omega)]
    simp only [Option.bind_some]
    rw [IntWalk.wrap64_in _ (by omega)]
    have hd : l.drop i = l[i] :: l.drop (i + 1) := List.drop_eq_getElem_cons hil
    have hd1 : l.drop (i + 1) = l[i + 1] :: l.drop (i + 2) := List.drop_eq_getElem_cons hi
    have := ih K (by omega) (by omega)
    rw [hd, hd1, MH.bag_two, ← hd1] at this
    exact this
theorem hash_Bagged.is (K : Nat) (k : Int) (l : List ByteArray) (B : Nat) (hB : 32 ≤ B) (hB2 : B ≤ 140737488351232) (hl : ∀ s ∈ l, s.size ≤ B) (hll : l.length ≤ 140737488351232) (hK : l.length ≤ K) :
    hash_Bagged.f K k l = some (MH.bag k l) := by
  unfold hash_Bagged.f
  by_cases h0 : l = []
  · subst h0
    rw [if_pos (by simp)]; rfl
  · have hp : 0 < l.length := List.length_pos_iff.2 h0
    rw [if_neg (by omega), IntWalk.wrap64_in _ (by omega), IntWalk.wrap64_in _ (by omega), if_pos (by omega), if_pos (by omega)]
    have e : ((l.length : Int) - 1) = ((l.length - 1 : Nat) : Int) := by omega
    have hx : rdOf ByteArray.empty l ((l.length : Int) - 1) = l[l.length - 1] := by unfold rdOf; rw [e]; simp [show l.length - 1 < l.length from by omega]
    have hd : l.drop (l.length - 1) = [l[l.length - 1]] := by
      rw [List.drop_eq_getElem_cons (by omega), show l.length - 1 + 1 = l.length from by omega, List.drop_length]
    have := hash_Bagged.loop k l B hB hB2 hl hll (l.length - 1) K (by omega) (by omega)
    rw [hd, MH.bag_one] at this
    rw [hx, show ((l.length : Int) - 2) = ((l.length - 1 : Nat) : Int) - 1 from by omega]
    exact this
theorem al1 : (MH.lf 4 (⟨#[]⟩ : ByteArray)).toList = ([110, 52, 11, 156] : List UInt8) := by decide +kernel
theorem al2 : (MH.rootT 258 (⟨#[120]⟩ : ByteArray)).toList = ([3, 0, 0, 0, 0, 0, 0, 1, 2, 120] : List UInt8) := by decide +kernel
theorem massiflaw07_alive.is (K : Nat) (hK : 1 ≤ K) : massiflaw07_alive.f K = some true := by
  unfold massiflaw07_alive.f
  rw [hash_Leaf.is 4 _ (by show 1 + 0 ≤ _; omega)]
  simp only [Option.bind_some]
  rw [if_pos al1, hash_RootText.is 258 _ (by show 9 + 1 ≤ _; omega)]
  simp only [Option.bind_some]
  rw [if_pos al2, hash_Bagged.is K 8 _ 32 (by omega) (by omega) (fun s hs => by rw [List.mem_singleton.1 hs]; show 1 ≤ 32; omega) (by simp) (by simpa using hK)]
  simp only [Option.bind_some]
  rw [MH.bag_one, if_pos (by decide +kernel), hash_Check.is, hash_Check.is]
  rfl
theorem massifref01_Of.is1 (s : ByteArray) (h : s.size ≤ 4611686018427387904) : massifref01_Of.f [s] = some (Sha.sha (Sha.bI s)) := by
  unfold massifref01_Of.f
  rw [show ([s] : List ByteArray).flatMap Sha.bI = Sha.bI s from by simp, if_pos (by rw [Sha.bI_len]; exact h)]

end Go.Proofs.YtcghicmdphfodaaDoor.PHashBegins
