/- What the printed functions of PlainAsks come to, function by function. No condition beyond those that each theorem names. -/
import Derived.Test.YtcghicmdphfodaaDoorPPlainAsksx
import Derived.Test.YtcghicmdphfodaaDoorMB
import Derived.Test.YtcghicmdphfodaaDoorMH
import Derived.Test.YtcghicmdphfodaaDoorMT
import Derived.Test.YtcghicmdphfodaaDoorMP
import Derived.Test.YtcghicmdphfodaaDoorMS
set_option linter.unusedVariables false
set_option linter.unusedSimpArgs false
namespace Go.Proofs.YtcghicmdphfodaaDoor.PPlainAsks
open Go Go.RowKit Go.Proofs.YtcghicmdphfodaaDoor.MB Go.Proofs.YtcghicmdphfodaaDoorW.PrintWords Go.Proofs.YtcghicmdphfodaaDoorW.PrintLast Go.Proofs.YtcghicmdphfodaaDoorW.PrintMore

theorem hash_first.is (a : Int) : hash_first.f a = some (strOfNums [a]) := rfl
theorem sha_Of.is1 (s : ByteArray) (h : s.size ≤ 9223372036854775807) : sha_Of.f [s] = some (Sha.sha (Sha.bI s)) := by
  unfold sha_Of.f
  rw [if_pos (by simpa using h)]
  simp
theorem hash_Of.is (k : Int) (s : ByteArray) (h : s.size ≤ 9223372036854775807) : hash_Of.f k s = some (MH.dig k s) := by
  have h1 := MH.hK_in k
  have h2 := MH.sha_size (Sha.bI s)
  unfold hash_Of.f
  rw [sha_Of.is1 s h]
  simp only [Option.bind_some]
  rw [MH.hK_cast, if_pos (by omega), if_pos (by omega)]
  rfl
theorem hash_LeafText.is (s : ByteArray) (h : 1 + s.size ≤ 9223372036854775807) : hash_LeafText.f s = some (MH.leafT s) := by
  unfold hash_LeafText.f
  rw [hash_first.is]
  simp only [Option.bind_some]
  rw [MH.str_size, if_pos (by simpa using h)]
  rfl
theorem hash_Leaf.is (k : Int) (s : ByteArray) (h : 1 + s.size ≤ 9223372036854775807) : hash_Leaf.f k s = some (MH.lf k s) := by
  unfold hash_Leaf.f
  rw [hash_LeafText.is s h]
  simp only [Option.bind_some]
  rw [hash_Of.is k _ (by rw [MH.leafT_size]; exact h)]
  rfl
theorem hash_NodeText.is (a b : ByteArray) (h : 1 + a.size + b.size ≤ 9223372036854775807) : hash_NodeText.f a b = some (MH.nodeT a b) := by
  unfold hash_NodeText.f
  rw [hash_first.is]
  simp only [Option.bind_some]
  rw [MH.str_size, if_pos (by simp; omega), ByteArray.size_append, MH.str_size, if_pos (by simp; omega)]
  rfl
theorem hash_Node.is (k : Int) (a b : ByteArray) (h : 1 + a.size + b.size ≤ 9223372036854775807) : hash_Node.f k a b = some (MH.nd k a b) := by
  unfold hash_Node.f
  rw [hash_NodeText.is a b h]
  simp only [Option.bind_some]
  rw [hash_Of.is k _ (by rw [MH.nodeT_size]; exact h)]
  rfl
theorem hash_BagText.is (a b : ByteArray) (h : 1 + a.size + b.size ≤ 9223372036854775807) : hash_BagText.f a b = some (MH.bagT a b) := by
  unfold hash_BagText.f
  rw [hash_first.is]
  simp only [Option.bind_some]
  rw [MH.str_size, if_pos (by simp; omega), ByteArray.size_append, MH.str_size, if_pos (by simp; omega)]
  rfl
theorem big_same (n : Int) : ∀ i, RootW.big n i = MH.big n i
  | 0 => rfl
  | i + 1 => by rw [RootW.big, MH.big, big_same n i]
theorem hash_RootText.is (n : Int) (d : ByteArray) (h : 9 + d.size ≤ 9223372036854775807) : hash_RootText.f n d = some (MH.rootT n d) := by
  unfold hash_RootText.f
  rw [if_pos h, big_same]
  rfl
theorem hash_Check.is (k : Int) : hash_Check.f k = some (if 1 ≤ k ∧ k ≤ 32 then 0 else 70) := by
  unfold hash_Check.f
  by_cases h1 : k < 1
  · rw [if_pos h1, if_neg (by omega)]
  · rw [if_neg h1]
    by_cases h2 : k > 32
    · rw [if_pos h2, if_neg (by omega)]
    · rw [if_neg h2, if_pos (by omega)]
theorem hash_Bagged.loop (k : Int) (l : List ByteArray) (B : Nat) (hB : 32 ≤ B) (hB2 : B ≤ 140737488351232) (hl : ∀ s ∈ l, s.size ≤ B) (hll : l.length ≤ 140737488351232) :
    ∀ (i K : Nat), i < K → i < l.length → hash_Bagged.l0 K k l (MH.bag k (l.drop i)) ((i : Int) - 1) = some (MH.bag k l) := by
  intro i
  induction i with
  | zero =>
    intro K hK hi
    obtain ⟨K, rfl⟩ : ∃ m, K = m + 1 := ⟨K - 1, by omega⟩
    rw [hash_Bagged.l0, if_neg (by omega), List.drop_zero]
  | succ i ih =>
    intro K hK hi
    obtain ⟨K, rfl⟩ : ∃ m, K = m + 1 := ⟨K - 1, by omega⟩
    have e0 : (((i + 1 : Nat) : Int) - 1) = (i : Int) := by omega
    have hil : i < l.length := by omega
    have hx : rdOf ByteArray.empty l (i : Int) = l[i] := by unfold rdOf; simp [hil]
    have hb := MH.bag_size k B hB (l.drop (i + 1)) (fun s hs => hl s (List.mem_of_mem_drop hs))
    have hs := hl l[i] (List.getElem_mem hil)
    rw [e0, hash_Bagged.l0, if_pos (by omega), if_pos (by omega), if_pos (by omega), hx, hash_BagText.is _ _ (by omega)]
    simp only [Option.bind_some]
    rw [hash_Of.is k _ (by rw [MH.bagT_size]; omega)]
    simp only [Option.bind_some]
    rw [IntWalk.wrap64_in _ (by omega)]
    have hd : l.drop i = l[i] :: l.drop (i + 1) := List.drop_eq_getElem_cons hil
    have hd1 : l.drop (i + 1) = l[i + 1] :: l.drop (i + 2) := List.drop_eq_getElem_cons hi
    have := ih K (by omega) (by omega)
    rw [hd, hd1, MH.bag_two, ← hd1] at this
    exact this
theorem hash_Bagged.is (K : Nat) (k : Int) (l : List ByteArray) (B : Nat) (hB : 32 ≤ B) (hB2 : B ≤ 140737488351232) (hl : ∀ s ∈ l, s.size ≤ B) (hll : l.length ≤ 140737488351232) (hK : l.length ≤ K) :
    hash_Bagged.f K k l = some (MH.bag k l) := by
  unfold hash_Bagged.f
  by_cases h0 : l = []
  · subst h0
    rw [if_pos (by simp)]; rfl
  · have hp : 0 < l.length := List.length_pos_iff.2 h0
    rw [if_neg (by omega), IntWalk.wrap64_in _ (by omega), IntWalk.wrap64_in _ (by omega), if_pos (by omega), if_pos (by omega)]
    have e : ((l.length : Int) - 1) = ((l.length - 1 : Nat) : Int) := by omega
    have hx : rdOf ByteArray.empty l ((l.length : Int) - 1) = l[l.length - 1] := by unfold rdOf; rw [e]; simp [show l.length - 1 < l.length from by omega]
    have hd : l.drop (l.length - 1) = [l[l.length - 1]] := by
      rw [List.drop_eq_getElem_cons (by omega), show l.length - 1 + 1 = l.length from by omega, List.drop_length]
    have := hash_Bagged.loop k l B hB hB2 hl hll (l.length - 1) K (by omega) (by omega)
    rw [hd, MH.bag_one] at this
    rw [hx, show ((l.length : Int) - 2) = ((l.length - 1 : Nat) : Int) - 1 from by omega]
    exact this
theorem hash_Root.is (K : Nat) (k n : Int) (l : List ByteArray) (B : Nat) (hB : 32 ≤ B) (hB2 : B ≤ 140737488351232) (hl : ∀ s ∈ l, s.size ≤ B) (hll : l.length ≤ 140737488351232) (hK : l.length ≤ K) :
    hash_Root.f K k n l = some (MH.rootD k n l) := by
  have hb := MH.bag_size k B hB l hl
  unfold hash_Root.f
  rw [hash_Bagged.is K k l B hB hB2 hl hll hK]
  simp only [Option.bind_some]
  rw [hash_RootText.is _ _ (by omega)]
  simp only [Option.bind_some]
  rw [hash_Of.is k _ (by rw [MH.rootT_size]; omega)]
  rfl
theorem massifref01_Of.is1 (s : ByteArray) (h : s.size ≤ 4611686018427387904) : massifref01_Of.f [s] = some (Sha.sha (Sha.bI s)) := by
  unfold massifref01_Of.f
  rw [show ([s] : List ByteArray).flatMap Sha.bI = Sha.bI s from by simp, if_pos (by rw [Sha.bI_len]; exact h)]
theorem plain_tree.is (k : Int) : ∀ (h K : Nat) (l : List ByteArray), l.length = 2 ^ h → h < K → h ≤ 40 → (∀ s ∈ l, s.size ≤ 140737488351232) → plain_tree.f K k l = some (MT.tr k h l) := by
  intro h
  induction h with
  | zero =>
    intro K l hl hK _ hs
    obtain ⟨K, rfl⟩ : ∃ m, K = m + 1 := ⟨K - 1, by omega⟩
    match l, hl with
    | [x], _ =>
      rw [plain_tree.f, if_pos (by simp), if_pos (by simp), hash_Leaf.is k _ (by have := hs x (List.mem_singleton.2 rfl); show 1 + x.size ≤ _; omega)]
      rfl
  | succ h ih =>
    intro K l hl hK hh hs
    obtain ⟨K, rfl⟩ : ∃ m, K = m + 1 := ⟨K - 1, by omega⟩
    have ep : 2 ^ (h + 1) = 2 * 2 ^ h := by rw [Nat.pow_succ, Nat.mul_comm]
    have hp := two_pow_pos h
    have hle : 2 ^ h ≤ 2 ^ 40 := Nat.pow_le_pow_right (by omega) (by omega)
    have e : wrap64 ((l.length : Int) / 2) = ((2 ^ h : Nat) : Int) := by
      rw [hl, ep]
      generalize 2 ^ h = p at *
      rw [IntWalk.wrap64_in _ (by omega)]; omega
    have t1 := ih K (l.take (2 ^ h)) (by rw [List.length_take, hl, ep]; omega) (by omega) (by omega) (fun s h => hs s (List.mem_of_mem_take h))
    have t2 := ih K (l.drop (2 ^ h)) (by rw [List.length_drop, hl, ep]; omega) (by omega) (by omega) (fun s h => hs s (List.mem_of_mem_drop h))
    have s1 := MT.tr_size k h (l.take (2 ^ h))
    have s2 := MT.tr_size k h (l.drop (2 ^ h))
    have hk := (MH.hK_in k).2
    rw [plain_tree.f, if_neg (by generalize 2 ^ h = p at *; omega), e, if_pos (by omega), if_pos (by generalize 2 ^ h = p at *; omega), Int.toNat_natCast, t1]
    simp only [Option.bind_some]
    rw [t2]
    simp only [Option.bind_some]
    rw [hash_Node.is k _ _ (by omega)]
    rfl
theorem plain_Peaks.up (k : Int) (x1 x5 : List ByteArray) (j : Nat) (hj : j ≤ 40) (h1 : 2 ^ j ≤ x1.length) : ∀ (e i K : Nat), i + e = j → plain_Peaks.l1 (K + e) k x1 x5 ((2 ^ i : Nat) : Int) = plain_Peaks.l1 K k x1 x5 ((2 ^ j : Nat) : Int) := by
  intro e
  induction e with
  | zero => intro i K h; rw [show i = j from h]; rfl
  | succ e ih =>
    intro i K h
    have ep : 2 ^ (i + 1) = 2 * 2 ^ i := by rw [Nat.pow_succ, Nat.mul_comm]
    have hle : 2 ^ (i + 1) ≤ 2 ^ j := Nat.pow_le_pow_right (by omega) (by omega)
    have hle2 : 2 ^ j ≤ 2 ^ 40 := Nat.pow_le_pow_right (by omega) (by omega)
    have hi := ih (i + 1) K (by omega)
    have e1 : wrap64 (2 * ((2 ^ i : Nat) : Int)) = ((2 ^ (i + 1) : Nat) : Int) := by
      rw [ep]; generalize 2 ^ i = p at *; rw [IntWalk.wrap64_in _ (by omega)]; omega
    have e2 : wrap64 (((2 ^ i : Nat) : Int) * 2) = ((2 ^ (i + 1) : Nat) : Int) := by
      rw [ep]; generalize 2 ^ i = p at *; rw [IntWalk.wrap64_in _ (by omega)]; omega
    rw [show K + (e + 1) = (K + e) + 1 from rfl, plain_Peaks.l1, e1, e2, if_pos (by omega)]
    exact hi
theorem plain_Peaks.run (k : Int) (l : List ByteArray) (hn : l.length ≤ 2 ^ 40) (hs : ∀ s ∈ l, s.size ≤ 140737488351232) :
    ∀ (d K : Nat) (acc : List ByteArray), d ≤ 41 → 100 * d + 1 ≤ K → acc.length + d ≤ 100 → plain_Peaks.l0 K k (l.drop (l.length / 2 ^ d * 2 ^ d)) acc = some (acc ++ MT.pkL k l l.length d) := by
  intro d
  induction d with
  | zero =>
    intro K acc _ hK _
    obtain ⟨K, rfl⟩ : ∃ m, K = m + 1 := ⟨K - 1, by omega⟩
    rw [Nat.pow_zero, Nat.div_one, Nat.mul_one, List.drop_length, plain_Peaks.l0, if_neg (by simp)]
    simp [MT.pkL, mtS]
  | succ d ih =>
    intro K acc hd hK ha
    have hb := bit_lt l.length d
    by_cases e : bit l.length d = 1
    · have hm := mod_succ l.length d
      rw [e, Nat.mul_one] at hm
      have hr := MT.lo_rest l.length (d + 1)
      have h1 := MT.hi_one l.length d e
      have h2 := MT.hi_step l.length d
      rw [e, Nat.one_mul] at h2
      have hp := two_pow_pos d
      have hlt := Nat.mod_lt l.length hp
      have hle2 : 2 ^ d ≤ 2 ^ 40 := Nat.pow_le_pow_right (by omega) (by omega)
      have hxl : (l.drop (l.length / 2 ^ (d + 1) * 2 ^ (d + 1))).length = 2 ^ d + l.length % 2 ^ d := by rw [List.length_drop]; omega
      obtain ⟨K, rfl⟩ : ∃ m, K = (m + 1 + d) + 1 := ⟨K - d - 2, by omega⟩
      have hup := plain_Peaks.up k (l.drop (l.length / 2 ^ (d + 1) * 2 ^ (d + 1))) acc d (by omega) (by omega) d 0 (K + 1) (by omega)
      have htr := plain_tree.is k d K ((l.drop (l.length / 2 ^ (d + 1) * 2 ^ (d + 1))).take (2 ^ d)) (by rw [List.length_take, hxl]; omega) (by omega) (by omega) (fun s h => hs s (List.mem_of_mem_drop (List.mem_of_mem_take h)))
      have hsl : (l.drop (l.length / 2 ^ (d + 1) * 2 ^ (d + 1))).take (2 ^ d) = MT.sl l d (l.length / 2 ^ d - 1) := by rw [h1]; rfl
      have hih := ih K (acc ++ [MT.trB k l (d, l.length / 2 ^ d - 1)]) (by omega) (by omega) (by rw [List.length_append]; simp; omega)
      have e1 : wrap64 (2 * ((2 ^ d : Nat) : Int)) = ((2 * 2 ^ d : Nat) : Int) := by
        generalize 2 ^ d = p at *; rw [IntWalk.wrap64_in _ (by omega)]; omega
      rw [plain_Peaks.l0, if_pos (by omega), show (1 : Int) = ((2 ^ 0 : Nat) : Int) from rfl, hup, plain_Peaks.l1, e1, if_neg (by omega), if_pos (by omega), if_pos (by omega), Int.toNat_natCast, htr, hsl]
      simp only [Option.bind_some]
      rw [if_pos (by omega), List.drop_drop, ← h2, MT.pkL_one k l l.length d e]
      rw [show acc ++ MT.trB k l (d, l.length / 2 ^ d - 1) :: MT.pkL k l l.length d = (acc ++ [MT.trB k l (d, l.length / 2 ^ d - 1)]) ++ MT.pkL k l l.length d from by simp]
      exact hih
    · have e0 : bit l.length d = 0 := by omega
      have h2 := MT.hi_step l.length d
      rw [e0, Nat.zero_mul, Nat.add_zero] at h2
      rw [← h2, MT.pkL_no k l l.length d e0]
      exact ih K acc (by omega) (by omega) (by omega)
theorem plain_Peaks.is (K : Nat) (k : Int) (l : List ByteArray) (hn : l.length ≤ 2 ^ 40) (hs : ∀ s ∈ l, s.size ≤ 140737488351232) (hK : 4200 ≤ K) : plain_Peaks.f K k l = some (MT.pks k l) := by
  have h := plain_Peaks.run k l hn hs 41 K [] (by omega) (by omega) (by simp)
  rw [Nat.div_eq_of_lt (show l.length < 2 ^ 41 from by omega), Nat.zero_mul, List.drop_zero, List.nil_append] at h
  exact h
theorem len_u64 (l : List ByteArray) (h : l.length ≤ 140737488351232) : IntKind.u64.wrap (l.length : Int) = l.length := IntWalk.u64_in _ (by omega)
theorem plain_Root.is (K : Nat) (k : Int) (l : List ByteArray) (n : Nat) (hk : 1 ≤ k ∧ k ≤ 32) (hnl : n ≤ l.length) (hn : l.length ≤ 2 ^ 40) (hs : ∀ s ∈ l, s.size ≤ 140737488351232) (hK : 4200 ≤ K) :
    plain_Root.f K k l (n : Int) = some ((n : Int), MH.rootD k n (MT.pks k (l.take n)), 0) := by
  have hl : (l.take n).length ≤ 2 ^ 40 := by rw [List.length_take]; omega
  have hpl := MT.pkL_len k (l.take n) (l.take n).length 41
  unfold plain_Root.f
  rw [hash_Check.is, if_pos hk]
  simp only [Option.bind_some, if_true]
  rw [len_u64 l (by omega), if_neg (by omega), if_pos (by omega), if_pos (by omega), Int.toNat_natCast, plain_Peaks.is K k _ hl (fun s h => hs s (List.mem_of_mem_take h)) hK]
  simp only [Option.bind_some]
  rw [hash_Root.is K k n (MT.pks k (l.take n)) 32 (Nat.le_refl _) (by omega) (MT.pkL_size k _ _ _) (by unfold MT.pks; omega) (by unfold MT.pks; omega)]
  rfl
theorem plain_Root.size (K : Nat) (k : Int) (l : List ByteArray) (a : Int) (hk : 1 ≤ k ∧ k ≤ 32) (hn : l.length ≤ 140737488351232) (ha : (l.length : Int) < a) : plain_Root.f K k l a = some (0, (⟨#[]⟩ : ByteArray), 30) := by
  unfold plain_Root.f
  rw [hash_Check.is, if_pos hk]
  simp only [Option.bind_some, if_true]
  rw [len_u64 l (by omega), if_pos (by omega)]
theorem plain_Root.strength (K : Nat) (k : Int) (l : List ByteArray) (a : Int) (hk : ¬ (1 ≤ k ∧ k ≤ 32)) : plain_Root.f K k l a = some (0, (⟨#[]⟩ : ByteArray), 70) := by
  unfold plain_Root.f
  rw [hash_Check.is, if_neg hk]
  rfl
theorem plain_Tree.is (K : Nat) (k : Int) (l : List ByteArray) (h i : Nat) (hh : h ≤ 40) (hi : (i + 1) * 2 ^ h ≤ l.length) (hn : l.length ≤ 2 ^ 40) (hs : ∀ s ∈ l, s.size ≤ 140737488351232) (hK : 42 ≤ K) :
    plain_Tree.f K k l (h : Int) (i : Int) = some (MT.trB k l (h, i), true) := by
  have hp := two_pow_pos h
  have e0 : (i + 1) * 2 ^ h = i * 2 ^ h + 2 ^ h := by rw [Nat.add_mul, Nat.one_mul]
  have hq : i + 1 ≤ l.length / 2 ^ h := (Nat.le_div_iff_mul_le hp).2 hi
  have hi2 : i ≤ i * 2 ^ h := Nat.le_mul_of_pos_right _ hp
  have ew : IntKind.u64.wrap ((i : Int) + 1) = ((i + 1 : Nat) : Int) := by rw [IntWalk.u64_in _ (by omega)]; omega
  unfold plain_Tree.f
  rw [if_neg (by omega), if_neg (by omega), if_pos (by omega), IntWalk.u64_in _ (by omega), shrc l.length h (by omega), if_neg (by omega), ew, shlc i h (by omega) (by omega), shlc (i + 1) h (by omega) (by omega), if_pos (by omega), if_pos (by omega), if_pos (by omega), Int.toNat_natCast, Int.toNat_natCast, MT.sl_cut]
  rw [plain_tree.is k h K _ (MT.sl_len l h i hi) (by omega) hh (fun s h => hs s (List.mem_of_mem_drop (List.mem_of_mem_take h)))]
  rfl
def fewL (l : List ByteArray) : List ByteArray := if 300 < l.length then l.take 300 else l
theorem fewL_len (l : List ByteArray) : (fewL l).length ≤ 300 := by
  unfold fewL; split
  · rw [List.length_take]; omega
  · omega
theorem fewL_mem (l : List ByteArray) : ∀ s ∈ fewL l, s ∈ l := by
  intro s hs; unfold fewL at hs; split at hs
  · exact List.mem_of_mem_take hs
  · exact hs
theorem massiflaw08_few.is (l : List ByteArray) : massiflaw08_few.f l = some (fewL l) := by
  unfold massiflaw08_few.f fewL
  by_cases h : 300 < l.length
  · rw [if_pos (by omega), if_pos (by omega), if_pos h]
  · rw [if_neg (by omega), if_neg h]
theorem massiflaw08_same.run (l : List ByteArray) (hl : l.length ≤ 140737488351232) : ∀ (d i K : Nat), i + d = l.length → d < K → massiflaw08_same.l0 K l l (i : Int) = some true := by
  intro d
  induction d with
  | zero =>
    intro i K h hK
    obtain ⟨K, rfl⟩ : ∃ m, K = m + 1 := ⟨K - 1, by omega⟩
    rw [massiflaw08_same.l0, if_neg (by omega)]
  | succ d ih =>
    intro i K h hK
    obtain ⟨K, rfl⟩ : ∃ m, K = m + 1 := ⟨K - 1, by omega⟩
    have e : wrap64 ((i : Int) + 1) = ((i + 1 : Nat) : Int) := by rw [IntWalk.wrap64_in _ (by omega)]; omega
    rw [massiflaw08_same.l0, if_pos (by omega), if_pos (by omega), if_pos (by omega), if_pos rfl, e]
    exact ih (i + 1) K (by omega) (by omega)
theorem massiflaw08_same.is (K : Nat) (l : List ByteArray) (hl : l.length ≤ 140737488351232) (hK : l.length < K) : massiflaw08_same.f K l l = some true := by
  unfold massiflaw08_same.f
  rw [if_pos rfl]
  exact massiflaw08_same.run l hl l.length 0 K (by omega) hK
theorem massiflaw08_alive.is (K : Nat) (hK : 4200 ≤ K) : massiflaw08_alive.f K = some true := by
  have hs : ∀ s ∈ [(⟨#[97]⟩ : ByteArray), (⟨#[98]⟩ : ByteArray)], s.size ≤ 140737488351232 := by
    intro s h
    simp only [List.mem_cons, List.not_mem_nil, or_false] at h
    rcases h with rfl | rfl <;> (show 1 ≤ _; omega)
  have h1 := plain_Root.is K 8 [(⟨#[97]⟩ : ByteArray), (⟨#[98]⟩ : ByteArray)] 2 (by omega) (by simp) (by simp) hs hK
  have ep : MT.pks 8 ([(⟨#[97]⟩ : ByteArray), (⟨#[98]⟩ : ByteArray)].take 2) = [MH.nd 8 (MH.lf 8 ⟨#[97]⟩) (MH.lf 8 ⟨#[98]⟩)] := by
    show MT.pkL 8 [(⟨#[97]⟩ : ByteArray), (⟨#[98]⟩ : ByteArray)] 2 41 = _
    unfold MT.pkL
    rw [show mtS 2 41 = [(1, 0)] from by decide +kernel]
    rfl
  rw [ep] at h1
  unfold massiflaw08_alive.f
  rw [show ((2 : Int)) = ((2 : Nat) : Int) from rfl, h1]
  simp only [Option.bind_some, if_true]
  rw [hash_Leaf.is 8 _ (by show 1 + 1 ≤ _; omega), hash_Leaf.is 8 _ (by show 1 + 1 ≤ _; omega)]
  simp only [Option.bind_some]
  have s1 := MH.lf_size 8 ⟨#[97]⟩
  have s2 := MH.lf_size 8 ⟨#[98]⟩
  have s3 := MH.nd_size 8 (MH.lf 8 ⟨#[97]⟩) (MH.lf 8 ⟨#[98]⟩)
  have hk := (MH.hK_in 8).2
  rw [hash_Node.is 8 _ _ (by omega)]
  simp only [Option.bind_some]
  rw [hash_Root.is K 8 ((2 : Nat) : Int) _ 32 (Nat.le_refl _) (by omega) (fun s hs => by rw [List.mem_singleton.1 hs]; omega) (by simp) (by simp; omega)]
  simp
theorem massifref07_Check.is (k : Int) : massifref07_Check.f k = some (if 1 ≤ k ∧ k ≤ 32 then 0 else 70) := by
  unfold massifref07_Check.f
  by_cases h1 : k < 1
  · rw [if_pos h1, if_neg (by omega)]
  · rw [if_neg h1]
    by_cases h2 : k > 32
    · rw [if_pos h2, if_neg (by omega)]
    · rw [if_neg h2, if_pos (by omega)]
theorem app_nil (s : ByteArray) : s ++ (⟨#[]⟩ : ByteArray) = s := by apply ByteArray.ext; simp [ByteArray.data_append]
theorem massifref07_text.is (a : Int) (x y : ByteArray) (h : 1 + x.size + y.size ≤ 9223372036854775807) : massifref07_text.f a x y = some (strOfNums [a] ++ x ++ y) := by
  unfold massifref07_text.f
  simp only [Option.bind_some]
  rw [MH.str_size, if_pos (by simp; omega), ByteArray.size_append, MH.str_size, if_pos (by simp; omega)]
theorem massifref07_LeafText.is (s : ByteArray) (h : 1 + s.size ≤ 9223372036854775807) : massifref07_LeafText.f s = some (MH.leafT s) := by
  unfold massifref07_LeafText.f
  rw [massifref07_text.is _ _ _ (by show 1 + s.size + 0 ≤ _; omega)]
  simp only [Option.bind_some]
  rw [app_nil]; rfl
theorem massifref07_NodeText.is (a b : ByteArray) (h : 1 + a.size + b.size ≤ 9223372036854775807) : massifref07_NodeText.f a b = some (MH.nodeT a b) := by
  unfold massifref07_NodeText.f
  rw [massifref07_text.is _ _ _ h]; rfl
theorem massifref07_BagText.is (a b : ByteArray) (h : 1 + a.size + b.size ≤ 9223372036854775807) : massifref07_BagText.f a b = some (MH.bagT a b) := by
  unfold massifref07_BagText.f
  rw [massifref07_text.is _ _ _ h]; rfl
theorem rt_app (X Y : List Int) : strOfNums X ++ strOfNums Y = strOfNums (X ++ Y) := by
  unfold strOfNums
  apply ByteArray.ext
  simp [ByteArray.data_append]
theorem rt_step (K : Nat) (x : Int) (d : ByteArray) (X : List Int) (i : Int) (hi : 0 ≤ i ∧ i < 8) (hX : X.length ≤ 8) (hx : 0 ≤ x ∧ x < 18446744073709551616) : massifref07_RootText.l0 (K + 1) x d (strOfNums X) i = massifref07_RootText.l0 K (x / 256) d (strOfNums (x % 256 :: X)) (i + 1) := by
  rw [massifref07_RootText.l0, if_pos hi.2]
  simp only [Option.bind_some]
  rw [MH.str_size, MH.str_size, if_pos (by simp; omega), Int.tdiv_eq_ediv_of_nonneg hx.1, Int.tmod_eq_emod_of_nonneg hx.1, rt_app, Int.emod_emod]
  rw [show IntKind.u64.wrap (x / 256) = x / 256 from IntWalk.u64_in _ (by omega), IntWalk.wrap64_in _ (by omega)]
  rfl
theorem massifref07_RootText.is (n : Int) (d : ByteArray) (h : 9 + d.size ≤ 9223372036854775807) (hn : 0 ≤ n ∧ n < 18446744073709551616) (K : Nat) (hK : 9 ≤ K) : massifref07_RootText.f K n d = some (MH.rootT n d) := by
  obtain ⟨K, rfl⟩ : ∃ m, K = m + 9 := ⟨K - 9, by omega⟩
  unfold massifref07_RootText.f
  rw [show (⟨#[]⟩ : ByteArray) = strOfNums [] from rfl]
  rw [rt_step _ _ _ _ _ (by omega) (by simp) hn, rt_step _ _ _ _ _ (by omega) (by simp) (by omega), rt_step _ _ _ _ _ (by omega) (by simp) (by omega), rt_step _ _ _ _ _ (by omega) (by simp) (by omega),
    rt_step _ _ _ _ _ (by omega) (by simp) (by omega), rt_step _ _ _ _ _ (by omega) (by simp) (by omega), rt_step _ _ _ _ _ (by omega) (by simp) (by omega), rt_step _ _ _ _ _ (by omega) (by simp) (by omega)]
  rw [massifref07_RootText.l0, if_neg (by omega), massifref07_text.is _ _ _ (by rw [MH.str_size]; simp; omega)]
  simp only [Option.bind_some]
  unfold MH.rootT
  have e : MH.big n 8 = [n / 256 / 256 / 256 / 256 / 256 / 256 / 256 % 256, n / 256 / 256 / 256 / 256 / 256 / 256 % 256, n / 256 / 256 / 256 / 256 / 256 % 256, n / 256 / 256 / 256 / 256 % 256, n / 256 / 256 / 256 % 256, n / 256 / 256 % 256, n / 256 % 256, n % 256] := by
    show [n / 2 ^ 56 % 256, n / 2 ^ 48 % 256, n / 2 ^ 40 % 256, n / 2 ^ 32 % 256, n / 2 ^ 24 % 256, n / 2 ^ 16 % 256, n / 2 ^ 8 % 256, n / 2 ^ 0 % 256] = _
    simp only [List.cons.injEq, and_true]
    refine ⟨?_, ?_, ?_, ?_, ?_, ?_, ?_, ?_⟩ <;> omega
  rw [e]
theorem massifref07_Of.is (k : Int) (s : ByteArray) (h : s.size ≤ 4611686018427387904) : massifref07_Of.f k s = some (MH.dig k s) := by
  have hz := MH.sha_size (Sha.bI s)
  unfold massifref07_Of.f
  rw [massifref01_Of.is1 s h]
  simp only [Option.bind_some]
  rw [hz]
  by_cases h1 : k < 1
  · rw [if_pos h1, if_neg (by decide), if_pos (by decide), if_pos (by decide)]
    have e : MH.hK k = 1 := by unfold MH.hK mn mx; split <;> first | omega | (split <;> omega)
    unfold MH.dig; rw [e]
  · rw [if_neg h1]
    by_cases h2 : k > 32
    · rw [if_pos h2, if_pos (by decide), if_pos (by decide)]
      have e : MH.hK k = 32 := by unfold MH.hK mn mx; split <;> first | omega | (split <;> omega)
      unfold MH.dig; rw [e]
    · rw [if_neg h2, if_pos (by omega), if_pos (by omega)]
      have e : MH.hK k = k.toNat := by have := MH.hK_of k ⟨by omega, by omega⟩; omega
      unfold MH.dig; rw [e]
theorem massifref07_Leaf.is (k : Int) (s : ByteArray) (h : 1 + s.size ≤ 4611686018427387904) : massifref07_Leaf.f k s = some (MH.lf k s) := by
  unfold massifref07_Leaf.f
  rw [massifref07_LeafText.is s (by omega)]
  simp only [Option.bind_some]
  rw [massifref07_Of.is k _ (by rw [MH.leafT_size]; exact h)]; rfl
theorem massifref07_Node.is (k : Int) (a b : ByteArray) (h : 1 + a.size + b.size ≤ 4611686018427387904) : massifref07_Node.f k a b = some (MH.nd k a b) := by
  unfold massifref07_Node.f
  rw [massifref07_NodeText.is a b (by omega)]
  simp only [Option.bind_some]
  rw [massifref07_Of.is k _ (by rw [MH.nodeT_size]; exact h)]; rfl
theorem massifref07_Bagged.loop (k : Int) (l : List ByteArray) (B : Nat) (hB : 32 ≤ B) (hB2 : B ≤ 140737488351232) (hl : ∀ s ∈ l, s.size ≤ B) (hll : l.length ≤ 140737488351232) :
    ∀ (i K : Nat), i < K → i < l.length → massifref07_Bagged.l0 K k l (MH.bag k (l.drop i)) ((i : Int) - 1) = some (MH.bag k l) := by
  intro i
  induction i with
  | zero =>
    intro K hK hi
    obtain ⟨K, rfl⟩ : ∃ m, K = m + 1 := ⟨K - 1, by omega⟩
    rw [massifref07_Bagged.l0, if_neg (by omega), List.drop_zero]
  | succ i ih =>
    intro K hK hi
    obtain ⟨K, rfl⟩ : ∃ m, K = m + 1 := ⟨K - 1, by omega⟩
    have e0 : (((i + 1 : Nat) : Int) - 1) = (i : Int) := by omega
    have hil : i < l.length := by omega
    have hx : rdOf ByteArray.empty l (i : Int) = l[i] := by unfold rdOf; simp [hil]
    have hb := MH.bag_size k B hB (l.drop (i + 1)) (fun s hs => hl s (List.mem_of_mem_drop hs))
    have hs := hl l[i] (List.getElem_mem hil)
    rw [e0, massifref07_Bagged.l0, if_pos (by omega), if_pos (by omega), if_pos (by omega), hx, massifref07_BagText.is _ _ (by omega)]
    simp only [Option.bind_some]
    rw [massifref07_Of.is k _ (by rw [MH.bagT_size]; omega)]
    simp only [Option.bind_some]
    rw [IntWalk.wrap64_in _ (by omega)]
    have hd : l.drop i = l[i] :: l.drop (i + 1) := List.drop_eq_getElem_cons hil
    have hd1 : l.drop (i + 1) = l[i + 1] :: l.drop (i + 2) := List.drop_eq_getElem_cons hi
    have := ih K (by omega) (by omega)
    rw [hd, hd1, MH.bag_two, ← hd1] at this
    exact this
theorem massifref07_Bagged.is (K : Nat) (k : Int) (l : List ByteArray) (B : Nat) (hB : 32 ≤ B) (hB2 : B ≤ 140737488351232) (hl : ∀ s ∈ l, s.size ≤ B) (hll : l.length ≤ 140737488351232) (hK : l.length ≤ K) :
    massifref07_Bagged.f K k l = some (MH.bag k l) := by
  unfold massifref07_Bagged.f
  by_cases h0 : l = []
  · subst h0
    rw [if_pos (by simp)]; rfl
  · have hp : 0 < l.length := List.length_pos_iff.2 h0
    rw [if_neg (by omega), IntWalk.wrap64_in _ (by omega), IntWalk.wrap64_in _ (by omega), if_pos (by omega), if_pos (by omega)]
    have e : ((l.length : Int) - 1) = ((l.length - 1 : Nat) : Int) := by omega
    have hx : rdOf ByteArray.empty l ((l.length : Int) - 1) = l[l.length - 1] := by unfold rdOf; rw [e]; simp [show l.length - 1 < l.length from by omega]
    have hd : l.drop (l.length - 1) = [l[l.length - 1]] := by
      rw [List.drop_eq_getElem_cons (by omega), show l.length - 1 + 1 = l.length from by omega, List.drop_length]
    have := massifref07_Bagged.loop k l B hB hB2 hl hll (l.length - 1) K (by omega) (by omega)
    rw [hd, MH.bag_one] at this
    rw [hx, show ((l.length : Int) - 2) = ((l.length - 1 : Nat) : Int) - 1 from by omega]
    exact this
theorem massifref07_Root.is (K : Nat) (k n : Int) (l : List ByteArray) (B : Nat) (hB : 32 ≤ B) (hB2 : B ≤ 140737488351232) (hl : ∀ s ∈ l, s.size ≤ B) (hll : l.length ≤ 140737488351232) (hK : l.length ≤ K) (hK9 : 9 ≤ K) (hn : 0 ≤ n ∧ n < 18446744073709551616) :
    massifref07_Root.f K k n l = some (MH.rootD k n l) := by
  have hb := MH.bag_size k B hB l hl
  unfold massifref07_Root.f
  rw [massifref07_Bagged.is K k l B hB hB2 hl hll hK]
  simp only [Option.bind_some]
  rw [massifref07_RootText.is _ _ (by omega) hn K hK9]
  simp only [Option.bind_some]
  rw [massifref07_Of.is k _ (by rw [MH.rootT_size]; omega)]
  rfl
/-- Neighbours become one. -/
def lev (k : Int) : List ByteArray → List ByteArray
  | a :: b :: t => MH.nd k a b :: lev k t
  | _ => []
def trR (k : Int) : Nat → List ByteArray → ByteArray
  | 0, l => l.headD ByteArray.empty
  | h + 1, l => MH.nd k (trR k h (l.take (2 ^ h))) (trR k h (l.drop (2 ^ h)))
theorem tr_R (k : Int) : ∀ (h : Nat) (l : List ByteArray), l.length = 2 ^ h → MT.tr k h l = trR k h (l.map (MH.lf k))
  | 0, l, hl => by
    match l, hl with
    | [x], _ => rfl
  | h + 1, l, hl => by
    have ep : 2 ^ (h + 1) = 2 * 2 ^ h := by rw [Nat.pow_succ, Nat.mul_comm]
    rw [MT.tr, trR, tr_R k h (l.take (2 ^ h)) (by rw [List.length_take, hl, ep]; omega), tr_R k h (l.drop (2 ^ h)) (by rw [List.length_drop, hl, ep]; omega), List.map_take, List.map_drop]
theorem lev_take (k : Int) : ∀ (m : Nat) (l : List ByteArray), 2 * m ≤ l.length → lev k (l.take (2 * m)) = (lev k l).take m ∧ lev k (l.drop (2 * m)) = (lev k l).drop m
  | 0, l, _ => ⟨by simp [lev], by simp⟩
  | m + 1, l, h => by
    match l, h with
    | a :: b :: t, h =>
      have ih := lev_take k m t (by simp at h; omega)
      rw [show 2 * (m + 1) = (2 * m + 1) + 1 from by omega, List.take_succ_cons, List.take_succ_cons, List.drop_succ_cons, List.drop_succ_cons, lev, lev, List.take_succ_cons, List.drop_succ_cons, ih.1, ih.2]
      exact ⟨rfl, rfl⟩
    | [a], h => simp at h; omega
    | [], h => simp at h
theorem lev_len (k : Int) : ∀ (m : Nat) (l : List ByteArray), l.length = 2 * m → (lev k l).length = m
  | 0, l, h => by
    have : l = [] := List.length_eq_zero_iff.1 (by omega)
    subst this; rfl
  | m + 1, l, h => by
    match l, h with
    | a :: b :: t, h => rw [lev, List.length_cons, lev_len k m t (by simp at h; omega)]
    | [a], h => simp at h; omega
    | [], h => simp at h
theorem tr_lev (k : Int) : ∀ (h : Nat) (l : List ByteArray), l.length = 2 ^ (h + 1) → trR k (h + 1) l = trR k h (lev k l)
  | 0, l, hl => by
    match l, hl with
    | [a, b], _ => rfl
  | h + 1, l, hl => by
    have ep : 2 ^ (h + 1) = 2 * 2 ^ h := by rw [Nat.pow_succ, Nat.mul_comm]
    have ep2 : 2 ^ (h + 2) = 2 * 2 ^ (h + 1) := by rw [Nat.pow_succ, Nat.mul_comm]
    have hl2 : l.length = 2 * 2 ^ (h + 1) := by rw [hl]; exact ep2
    have hm := lev_take k (2 ^ h) l (by omega)
    rw [trR, tr_lev k h (l.take (2 ^ (h + 1))) (by rw [List.length_take, hl2]; omega), tr_lev k h (l.drop (2 ^ (h + 1))) (by rw [List.length_drop, hl2]; omega)]
    rw [show l.take (2 ^ (h + 1)) = l.take (2 * 2 ^ h) from by rw [ep], show l.drop (2 ^ (h + 1)) = l.drop (2 * 2 ^ h) from by rw [ep], hm.1, hm.2]
    rfl
theorem lev_sz (k : Int) : ∀ (n : Nat) (l : List ByteArray), l.length ≤ n → ∀ s ∈ lev k l, s.size ≤ 32
  | 0, l, h, s, hs => by
    have : l = [] := List.length_eq_zero_iff.1 (by omega)
    subst this; cases hs
  | n + 1, l, h, s, hs => by
    match l, h, hs with
    | a :: b :: t, h, hs =>
      rw [lev] at hs
      rcases List.mem_cons.1 hs with e | e
      · rw [e, MH.nd_size]; exact (MH.hK_in k).2
      · exact lev_sz k n t (by simp at h; omega) s e
    | [a], h, hs => simp [lev] at hs
    | [], h, hs => simp [lev] at hs
theorem massifref08_tree.two (k : Int) (row : List ByteArray) (m : Nat) (hm : row.length = 2 * m) (hb : row.length ≤ 1000000) (hs : ∀ s ∈ row, s.size ≤ 140737488351232) : ∀ (r j K : Nat) (acc : List ByteArray), j + r = m → acc.length = j → massifref08_tree.l2 (K + r + 1) k row acc ((2 * j : Nat) : Int) = massifref08_tree.l1 K k (acc ++ lev k (row.drop (2 * j))) := by
  intro r
  induction r with
  | zero =>
    intro j K acc hj ha
    have ew : wrap64 (((2 * j : Nat) : Int) + 1) = ((2 * j + 1 : Nat) : Int) := by rw [IntWalk.wrap64_in _ (by omega)]; omega
    rw [massifref08_tree.l2, ew, if_neg (by omega), List.drop_eq_nil_of_le (by omega), show lev k [] = [] from rfl, List.append_nil]
  | succ r ih =>
    intro j K acc hj ha
    have h1 : 2 * j < row.length := by omega
    have h2 : 2 * j + 1 < row.length := by omega
    have ew : wrap64 (((2 * j : Nat) : Int) + 1) = ((2 * j + 1 : Nat) : Int) := by rw [IntWalk.wrap64_in _ (by omega)]; omega
    have ew2 : wrap64 (((2 * j : Nat) : Int) + 2) = ((2 * (j + 1) : Nat) : Int) := by rw [IntWalk.wrap64_in _ (by omega)]; omega
    have r1 : rdOf ByteArray.empty row ((2 * j : Nat) : Int) = row[2 * j] := by unfold rdOf; rw [Int.toNat_natCast, List.getD_eq_getElem?_getD, List.getElem?_eq_getElem h1]; rfl
    have r2 : rdOf ByteArray.empty row ((2 * j + 1 : Nat) : Int) = row[2 * j + 1] := by unfold rdOf; rw [Int.toNat_natCast, List.getD_eq_getElem?_getD, List.getElem?_eq_getElem h2]; rfl
    have s1 := hs _ (List.getElem_mem h1)
    have s2 := hs _ (List.getElem_mem h2)
    rw [show K + (r + 1) + 1 = (K + r + 1) + 1 from by omega, massifref08_tree.l2, ew, if_pos (by omega), if_pos (by omega), if_pos (by omega), if_pos (by omega), r1, r2, massifref07_Node.is k _ _ (by omega)]
    simp only [Option.bind_some]
    rw [if_pos (by omega), ew2, ih (j + 1) K _ (by omega) (by rw [List.length_append, ha]; rfl)]
    congr 1
    rw [List.append_assoc]
    congr 1
    rw [List.drop_eq_getElem_cons h1, List.drop_eq_getElem_cons h2, lev]
    rfl
theorem massifref08_tree.up (k : Int) : ∀ (h : Nat) (row : List ByteArray) (K : Nat), row.length = 2 ^ h → h ≤ 19 → (∀ s ∈ row, s.size ≤ 140737488351232) → 2 * row.length + 2 * h ≤ K → massifref08_tree.l1 K k row = some (trR k h row)
  | 0, row, K, hl, _, _, hK => by
    obtain ⟨K, rfl⟩ : ∃ m, K = m + 1 := ⟨K - 1, by omega⟩
    match row, hl with
    | [x], _ =>
      rw [massifref08_tree.l1, if_neg (by simp), if_pos (by simp)]
      rfl
  | h + 1, row, K, hl, hh, hs, hK => by
    have ep : 2 ^ (h + 1) = 2 * 2 ^ h := by rw [Nat.pow_succ, Nat.mul_comm]
    have hp : 1 ≤ 2 ^ h := Nat.pow_pos (by omega)
    have hle : 2 ^ (h + 1) ≤ 2 ^ 19 := Nat.pow_le_pow_right (by omega) hh
    obtain ⟨K2, hK2⟩ : ∃ m, K = (m + 2 ^ h + 1) + 1 := ⟨K - 2 ^ h - 2, by omega⟩
    have hll := lev_len k (2 ^ h) row (by omega)
    rw [hK2, massifref08_tree.l1, if_pos (by omega)]
    have := massifref08_tree.two k row (2 ^ h) (by omega) (by omega) hs (2 ^ h) 0 K2 [] (by omega) rfl
    rw [show ((2 * 0 : Nat) : Int) = 0 from rfl] at this
    rw [this, Nat.mul_zero, List.drop_zero, List.nil_append, massifref08_tree.up k h (lev k row) K2 hll (by omega) (fun s hs' => Nat.le_trans (lev_sz k row.length row (Nat.le_refl _) s hs') (by omega)) (by omega), tr_lev k h row hl]
theorem massifref08_tree.leaves (k : Int) (l : List ByteArray) (hb : l.length ≤ 1000000) (hs : ∀ s ∈ l, s.size ≤ 140737488351232) : ∀ (r i K : Nat) (acc : List ByteArray), i + r = l.length → acc.length = i → massifref08_tree.l0 (K + r + 1) k l acc (i : Int) = massifref08_tree.l1 K k (acc ++ (l.drop i).map (MH.lf k)) := by
  intro r
  induction r with
  | zero =>
    intro i K acc hi ha
    rw [massifref08_tree.l0, if_neg (by omega), List.drop_eq_nil_of_le (by omega), List.map_nil, List.append_nil]
  | succ r ih =>
    intro i K acc hi ha
    have h1 : i < l.length := by omega
    have r1 : rdOf ByteArray.empty l (i : Int) = l[i] := by unfold rdOf; rw [Int.toNat_natCast, List.getD_eq_getElem?_getD, List.getElem?_eq_getElem h1]; rfl
    have s1 := hs _ (List.getElem_mem h1)
    rw [show K + (r + 1) + 1 = (K + r + 1) + 1 from by omega, massifref08_tree.l0, if_pos (by omega), if_pos (by omega), r1, massifref07_Leaf.is k _ (by omega)]
    simp only [Option.bind_some]
    rw [if_pos (by omega), show wrap64 ((i : Int) + 1) = ((i + 1 : Nat) : Int) from by rw [IntWalk.wrap64_in _ (by omega)]; rfl, ih (i + 1) K _ (by omega) (by rw [List.length_append, ha]; rfl), List.append_assoc, List.drop_eq_getElem_cons h1, List.map_cons]
    rfl
theorem massifref08_tree.is (k : Int) (h : Nat) (l : List ByteArray) (K : Nat) (hl : l.length = 2 ^ h) (hh : h ≤ 19) (hs : ∀ s ∈ l, s.size ≤ 140737488351232) (hK : 3 * l.length + 2 * h + 1 ≤ K) : massifref08_tree.f K k l = some (MT.tr k h l) := by
  have hle : 2 ^ h ≤ 2 ^ 19 := Nat.pow_le_pow_right (by omega) hh
  obtain ⟨K2, hK2⟩ : ∃ m, K = m + l.length + 1 := ⟨K - l.length - 1, by omega⟩
  unfold massifref08_tree.f
  rw [hK2]
  have := massifref08_tree.leaves k l (by omega) hs l.length 0 K2 [] (by omega) rfl
  rw [show ((0 : Nat) : Int) = 0 from rfl] at this
  rw [this, List.drop_zero, List.nil_append, massifref08_tree.up k h _ K2 (by rw [List.length_map, hl]) hh (fun s hs' => by obtain ⟨x, _, rfl⟩ := List.mem_map.1 hs'; rw [MH.lf_size]; have := (MH.hK_in k).2; omega) (by rw [List.length_map]; omega), tr_R k h l hl]
theorem M8_pl (k : Int) (l : List ByteArray) (hb : l.length ≤ 300) (hs : ∀ s ∈ l, s.size ≤ 140737488351232) (K : Nat) (hK : 2000 ≤ K) : ∀ (d : Nat) (acc : List ByteArray), d ≤ 10 → massifref08_Peaks.go K k l (M8.M8 l.length d) acc = some (acc ++ MT.pkL k l l.length d) := by
  intro d
  induction d with
  | zero => intro acc _; simp [M8.M8, massifref08_Peaks.go, MT.pkL, mtS]
  | succ d ih =>
    intro acc hd
    have hbt := MB.bit_lt l.length d
    by_cases e : MB.bit l.length d = 1
    · have h1 := half_up l.length d
      have h2 := MT.lo_rest l.length d
      have hp : 1 ≤ 2 ^ d := Nat.pow_pos (by omega)
      obtain ⟨q, hq⟩ : ∃ q, l.length / 2 ^ d = q + 1 := ⟨l.length / 2 ^ d - 1, by omega⟩
      have e0 : M8.M8 l.length (d + 1) = (((q * 2 ^ d : Nat) : Int), ((2 ^ d : Nat) : Int)) :: M8.M8 l.length d := by
        unfold M8.M8; rw [mtS, if_pos e, hq, Nat.add_sub_cancel]; rfl
      have e1 : (q + 1) * 2 ^ d = q * 2 ^ d + 2 ^ d := by rw [Nat.add_mul, Nat.one_mul]
      rw [hq, e1] at h2
      have e2 : (l.take (((q * 2 ^ d : Nat) : Int) + ((2 ^ d : Nat) : Int)).toNat).drop ((q * 2 ^ d : Nat) : Int).toNat = MT.sl l d q := by
        rw [show (((q * 2 ^ d : Nat) : Int) + ((2 ^ d : Nat) : Int)).toNat = (q + 1) * 2 ^ d from by rw [e1]; omega, Int.toNat_natCast, MT.sl_cut]
      have hsl := MT.sl_len l d q (by rw [e1]; omega)
      rw [e0, massifref08_Peaks.go]
      simp only []
      rw [e2, massifref08_tree.is k d (MT.sl l d q) K hsl (by omega) (fun s h => hs s (List.mem_of_mem_drop (List.mem_of_mem_take h))) (by rw [hsl]; omega)]
      simp only [Option.bind_some]
      rw [ih _ (by omega), MT.pkL_one k l _ d e, hq, Nat.add_sub_cancel, List.append_assoc]
      rfl
    · have e0 : M8.M8 l.length (d + 1) = M8.M8 l.length d := by unfold M8.M8; rw [mtS, if_neg e]; rfl
      rw [e0, MT.pkL_no k l _ d (by omega)]
      exact ih acc (by omega)
theorem hi_same (n : Nat) (hn : n < 2 ^ 10) : ∀ d, mtS n (10 + d) = mtS n 10
  | 0 => rfl
  | d + 1 => by
    have hb : MB.bit n (10 + d) = 0 := by
      unfold MB.bit
      have h2 : 2 ^ 10 ≤ 2 ^ (10 + d) := Nat.pow_le_pow_right (by omega) (by omega)
      rw [Nat.div_eq_of_lt (by omega)]
    rw [show 10 + (d + 1) = (10 + d) + 1 from rfl, mtS, if_neg (by omega), hi_same n hn d]; rfl
theorem massifref08_Peaks.is (K : Nat) (k : Int) (l : List ByteArray) (hb : l.length ≤ 300) (hs : ∀ s ∈ l, s.size ≤ 140737488351232) (hK : 2000 ≤ K) : massifref08_Peaks.f K k l = some (MT.pks k l) := by
  unfold massifref08_Peaks.f
  have e := hi_same l.length (by omega) 31
  have e1 : M8.M8 l.length 41 = M8.M8 l.length 10 := by unfold M8.M8; rw [show 41 = 10 + 31 from rfl, e]
  have e2 : MT.pks k l = MT.pkL k l l.length 10 := by unfold MT.pks MT.pkL; rw [show 41 = 10 + 31 from rfl, e]
  rw [if_pos (by omega), e1, e2, M8_pl k l hb hs K hK 10 [] (by omega)]
  rfl
theorem massifref08_Root.same (K : Nat) (k : Int) (l : List ByteArray) (a : Int) (ha : 0 ≤ a) (hb : l.length ≤ 300) (hs : ∀ s ∈ l, s.size ≤ 140737488351232) (hK : 4200 ≤ K) : ∃ x y z, plain_Root.f K k l a = some (x, y, z) ∧ massifref08_Root.f K k l a = some (x, y, z) := by
  by_cases hk : 1 ≤ k ∧ k ≤ 32
  · by_cases hl : (l.length : Int) < a
    · refine ⟨_, _, _, plain_Root.size K k l a hk (by omega) hl, ?_⟩
      unfold massifref08_Root.f
      rw [massifref07_Check.is, if_pos hk]
      simp only [Option.bind_some, if_true]
      rw [len_u64 l (by omega), if_pos (by omega)]
    · obtain ⟨n, rfl⟩ := Int.eq_ofNat_of_zero_le ha
      refine ⟨_, _, _, plain_Root.is K k l n hk (by omega) (by omega) hs hK, ?_⟩
      have hpl := MT.pkL_len k (l.take n) (l.take n).length 41
      unfold massifref08_Root.f
      rw [massifref07_Check.is, if_pos hk]
      simp only [Option.bind_some, if_true]
      rw [len_u64 l (by omega), if_neg (by omega), if_pos (by omega), if_pos (by omega), Int.toNat_natCast, massifref08_Peaks.is K k _ (by rw [List.length_take]; omega) (fun s h => hs s (List.mem_of_mem_take h)) (by omega)]
      simp only [Option.bind_some]
      rw [massifref07_Root.is K k n (MT.pks k (l.take n)) 32 (Nat.le_refl _) (by omega) (MT.pkL_size k _ _ _) (by unfold MT.pks; omega) (by unfold MT.pks; omega) (by omega) (by omega)]
      rfl
  · refine ⟨_, _, _, plain_Root.strength K k l a hk, ?_⟩
    unfold massifref08_Root.f
    rw [massifref07_Check.is, if_neg hk]
    rfl
theorem massifref08_Tree.up (k : Int) (l : List ByteArray) (h : Nat) (i : Int) (hh : h ≤ 40) : ∀ (r j K : Nat), j + r = h → massifref08_Tree.l0 (K + r) k l ((2 ^ j : Nat) : Int) (j : Int) (h : Int) i = massifref08_Tree.l0 K k l ((2 ^ h : Nat) : Int) (h : Int) (h : Int) i := by
  intro r
  induction r with
  | zero => intro j K e; rw [show j = h from e]; rfl
  | succ r ih =>
    intro j K e
    have ep : 2 ^ (j + 1) = 2 * 2 ^ j := by rw [Nat.pow_succ, Nat.mul_comm]
    have hle : 2 ^ (j + 1) ≤ 2 ^ 40 := Nat.pow_le_pow_right (by omega) (by omega)
    have e1 : IntKind.u64.wrap (2 * ((2 ^ j : Nat) : Int)) = ((2 ^ (j + 1) : Nat) : Int) := by rw [IntWalk.u64_in _ (by omega), ep]; omega
    have e2 : wrap64 ((j : Int) + 1) = ((j + 1 : Nat) : Int) := by rw [IntWalk.wrap64_in _ (by omega)]; rfl
    rw [show K + (r + 1) = (K + r) + 1 from rfl, massifref08_Tree.l0, if_pos (by omega), e1, e2]
    exact ih (j + 1) K (by omega)
theorem massifref08_Tree.same (K : Nat) (k : Int) (l : List ByteArray) (h i : Int) (hi : 0 ≤ i ∧ i < 18446744073709551616) (hb : l.length ≤ 300) (hs : ∀ s ∈ l, s.size ≤ 140737488351232) (hK : 2100 ≤ K) : ∃ x y, plain_Tree.f K k l h i = some (x, y) ∧ massifref08_Tree.f K k l h i = some (x, y) := by
  by_cases h0 : h < 0
  · refine ⟨⟨#[]⟩, false, ?_, ?_⟩
    · unfold plain_Tree.f; rw [if_pos h0]
    · unfold massifref08_Tree.f
      obtain ⟨K, rfl⟩ : ∃ m, K = m + 1 := ⟨K - 1, by omega⟩
      rw [if_pos h0, massifref08_Tree.j0, if_pos rfl]
  · by_cases h40 : h > 40
    · refine ⟨⟨#[]⟩, false, ?_, ?_⟩
      · unfold plain_Tree.f; rw [if_neg h0, if_pos h40]
      · unfold massifref08_Tree.f
        obtain ⟨K, rfl⟩ : ∃ m, K = m + 1 := ⟨K - 1, by omega⟩
        rw [if_neg h0, massifref08_Tree.j0, if_pos (decide_eq_true h40)]
    · obtain ⟨d, rfl⟩ := Int.eq_ofNat_of_zero_le (show 0 ≤ h by omega)
      obtain ⟨n, rfl⟩ := Int.eq_ofNat_of_zero_le hi.1
      have hd : d ≤ 40 := by omega
      have hp : 1 ≤ 2 ^ d := Nat.pow_pos (by omega)
      obtain ⟨K2, hK2⟩ : ∃ m, K = ((m + 1) + d) + 1 := ⟨K - d - 2, by omega⟩
      have hr : massifref08_Tree.f K k l (d : Int) (n : Int) = massifref08_Tree.l0 (K2 + 1) k l ((2 ^ d : Nat) : Int) (d : Int) (d : Int) (n : Int) := by
        unfold massifref08_Tree.f
        rw [if_neg h0, hK2, massifref08_Tree.j0, if_neg (by rw [decide_eq_true_eq]; exact h40)]
        exact massifref08_Tree.up k l d (n : Int) hd d 0 (K2 + 1) (by omega)
      rw [hr, massifref08_Tree.l0, if_neg (by omega), len_u64 l (by omega)]
      have hpl : ∀ z, (l.length / 2 ^ d ≤ n) → z = (⟨#[]⟩, false) → plain_Tree.f K k l (d : Int) (n : Int) = some z := fun z hz e => by
        unfold plain_Tree.f
        rw [if_neg (by omega), if_neg (by omega), if_pos (by omega), IntWalk.u64_in _ (by omega), shrc l.length d (by omega), if_pos (by omega), e]
      by_cases c1 : l.length < 2 ^ d
      · refine ⟨⟨#[]⟩, false, hpl _ (by rw [Nat.div_eq_of_lt c1]; omega) rfl, ?_⟩
        rw [if_pos (by omega)]
      · have e1 : Int.tdiv (l.length : Int) ((2 ^ d : Nat) : Int) = ((l.length / 2 ^ d : Nat) : Int) := by rw [Int.tdiv_eq_ediv_of_nonneg (by omega)]; rfl
        have q1 : 1 ≤ l.length / 2 ^ d := (Nat.le_div_iff_mul_le hp).2 (by omega)
        have q2 : l.length / 2 ^ d ≤ l.length := Nat.div_le_self _ _
        have w8 : IntKind.u64.wrap ((l.length / 2 ^ d : Nat) : Int) = ((l.length / 2 ^ d : Nat) : Int) := IntWalk.u64_in _ (by omega)
        have w9 : IntKind.u64.wrap (((l.length / 2 ^ d : Nat) : Int) - 1) = ((l.length / 2 ^ d : Nat) : Int) - 1 := IntWalk.u64_in _ (by omega)
        rw [if_neg (by omega), if_neg (by omega), e1, w8, w9]
        clear w8 w9
        by_cases c2 : l.length / 2 ^ d ≤ n
        · refine ⟨⟨#[]⟩, false, hpl _ c2 rfl, ?_⟩
          rw [if_pos (by omega)]
        · have hil : (n + 1) * 2 ^ d ≤ l.length := (Nat.le_div_iff_mul_le hp).1 (by omega)
          have e0 : (n + 1) * 2 ^ d = n * 2 ^ d + 2 ^ d := by rw [Nat.add_mul, Nat.one_mul]
          have hsl := MT.sl_len l d n hil
          refine ⟨_, _, plain_Tree.is K k l d n hd hil (by omega) hs (by omega), ?_⟩
          have w1 : IntKind.u64.wrap ((n : Int) * ((2 ^ d : Nat) : Int)) = ((n * 2 ^ d : Nat) : Int) := by rw [← Int.natCast_mul]; exact IntWalk.u64_in _ (by omega)
          have w2 : IntKind.u64.wrap ((n : Int) + 1) = ((n + 1 : Nat) : Int) := by rw [IntWalk.u64_in _ (by omega)]; rfl
          have w3 : IntKind.u64.wrap (((n + 1 : Nat) : Int) * ((2 ^ d : Nat) : Int)) = (((n + 1) * 2 ^ d : Nat) : Int) := by rw [← Int.natCast_mul]; exact IntWalk.u64_in _ (by omega)
          have hd8 : d ≤ 8 := by
            rcases Nat.lt_or_ge 8 d with h | h
            · have : 2 ^ 9 ≤ 2 ^ d := Nat.pow_le_pow_right (by omega) h
              omega
            · exact h
          rw [if_neg (by omega), w1, w2, w3, if_pos (by omega), if_pos (by omega), if_pos (by omega), Int.toNat_natCast, Int.toNat_natCast, MT.sl_cut, massifref08_tree.is k d (MT.sl l d n) K2 hsl (by omega) (fun s h => hs s (List.mem_of_mem_drop (List.mem_of_mem_take h))) (by rw [hsl]; omega)]
          rfl

end Go.Proofs.YtcghicmdphfodaaDoor.PPlainAsks
