/- What the printed functions of HashAsks come to, function by function. No condition beyond those that each theorem names. -/
import Derived.Test.YtcghicmdphfodaaDoorPHashAsksx
import Derived.Test.YtcghicmdphfodaaDoorMB
import Derived.Test.YtcghicmdphfodaaDoorMH
set_option linter.unusedVariables false
set_option linter.unusedSimpArgs false
namespace Go.Proofs.YtcghicmdphfodaaDoor.PHashAsks
open Go Go.RowKit Go.Proofs.YtcghicmdphfodaaDoor.MB Go.Proofs.YtcghicmdphfodaaDoorW.PrintWords Go.Proofs.YtcghicmdphfodaaDoorW.PrintLast Go.Proofs.YtcghicmdphfodaaDoorW.PrintMore

theorem hash_first.is (a : Int) : hash_first.f a = some (strOfNums [a]) := rfl
theorem sha_Of.is1 (s : ByteArray) (h : s.size ≤ 9223372036854775807) : sha_Of.f [s] = some (Sha.sha (Sha.bI s)) := by
  unfold sha_Of.f
  rw [if_pos (by simpa using h)]
  simp
theorem hash_Of.is (k : Int) (s : ByteArray) (h : s.size ≤ 9223372036854775807) : hash_Of.f k s = some (MH.dig k s) := by
  have h1 := MH.hK_in k
  have h2 := MH.sha_size (Sha.bI s)
  unfold hash_Of.f
  rw [sha_Of.is1 s h]
  simp only [Option.bind_some]
  rw [MH.hK_cast, if_pos (by omega), if_pos (by omega)]
  rfl
theorem hash_LeafText.is (s : ByteArray) (h : 1 + s.size ≤ 9223372036854775807) : hash_LeafText.f s = some (MH.leafT s) := by
  unfold hash_LeafText.f
  rw [hash_first.is]
  simp only [Option.bind_some]
  rw [MH.str_size, if_pos (by simpa using h)]
  rfl
theorem hash_Leaf.is (k : Int) (s : ByteArray) (h : 1 + s.size ≤ 9223372036854775807) : hash_Leaf.f k s = some (MH.lf k s) := by
  unfold hash_Leaf.f
  rw [hash_LeafText.is s h]
  simp only [Option.bind_some]
  rw [hash_Of.is k _ (by rw [MH.leafT_size]; exact h)]
  rfl
theorem hash_NodeText.is (a b : ByteArray) (h : 1 + a.size + b.size ≤ 9223372036854775807) : hash_NodeText.f a b = some (MH.nodeT a b) := by
  unfold hash_NodeText.f
  rw [hash_first.is]
  simp only [Option.bind_some]
  rw [MH.str_size, if_pos (by simp; omega), ByteArray.size_append, MH.str_size, if_pos (by simp; omega)]
  rfl
theorem hash_Node.is (k : Int) (a b : ByteArray) (h : 1 + a.size + b.size ≤ 9223372036854775807) : hash_Node.f k a b = some (MH.nd k a b) := by
  unfold hash_Node.f
  rw [hash_NodeText.is a b h]
  simp only [Option.bind_some]
  rw [hash_Of.is k _ (by rw [MH.nodeT_size]; exact h)]
  rfl
theorem hash_BagText.is (a b : ByteArray) (h : 1 + a.size + b.size ≤ 9223372036854775807) : hash_BagText.f a b = some (MH.bagT a b) := by
  unfold hash_BagText.f
  rw [hash_first.is]
  simp only [Option.bind_some]
  rw [MH.str_size, if_pos (by simp; omega), ByteArray.size_append, MH.str_size, if_pos (by simp; omega)]
  rfl
theorem big_same (n : Int) : ∀ i, RootW.big n i = MH.big n i
  | 0 => rfl
  | i + 1 => by rw [RootW.big, MH.big, big_same n i]
theorem hash_RootText.is (n : Int) (d : ByteArray) (h : 9 + d.size ≤ 9223372036854775807) : hash_RootText.f n d = some (MH.rootT n d) := by
  unfold hash_RootText.f
  rw [if_pos h, big_same]
  rfl
theorem hash_Check.is (k : Int) : hash_Check.f k = some (if 1 ≤ k ∧ k ≤ 32 then 0 else 70) := by
  unfold hash_Check.f
  by_cases h1 : k < 1
  · rw [if_pos h1, if_neg (by omega)]
  · rw [if_neg h1]
    by_cases h2 : k > 32
    · rw [if_pos h2, if_neg (by omega)]
    · rw [if_neg h2, if_pos (by omega)]
theorem hash_Bagged.loop (k : Int) (l : List ByteArray) (B : Nat) (hB : 32 ≤ B) (hB2 : B ≤ 140737488351232) (hl : ∀ s ∈ l, s.size ≤ B) (hll : l.length ≤ 140737488351232) :
    ∀ (i K : Nat), i < K → i < l.length → hash_Bagged.l0 K k l (MH.bag k (l.drop i)) ((i : Int) - 1) = some (MH.bag k l) := by
  intro i
  induction i with
  | zero =>
    intro K hK hi
    obtain ⟨K, rfl⟩ : ∃ m, K = m + 1 := ⟨K - 1, by omega⟩
    rw [hash_Bagged.l0, if_neg (by omega), List.drop_zero]
  | succ i ih =>
    intro K hK hi
    obtain ⟨K, rfl⟩ : ∃ m, K = m + 1 := ⟨K - 1, by omega⟩
    have e0 : (((i + 1 : Nat) : Int) - 1) = (i : Int) := by omega
    have hil : i < l.length := by omega
    have hx : rdOf ByteArray.empty l (i : Int) = l[i] := by unfold rdOf; simp [hil]
    have hb := MH.bag_size k B hB (l.drop (i + 1)) (fun s hs => hl s (List.mem_of_mem_drop hs))
    have hs := hl l[i] (List.getElem_mem hil)
    rw [e0, hash_Bagged.l0, if_pos (by omega), if_pos (by omega), if_pos (by omega), hx, hash_BagText.is _ _ (by omega)]
    simp only [Option.bind_some]
    rw [hash_Of.is k _ (by rw [MH.bagT_size]; omega)]
    simp only [Option.bind_some]
    rw [IntWalk.wrap64_in _ (by omega)]
    have hd : l.drop i = l[i] :: l.drop (i + 1) := List.drop_eq_getElem_cons hil
    have hd1 : l.drop (i + 1) = l[i + 1] :: l.drop (i + 2) := List.drop_eq_getElem_cons hi
    have := ih K (by omega) (by omega)
    rw [hd, hd1, MH.bag_two, ← hd1] at this
    exact this
theorem hash_Bagged.is (K : Nat) (k : Int) (l : List ByteArray) (B : Nat) (hB : 32 ≤ B) (hB2 : B ≤ 140737488351232) (hl : ∀ s ∈ l, s.size ≤ B) (hll : l.length ≤ 140737488351232) (hK : l.length ≤ K) :
    hash_Bagged.f K k l = some (MH.bag k l) := by
  unfold hash_Bagged.f
  by_cases h0 : l = []
  · subst h0
    rw [if_pos (by simp)]; rfl
  · have hp : 0 < l.length := List.length_pos_iff.2 h0
    rw [if_neg (by omega), IntWalk.wrap64_in _ (by omega), IntWalk.wrap64_in _ (by omega), if_pos (by omega), if_pos (by omega)]
    have e : ((l.length : Int) - 1) = ((l.length - 1 : Nat) : Int) := by omega
    have hx : rdOf ByteArray.empty l ((l.length : Int) - 1) = l[l.length - 1] := by unfold rdOf; rw [e]; simp [show l.length - 1 < l.length from by omega]
    have hd : l.drop (l.length - 1) = [l[l.length - 1]] := by
      rw [List.drop_eq_getElem_cons (by omega), show l.length - 1 + 1 = l.length from by omega, List.drop_length]
    have := hash_Bagged.loop k l B hB hB2 hl hll (l.length - 1) K (by omega) (by omega)
    rw [hd, MH.bag_one] at this
    rw [hx, show ((l.length : Int) - 2) = ((l.length - 1 : Nat) : Int) - 1 from by omega]
    exact this
theorem hash_Root.is (K : Nat) (k n : Int) (l : List ByteArray) (B : Nat) (hB : 32 ≤ B) (hB2 : B ≤ 140737488351232) (hl : ∀ s ∈ l, s.size ≤ B) (hll : l.length ≤ 140737488351232) (hK : l.length ≤ K) :
    hash_Root.f K k n l = some (MH.rootD k n l) := by
  have hb := MH.bag_size k B hB l hl
  unfold hash_Root.f
  rw [hash_Bagged.is K k l B hB hB2 hl hll hK]
  simp only [Option.bind_some]
  rw [hash_RootText.is _ _ (by omega)]
  simp only [Option.bind_some]
  rw [hash_Of.is k _ (by rw [MH.rootT_size]; omega)]
  rfl
theorem al1 : (MH.lf 4 (⟨#[]⟩ : ByteArray)).toList = ([110, 52, 11, 156] : List UInt8) := by decide +kernel
theorem al2 : (MH.rootT 258 (⟨#[120]⟩ : ByteArray)).toList = ([3, 0, 0, 0, 0, 0, 0, 1, 2, 120] : List UInt8) := by decide +kernel
theorem massiflaw07_alive.is (K : Nat) (hK : 1 ≤ K) : massiflaw07_alive.f K = some true := by
  unfold massiflaw07_alive.f
  rw [hash_Leaf.is 4 _ (by show 1 + 0 ≤ _; omega)]
  simp only [Option.bind_some]
  rw [if_pos al1, hash_RootText.is 258 _ (by show 9 + 1 ≤ _; omega)]
  simp only [Option.bind_some]
  rw [if_pos al2, hash_Bagged.is K 8 _ 32 (by omega) (by omega) (fun s hs => by rw [List.mem_singleton.1 hs]; show 1 ≤ 32; omega) (by simp) (by simpa using hK)]
  simp only [Option.bind_some]
  rw [MH.bag_one, if_pos (by decide +kernel), hash_Check.is, hash_Check.is]
  rfl
theorem massifref01_Of.is1 (s : ByteArray) (h : s.size ≤ 4611686018427387904) : massifref01_Of.f [s] = some (Sha.sha (Sha.bI s)) := by
  unfold massifref01_Of.f
  rw [show ([s] : List ByteArray).flatMap Sha.bI = Sha.bI s from by simp, if_pos (by rw [Sha.bI_len]; exact h)]
theorem massifref07_Check.is (k : Int) : massifref07_Check.f k = some (if 1 ≤ k ∧ k ≤ 32 then 0 else 70) := by
  unfold massifref07_Check.f
  by_cases h1 : k < 1
  · rw [if_pos h1, if_neg (by omega)]
  · rw [if_neg h1]
    by_cases h2 : k > 32
    · rw [if_pos h2, if_neg (by omega)]
    · rw [if_neg h2, if_pos (by omega)]
theorem app_nil (s : ByteArray) : s ++ (⟨#[]⟩ : ByteArray) = s := by apply ByteArray.ext; simp [ByteArray.data_append]
theorem massifref07_text.is (a : Int) (x y : ByteArray) (h : 1 + x.size + y.size ≤ 9223372036854775807) : massifref07_text.f a x y = some (strOfNums [a] ++ x ++ y) := by
  unfold massifref07_text.f
  simp only [Option.bind_some]
  rw [MH.str_size, if_pos (by simp; omega), ByteArray.size_append, MH.str_size, if_pos (by simp; omega)]
theorem massifref07_LeafText.is (s : ByteArray) (h : 1 + s.size ≤ 9223372036854775807) : massifref07_LeafText.f s = some (MH.leafT s) := by
  unfold massifref07_LeafText.f
  rw [massifref07_text.is _ _ _ (by show 1 + s.size + 0 ≤ _; omega)]
  simp only [Option.bind_some]
  rw [app_nil]; rfl
theorem massifref07_NodeText.is (a b : ByteArray) (h : 1 + a.size + b.size ≤ 9223372036854775807) : massifref07_NodeText.f a b = some (MH.nodeT a b) := by
  unfold massifref07_NodeText.f
  rw [massifref07_text.is _ _ _ h]; rfl
theorem massifref07_BagText.is (a b : ByteArray) (h : 1 + a.size + b.size ≤ 9223372036854775807) : massifref07_BagText.f a b = some (MH.bagT a b) := by
  unfold massifref07_BagText.f
  rw [massifref07_text.is _ _ _ h]; rfl
theorem rt_app (X Y : List Int) : strOfNums X ++ strOfNums Y = strOfNums (X ++ Y) := by
  unfold strOfNums
  apply ByteArray.ext
  simp [ByteArray.data_append]
theorem rt_step (K : Nat) (x : Int) (d : ByteArray) (X : List Int) (i : Int) (hi : 0 ≤ i ∧ i < 8) (hX : X.length ≤ 8) (hx : 0 ≤ x ∧ x < 18446744073709551616) : massifref07_RootText.l0 (K + 1) x d (strOfNums X) i = massifref07_RootText.l0 K (x / 256) d (strOfNums (x % 256 :: X)) (i + 1) := by
  rw [massifref07_RootText.l0, if_pos hi.2]
  simp only [Option.bind_some]
  rw [MH.str_size, MH.str_size, if_pos (by simp; omega), Int.tdiv_eq_ediv_of_nonneg hx.1, Int.tmod_eq_emod_of_nonneg hx.1, rt_app, Int.emod_emod]
  rw [show IntKind.u64.wrap (x / 256) = x / 256 from IntWalk.u64_in _ (by omega), IntWalk.wrap64_in _ (by omega)]
  rfl
theorem massifref07_RootText.is (n : Int) (d : ByteArray) (h : 9 + d.size ≤ 9223372036854775807) (hn : 0 ≤ n ∧ n < 18446744073709551616) (K : Nat) (hK : 9 ≤ K) : massifref07_RootText.f K n d = some (MH.rootT n d) := by
  obtain ⟨K, rfl⟩ : ∃ m, K = m + 9 := ⟨K - 9, by omega⟩
  unfold massifref07_RootText.f
  rw [show (⟨#[]⟩ : ByteArray) = strOfNums [] from rfl]
  rw [rt_step _ _ _ _ _ (by omega) (by simp) hn, rt_step _ _ _ _ _ (by omega) (by simp) (by omega), rt_step _ _ _ _ _ (by omega) (by simp) (by omega), rt_step _ _ _ _ _ (by omega) (by simp) (by omega),
    rt_step _ _ _ _ _ (by omega) (by simp) (by omega), rt_step _ _ _ _ _ (by omega) (by simp) (by omega), rt_step _ _ _ _ _ (by omega) (by simp) (by omega), rt_step _ _ _ _ _ (by omega) (by simp) (by omega)]
  rw [massifref07_RootText.l0, if_neg (by omega), massifref07_text.is _ _ _ (by rw [MH.str_size]; simp; omega)]
  simp only [Option.bind_some]
  unfold MH.rootT
  have e : MH.big n 8 = [n / 256 / 256 / 256 / 256 / 256 / 256 / 256 % 256, n / 256 / 256 / 256 / 256 / 256 / 256 % 256, n / 256 / 256 / 256 / 256 / 256 % 256, n / 256 / 256 / 256 / 256 % 256, n / 256 / 256 / 256 % 256, n / 256 / 256 % 256, n / 256 % 256, n % 256] := by
    show [n / 2 ^ 56 % 256, n / 2 ^ 48 % 256, n / 2 ^ 40 % 256, n / 2 ^ 32 % 256, n / 2 ^ 24 % 256, n / 2 ^ 16 % 256, n / 2 ^ 8 % 256, n / 2 ^ 0 % 256] = _
    simp only [List.cons.injEq, and_true]
    refine ⟨?_, ?_, ?_, ?_, ?_, ?_, ?_, ?_⟩ <;> omega
  rw [e]
theorem massifref07_Of.is (k : Int) (s : ByteArray) (h : s.size ≤ 4611686018427387904) : massifref07_Of.f k s = some (MH.dig k s) := by
  have hz := MH.sha_size (Sha.bI s)
  unfold massifref07_Of.f
  rw [massifref01_Of.is1 s h]
  simp only [Option.bind_some]
  rw [hz]
  by_cases h1 : k < 1
  · rw [if_pos h1, if_neg (by decide), if_pos (by decide), if_pos (by decide)]
    have e : MH.hK k = 1 := by unfold MH.hK mn mx; split <;> first | omega | (split <;> omega)
    unfold MH.dig; rw [e]
  · rw [if_neg h1]
    by_cases h2 : k > 32
    · rw [if_pos h2, if_pos (by decide), if_pos (by decide)]
      have e : MH.hK k = 32 := by unfold MH.hK mn mx; split <;> first | omega | (split <;> omega)
      unfold MH.dig; rw [e]
    · rw [if_neg h2, if_pos (by omega), if_pos (by omega)]
      have e : MH.hK k = k.toNat := by have := MH.hK_of k ⟨by omega, by omega⟩; omega
      unfold MH.dig; rw [e]
theorem massifref07_Leaf.is (k : Int) (s : ByteArray) (h : 1 + s.size ≤ 4611686018427387904) : massifref07_Leaf.f k s = some (MH.lf k s) := by
  unfold massifref07_Leaf.f
  rw [massifref07_LeafText.is s (by omega)]
  simp only [Option.bind_some]
  rw [massifref07_Of.is k _ (by rw [MH.leafT_size]; exact h)]; rfl
theorem massifref07_Node.is (k : Int) (a b : ByteArray) (h : 1 + a.size + b.size ≤ 4611686018427387904) : massifref07_Node.f k a b = some (MH.nd k a b) := by
  unfold massifref07_Node.f
  rw [massifref07_NodeText.is a b (by omega)]
  simp only [Option.bind_some]
  rw [massifref07_Of.is k _ (by rw [MH.nodeT_size]; exact h)]; rfl
theorem massifref07_Bagged.loop (k : Int) (l : List ByteArray) (B : Nat) (hB : 32 ≤ B) (hB2 : B ≤ 140737488351232) (hl : ∀ s ∈ l, s.size ≤ B) (hll : l.length ≤ 140737488351232) :
    ∀ (i K : Nat), i < K → i < l.length → massifref07_Bagged.l0 K k l (MH.bag k (l.drop i)) ((i : Int) - 1) = some (MH.bag k l) := by
  intro i
  induction i with
  | zero =>
    intro K hK hi
    obtain ⟨K, rfl⟩ : ∃ m, K = m + 1 := ⟨K - 1, by omega⟩
    rw [massifref07_Bagged.l0, if_neg (by omega), List.drop_zero]
  | succ i ih =>
    intro K hK hi
    obtain ⟨K, rfl⟩ : ∃ m, K = m + 1 := ⟨K - 1, by omega⟩
    have e0 : (((i + 1 : Nat) : Int) - 1) = (i : Int) := by omega
    have hil : i < l.length := by omega
    have hx : rdOf ByteArray.empty l (i : Int) = l[i] := by unfold rdOf; simp [hil]
    have hb := MH.bag_size k B hB (l.drop (i + 1)) (fun s hs => hl s (List.mem_of_mem_drop hs))
    have hs := hl l[i] (List.getElem_mem hil)
    rw [e0, massifref07_Bagged.l0, if_pos (by omega), if_pos (by omega), if_pos (by omega), hx, massifref07_BagText.is _ _ (by omega)]
    simp only [Option.bind_some]
    rw [massifref07_Of.is k _ (by rw [MH.bagT_size]; omega)]
    simp only [Option.bind_some]
    rw [IntWalk.wrap64_in _ (by omega)]
    have hd : l.drop i = l[i] :: l.drop (i + 1) := List.drop_eq_getElem_cons hil
    have hd1 : l.drop (i + 1) = l[i + 1] :: l.drop (i + 2) := List.drop_eq_getElem_cons hi
    have := ih K (by omega) (by omega)
    rw [hd, hd1, MH.bag_two, ← hd1] at this
    exact this
theorem massifref07_Bagged.is (K : Nat) (k : Int) (l : List ByteArray) (B : Nat) (hB : 32 ≤ B) (hB2 : B ≤ 140737488351232) (hl : ∀ s ∈ l, s.size ≤ B) (hll : l.length ≤ 140737488351232) (hK : l.length ≤ K) :
    massifref07_Bagged.f K k l = some (MH.bag k l) := by
  unfold massifref07_Bagged.f
  by_cases h0 : l = []
  · subst h0
    rw [if_pos (by simp)]; rfl
  · have hp : 0 < l.length := List.length_pos_iff.2 h0
    rw [if_neg (by omega), IntWalk.wrap64_in _ (by omega), IntWalk.wrap64_in _ (by omega), if_pos (by omega), if_pos (by omega)]
    have e : ((l.length : Int) - 1) = ((l.length - 1 : Nat) : Int) := by omega
    have hx : rdOf ByteArray.empty l ((l.length : Int) - 1) = l[l.length - 1] := by unfold rdOf; rw [e]; simp [show l.length - 1 < l.length from by omega]
    have hd : l.drop (l.length - 1) = [l[l.length - 1]] := by
      rw [List.drop_eq_getElem_cons (by omega), show l.length - 1 + 1 = l.length from by omega, List.drop_length]
    have := massifref07_Bagged.loop k l B hB hB2 hl hll (l.length - 1) K (by omega) (by omega)
    rw [hd, MH.bag_one] at this
    rw [hx, show ((l.length : Int) - 2) = ((l.length - 1 : Nat) : Int) - 1 from by omega]
    exact this
theorem massifref07_Root.is (K : Nat) (k n : Int) (l : List ByteArray) (B : Nat) (hB : 32 ≤ B) (hB2 : B ≤ 140737488351232) (hl : ∀ s ∈ l, s.size ≤ B) (hll : l.length ≤ 140737488351232) (hK : l.length ≤ K) (hK9 : 9 ≤ K) (hn : 0 ≤ n ∧ n < 18446744073709551616) :
    massifref07_Root.f K k n l = some (MH.rootD k n l) := by
  have hb := MH.bag_size k B hB l hl
  unfold massifref07_Root.f
  rw [massifref07_Bagged.is K k l B hB hB2 hl hll hK]
  simp only [Option.bind_some]
  rw [massifref07_RootText.is _ _ (by omega) hn K hK9]
  simp only [Option.bind_some]
  rw [massifref07_Of.is k _ (by rw [MH.rootT_size]; omega)]
  rfl

end Go.Proofs.YtcghicmdphfodaaDoor.PHashAsks
