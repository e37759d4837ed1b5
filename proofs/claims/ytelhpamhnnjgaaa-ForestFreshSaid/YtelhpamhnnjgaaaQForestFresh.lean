/- What the printed functions of ForestFresh come to, function by function. No condition beyond those that each theorem names. -/
import Derived.Test.YtelhpamhnnjgaaaPForestFreshx
import Derived.Test.YtelhpamhnnjgaaaMB
import Derived.Test.YtelhpamhnnjgaaaMH
import Derived.Test.YtelhpamhnnjgaaaMT
import Derived.Test.YtelhpamhnnjgaaaMP
import Derived.Test.YtelhpamhnnjgaaaMS
set_option linter.unusedVariables false
set_option linter.unusedSimpArgs false
namespace Go.Proofs.Ytelhpamhnnjgaaa.PForestFresh
open Go Go.RowKit Go.Proofs.Ytelhpamhnnjgaaa.MB Go.Proofs.YtelhpamhnnjgaaaW.PrintWords Go.Proofs.YtelhpamhnnjgaaaW.PrintLast Go.Proofs.YtelhpamhnnjgaaaW.PrintMore

theorem bits1 (n i : Nat) (hn : n < 2 ^ 64) (hi : i ≤ 64) : Go.bits .and .u64 (shr .u64 (n : Int) (i : Int)) 1 = (bit n i : Int) := by
  have e : shr .u64 (n : Int) (i : Int) = ((n / 2 ^ i : Nat) : Int) := by
    unfold shr
    have e1 : min ((i : Int)).toNat IntKind.u64.bits = i := by simp [IntKind.bits]; omega
    rw [e1]; simp
  have hle : n / 2 ^ i ≤ n := Nat.div_le_self _ _
  rw [e]
  unfold bit
  generalize n / 2 ^ i = q at *
  rw [and_one_u64 _ (by omega) (by omega)]; omega
theorem num_Ones.run (n : Nat) (hn : n < 2 ^ 64) : ∀ (d k i : Nat), i + d = 64 → d < k → num_Ones.l0 k n (onesF i n : Nat) i = some (ones n : Int) := by
  intro d
  induction d with
  | zero =>
    intro k i hi hk
    obtain ⟨k, rfl⟩ : ∃ m, k = m + 1 := ⟨k - 1, by omega⟩
    have : i = 64 := by omega
    subst this
    simp only [num_Ones.l0]; rw [if_neg (by omega)]; rfl
  | succ d ih =>
    intro k i hi hk
    obtain ⟨k, rfl⟩ : ∃ m, k = m + 1 := ⟨k - 1, by omega⟩
    have hb := bit_lt n i
    have hl := onesF_le i n
    simp only [num_Ones.l0]; rw [if_pos (by omega), if_pos (by omega), bits1 n i hn (by omega), wrap64_in (bit n i : Int) (by omega) (by omega), wrap64_in _ (by omega) (by omega), wrap64_in _ (by omega) (by omega)]
    have h := ih k (i + 1) (by omega) (by omega)
    rw [onesF_snoc] at h
    exact h
theorem num_Ones.is (n k : Nat) (hn : n < 2 ^ 64) (hk : 65 ≤ k) : num_Ones.f k n = some (ones n : Int) := num_Ones.run n hn 64 k 0 (by omega) (by omega)
theorem lg_step (n i : Nat) : lg (n % 2 ^ (i + 1)) = if bit n i = 1 then (i : Int) else lg (n % 2 ^ i) := by
  have hb := bit_lt n i
  have hm := mod_succ n i
  have hl := Nat.mod_lt n (two_pow_pos i)
  split
  · rename_i h
    rw [h] at hm
    rw [hm]
    generalize n % 2 ^ i = q at *
    exact lg_eq (by omega) (by rw [Nat.pow_succ]; omega)
  · rename_i h
    have : bit n i = 0 := by omega
    rw [this] at hm; rw [hm]; simp
theorem num_Log.run (n : Nat) (hn : n < 2 ^ 64) : ∀ (d k i : Nat), i + d = 64 → d < k → num_Log.l0 k n (lg (n % 2 ^ i)) i = some (lg n) := by
  intro d
  induction d with
  | zero =>
    intro k i hi hk
    obtain ⟨k, rfl⟩ : ∃ m, k = m + 1 := ⟨k - 1, by omega⟩
    have : i = 64 := by omega
    subst this
    simp only [num_Log.l0]; rw [if_neg (by omega), Nat.mod_eq_of_lt hn]
  | succ d ih =>
    intro k i hi hk
    obtain ⟨k, rfl⟩ : ∃ m, k = m + 1 := ⟨k - 1, by omega⟩
    have h := ih k (i + 1) (by omega) (by omega)
    rw [lg_step] at h
    simp only [num_Log.l0]; rw [if_pos (by omega), if_pos (by omega), bits1 n i hn (by omega), wrap64_in _ (by omega) (by omega)]
    by_cases e : bit n i = 1
    · rw [if_pos e] at h; rw [if_pos (by omega)]; exact h
    · rw [if_neg e] at h; rw [if_neg (by omega)]; exact h
theorem num_Log.is (n k : Nat) (hn : n < 2 ^ 64) (hk : 65 ≤ k) : num_Log.f k n = some (lg n) := by
  have h := num_Log.run n hn 64 k 0 (by omega) (by omega)
  simpa [num_Log.f, Nat.mod_one, lg_zero] using h
theorem num_Trail.run (n : Nat) (hn : n < 2 ^ 64) : ∀ (d k i : Nat), i + d = 64 → d < k → n % 2 ^ i = 0 → num_Trail.l0 k n i = some (tr n : Int) := by
  intro d
  induction d with
  | zero =>
    intro k i hi hk h0
    obtain ⟨k, rfl⟩ : ∃ m, k = m + 1 := ⟨k - 1, by omega⟩
    have : i = 64 := by omega
    subst this
    rw [Nat.mod_eq_of_lt hn] at h0; subst h0
    simp only [num_Trail.l0]; rw [if_neg (by omega)]; rfl
  | succ d ih =>
    intro k i hi hk h0
    obtain ⟨k, rfl⟩ : ∃ m, k = m + 1 := ⟨k - 1, by omega⟩
    have hb := bit_lt n i
    have hm := mod_succ n i
    simp only [num_Trail.l0]; rw [if_pos (by omega), if_pos (by omega), bits1 n i hn (by omega), wrap64_in _ (by omega) (by omega)]
    by_cases e : bit n i = 1
    · rw [if_pos (by omega), tr_eq hn h0 e]
    · rw [if_neg (by omega)]
      have h1 : bit n i = 0 := by omega
      rw [h1] at hm
      exact ih k (i + 1) (by omega) (by omega) (by omega)
theorem num_Trail.is (n k : Nat) (hn : n < 2 ^ 64) (hk : 65 ≤ k) : num_Trail.f k n = some (tr n : Int) :=
  num_Trail.run n hn 64 k 0 (by omega) (by omega) (by simp [Nat.mod_one])
theorem place_Nodes.is (n k : Nat) (h : n ≤ 2 ^ 40) (hk : 65 ≤ k) : place_Nodes.f k n = some (((2 * n - ones n : Nat) : Int), true) := by
  unfold place_Nodes.f
  have h1 := ones_le_self n
  have h2 := ones_le n
  rw [if_neg (by omega), num_Ones.is n k (by omega) hk]
  simp only [Option.bind_some]
  rw [wrap_u64_in (2 * (n : Int)) (by omega) (by omega), wrap_u64_in ((ones n : Nat) : Int) (by omega) (by omega), wrap_u64_in _ (by omega) (by omega)]
  have e : 2 * (n : Int) - ((ones n : Nat) : Int) = ((2 * n - ones n : Nat) : Int) := by omega
  rw [e]
theorem place_Nodes.no (n : Nat) (k : Nat) (h : 2 ^ 40 < n) : place_Nodes.f k n = some (0, false) := by
  unfold place_Nodes.f; rw [if_pos (by omega)]
theorem place_Block.run (h : Nat) : ∀ (d K r k : Nat), r < 2 ^ d → May (h + d) K → d < k → place_Block.l0 k ((pl h (K * 2 ^ d + r) : Nat) : Int) ((pl (h + d) K : Nat) : Int) ((h + d : Nat) : Int) (K : Int) = some ((h : Int), ((K * 2 ^ d + r : Nat) : Int), true) := by
  intro d
  induction d with
  | zero =>
    intro K r k hr m hk
    obtain ⟨k, rfl⟩ : ∃ m, k = m + 1 := ⟨k - 1, by omega⟩
    have : r = 0 := by simpa using hr
    subst this
    simp only [place_Block.l0]
    rw [Nat.pow_zero, Nat.mul_one, Nat.add_zero, Nat.add_zero, if_pos rfl]
  | succ d ih =>
    intro K r k hr m hk
    obtain ⟨k, rfl⟩ : ∃ m, k = m + 1 := ⟨k - 1, by omega⟩
    obtain ⟨b1, b2, b3⟩ := pl_below h (d + 1) K r hr m
    have b2 := b2 (by omega)
    have m' : May (h + d + 1) K := m
    have hR := pl_right (h + d) K m'
    have hL := pl_left (h + d) K m'
    have hm1 := m.1
    have hpw := m.pow
    have hmax := pl_le_max m
    have hlt := m.lt
    have ep : 2 ^ (d + 1) = 2 * 2 ^ d := by rw [Nat.pow_succ, Nat.mul_comm]
    have hsh := shlc 1 (h + (d + 1)) (by omega) (by omega)
    rw [Nat.one_mul] at hsh
    simp only [place_Block.l0]
    rw [if_neg (by omega), if_pos (by omega), show shl .u64 1 ((h + (d + 1) : Nat) : Int) = ((2 ^ (h + (d + 1)) : Nat) : Int) from hsh]
    have e1 : ((pl (h + (d + 1)) K : Nat) : Int) - ((2 ^ (h + (d + 1)) : Nat) : Int) = ((pl (h + d) (2 * K) : Nat) : Int) := by
      have : pl (h + (d + 1)) K = pl (h + d + 1) K := rfl
      have : 2 ^ (h + (d + 1)) = 2 ^ (h + d + 1) := rfl
      omega
    have e2 : ((pl (h + (d + 1)) K : Nat) : Int) - 1 = ((pl (h + d) (2 * K + 1) : Nat) : Int) := by
      have : pl (h + (d + 1)) K = pl (h + d + 1) K := rfl
      omega
    have e3 : wrap64 (((h + (d + 1) : Nat) : Int) - 1) = ((h + d : Nat) : Int) := by rw [wrap64_in _ (by omega) (by omega)]; omega
    have hl0 := pl_le_max m'.left
    have hr0 := pl_le_max m'.right
    rw [e1, e2, e3, wrap_u64_in ((pl (h + d) (2 * K) : Nat) : Int) (by omega) (by omega), wrap_u64_in ((pl (h + d) (2 * K + 1) : Nat) : Int) (by omega) (by omega)]
    have e4 : IntKind.u64.wrap (2 * (K : Int)) = ((2 * K : Nat) : Int) := by rw [wrap_u64_in _ (by omega) (by omega)]; omega
    have e5 : IntKind.u64.wrap (((2 * K : Nat) : Int) + 1) = ((2 * K + 1 : Nat) : Int) := by rw [wrap_u64_in _ (by omega) (by omega)]; omega
    rw [e4, e5]
    by_cases hc : r < 2 ^ d
    · have em : K * 2 ^ (d + 1) + r = 2 * K * 2 ^ d + r := by rw [ep, ← Nat.mul_assoc, Nat.mul_comm K 2]
      rw [em] at b1 b2 b3 ⊢
      obtain ⟨c1, c2, c3⟩ := pl_below h d (2 * K) r hc m'.left
      rw [if_neg (by omega)]
      exact ih (2 * K) r k hc m'.left (by omega)
    · have em : K * 2 ^ (d + 1) + r = (2 * K + 1) * 2 ^ d + (r - 2 ^ d) := by
        rw [ep, ← Nat.mul_assoc, Nat.mul_comm K 2, Nat.add_mul]; omega
      rw [em] at b1 b2 b3 ⊢
      obtain ⟨c1, c2, c3⟩ := pl_below h d (2 * K + 1) (r - 2 ^ d) (by omega) m'.right
      have ep2 : 2 ^ (h + d + 1) = 2 * 2 ^ (h + d) := by rw [Nat.pow_succ, Nat.mul_comm]
      have hpp := two_pow_pos (h + d)
      rw [if_pos (by omega)]
      exact ih (2 * K + 1) (r - 2 ^ d) k (by omega) m'.right (by omega)
theorem place_Block.yes (h k K : Nat) (m : May h k) (hK : 42 ≤ K) : place_Block.f K ((pl h k : Nat) : Int) = some ((h : Int), (k : Int), true) := by
  unfold place_Block.f
  have hmax := pl_le_max m
  have h1 := m.1
  rw [if_neg (by omega)]
  have hr := place_Block.run h (40 - h) 0 k K (may_lt m) ⟨by omega, by rw [show h + (40 - h) = 40 from by omega]; omega⟩ (by omega)
  rw [show h + (40 - h) = 40 from by omega, Nat.zero_mul, Nat.zero_add, pl_top] at hr
  exact hr
theorem place_Block.no (p : Nat) (K : Nat) (h : 2199023255551 ≤ p) : place_Block.f K p = some (0, 0, false) := by
  unfold place_Block.f; rw [if_pos (by omega)]
/-- A place is that of one block alone. -/
theorem pl_inj {h k h' k' : Nat} (m : May h k) (m' : May h' k') (e : pl h k = pl h' k') : h = h' ∧ k = k' := by
  have a := place_Block.yes h k 42 m (by omega)
  have b := place_Block.yes h' k' 42 m' (by omega)
  rw [e, b] at a
  simp only [Option.some.injEq, Prod.mk.injEq] at a
  omega
theorem hash_first.is (a : Int) : hash_first.f a = some (strOfNums [a]) := rfl
theorem sha_Of.is1 (s : ByteArray) (h : s.size ≤ 9223372036854775807) : sha_Of.f [s] = some (Sha.sha (Sha.bI s)) := by
  unfold sha_Of.f
  rw [if_pos (by simpa using h)]
  simp
theorem hash_Of.is (k : Int) (s : ByteArray) (h : s.size ≤ 9223372036854775807) : hash_Of.f k s = some (MH.dig k s) := by
  have h1 := MH.hK_in k
  have h2 := MH.sha_size (Sha.bI s)
  unfold hash_Of.f
  rw [sha_Of.is1 s h]
  simp only [Option.bind_some]
  rw [MH.hK_cast, if_pos (by omega), if_pos (by omega)]
  rfl
theorem hash_LeafText.is (s : ByteArray) (h : 1 + s.size ≤ 9223372036854775807) : hash_LeafText.f s = some (MH.leafT s) := by
  unfold hash_LeafText.f
  rw [hash_first.is]
  simp only [Option.bind_some]
  rw [MH.str_size, if_pos (by simpa using h)]
  rfl
theorem hash_Leaf.is (k : Int) (s : ByteArray) (h : 1 + s.size ≤ 9223372036854775807) : hash_Leaf.f k s = some (MH.lf k s) := by
  unfold hash_Leaf.f
  rw [hash_LeafText.is s h]
  simp only [Option.bind_some]
  rw [hash_Of.is k _ (by rw [MH.leafT_size]; exact h)]
  rfl
theorem hash_NodeText.is (a b : ByteArray) (h : 1 + a.size + b.size ≤ 9223372036854775807) : hash_NodeText.f a b = some (MH.nodeT a b) := by
  unfold hash_NodeText.f
  rw [hash_first.is]
  simp only [Option.bind_some]
  rw [MH.str_size, if_pos (by simp; omega), ByteArray.size_append, MH.str_size, if_pos (by simp; omega)]
  rfl
theorem hash_Node.is (k : Int) (a b : ByteArray) (h : 1 + a.size + b.size ≤ 9223372036854775807) : hash_Node.f k a b = some (MH.nd k a b) := by
  unfold hash_Node.f
  rw [hash_NodeText.is a b h]
  simp only [Option.bind_some]
  rw [hash_Of.is k _ (by rw [MH.nodeT_size]; exact h)]
  rfl
theorem hash_BagText.is (a b : ByteArray) (h : 1 + a.size + b.size ≤ 9223372036854775807) : hash_BagText.f a b = some (MH.bagT a b) := by
  unfold hash_BagText.f
  rw [hash_first.is]
  simp only [Option.bind_some]
  rw [MH.str_size, if_pos (by simp; omega), ByteArray.size_append, MH.str_size, if_pos (by simp; omega)]
  rfl
theorem big_same (n : Int) : ∀ i, RootW.big n i = MH.big n i
  | 0 => rfl
  | i + 1 => by rw [RootW.big, MH.big, big_same n i]
theorem hash_RootText.is (n : Int) (d : ByteArray) (h : 9 + d.size ≤ 9223372036854775807) : hash_RootText.f n d = some (MH.rootT n d) := by
  unfold hash_RootText.f
  rw [if_pos h, big_same]
  rfl
theorem hash_Check.is (k : Int) : hash_Check.f k = some (if 1 ≤ k ∧ k ≤ 32 then 0 else 70) := by
  unfold hash_Check.f
  by_cases h1 : k < 1
  · rw [if_pos h1, if_neg (by omega)]
  · rw [if_neg h1]
    by_cases h2 : k > 32
    · rw [if_pos h2, if_neg (by omega)]
    · rw [if_neg h2, if_pos (by omega)]
theorem hash_Bagged.loop (k : Int) (l : List ByteArray) (B : Nat) (hB : 32 ≤ B) (hB2 : B ≤ 140737488351232) (hl : ∀ s ∈ l, s.size ≤ B) (hll : l.length ≤ 140737488351232) :
    ∀ (i K : Nat), i < K → i < l.length → hash_Bagged.l0 K k l (MH.bag k (l.drop i)) ((i : Int) - 1) = some (MH.bag k l) := by
  intro i
  induction i with
  | zero =>
    intro K hK hi
    obtain ⟨K, rfl⟩ : ∃ m, K = m + 1 := ⟨K - 1, by omega⟩
    rw [hash_Bagged.l0, if_neg (by omega), List.drop_zero]
  | succ i ih =>
    intro K hK hi
    obtain ⟨K, rfl⟩ : ∃ m, K = m + 1 := ⟨K - 1, by omega⟩
    have e0 : (((i + 1 : Nat) : Int) - 1) = (i : Int) := by omega
    have hil : i < l.length := by omega
    have hx : rdOf ByteArray.empty l (i : Int) = l[i] := by unfold rdOf; simp [hil]
    have hb := MH.bag_size k B hB (l.drop (i + 1)) (fun s hs => hl s (List.mem_of_mem_drop hs))
    have hs := hl l[i] (List.getElem_mem hil)
    rw [e0, hash_Bagged.l0, if_pos (by omega), if_pos (by omega), if_pos (by omega), hx, hash_BagText.is _ _ (by omega)]
    simp only [Option.bind_some]
    rw [hash_Of.is k _ (by rw [MH.bagT_size]; omega)]
    simp only [Option.bind_some]
    rw [IntWalk.wrap64_in _ (by omega)]
    have hd : l.drop i = l[i] :: l.drop (i + 1) := List.drop_eq_getElem_cons hil
    have hd1 : l.drop (i + 1) = l[i + 1] :: l.drop (i + 2) := List.drop_eq_getElem_cons hi
    have := ih K (by omega) (by omega)
    rw [hd, hd1, MH.bag_two, ← hd1] at this
    exact this
theorem hash_Bagged.is (K : Nat) (k : Int) (l : List ByteArray) (B : Nat) (hB : 32 ≤ B) (hB2 : B ≤ 140737488351232) (hl : ∀ s ∈ l, s.size ≤ B) (hll : l.length ≤ 140737488351232) (hK : l.length ≤ K) :
    hash_Bagged.f K k l = some (MH.bag k l) := by
  unfold hash_Bagged.f
  by_cases h0 : l = []
  · subst h0
    rw [if_pos (by simp)]; rfl
  · have hp : 0 < l.length := List.length_pos_iff.2 h0
    rw [if_neg (by omega), IntWalk.wrap64_in _ (by omega), IntWalk.wrap64_in _ (by omega), if_pos (by omega), if_pos (by omega)]
    have e : ((l.length : Int) - 1) = ((l.length - 1 : Nat) : Int) := by omega
    have hx : rdOf ByteArray.empty l ((l.length : Int) - 1) = l[l.length - 1] := by unfold rdOf; rw [e]; simp [show l.length - 1 < l.length from by omega]
    have hd : l.drop (l.length - 1) = [l[l.length - 1]] := by
      rw [List.drop_eq_getElem_cons (by omega), show l.length - 1 + 1 = l.length from by omega, List.drop_length]
    have := hash_Bagged.loop k l B hB hB2 hl hll (l.length - 1) K (by omega) (by omega)
    rw [hd, MH.bag_one] at this
    rw [hx, show ((l.length : Int) - 2) = ((l.length - 1 : Nat) : Int) - 1 from by omega]
    exact this
theorem hash_Root.is (K : Nat) (k n : Int) (l : List ByteArray) (B : Nat) (hB : 32 ≤ B) (hB2 : B ≤ 140737488351232) (hl : ∀ s ∈ l, s.size ≤ B) (hll : l.length ≤ 140737488351232) (hK : l.length ≤ K) :
    hash_Root.f K k n l = some (MH.rootD k n l) := by
  have hb := MH.bag_size k B hB l hl
  unfold hash_Root.f
  rw [hash_Bagged.is K k l B hB hB2 hl hll hK]
  simp only [Option.bind_some]
  rw [hash_RootText.is _ _ (by omega)]
  simp only [Option.bind_some]
  rw [hash_Of.is k _ (by rw [MH.rootT_size]; omega)]
  rfl

end Go.Proofs.Ytelhpamhnnjgaaa.PForestFresh
