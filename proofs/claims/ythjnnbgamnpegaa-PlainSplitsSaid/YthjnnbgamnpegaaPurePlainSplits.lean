/- massiflaw08.PlainSplits answers true for every strength and every list of texts that a call may be handed. No further condition. -/
import Derived.Test.YthjnnbgamnpegaaQPlainSplits
set_option linter.unusedVariables false
namespace Go.Proofs.Ythjnnbgamnpegaa.Pure
open Go Go.RowKit Go.Proofs.Ythjnnbgamnpegaa.PPlainSplits Go.Proofs.YthjnnbgamnpegaaW.PrintWords Go.Proofs.YthjnnbgamnpegaaW.PrintLast Go.Proofs.Ythjnnbgamnpegaa Go.Proofs.Ythjnnbgamnpegaa.MB
theorem shli (x h : Nat) (hh : h ≤ 40) (hx : x * 2 ^ h ≤ 9223372036854775807) : shl .i64 (x : Int) (h : Int) = ((x * 2 ^ h : Nat) : Int) := by
  unfold shl
  have e1 : min ((h : Int)).toNat IntKind.i64.bits = h := by simp [IntKind.bits]; omega
  rw [e1]
  have e2 : (x : Int) * 2 ^ h = ((x * 2 ^ h : Nat) : Int) := by simp
  rw [e2, i64_w]
  exact IntWalk.wrap64_in _ (by omega)
theorem wadd (a b : Nat) (h : a + b ≤ 9223372036854775807) : wrap64 ((a : Int) + (b : Int)) = ((a + b : Nat) : Int) := by
  rw [IntWalk.wrap64_in _ (by omega)]; omega
theorem no_text : ((⟨#[]⟩ : ByteArray).toList == ([] : List UInt8)) = true := by decide +kernel
theorem shri (x h : Nat) (hh : h ≤ 40) : shr .i64 (x : Int) (h : Int) = ((x / 2 ^ h : Nat) : Int) := by
  unfold shr
  have e1 : min ((h : Int)).toNat IntKind.i64.bits = h := by simp [IntKind.bits]; omega
  rw [e1]; simp
theorem stretch (k : Int) (l : List ByteArray) (n d : Nat) (h : n < 2 ^ d) : ∀ e, MT.pkL k l n (d + e) = MT.pkL k l n d := by
  intro e
  induction e with
  | zero => rfl
  | succ e ih =>
    have : 2 ^ d ≤ 2 ^ (d + e) := Nat.pow_le_pow_right (by omega) (by omega)
    rw [← Nat.add_assoc, MT.pkL_no k l n (d + e) (by unfold bit; rw [Nat.div_eq_of_lt (by omega)]), ih]
/-- The walk down a tree's right edge. -/
theorem edge (k : Int) (l acc : List ByteArray) (hn : l.length ≤ 1048576) (hs : ∀ s ∈ l, s.size ≤ 140737488351232) (x6 : Int) (d : Nat) (hd : d ≤ 20) (x9 : ByteArray) (ha : acc.length ≤ 1000) :
    ∀ (h i K : Nat), h ≤ 20 → (i + 1) * 2 ^ h ≤ l.length → 100 ≤ K → massiflaw08_PlainSplits.l2 (K + h + 1) k l acc x6 (d : Int) x9 (h : Int) (i : Int) = massiflaw08_PlainSplits.l0 K k l (acc ++ [x9]) (wrap64 (x6 + (shl .i64 1 (d : Int)))) := by
  intro h
  induction h with
  | zero =>
    intro i K _ hi hK
    rw [Nat.pow_zero, Nat.mul_one] at hi
    have hil : i < l.length := by omega
    have hx : rdOf ByteArray.empty l (i : Int) = l[i] := by unfold rdOf; simp [hil]
    have hsi := hs l[i] (List.getElem_mem hil)
    have ed : IntKind.u64.wrap (d : Int) = d := IntWalk.u64_in _ (by omega)
    rw [Nat.add_zero, massiflaw08_PlainSplits.l2, if_neg (by omega), plain_Tree.is K k l 0 i (by omega) (by omega) (by omega) hs (by omega)]
    simp only [Option.bind_some, if_true]
    rw [if_pos (by omega), if_pos (by omega), hx, hash_Leaf.is k _ (by omega)]
    simp only [Option.bind_some]
    rw [if_pos (by rw [MT.trB_leaf k l i hil]), if_pos (by omega), ed, if_pos (by omega)]
  | succ h ih =>
    intro i K hh hi hK
    have ep : 2 ^ (h + 1) = 2 * 2 ^ h := by rw [Nat.pow_succ, Nat.mul_comm]
    have hp := two_pow_pos h
    have e0 : (2 * i + 1 + 1) * 2 ^ h = (i + 1) * (2 * 2 ^ h) := by rw [← Nat.mul_assoc]; congr 1; omega
    have e1 : (2 * i + 1) * 2 ^ h + 2 ^ h = (2 * i + 1 + 1) * 2 ^ h := by rw [Nat.add_mul (2 * i + 1) 1, Nat.one_mul]
    have hi2 : 2 * i + 1 ≤ (2 * i + 1) * 2 ^ h := Nat.le_mul_of_pos_right _ hp
    have hi3 : (2 * i + 1 + 1) * 2 ^ h ≤ l.length := by rw [e0, ← ep]; exact hi
    have hi4 : (2 * i + 1) * 2 ^ h ≤ l.length := by omega
    have hb : 2 * i + 1 ≤ l.length := Nat.le_trans hi2 hi4
    have s1 := MT.trB_size k l (h, 2 * i)
    have s2 := MT.trB_size k l (h, 2 * i + 1)
    have hk := (MH.hK_in k).2
    have w1 : wrap64 (((h + 1 : Nat) : Int) - 1) = (h : Int) := by rw [IntWalk.wrap64_in _ (by omega)]; omega
    have w2 : IntKind.u64.wrap (2 * (i : Int)) = ((2 * i : Nat) : Int) := by rw [IntWalk.u64_in _ (by omega)]; omega
    have w3 : IntKind.u64.wrap (((2 * i : Nat) : Int) + 1) = ((2 * i + 1 : Nat) : Int) := by rw [IntWalk.u64_in _ (by omega)]; omega
    rw [show K + (h + 1) + 1 = (K + h + 1) + 1 from by omega, massiflaw08_PlainSplits.l2, if_pos (by omega), w1, w2, w3,
      plain_Tree.is (K + h + 1) k l (h + 1) i (by omega) hi (by omega) hs (by omega)]
    simp only [Option.bind_some]
    rw [plain_Tree.is (K + h + 1) k l h (2 * i) (by omega) hi4 (by omega) hs (by omega)]
    simp only [Option.bind_some]
    rw [plain_Tree.is (K + h + 1) k l h (2 * i + 1) (by omega) hi3 (by omega) hs (by omega)]
    simp only [Option.bind_some, if_true]
    rw [hash_Node.is k _ _ (by omega)]
    simp only [Option.bind_some]
    rw [if_pos (by rw [MT.trB_node k l h i])]
    exact ih (2 * i + 1) K (by omega) hi3 hK
/-- The search of a height. -/
theorem climb (k : Int) (l acc : List ByteArray) (hn : l.length ≤ 1048576) (a d : Nat) (hd : d ≤ 20) (h1 : a + 2 ^ d ≤ l.length) : ∀ (e i K : Nat), i + e = d → massiflaw08_PlainSplits.l1 (K + e) k l acc (a : Int) (i : Int) = massiflaw08_PlainSplits.l1 K k l acc (a : Int) (d : Int) := by
  intro e
  induction e with
  | zero => intro i K h; rw [show i = d from h]; rfl
  | succ e ih =>
    intro i K h
    have ep : 2 ^ (i + 1) = 2 * 2 ^ i := by rw [Nat.pow_succ, Nat.mul_comm]
    have hle : 2 ^ (i + 1) ≤ 2 ^ d := Nat.pow_le_pow_right (by omega) (by omega)
    have hle2 : 2 ^ d ≤ 1048576 := Nat.pow_le_pow_right (n := 2) (by omega) (show d ≤ 20 from by omega)
    have hi := ih (i + 1) K (by omega)
    have ei : IntKind.u64.wrap (i : Int) = i := IntWalk.u64_in _ (by omega)
    have es := shli 2 i (by omega) (by omega)
    have e1 := wadd a (2 * 2 ^ i) (by omega)
    have e2 : wrap64 ((i : Int) + 1) = ((i + 1 : Nat) : Int) := by rw [IntWalk.wrap64_in _ (by omega)]; omega
    rw [show K + (e + 1) = (K + e) + 1 from rfl, massiflaw08_PlainSplits.l1, ei, if_pos (Int.natCast_nonneg i), show (2 : Int) = ((2 : Nat) : Int) from rfl, es, e1, e2, if_pos (by omega)]
    exact hi
theorem sizes (a p r n : Nat) (h : a + (p + r) = n) (hr : r < p) (hn : n ≤ 1048576) : a + 2 * p ≤ 9223372036854775807 ∧ a + 1 * p ≤ 9223372036854775807 ∧ 2 * p ≤ 9223372036854775807 ∧ 1 * p ≤ 9223372036854775807 ∧ (a : Int) < (n : Int) ∧ ¬ ((a + 2 * p : Nat) : Int) ≤ (n : Int) ∧ a + p ≤ n := by
  refine ⟨by omega, by omega, by omega, by omega, by omega, by omega, by omega⟩
theorem run (k : Int) (l : List ByteArray) (hn : l.length ≤ 1048576) (hs : ∀ s ∈ l, s.size ≤ 140737488351232) (P : List ByteArray) (hend : ∀ K, 4300 ≤ K → massiflaw08_PlainSplits.l0 K k l P (l.length : Int) = some true) :
    ∀ (d K : Nat) (acc : List ByteArray), d ≤ 20 → 100 * d + 4300 ≤ K → acc.length + d ≤ 1000 → acc ++ MT.pkL k l l.length d = P → massiflaw08_PlainSplits.l0 K k l acc ((l.length / 2 ^ d * 2 ^ d : Nat) : Int) = some true := by
  intro d
  induction d with
  | zero =>
    intro K acc _ hK ha hP
    rw [MT.pkL_none k l l.length 0 (Nat.mod_one _), List.append_nil] at hP
    rw [Nat.pow_zero, Nat.div_one, Nat.mul_one, hP]
    exact hend K (by omega)
  | succ d ih =>
    intro K acc hd hK ha hP
    have hb := bit_lt l.length d
    by_cases e : bit l.length d = 1
    · obtain ⟨K, rfl⟩ : ∃ m, K = ((m + d + 1) + 1 + d) + 1 := ⟨K - d - d - 3, by omega⟩
      have hd2 : d ≤ 20 := by omega
      have ha2 : acc.length ≤ 1000 := by omega
      have hK2 : 100 ≤ K := by omega
      have hK3 : 42 ≤ K + d + 1 := by omega
      have hd3 : d ≤ 40 := by omega
      have ed : IntKind.u64.wrap (d : Int) = d := IntWalk.u64_in _ (by omega)
      have hn2 : l.length ≤ 2 ^ 40 := by omega
      have sm : ∀ i : Nat, i ≤ l.length → IntKind.u64.wrap (i : Int) = i := fun i h => IntWalk.u64_in _ (by omega)
      have hm := mod_succ l.length d
      rw [e, Nat.mul_one] at hm
      have hr := MT.lo_rest l.length (d + 1)
      have h1 := MT.hi_one l.length d e
      have h2 := MT.hi_step l.length d
      rw [e, Nat.one_mul] at h2
      have hp := two_pow_pos d
      have hlt := Nat.mod_lt l.length hp
      have hq : l.length / 2 ^ d - 1 + 1 = l.length / 2 ^ d := by
        have h3 := half_up l.length d
        rw [e] at h3
        omega
      have hqd : (l.length / 2 ^ (d + 1) * 2 ^ (d + 1)) / 2 ^ d = l.length / 2 ^ d - 1 := by rw [h1, Nat.mul_div_cancel _ hp]
      have hlen : (l.length / 2 ^ d - 1 + 1) * 2 ^ d ≤ l.length := by rw [hq]; exact Nat.div_mul_le_self _ _
      rw [MT.pkL_one k l l.length d e] at hP
      obtain ⟨a, ea⟩ : ∃ a, a = l.length / 2 ^ (d + 1) * 2 ^ (d + 1) := ⟨_, rfl⟩
      obtain ⟨i, ei⟩ : ∃ i, i = l.length / 2 ^ d - 1 := ⟨_, rfl⟩
      obtain ⟨r, er⟩ : ∃ r, r = l.length % 2 ^ d := ⟨_, rfl⟩
      rw [← er] at hlt hm
      rw [← ei] at hqd hlen hP
      rw [← ea] at hr h1 h2 hqd
      rw [hm] at hr
      have hih := ih K (acc ++ [MT.trB k l (d, i)]) (by omega) (by omega) (by rw [List.length_append]; simp; omega) (by rw [List.append_assoc]; exact hP)
      obtain ⟨z1, z2, z3, z4, c1, c2, z5⟩ := sizes a (2 ^ d) r l.length (by rw [Nat.add_comm (2 ^ d)]; exact hr) hlt hn
      have hcl := climb k l acc hn a d hd2 z5 d 0 (K + d + 1 + 1) (Nat.zero_add d)
      have hed := edge k l acc hn hs (a : Int) d hd2 (MT.trB k l (d, i)) ha2 d i K hd2 hlen hK2
      have es := shli 2 d hd3 z3
      have es1 := shli 1 d hd3 z4
      have e1 := wadd a (2 * 2 ^ d) z1
      have e3 := wadd a (1 * 2 ^ d) z2
      rw [Nat.one_mul, ← h2] at e3
      rw [Nat.one_mul] at es1
      have hle : i ≤ l.length := Nat.le_trans (Nat.le_mul_of_pos_right _ hp) (Nat.le_trans (Nat.mul_le_mul_right _ (Nat.le_succ i)) hlen)
      have ehi : IntKind.u64.wrap (i : Int) = i := sm i hle
      have tr := plain_Tree.is (K + d + 1) k l d i hd3 hlen hn2 hs hK3
      have sa := shri a d hd3
      rw [← ea, massiflaw08_PlainSplits.l0, if_pos c1, show (0 : Int) = ((0 : Nat) : Int) from rfl, hcl, massiflaw08_PlainSplits.l1, ed, if_pos (Int.natCast_nonneg d), show (2 : Int) = ((2 : Nat) : Int) from rfl, es, e1, if_neg c2, sa, hqd, ehi, tr]
      simp only [Option.bind_some, if_true]
      rw [hed, show (1 : Int) = ((1 : Nat) : Int) from rfl, es1, e3]
      exact hih
    · have e0 : bit l.length d = 0 := by omega
      have h2 := MT.hi_step l.length d
      rw [e0, Nat.zero_mul, Nat.add_zero] at h2
      rw [← h2]
      exact ih K acc (by omega) (by omega) (by omega) (by rw [← MT.pkL_no k l l.length d e0]; exact hP)
/-- The end: the root's own asks. -/
theorem ends (k : Int) (l : List ByteArray) (hn : l.length ≤ 300) (hs : ∀ s ∈ l, s.size ≤ 140737488351232) (K : Nat) (hK : 4300 ≤ K) : massiflaw08_PlainSplits.l0 K k l (MT.pks k l) (l.length : Int) = some true := by
  obtain ⟨K, rfl⟩ : ∃ m, K = m + 1 + 1 := ⟨K - 2, by omega⟩
  have hpl := MT.pkL_len k l l.length 41
  have hps : (MT.pks k l).length ≤ 41 := hpl
  rw [massiflaw08_PlainSplits.l0, if_neg (by omega), len_u64 l (by omega)]
  by_cases c : 1 ≤ k ∧ k ≤ 32
  · have hr := plain_Root.is (K + 1) k l l.length c (Nat.le_refl _) (by omega) hs (by omega)
    rw [List.take_length] at hr
    rw [hr]
    simp only [Option.bind_some]
    rw [if_neg (by omega), decide_eq_false (by omega), massiflaw08_PlainSplits.j3, if_neg (by decide), if_pos rfl, plain_Peaks.is K k l (by omega) hs (by omega)]
    simp only [Option.bind_some]
    rw [massiflaw08_same.is K _ (by omega) (by omega)]
    simp only [Option.bind_some, if_true]
    rw [len_u64 l (by omega), hash_Root.is K k (l.length : Int) (MT.pks k l) 32 (Nat.le_refl _) (by omega) (MT.pkL_size k _ _ _) (by omega) (by omega)]
    simp
  · rw [plain_Root.strength (K + 1) k l _ c]
    simp only [Option.bind_some]
    by_cases c1 : k < 1
    · rw [if_pos c1, massiflaw08_PlainSplits.j3, if_pos rfl, if_pos rfl, no_text]; rfl
    · rw [if_neg c1, decide_eq_true (by omega), massiflaw08_PlainSplits.j3, if_pos rfl, if_pos rfl, no_text]; rfl
theorem PlainSplits : ∀ (a0 : Int) (l1 : List ByteArray), (Lit.int .i64 a0).wf = true → l1.length * 16 ≤ 140737488351232 → (∀ s ∈ l1, s.size ≤ 140737488351232) → ∃ k, massiflaw08_PlainSplits.f k a0 l1 = some true := by
  intro k l _ _ h1
  refine ⟨7000, ?_⟩
  have f0 := fewL_len l
  have s0 : ∀ s ∈ fewL l, s.size ≤ 140737488351232 := fun s h => h1 s (fewL_mem l s h)
  have hcut : MT.pkL k (fewL l) (fewL l).length 20 = MT.pks k (fewL l) := by
    unfold MT.pks
    exact (stretch k (fewL l) (fewL l).length 20 (by omega) 21).symm
  have hr := run k (fewL l) (by omega) s0 (MT.pks k (fewL l)) (fun K hK => ends k (fewL l) f0 s0 K hK) 20 7000 [] (by omega) (by omega) (by simp) (by rw [List.nil_append, hcut])
  rw [Nat.div_eq_of_lt (show (fewL l).length < 2 ^ 20 from by omega), Nat.zero_mul] at hr
  unfold massiflaw08_PlainSplits.f
  rw [massiflaw08_alive.is 7000 (by omega), Option.bind_some, if_pos rfl, massiflaw08_few.is, Option.bind_some]
  exact hr
end Go.Proofs.Ythjnnbgamnpegaa.Pure
