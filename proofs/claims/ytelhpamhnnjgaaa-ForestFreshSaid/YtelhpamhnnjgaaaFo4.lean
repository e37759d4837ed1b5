/- Package forest: Node, Root. No condition beyond those that each theorem names. -/
import Derived.Test.YtelhpamhnnjgaaaFo3
set_option linter.unusedVariables false
set_option linter.unusedSimpArgs false
namespace Go.Proofs.Ytelhpamhnnjgaaa.Fo
open Go.RowKit Go.Proofs.Ytelhpamhnnjgaaa.MB Go.Proofs.Ytelhpamhnnjgaaa.Pk Go.Proofs.YtelhpamhnnjgaaaW.PrintWords Go.Proofs.YtelhpamhnnjgaaaW.PrintLast Go.Proofs.YtelhpamhnnjgaaaW.PrintMore Go.Proofs.Ytelhpamhnnjgaaa.PForestFresh Go.Proofs.Ytelhpamhnnjgaaa.Ob
theorem mtS_fit (n : Nat) : ∀ d, ∀ b ∈ mtS n d, (b.2 + 1) * 2 ^ b.1 ≤ n
  | 0, b, hb => by simp [mtS] at hb
  | d + 1, b, hb => by
    rw [mtS, List.mem_append] at hb
    rcases hb with h | h
    · by_cases e : bit n d = 1
      · rw [if_pos e, List.mem_singleton] at h
        subst h
        have h1 : 0 < n / 2 ^ d := by
          rcases Nat.eq_zero_or_pos (n / 2 ^ d) with h0 | h0
          · unfold bit at e; rw [h0] at e; cases e
          · exact h0
        show (n / 2 ^ d - 1 + 1) * 2 ^ d ≤ n
        rw [Nat.sub_add_cancel h1]; exact Nat.div_mul_le_self _ _
      · rw [if_neg e] at h; cases h
    · exact mtS_fit n d b h
theorem fo_in (k : Int) (l : List ByteArray) (h i : Nat) (hf : (i + 1) * 2 ^ h ≤ l.length) : fo k l (h : Int) (i : Int) = some (MT.trB k l (h, i)) := by
  unfold fo; rw [Int.toNat_natCast, Int.toNat_natCast, if_pos ⟨by omega, by omega, hf⟩]
theorem fo_out (k : Int) (l : List ByteArray) (h i : Nat) (hf : ¬ (i + 1) * 2 ^ h ≤ l.length) : fo k l (h : Int) (i : Int) = none := by
  unfold fo; rw [Int.toNat_natCast, Int.toNat_natCast, if_neg (fun h => hf h.2.2)]
theorem node_in (w : World) (hb : Nat) (ok : Nat → Prop) (k : Int) (n : Nat) (F : Int → Int → Option ByteArray) (h : Fr w hb ok k n F) (hn : n ≤ 2 ^ 40) (a i : Nat) (m : May a i) (p : Nat) (hp : p = pl a i) (hpn : p < 2 * n - ones n) :
    Calls Try.prog 16 #[.pointer (some ⟨hb, 0, none⟩), .int .u64 (p : Int)] w fun e w' => e = .returned (.tuple #[.string ((F (a : Int) (i : Int)).getD ⟨#[]⟩), .bool (F (a : Int) (i : Int)).isSome]) ∧ Below w.heap.size w w' := by
  have HF := Aside0.mk h
  have HNO := Aside0.mk (place_Nodes.is n 65 hn (Nat.le_refl _))
  have hbl := place_Block.yes a i 42 m (Nat.le_refl _)
  rw [← hp] at hbl
  have HBL := Aside0.mk hbl
  have HM := Aside0.mk m
  obtain ⟨h0, bm, _, _, h1, _⟩ := h
  have hc : w.cell? ⟨hb, 1, none⟩ = some (.int .u64 (n : Int)) := by simp [World.cell?, h1]
  obtain ⟨q, hq⟩ : ∃ q, q = 2 * n - ones n := ⟨_, rfl⟩
  rw [← hq] at hpn HNO
  have t1 : decide ((p : Int) ≥ (q : Int)) = false := decide_eq_false (by omega)
  have t2 : decide ((q : Int) ≤ (p : Int)) = false := decide_eq_false (by omega)
  have t3 : decide (q ≤ p) = false := decide_eq_false (by omega)
  clear h1 hbl m hp hq hpn
  go_enter Try.func16, Try.ntmps16
  go_wp2_with (fail)
  refine (place_Nodes.calls 65 n _ _ _ HNO.out).mono ?_
  rintro e w1 ⟨rfl, hd1⟩
  have HB1 := Aside0.mk hd1.below
  clear hd1
  go_wp2_with (fail)
  refine (place_Block.calls 42 p _ _ _ _ HBL.out).mono ?_
  rintro e w2 ⟨rfl, hb2⟩
  have HB2 := Aside0.mk (below_weaken HB1.out HB1.out.size hb2)
  clear hb2
  go_wp2_with (fail)
  have HB20 := Aside0.mk (below_alloc HB2.out (.cells #[.int .i64 (a : Int), .int .u64 (i : Int)] 45))
  refine (digest_calls _ hb ok k n F (HF.out.below HB20.out) a i (WalkArith.wf_i64 (by have := HM.out.1; omega)) (WalkArith.wf_u64 (by have := HM.out.lt; omega))).mono ?_
  rintro e w3 ⟨rfl, hb3⟩
  have HB3 := Aside0.mk (below_weaken HB20.out HB20.out.size hb3)
  clear hb3
  go_wp2_with (fail)
  go_ret2
  exact ⟨rfl, HB3.out⟩
theorem node_out (w : World) (hb : Nat) (ok : Nat → Prop) (k : Int) (n : Nat) (F : Int → Int → Option ByteArray) (h : Fr w hb ok k n F) (hn : n ≤ 2 ^ 40) (p : Int) (hpn : ((2 * n - ones n : Nat) : Int) ≤ p) :
    Calls Try.prog 16 #[.pointer (some ⟨hb, 0, none⟩), .int .u64 p] w fun e w' => e = .returned (.tuple #[.string ⟨#[]⟩, .bool false]) ∧ Below w.heap.size w w' := by
  have HNO := Aside0.mk (place_Nodes.is n 65 hn (Nat.le_refl _))
  obtain ⟨h0, bm, _, _, h1, _⟩ := h
  have hc : w.cell? ⟨hb, 1, none⟩ = some (.int .u64 (n : Int)) := by simp [World.cell?, h1]
  obtain ⟨q, hq⟩ : ∃ q, q = 2 * n - ones n := ⟨_, rfl⟩
  rw [← hq] at hpn HNO
  have t1 : decide (p ≥ (q : Int)) = true := decide_eq_true (by omega)
  have t2 : decide ((q : Int) ≤ p) = true := decide_eq_true (by omega)
  clear h1 hq hpn
  go_enter Try.func16, Try.ntmps16
  go_wp2_with (fail)
  refine (place_Nodes.calls 65 n _ _ _ HNO.out).mono ?_
  rintro e w1 ⟨rfl, hd1⟩
  have HB1 := Aside0.mk hd1.below
  clear hd1
  go_wp2_with (fail)
  go_ret2
  exact ⟨rfl, HB1.out⟩
/-- A beginning's root. -/
def rtD (k : Int) (l : List ByteArray) (n : Nat) : ByteArray := MH.rootD k n ((mtS n 41).map (MT.trB k l))
set_option maxHeartbeats 4000000 in
set_option maxRecDepth 100000 in
theorem root_calls (w : World) (hb : Nat) (ok : Nat → Prop) (k : Int) (l : List ByteArray) (h : Fr w hb ok k l.length (fo k l)) (hl : l.length ≤ 2 ^ 40) (n : Nat) (hn : n ≤ l.length) :
    Calls Try.prog 12 #[.pointer (some ⟨hb, 0, none⟩), .int .u64 (n : Int)] w fun e w' => e = .returned (.tuple #[.agg #[.int .u64 (n : Int), .string (rtD k l n)], .int .i64 0]) ∧ Below w.heap.size w w' := by
  have HFR := Aside0.mk h
  have HLT := Aside0.mk h.lt
  obtain ⟨q, hq⟩ : ∃ q, q = l.length := ⟨_, rfl⟩
  have hle := mtS_le n 41
  obtain ⟨bs, hbs⟩ : ∃ bs, bs = mtS n 41 := ⟨_, rfl⟩
  obtain ⟨ps, hps⟩ : ∃ ps, ps = bs.map (MT.trB k l) := ⟨_, rfl⟩
  have hrt : hash_Root.f 100 k n ps = some (rtD k l n) := by
    rw [hash_Root.is 100 k n ps 32 (Nat.le_refl _) (by omega) (fun s hs => ?_) (by rw [hps, List.length_map, hbs]; omega) (by rw [hps, List.length_map, hbs]; omega), hps, hbs]; rfl
    rw [hps] at hs; obtain ⟨b, _, rfl⟩ := List.mem_map.1 hs; rw [MT.trB_size]; exact (MH.hK_in k).2
  obtain ⟨r, hr⟩ : ∃ r, r = rtD k l n := ⟨_, rfl⟩
  rw [← hr] at hrt ⊢
  have hmt := cover_Mountains.is n 120 (by omega) (Nat.le_refl _)
  rw [← hbs] at hmt hle
  have HMT := Aside0.mk hmt
  have HRT := Aside0.mk hrt
  have HLE := Aside0.mk (show bs.length ≤ 100 from by omega)
  have HBS := Aside0.mk (show ∀ b ∈ bs, fo k l (b.1 : Int) (b.2 : Int) = some (MT.trB k l b) ∧ b.1 ≤ 64 ∧ b.2 ≤ 2 ^ 40 from fun b hb => by
    rw [hbs] at hb
    have m := mtS_may n (by omega) 41 (Nat.le_refl _) b hb
    exact ⟨fo_in k l b.1 b.2 (Nat.le_trans (mtS_fit n 41 b hb) hn), by have := m.1; omega, by have := m.lt; omega⟩)
  have HPS := Aside0.mk hps
  obtain ⟨h0, bm, _, _, h1, _⟩ := h
  rw [← hq] at h1
  have c0 : w.cell? ⟨hb, 0, none⟩ = some (.int .i64 k) := by simp [World.cell?, h1]
  have c1 : w.cell? ⟨hb, 1, none⟩ = some (.int .u64 (q : Int)) := by simp [World.cell?, h1]
  have C0 := Aside0.mk c0
  have hB0 := below_alloc (Below.refl _ w) (.cells #[.int .u64 0, .string ⟨#[]⟩] 34)
  have b1 := (hB0.cell HLT.out).trans c1
  have HB0 := Aside0.mk hB0
  have HK0 := Aside0.mk (blk_new w (.cells #[.int .u64 0, .string ⟨#[]⟩] 34))
  clear hB0 c1
  have t1 : decide ((n : Int) > (q : Int)) = false := decide_eq_false (by omega)
  have t2 : decide ((q : Int) < (n : Int)) = false := decide_eq_false (by omega)
  have t3 : decide (q < n) = false := decide_eq_false (by omega)
  clear h1 hq hle hbs hps hrt hr hmt c0
  go_enter Try.func12, Try.ntmps12
  go_wp2_with (fail)
  refine (cover_Mountains.calls 120 n _ _ _ HMT.out).mono ?_
  rintro e w1 ⟨v1, rfl, hr1, hb1⟩
  obtain ⟨A1, c2, rfl, hcc, hC1⟩ := Kd.R_reads hr1
  rw [blks_length] at hcc hC1
  rw [blks_length]
  have HB1 := Aside0.mk (below_weaken HB0.out HB0.out.size hb1)
  have HK1 := Aside0.mk (blk_below HK0.out hb1)
  have HC1 := Aside0.mk hC1
  clear hr1 hb1 hC1 hcc
  go_wp2_with (fail)
  refine (digests_calls w1 hb ok k l.length (fo k l) (HFR.out.below HB1.out) A1 c2 bs (MT.trB k l) HC1.out HLE.out HBS.out).mono ?_
  rw [← HPS.out]
  rintro e w2 ⟨v2, rfl, hr2, hb2⟩
  obtain ⟨A2, c3, rfl, hcc, hC2⟩ := Kd.R_reads hr2
  have HB2 := Aside0.mk (below_weaken HB1.out HB1.out.size hb2)
  have HK2 := Aside0.mk (blk_below HK1.out hb2)
  have HC2 := Aside0.mk hC2
  have HCC := Aside0.mk hcc
  clear hr2 hb2 hC2 hcc
  have e0 := (HB2.out.cell HLT.out).trans C0.out
  go_wp2_with (fail)
  refine (hash_Root.calls 100 k n A2 c3 ps r _ HC2.out HCC.out HRT.out).mono ?_
  rintro e w3 ⟨rfl, hb3⟩
  have HB3 := Aside0.mk (below_weaken HB2.out HB2.out.size hb3)
  have HK3 := Aside0.mk (blk_below HK2.out hb3)
  clear hb3 e0
  go_wp2_with (first | ((with_reducible refine gate_store (t := 34) (x := .tmp 4) (v := .tmp 40) rfl ?_); refine Sha.wpList_store_row' rfl 34 (.tmp 4) (.tmp 40) rfl w.heap.size rfl _ rfl _ 34 HK3.out rfl (by kernel_rfl) (by intro v hv; simp at hv; rcases hv with rfl | rfl <;> rfl) ?_; intro w4 hw4; have HW4 := Aside0.mk hw4; clear hw4))
  have hB4 : Below w.heap.size w w4 := by
    rw [HW4.out]
    have h3 := HB3.out
    exact ⟨h3.os, h3.tape, h3.output, by simpa using h3.size, fun j hj => (setRow_other w3 w.heap.size j _ (Nat.ne_of_lt hj)).trans (h3.block j hj)⟩
  refine bodyPost_ret (results_ct rfl _ _ w.heap.size 34 #[.int .u64 (n : Int), .string r] (0, 0) _ rfl ?hp Try.underlying34 rfl (by kernel_rfl)) rfl ⟨rfl, hB4⟩
  case hp => rw [HW4.out]; exact setRow_heap _ _ _ _ _ _ HK3.out
theorem root_no (w : World) (hb : Nat) (ok : Nat → Prop) (k : Int) (q : Nat) (F : Int → Int → Option ByteArray) (h : Fr w hb ok k q F) (n : Int) (hn : (q : Int) < n) :
    Calls Try.prog 12 #[.pointer (some ⟨hb, 0, none⟩), .int .u64 n] w fun e w' => e = .returned (.tuple #[.agg #[.int .u64 0, .string ⟨#[]⟩], .int .i64 30]) ∧ Below w.heap.size w w' := by
  have HLT := Aside0.mk h.lt
  obtain ⟨h0, bm, _, _, h1, _⟩ := h
  have c1 : w.cell? ⟨hb, 1, none⟩ = some (.int .u64 (q : Int)) := by simp [World.cell?, h1]
  have hB0 := below_alloc (Below.refl _ w) (.cells #[.int .u64 0, .string ⟨#[]⟩] 34)
  have b1 := (hB0.cell HLT.out).trans c1
  have HB0 := Aside0.mk hB0
  have HK0 := Aside0.mk (blk_new w (.cells #[.int .u64 0, .string ⟨#[]⟩] 34))
  have t1 : decide (n > (q : Int)) = true := decide_eq_true hn
  have t2 : decide ((q : Int) < n) = true := decide_eq_true hn
  clear hB0 c1 h1 hn
  go_enter Try.func12, Try.ntmps12
  go_wp2_with (fail)
  refine bodyPost_ret (results_ct rfl _ _ w.heap.size 34 #[.int .u64 0, .string ⟨#[]⟩] (0, 0) _ rfl HK0.out Try.underlying34 rfl (by kernel_rfl)) rfl ⟨rfl, HB0.out⟩
end Go.Proofs.Ytelhpamhnnjgaaa.Fo
