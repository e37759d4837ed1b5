/- The row of nodes and the list of commitments: pure facts; two slices side by side. No condition beyond those that each theorem names. -/
import Derived.Test.YtelhpamhnnjgaaaFo4
set_option linter.unusedVariables false
set_option linter.unusedSimpArgs false
namespace Go.Proofs.Ytelhpamhnnjgaaa.Fo
open Go.RowKit Go.Proofs.Ytelhpamhnnjgaaa.MB Go.Proofs.Ytelhpamhnnjgaaa.Pk Go.Proofs.YtelhpamhnnjgaaaW.PrintWords Go.Proofs.YtelhpamhnnjgaaaW.PrintLast Go.Proofs.YtelhpamhnnjgaaaW.PrintMore Go.Proofs.Ytelhpamhnnjgaaa.PForestFresh Go.Proofs.Ytelhpamhnnjgaaa.Ob
/-! Rows of commitments. -/
structure SR where
  f0 : Int
  f1 : ByteArray
def zR : SR := ⟨0, ByteArray.empty⟩
def kR : Kd SR := Kd.iso (Kd.pair (Kd.int .u64) Kd.string) (fun x : SR => (x.f0, x.f1))
theorem kR_open {w : World} {x : SR} {cs : List Value} (h : kR.K w x cs) : cs = [.int .u64 x.f0, .string x.f1] := by
  obtain ⟨_, _, rfl, rfl, rfl⟩ := h
  exact rfl
theorem kR_mkM (w : World) (base : Nat) (ok : Nat → Prop) (x : SR) : kR.M w base ok x [.int .u64 x.f0, .string x.f1] := ⟨[.int .u64 x.f0], [.string x.f1], rfl, rfl, rfl⟩
def rdR (xs : List SR) (i : Int) : SR := xs.getD i.toNat zR
theorem at_R {w : World} {A : Option Addr} {n : Nat} {xs : List SR} (h : Kd.C kR w A n xs) (i : Int) (h0 : 0 ≤ i) (h1 : i < n) : ∃ ad, A = some ad ∧ w.cell? (ad.add (i.toNat * 2)) = some (.int .u64 (rdR xs i).f0) ∧ w.cell? ⟨(ad.add (i.toNat * 2)).block, (ad.add (i.toNat * 2)).off + 1, none⟩ = some (.string (rdR xs i).f1) := by
  obtain ⟨ad, c, e, _, hK, hc0⟩ := Kd.C_get h zR i h0 h1
  have hc : ∀ j u, c[j]? = some u → w.cell? (ad.add (i.toNat * 2 + j)) = some u := hc0
  obtain rfl := kR_open hK
  exact ⟨ad, e, hc 0 _ rfl, by rw [← add_field _ _ 1 (by omega)]; exact hc 1 _ rfl⟩
/-! The row. -/
theorem fit_new (n a i : Nat) (hn : n + 1 < 2 ^ 64) (h : (i + 1) * 2 ^ a = n + 1) : a ≤ t1 n ∧ i = n / 2 ^ a := by
  have h7 : n / 2 ^ a = i + 1 - 1 := div_pred _ _ _ (by rw [Nat.mul_comm]; exact h.symm)
  refine ⟨?_, by omega⟩
  rcases Nat.lt_or_ge (t1 n) a with h8 | h8
  · exfalso
    have hs := (t1_spec n hn).2
    unfold bit at hs
    have h9 : n + 1 = 2 ^ t1 n * (2 * ((i + 1) * 2 ^ (a - t1 n - 1))) := by
      have e2 : 2 ^ a = 2 ^ t1 n * (2 * 2 ^ (a - t1 n - 1)) := by rw [← Nat.pow_succ', ← Nat.pow_add]; congr 1; omega
      rw [← h, e2, Nat.mul_left_comm (i + 1), Nat.mul_left_comm (i + 1)]
    rw [h9, Nat.mul_div_cancel_left _ (Nat.pow_pos (by omega))] at hs
    omega
  · exact h8
theorem nodes_next (n : Nat) (h : n + 1 < 2 ^ 64) : 2 * (n + 1) - ones (n + 1) = 2 * n - ones n + (t1 n + 1) := by
  have h1 := ones_next n h
  have h2 := t1_le_ones n h
  have h3 := ones_le_self n
  omega
/-- The place of a new node. -/
theorem pl_new (n a : Nat) (hn : n + 1 ≤ 2 ^ 40) (ha : a ≤ t1 n) : pl a (n / 2 ^ a) = 2 * n - ones n + a ∧ May a (n / 2 ^ a) ∧ (n / 2 ^ a + 1) * 2 ^ a = n + 1 := by
  have hf := up_fit n hn a ha
  have hp := two_pow_pos a
  obtain ⟨i, hi⟩ : ∃ i, i = n / 2 ^ a := ⟨_, rfl⟩
  rw [← hi] at hf ⊢
  have h40 := t1_le n hn
  have e0 : i * 2 ^ a + 2 ^ a = n + 1 := by rw [← hf, Nat.add_mul, Nat.one_mul]
  have e1 : n = i * 2 ^ a + (2 ^ a - 1) := by omega
  have e2 : ones n = ones i + a := by
    conv => lhs; rw [e1]
    rw [ones_join a i (2 ^ a - 1) (by omega) (by omega), ones_full a (by omega)]
  have h1 := pl_le a i
  have h2 := ones_le_self n
  have e3 : 2 * 2 ^ a * (i + 1) = 2 * (n + 1) := by rw [Nat.mul_assoc, Nat.mul_comm (2 ^ a), hf]
  refine ⟨by omega, ⟨by omega, by rw [e0]; exact hn⟩, hf⟩
/-- R is the row of l's nodes. -/
def RowOf (k : Int) (l : List ByteArray) (R : List ByteArray) : Prop :=
  R.length = 2 * l.length - ones l.length ∧ ∀ a i, (i + 1) * 2 ^ a ≤ l.length → R[pl a i]? = some (MT.trB k l (a, i))
theorem RowOf.nil (k : Int) : RowOf k [] [] := ⟨rfl, fun a i h => by
  have := Nat.mul_pos (show 0 < i + 1 from Nat.succ_pos i) (two_pow_pos a)
  rw [List.length_nil] at h; omega⟩
theorem RowOf.next {k : Int} {l R : List ByteArray} (h : RowOf k l R) (x : ByteArray) (hl : l.length + 1 ≤ 2 ^ 40) : RowOf k (l ++ [x]) (R ++ madeL k (l ++ [x]) l.length (t1 l.length)) := by
  obtain ⟨h1, h2⟩ := h
  have hlen : (l ++ [x]).length = l.length + 1 := by simp
  refine ⟨by rw [List.length_append, h1, madeL_len, hlen, nodes_next _ (by omega)], fun a i hi => ?_⟩
  rw [hlen] at hi
  rcases Nat.lt_or_ge l.length ((i + 1) * 2 ^ a) with c | c
  · obtain ⟨ha, hi2⟩ := fit_new l.length a i (by omega) (by omega)
    obtain ⟨e1, _, _⟩ := pl_new l.length a hl ha
    rw [hi2, e1, List.getElem?_append_right (by rw [h1]; omega), h1, Nat.add_sub_cancel_left]
    unfold madeL
    rw [List.getElem?_map, List.getElem?_range (by omega)]; rfl
  · have h3 := h2 a i c
    have hlt : pl a i < R.length := by
      rcases Nat.lt_or_ge (pl a i) R.length with h4 | h4
      · exact h4
      · rw [List.getElem?_eq_none h4] at h3; cases h3
    rw [List.getElem?_append_left hlt, h3, tr_app k l [x] a i c]
/-- Each place of the row is that of a block. -/
theorem row_block : ∀ n : Nat, n ≤ 2 ^ 40 → ∀ p, p < 2 * n - ones n → ∃ a i, May a i ∧ pl a i = p ∧ (i + 1) * 2 ^ a ≤ n
  | 0, _, p, hp => by simp at hp
  | n + 1, hn, p, hp => by
    rw [nodes_next n (by omega)] at hp
    rcases Nat.lt_or_ge p (2 * n - ones n) with c | c
    · obtain ⟨a, i, h1, h2, h3⟩ := row_block n (by omega) p c
      exact ⟨a, i, h1, h2, by omega⟩
    · obtain ⟨e1, e2, e3⟩ := pl_new n (p - (2 * n - ones n)) hn (by omega)
      exact ⟨_, _, e2, by rw [e1]; omega, Nat.le_of_eq e3⟩
/-- S is the list of the commitments to l's beginnings. -/
def RtsOf (k : Int) (l : List ByteArray) (S : List SR) : Prop := S.length = l.length + 1 ∧ ∀ i, i ≤ l.length → S[i]? = some ⟨(i : Int), rtD k l i⟩
theorem rtD_app (k : Int) (l m : List ByteArray) (n : Nat) (hn : n ≤ l.length) : rtD k (l ++ m) n = rtD k l n := by
  unfold rtD
  congr 1
  refine List.map_congr_left fun b hb => ?_
  exact tr_app k l m b.1 b.2 (Nat.le_trans (mtS_fit n 41 b hb) hn)
theorem RtsOf.first (k : Int) : RtsOf k [] [⟨0, rtD k [] 0⟩] := ⟨rfl, fun i hi => by
  have : i = 0 := by rw [List.length_nil] at hi; omega
  subst this; rfl⟩
theorem RtsOf.next {k : Int} {l : List ByteArray} {S : List SR} (h : RtsOf k l S) (x : ByteArray) : RtsOf k (l ++ [x]) (S ++ [⟨((l.length + 1 : Nat) : Int), rtD k (l ++ [x]) (l.length + 1)⟩]) := by
  obtain ⟨h1, h2⟩ := h
  have hlen : (l ++ [x]).length = l.length + 1 := by simp
  refine ⟨by simp [h1], fun i hi => ?_⟩
  rw [hlen] at hi
  rcases Nat.lt_or_ge l.length i with c | c
  · have : i = l.length + 1 := by omega
    subst this
    rw [List.getElem?_append_right (by omega), h1, Nat.sub_self]; rfl
  · rw [List.getElem?_append_left (by omega), h2 i c, rtD_app k l [x] i c]
/-! Two slices side by side. -/
structure Two (w : World) (B : Nat) (v : Value) (R : List ByteArray) (u : Value) (S : List SR) : Prop where
  row : Kd.string.R 9 w 0 (fun j => B ≤ j ∧ some j ≠ u.ownBlock) v R
  rts : kR.R 34 w 0 (fun j => B ≤ j ∧ some j ≠ v.ownBlock) u S
theorem Two.keep {w w' : World} {B : Nat} {T : Nat → Prop} {v u : Value} {R : List ByteArray} {S : List SR} (h : Two w B v R u S) (hk : Kp w w' T) (hT : ∀ j, T j → j < B) : Two w' B v R u S :=
  ⟨Kd.R_step h.row (fun j hj hl => hk.keep j hl (fun hs => by have := hT j hs; have := hj.1; omega)), Kd.R_step h.rts (fun j hj hl => hk.keep j hl (fun hs => by have := hT j hs; have := hj.1; omega))⟩
theorem Two.below {w w' : World} {B : Nat} {v u : Value} {R : List ByteArray} {S : List SR} (h : Two w B v R u S) (hb : Below w.heap.size w w') : Two w' B v R u S :=
  h.keep (Kp.below (S := fun _ => False) hb) (fun _ h => h.elim)
theorem Two.rowed {w w' : World} {B : Nat} {v v1 u : Value} {R R1 : List ByteArray} {S : List SR} (h : Two w B v R u S) (hn : Kd.string.R 9 w' 0 (fun j => B ≤ j ∧ some j ≠ u.ownBlock) v1 R1) (hg : w.grownBy w' v.ownBlock) (ho : v1.ownBlock = v.ownBlock ∨ ∃ b, v1.ownBlock = some b ∧ w.heap.size ≤ b) : Two w' B v1 R1 u S := by
  refine ⟨hn, ?_⟩
  refine Kd.R_mono (Kd.R_step (Kd.R_bound h.rts) (fun j hj hl => hg.block j hl hj.1.2)) (fun j hj => ?_)
  obtain ⟨⟨h1, h2⟩, _, h3, _⟩ := hj
  refine ⟨h1, ?_⟩
  rcases ho with ho | ⟨b, hb, hl⟩
  · rw [ho]; exact h2
  · rw [hb]; intro e; have := Option.some.inj e; omega
theorem Two.rooted {w w' : World} {B : Nat} {v u u1 : Value} {R : List ByteArray} {S S1 : List SR} (h : Two w B v R u S) (hn : kR.R 34 w' 0 (fun j => B ≤ j ∧ some j ≠ v.ownBlock) u1 S1) (hg : w.grownBy w' u.ownBlock) (ho : u1.ownBlock = u.ownBlock ∨ ∃ b, u1.ownBlock = some b ∧ w.heap.size ≤ b) : Two w' B v R u1 S1 := by
  refine ⟨?_, hn⟩
  refine Kd.R_mono (Kd.R_step (Kd.R_bound h.row) (fun j hj hl => hg.block j hl hj.1.2)) (fun j hj => ?_)
  obtain ⟨⟨h1, h2⟩, _, h3, _⟩ := hj
  refine ⟨h1, ?_⟩
  rcases ho with ho | ⟨b, hb, hl⟩
  · rw [ho]; exact h2
  · rw [hb]; intro e; have := Option.some.inj e; omega
theorem Two.freshR {w : World} {B : Nat} {v u : Value} {R : List ByteArray} {S : List SR} (h : Two w B v R u S) (hB : B ≤ w.heap.size) : ∀ j, w.heap.size ≤ j → B ≤ j ∧ some j ≠ u.ownBlock := fun j hj =>
  ⟨Nat.le_trans hB hj, fun e => by have := Kd.R_lt h.rts j e.symm; omega⟩
theorem Two.freshS {w : World} {B : Nat} {v u : Value} {R : List ByteArray} {S : List SR} (h : Two w B v R u S) (hB : B ≤ w.heap.size) : ∀ j, w.heap.size ≤ j → B ≤ j ∧ some j ≠ v.ownBlock := fun j hj =>
  ⟨Nat.le_trans hB hj, fun e => by have := Kd.R_lt h.row j e.symm; omega⟩
theorem Two.nilR {w : World} {B : Nat} {u : Value} {S : List SR} (h : kR.R 34 w 0 (fun j => B ≤ j) u S) : Two w B (.slice none 0 0) [] u S :=
  ⟨Kd.R_nil _ _ _ _ _, Kd.R_mono h (fun j hj => ⟨hj, by simp [Value.ownBlock]⟩)⟩
theorem Two.ownR {w : World} {B : Nat} {v u : Value} {R : List ByteArray} {S : List SR} (h : Two w B v R u S) : ∀ j, v.ownBlock = some j → B ≤ j := fun j hj => ((Kd.R_bound h.row).1 j hj).1.1
theorem Two.ownS {w : World} {B : Nat} {v u : Value} {R : List ByteArray} {S : List SR} (h : Two w B v R u S) : ∀ j, u.ownBlock = some j → B ≤ j := fun j hj => ((Kd.R_bound h.rts).1 j hj).1.1
end Go.Proofs.Ytelhpamhnnjgaaa.Fo
