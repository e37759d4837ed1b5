/- massiflaw06.WireReads: the walk. No condition beyond those that each theorem names. -/
import Derived.Test.YtalhbgokelodoaaWrP
import Derived.Test.YtalhbgokelodoaaWKept
import Derived.Carry
import Derived.Deep.RegionHeld3
import Derived.StillTailTactics
import Derived.WalkMore
import Derived.Deep.RegionLaw
set_option linter.unusedVariables false
set_option linter.unusedSimpArgs false
namespace Go.Proofs.Ytalhbgokelodoaa.Wr
open Go.RowKit Go.Proofs.Ytalhbgokelodoaa.MB Go.Proofs.YtalhbgokelodoaaW.PrintWords Go.Proofs.YtalhbgokelodoaaW.PrintLast Go.Proofs.YtalhbgokelodoaaW.PrintMore Go.Proofs.Ytalhbgokelodoaa.PWireReads
structure SS where
  f0 : Int
  f1 : Int
def zS : SS := ⟨0, 0⟩
def kS : Kd SS := Kd.iso (Kd.pair (Kd.int .i64) (Kd.int .i64)) (fun x : SS => (x.f0, x.f1))
theorem kS_open {w : World} {x : SS} {cs : List Value} (h : kS.K w x cs) : cs = [.int .i64 x.f0, .int .i64 x.f1] := by
  obtain ⟨a, b, rfl, ha, hb⟩ := h
  cases ha; cases hb; rfl
def rdS (xs : List SS) (i : Int) : SS := xs.getD i.toNat zS
theorem at_S {w : World} {A : Option Addr} {n : Nat} {xs : List SS} (h : Kd.C kS w A n xs) (i : Int) (h0 : 0 ≤ i) (h1 : i < n) : ∃ ad, A = some ad ∧ w.cell? (ad.add (i.toNat * 2)) = some (.int .i64 (rdS xs i).f0) ∧ w.cell? ⟨(ad.add (i.toNat * 2)).block, (ad.add (i.toNat * 2)).off + 1, none⟩ = some (.int .i64 (rdS xs i).f1) := by
  obtain ⟨ad, c, e, _, hK, hc0⟩ := Kd.C_get h zS i h0 h1
  have hc : ∀ j u, c[j]? = some u → w.cell? (ad.add (i.toNat * 2 + j)) = some u := hc0
  obtain rfl := kS_open hK
  exact ⟨ad, e, hc 0 _ rfl, by rw [← add_field _ _ 1 (by omega)]; exact hc 1 _ rfl⟩
structure St (w0 w : World) (br bw g0 g1 : Nat) (L0 : ByteArray) (B0 : Int) (L1 : ByteArray) (B1 : Int) (S T : ByteArray) (a0 : Nat) (E0 : Int) (a1 : Nat) (E1 : Int) : Prop where
  r : w.heap[br]? = some (.cells #[.pointer (some ⟨g0, 0, none⟩), .pointer (some ⟨g1, 0, none⟩)] 28 (0, 0))
  x : w.heap[bw]? = some (.cells #[.string S, .int .i64 (a0 : Int), .int .i64 E0, .string T, .int .i64 (a1 : Int), .int .i64 E1] 32 (0, 0))
  o0 : w.heap[g0]? = some (.cells #[.string L0, .int .i64 B0] 48 (0, 0))
  o1 : w.heap[g1]? = some (.cells #[.string L1, .int .i64 B1] 48 (0, 0))
  ne : g0 ≠ g1 ∧ g0 ≠ br ∧ g0 ≠ bw ∧ g1 ≠ br ∧ g1 ≠ bw ∧ br ≠ bw
  lo : w0.heap.size ≤ g0 ∧ w0.heap.size ≤ g1 ∧ w0.heap.size ≤ br ∧ w0.heap.size ≤ bw
  bel : Below w0.heap.size w0 w
section
variable {w0 w w1 : World} {br bw g0 g1 : Nat} {L0 : ByteArray} {B0 : Int} {L1 : ByteArray} {B1 : Int} {S T : ByteArray} {a0 : Nat} {E0 : Int} {a1 : Nat} {E1 : Int}
theorem St.below (h : St w0 w br bw g0 g1 L0 B0 L1 B1 S T a0 E0 a1 E1) (hb : Below w.heap.size w w1) : St w0 w1 br bw g0 g1 L0 B0 L1 B1 S T a0 E0 a1 E1 :=
  ⟨(hb.block _ (blk_lt h.r)).trans h.r, (hb.block _ (blk_lt h.x)).trans h.x, (hb.block _ (blk_lt h.o0)).trans h.o0, (hb.block _ (blk_lt h.o1)).trans h.o1, h.ne, h.lo, below_weaken h.bel h.bel.size hb⟩
theorem St.put0 (h : St w0 w br bw g0 g1 L0 B0 L1 B1 S T a0 E0 a1 E1) {L : ByteArray} {B : Int} (hi : IsS48 w0 w1 g0 L B) (hb : Below w0.heap.size w0 w1) (hk : KeepBut w w1 g0 none) : St w0 w1 br bw g0 g1 L B L1 B1 S T a0 E0 a1 E1 :=
  ⟨(hk.2 _ (blk_lt h.r) (Ne.symm h.ne.2.1) (by simp)).trans h.r, (hk.2 _ (blk_lt h.x) (Ne.symm h.ne.2.2.1) (by simp)).trans h.x, hi.1, (hk.2 _ (blk_lt h.o1) (Ne.symm h.ne.1) (by simp)).trans h.o1, h.ne, h.lo, hb⟩
theorem St.put1 (h : St w0 w br bw g0 g1 L0 B0 L1 B1 S T a0 E0 a1 E1) {L : ByteArray} {B : Int} (hi : IsS48 w0 w1 g1 L B) (hb : Below w0.heap.size w0 w1) (hk : KeepBut w w1 g1 none) : St w0 w1 br bw g0 g1 L0 B0 L B S T a0 E0 a1 E1 :=
  ⟨(hk.2 _ (blk_lt h.r) (Ne.symm h.ne.2.2.2.1) (by simp)).trans h.r, (hk.2 _ (blk_lt h.x) (Ne.symm h.ne.2.2.2.2.1) (by simp)).trans h.x, (hk.2 _ (blk_lt h.o0) h.ne.1 (by simp)).trans h.o0, hi.1, h.ne, h.lo, hb⟩
theorem St.i0 (h : St w0 w br bw g0 g1 L0 B0 L1 B1 S T a0 E0 a1 E1) : IsS48 w0 w g0 L0 B0 := ⟨h.o0, h.lo.1⟩
theorem St.i1 (h : St w0 w br bw g0 g1 L0 B0 L1 B1 S T a0 E0 a1 E1) : IsS48 w0 w g1 L1 B1 := ⟨h.o1, h.lo.2.1⟩
theorem St.rc (h : St w0 w br bw g0 g1 L0 B0 L1 B1 S T a0 E0 a1 E1) : w.cell? ⟨br, 0, none⟩ = some (.pointer (some ⟨g0, 0, none⟩)) ∧ w.cell? ⟨br, 1, none⟩ = some (.pointer (some ⟨g1, 0, none⟩)) := ⟨(blk_cell h.r 0).trans rfl, (blk_cell h.r 1).trans rfl⟩
theorem St.xc (h : St w0 w br bw g0 g1 L0 B0 L1 B1 S T a0 E0 a1 E1) : w.cell? ⟨bw, 0, none⟩ = some (.string S) ∧ w.cell? ⟨bw, 1, none⟩ = some (.int .i64 (a0 : Int)) ∧ w.cell? ⟨bw, 2, none⟩ = some (.int .i64 E0) ∧ w.cell? ⟨bw, 3, none⟩ = some (.string T) ∧ w.cell? ⟨bw, 4, none⟩ = some (.int .i64 (a1 : Int)) ∧ w.cell? ⟨bw, 5, none⟩ = some (.int .i64 E1) :=
  ⟨(blk_cell h.x 0).trans rfl, (blk_cell h.x 1).trans rfl, (blk_cell h.x 2).trans rfl, (blk_cell h.x 3).trans rfl, (blk_cell h.x 4).trans rfl, (blk_cell h.x 5).trans rfl⟩
theorem St.xf (h : St w0 w br bw g0 g1 L0 B0 L1 B1 S T a0 E0 a1 E1) : w.frozen? ⟨bw, 0, none⟩ = false ∧ w.frozen? ⟨bw, 1, none⟩ = false ∧ w.frozen? ⟨bw, 2, none⟩ = false ∧ w.frozen? ⟨bw, 3, none⟩ = false ∧ w.frozen? ⟨bw, 4, none⟩ = false ∧ w.frozen? ⟨bw, 5, none⟩ = false :=
  ⟨blk_frozen h.x 0, blk_frozen h.x 1, blk_frozen h.x 2, blk_frozen h.x 3, blk_frozen h.x 4, blk_frozen h.x 5⟩
theorem St.set0 (h : St w0 w br bw g0 g1 L0 B0 L1 B1 S T a0 E0 a1 E1) (a : Nat) (E : Int) : St w0 (((w.setCell ⟨bw, 0, none⟩ (.string S)).setCell ⟨bw, 1, none⟩ (.int .i64 (a : Int))).setCell ⟨bw, 2, none⟩ (.int .i64 E)) br bw g0 g1 L0 B0 L1 B1 S T a E a1 E1 := by
  obtain ⟨n1, n2, n3, n4, n5, n6⟩ := h.ne
  exact ⟨blk_far (blk_far (blk_far h.r n6 _) n6 _) n6 _, blk_put (blk_put (blk_put h.x 0 _ rfl) 1 _ rfl) 2 _ rfl, blk_far (blk_far (blk_far h.o0 n3 _) n3 _) n3 _, blk_far (blk_far (blk_far h.o1 n5 _) n5 _) n5 _, h.ne, h.lo,
    below_set (below_set (below_set h.bel h.lo.2.2.2) h.lo.2.2.2) h.lo.2.2.2⟩
theorem St.set1 (h : St w0 w br bw g0 g1 L0 B0 L1 B1 S T a0 E0 a1 E1) (a : Nat) (E : Int) : St w0 (((w.setCell ⟨bw, 3, none⟩ (.string T)).setCell ⟨bw, 4, none⟩ (.int .i64 (a : Int))).setCell ⟨bw, 5, none⟩ (.int .i64 E)) br bw g0 g1 L0 B0 L1 B1 S T a0 E0 a E := by
  obtain ⟨n1, n2, n3, n4, n5, n6⟩ := h.ne
  exact ⟨blk_far (blk_far (blk_far h.r n6 _) n6 _) n6 _, blk_put (blk_put (blk_put h.x 3 _ rfl) 4 _ rfl) 5 _ rfl, blk_far (blk_far (blk_far h.o0 n3 _) n3 _) n3 _, blk_far (blk_far (blk_far h.o1 n5 _) n5 _) n5 _, h.ne, h.lo,
    below_set (below_set (below_set h.bel h.lo.2.2.2) h.lo.2.2.2) h.lo.2.2.2⟩
end
set_option maxHeartbeats 40000000 in
set_option maxRecDepth 100000 in
theorem reads_calls (w : World) (a0 : Int) (f0 : (Lit.int .u64 a0).wf = true) (S T : ByteArray) (hS : S.size < 2 ^ 62) (hT : T.size < 2 ^ 62) (A : Option Addr) (c : Nat) (l : List SS) (hC : Kd.C kS w A l.length l) (hc : l.length ≤ c) :
    Calls Try.prog 3 #[.int .u64 a0, .string S, .string T, .slice A l.length c] w fun e w' => e = .returned (.bool true) ∧ Below w.heap.size w w' := by
  obtain ⟨n, rfl, hn⟩ := MB.wf_u64 f0
  obtain ⟨N, hN⟩ : ∃ N, N = strOfNums (ints (enc n)) := ⟨_, rfl⟩
  have HN1 := Aside0.mk (show wire_Number.f 40 (n : Int) = some N from by rw [hN]; exact wire_Number.is n 40 hn (by omega))
  have HN2 := Aside0.mk (show massifref06_Number.f 40 (n : Int) = some N from by rw [hN]; exact ref_Number.is n 40 hn (by omega))
  have HC := Aside0.mk hC
  have HS := Aside0.mk hS
  have HT := Aside0.mk hT
  clear hC hN hS hT f0 hn
  go_enter Try.func3, Try.ntmps3
  go_wp2_with (fail)
  refine (massiflaw06_fixed.calls 40 true _ (massiflaw06_fixed.is 40 (by omega))).mono ?_
  rintro e w1 ⟨rfl, hb1⟩
  have HB1 := Aside0.mk (by first | exact hb1 | exact hb1.below)
  clear hb1
  go_wp2_with (fail)
  refine (wire_Number.calls 40 n N _ HN1.out).mono ?_
  rintro e w2 ⟨rfl, hb2⟩
  have HB2 := Aside0.mk (below_weaken HB1.out HB1.out.size hb2)
  clear hb2
  go_wp2_with (fail)
  refine (massifref06_Number.calls 40 n N _ HN2.out).mono ?_
  rintro e w3 ⟨rfl, hb3⟩
  have HB3 := Aside0.mk (below_weaken HB2.out HB2.out.size hb3)
  clear hb3
  go_wp2_with (fail)
  refine (wire_NewReader.calls S S 0 w3 w3 (Below.refl _ _) rfl).mono ?_
  rintro e w4 ⟨g0, rfl, hi0, hb4, _⟩
  have HI0 := Aside0.mk hi0
  have HB4 := Aside0.mk (below_weaken HB3.out HB3.out.size hb4)
  have HL0 := Aside0.mk (blk_lt hi0.1)
  clear hi0 hb4
  go_wp2_with (fail)
  refine (wire_NewReader.calls T T 0 w4 w4 (Below.refl _ _) rfl).mono ?_
  rintro e w5 ⟨g1, rfl, hi1, hb5, _⟩
  have HI1 := Aside0.mk hi1
  have HI0 := Aside0.mk (show IsS48 w3 w5 g0 S 0 from ⟨(hb5.block g0 HL0.out).trans HI0.out.1, HI0.out.2⟩)
  have HB5 := Aside0.mk (below_weaken HB4.out HB4.out.size hb5)
  have HNE := Aside0.mk (show g0 ≠ g1 from by have := HL0.out; have := hi1.2; omega)
  have HL1 := Aside0.mk (blk_lt hi1.1)
  clear hi1 hb5
  go_wp2_with (fail)
  obtain ⟨w6, hw6⟩ : ∃ x, x = (w5.alloc (Obj.cells #[Value.pointer (some ⟨g0, 0, none⟩), Value.pointer (some ⟨g1, 0, none⟩)] 28)).alloc (Obj.cells #[Value.string S, Value.int IntKind.i64 0, Value.int IntKind.i64 0, Value.string T, Value.int IntKind.i64 0, Value.int IntKind.i64 0] 32) := ⟨_, rfl⟩
  have HST := Aside0.mk (show St w w6 w5.heap.size (w5.heap.size + 1) g0 g1 S 0 T 0 S T 0 0 0 0 from by
    have n0 := HNE.out
    have l0 := HL0.out
    have l1 := HL1.out
    have z4 := HB4.out.size
    have z3 := HB3.out.size
    have h0 := HI0.out
    have h1 := HI1.out
    have q0 := blk_lt h0.1
    have ba := below_alloc (Below.refl _ w5) (Obj.cells #[Value.pointer (some ⟨g0, 0, none⟩), Value.pointer (some ⟨g1, 0, none⟩)] 28)
    have bb := below_alloc ba (Obj.cells #[Value.string S, Value.int IntKind.i64 0, Value.int IntKind.i64 0, Value.string T, Value.int IntKind.i64 0, Value.int IntKind.i64 0] 32)
    have es : (w5.alloc (Obj.cells #[Value.pointer (some ⟨g0, 0, none⟩), Value.pointer (some ⟨g1, 0, none⟩)] 28)).heap.size = w5.heap.size + 1 := Array.size_push _
    rw [hw6]
    refine ⟨?_, ?_, (bb.block g0 q0).trans h0.1, (bb.block g1 l1).trans h1.1, ⟨n0, by omega, by omega, by omega, by omega, by omega⟩, ⟨by have := h0.2; omega, by have := h1.2; omega, by have := HB5.out.size; omega, by have := HB5.out.size; omega⟩, below_weaken HB5.out HB5.out.size bb⟩
    · have := below_alloc (Below.refl _ (w5.alloc (Obj.cells #[Value.pointer (some ⟨g0, 0, none⟩), Value.pointer (some ⟨g1, 0, none⟩)] 28))) (Obj.cells #[Value.string S, Value.int IntKind.i64 0, Value.int IntKind.i64 0, Value.string T, Value.int IntKind.i64 0, Value.int IntKind.i64 0] 32)
      exact (this.block w5.heap.size (by omega)).trans (blk_new _ _)
    · have := blk_new (w5.alloc (Obj.cells #[Value.pointer (some ⟨g0, 0, none⟩), Value.pointer (some ⟨g1, 0, none⟩)] 28)) (Obj.cells #[Value.string S, Value.int IntKind.i64 0, Value.int IntKind.i64 0, Value.string T, Value.int IntKind.i64 0, Value.int IntKind.i64 0] 32)
      rw [es] at this; exact this)
  have HW0 := Aside0.mk (Kd.C_below HC.out HB5.out)
  rw [← hw6]
  obtain ⟨br, hbr⟩ : ∃ br, br = w5.heap.size := ⟨_, rfl⟩
  rw [← hbr] at HST ⊢
  obtain ⟨bw, hbw⟩ : ∃ bw, bw = br + 1 := ⟨_, rfl⟩
  rw [← hbw] at HST ⊢
  have RS := Aside0.mk (show Rel S 0 S 0 from ⟨Nat.zero_le _, fun _ => by rw [ByteArray.extract_zero_size], fun h => absurd rfl h⟩)
  have RT := Aside0.mk (show Rel T 0 T 0 from ⟨Nat.zero_le _, fun _ => by rw [ByteArray.extract_zero_size], fun h => absurd rfl h⟩)
  clear hw6 hbr hbw HW0 HB5 HNE HL1 HL0 HI0 HI1 HB4 HB3 HB2 HB1 HN1 HN2
  have HLN := Aside0.mk (Kd.C_max HC.out)
  go_loopg [11] l.length (fun kq q w' => ∃ (i : Nat) (L0 L1 : ByteArray) (B0 B1 : Int) (a0 a1 : Nat), q = .int .i64 (i : Int) ∧ Aside0 (i + kq = l.length) ∧ Aside0 (St w w' br bw g0 g1 L0 B0 L1 B1 S T a0 B0 a1 B1) ∧ Aside0 (Rel L0 B0 S a0) ∧ Aside0 (Rel L1 B1 T a1))
  case atStart => exact ⟨0, S, T, 0, 0, 0, 0, by rfl, ⟨by omega⟩, HST, RS, RT⟩
  case round =>
   obtain ⟨i, L0, L1, B0, B1, a0, a1, rfl, HI, HST, R0, R1⟩ := hrel
   cases gk with
   | zero =>
    have hlt : decide ((i : Int) < (l.length : Int)) = false := decide_eq_false (by have := HI.out; omega)
    have hlt' : decide (i < l.length) = false := decide_eq_false (by have := HI.out; omega)
    go_wp2_with (fail)
    go_ret
    exact ⟨rfl, HST.out.bel⟩
   | succ k1 =>
    have hil : i < l.length := by have := HI.out; omega
    have HJ := Aside0.mk (show i + 1 + k1 = l.length from by have := HI.out; omega)
    have hlt : decide ((i : Int) < (l.length : Int)) = true := decide_eq_true (by omega)
    have hlt' : decide (i < l.length) = true := decide_eq_true hil
    have b2 : -9223372036854775808 ≤ (i : Int) + 1 ∧ (i : Int) + 1 ≤ 9223372036854775807 := by have := HLN.out; omega
    obtain ⟨ad, eA, s0, s1⟩ := at_S (Kd.C_below HC.out HST.out.bel) (i : Int) (by omega) (by omega)
    rw [Int.toNat_natCast] at s0 s1
    have p1 : (0 : Int) ≤ (i : Int) := by omega
    have p2 : (i : Int) < (l.length : Int) := by omega
    subst eA
    have hS1 : ∀ v, Below w.heap.size w v → v.cell? ⟨(ad.add (i * 2)).block, (ad.add (i * 2)).off + 1, none⟩ = some (.int .i64 (rdS l (i : Int)).f1) := fun v hv => by
      obtain ⟨ad2, e2, _, z1⟩ := at_S (Kd.C_below HC.out hv) (i : Int) p1 p2
      cases e2
      rw [Int.toNat_natCast] at z1; exact z1
    obtain ⟨rc0, rc1⟩ := HST.out.rc
    obtain ⟨xc0, xc1, xc2, xc3, xc4, xc5⟩ := HST.out.xc
    obtain ⟨P, hP⟩ : ∃ P, P = (rdS l (i : Int)).f0 := ⟨_, rfl⟩
    obtain ⟨M, hM⟩ : ∃ M, M = (rdS l (i : Int)).f1 := ⟨_, rfl⟩
    rw [← hP] at s0
    rw [← hM] at s1
    rw [← hM] at hS1
    have tm : Int.tmod (i : Int) 2 = ((i % 2 : Nat) : Int) := by rw [Int.tmod_eq_emod_of_nonneg (Int.natCast_nonneg i)]; omega
    have par : i % 2 = 0 ∨ i % 2 = 1 := by omega
    have u3 : wrap64 ((i : Int) + 1) = (i : Int) + 1 := MB.wrap64_in _ b2.1 b2.2
    clear hP hM hil b2
    rcases par with par | par
    · rw [par] at tm
      by_cases hp : P = 0
      · have t1 : (P == 0) = true := beq_iff_eq.mpr hp
        have t2 : decide (P = 0) = true := decide_eq_true hp
        subst hp
        go_wp2_with (fail)
        obtain ⟨rn, re, rl, ra, q1, q2, q3⟩ := both_Number L0 S B0 a0 HS.out R0.out
        have Q2 := Aside0.mk q2
        have Q3 := Aside0.mk q3
        refine (wire_Reader_Number.calls 40 g0 L0 B0 rn re rl re w wr HST.out.i0 HST.out.bel q1).mono ?_
        clear q1 q2 q3 rc0 rc1 xc0 xc1 xc2 xc3 xc4 xc5 s0 s1
        rintro e v1 ⟨rfl, hi1, hb1, hk1⟩
        have HST1 := Aside0.mk (HST.out.put0 hi1 hb1 hk1)
        clear hi1 hb1 hk1
        obtain ⟨xc0, xc1, xc2, xc3, xc4, xc5⟩ := HST1.out.xc
        obtain ⟨xf0, xf1, xf2, xf3, xf4, xf5⟩ := HST1.out.xf
        clear xf0 xf1 xf2 xf3 xf4 xf5
        go_wp2_with (fail)
        refine (massifref06_Reader_Number.calls 40 S a0 B0 S ra re rn re v1 Q2.out).mono ?_
        clear xc0 xc1 xc2 xc3 xc4 xc5
        rintro e v2 ⟨rfl, hb2⟩
        have HST2 := Aside0.mk (HST1.out.below hb2)
        clear hb2
        obtain ⟨xc0, xc1, xc2, xc3, xc4, xc5⟩ := HST2.out.xc
        obtain ⟨xf0, xf1, xf2, xf3, xf4, xf5⟩ := HST2.out.xf
        go_wp2_with (fail)
        go_wp2_with (fail)
        clear xc0 xc1 xc2 xc3 xc4 xc5 xf0 xf1 xf2 xf3 xf4 xf5
        obtain ⟨v3, hv3⟩ : ∃ x, x = ((v2.setCell ⟨bw, 0, none⟩ (.string S)).setCell ⟨bw, 1, none⟩ (.int .i64 (ra : Int))).setCell ⟨bw, 2, none⟩ (.int .i64 re) := ⟨_, rfl⟩
        have HST3 := Aside0.mk (HST2.out.set0 ra re)
        rw [← hv3] at HST3 ⊢
        clear hv3
        have HST3 := Aside0.mk (HST3.out.below (below_drew (Below.refl _ _)))
        obtain ⟨rc0, rc1⟩ := HST3.out.rc
        obtain ⟨xc0, xc1, xc2, xc3, xc4, xc5⟩ := HST3.out.xc
        have hLf : massifref06_Reader_Left.f S ra re = some (rl.size : Int) := both_Left rl S re ra HS.out Q3.out
        have HLf := Aside0.mk hLf
        clear hLf
        go_region_held3 (fun w' => w'.cell? ⟨br, 0, none⟩ = some (.pointer (some ⟨g0, 0, none⟩)) ∧ w'.cell? ⟨bw, 0, none⟩ = some (.string S) ∧ w'.cell? ⟨bw, 1, none⟩ = some (.int .i64 (ra : Int)) ∧ w'.cell? ⟨bw, 2, none⟩ = some (.int .i64 re)) (first | exact ⟨rc0, xc0, xc1, xc2⟩ | exact ⟨y0, y1, y2, y3⟩ | exact ⟨z0, z1, z2, z3⟩ | go_keep) (first | (go_at_call 12; refine (wire_Reader_Left.calls g0 rl re (rl.size : Int) rl re w _ HST3.out.i0 HST3.out.bel rfl).mono ?_; rintro e v4 ⟨rfl, hi4, hb4, hk4⟩; have HST4 := Aside0.mk (HST3.out.put0 hi4 hb4 hk4); have y0 := HST4.out.rc.1; have y1 := HST4.out.xc.1; have y2 := HST4.out.xc.2.1; have y3 := HST4.out.xc.2.2.1; clear hi4 hb4 hk4) | (go_at_call 13; refine (massifref06_Reader_Left.calls S ra re (rl.size : Int) _ HLf.out).mono ?_; rintro e v5 ⟨rfl, hb5⟩; have HST5 := Aside0.mk (HST4.out.below hb5); have z0 := HST5.out.rc.1; have z1 := HST5.out.xc.1; have z2 := HST5.out.xc.2.1; have z3 := HST5.out.xc.2.2.1; clear hb5))
        go_wp2_with (fail)
        go_roundg k1
        case measure => exact Nat.lt_succ_self _
        case rel => exact ⟨i + 1, rl, L1, re, B1, ra, a1, by first | rfl | (rw [u3]; rfl), HJ, HST5, Q3, R1⟩
      · have t1 : (P == 0) = false := beq_eq_false_iff_ne.mpr hp
        have t2 : decide (P = 0) = false := decide_eq_false hp
        go_wp2_with (fail)
        obtain ⟨rn, re, rl, ra, q1, q2, q3⟩ := both_Take L0 S B0 M a0 HS.out R0.out
        have Q2 := Aside0.mk q2
        have Q3 := Aside0.mk q3
        have Q1 := Aside0.mk q1
        clear q1 q2 q3
        have HST := Aside0.mk (HST.out.below (below_drew (Below.refl _ _)))
        go_region_held3 (fun w' => w'.cell? ⟨br, 0, none⟩ = some (.pointer (some ⟨g0, 0, none⟩)) ∧ w'.cell? ⟨(ad.add (i * 2)).block, (ad.add (i * 2)).off + 1, none⟩ = some (.int .i64 M)) (first | exact ⟨rc0, s1⟩ | exact ⟨y0, y1⟩ | go_keep) (first | (go_at_call 10; refine (wire_Reader_Take.calls g0 L0 B0 M rn re rl re w _ HST.out.i0 HST.out.bel Q1.out).mono ?_; rintro e v1 ⟨rfl, hi1, hb1, hk1⟩; have HST1 := Aside0.mk (HST.out.put0 hi1 hb1 hk1); have y0 := HST1.out.rc.1; have y1 := hS1 v1 HST1.out.bel; clear hi1 hb1 hk1))
        clear rc0 rc1 xc0 xc1 xc2 xc3 xc4 xc5 s0 s1
        have s1 := hS1 v1 HST1.out.bel
        obtain ⟨xc0, xc1, xc2, xc3, xc4, xc5⟩ := HST1.out.xc
        obtain ⟨xf0, xf1, xf2, xf3, xf4, xf5⟩ := HST1.out.xf
        go_wp2_with (fail)
        go_region_law (first | (go_simp; go_at_call 11; refine (massifref06_Reader_Take.calls 40 S a0 B0 M S ra re rn re _ Q2.out).mono ?_; rintro e v2 ⟨rfl, hb2⟩; have HST2 := Aside0.mk (HST1.out.below (below_weaken (below_drew (Below.refl _ _)) (Nat.le_refl _) hb2)); clear hb2; obtain ⟨xd0, xd1, xd2, xd3, xd4, xd5⟩ := HST2.out.xc; obtain ⟨xg0, xg1, xg2, xg3, xg4, xg5⟩ := HST2.out.xf))
        all_goals (clear xd0 xd1 xd2 xd3 xd4 xd5 xg0 xg1 xg2 xg3 xg4 xg5)
        all_goals (try clear s1)
        all_goals
          go_wp2_with (fail)
          clear xc0 xc1 xc2 xc3 xc4 xc5 xf0 xf1 xf2 xf3 xf4 xf5
          obtain ⟨v3, hv3⟩ : ∃ x, x = ((v2.setCell ⟨bw, 0, none⟩ (.string S)).setCell ⟨bw, 1, none⟩ (.int .i64 (ra : Int))).setCell ⟨bw, 2, none⟩ (.int .i64 re) := ⟨_, rfl⟩
          have HST3 := Aside0.mk (HST2.out.set0 ra re)
          rw [← hv3] at HST3 ⊢
          clear hv3
          have HST3 := Aside0.mk (HST3.out.below (below_drew (Below.refl _ _)))
          obtain ⟨rc0, rc1⟩ := HST3.out.rc
          obtain ⟨xc0, xc1, xc2, xc3, xc4, xc5⟩ := HST3.out.xc
          have hLf : massifref06_Reader_Left.f S ra re = some (rl.size : Int) := both_Left rl S re ra HS.out Q3.out
          have HLf := Aside0.mk hLf
          clear hLf
          go_simp
          go_region_held3 (fun w' => w'.cell? ⟨br, 0, none⟩ = some (.pointer (some ⟨g0, 0, none⟩)) ∧ w'.cell? ⟨bw, 0, none⟩ = some (.string S) ∧ w'.cell? ⟨bw, 1, none⟩ = some (.int .i64 (ra : Int)) ∧ w'.cell? ⟨bw, 2, none⟩ = some (.int .i64 re)) (first | exact ⟨rc0, xc0, xc1, xc2⟩ | exact ⟨y0, y1, y2, y3⟩ | exact ⟨z0, z1, z2, z3⟩ | go_keep) (first | (go_at_call 12; refine (wire_Reader_Left.calls g0 rl re (rl.size : Int) rl re w _ HST3.out.i0 HST3.out.bel rfl).mono ?_; rintro e v4 ⟨rfl, hi4, hb4, hk4⟩; have HST4 := Aside0.mk (HST3.out.put0 hi4 hb4 hk4); have y0 := HST4.out.rc.1; have y1 := HST4.out.xc.1; have y2 := HST4.out.xc.2.1; have y3 := HST4.out.xc.2.2.1; clear hi4 hb4 hk4) | (go_at_call 13; refine (massifref06_Reader_Left.calls S ra re (rl.size : Int) _ HLf.out).mono ?_; rintro e v5 ⟨rfl, hb5⟩; have HST5 := Aside0.mk (HST4.out.below hb5); have z0 := HST5.out.rc.1; have z1 := HST5.out.xc.1; have z2 := HST5.out.xc.2.1; have z3 := HST5.out.xc.2.2.1; clear hb5))
          go_wp2_with (fail)
          go_roundg k1
          case measure => exact Nat.lt_succ_self _
          case rel => exact ⟨i + 1, rl, L1, re, B1, ra, a1, by first | rfl | (rw [u3]; rfl), HJ, HST5, Q3, R1⟩
    · rw [par] at tm
      by_cases hp : P = 0
      · have t1 : (P == 0) = true := beq_iff_eq.mpr hp
        have t2 : decide (P = 0) = true := decide_eq_true hp
        subst hp
        go_wp2_with (fail)
        obtain ⟨rn, re, rl, ra, q1, q2, q3⟩ := both_Number L1 T B1 a1 HT.out R1.out
        have Q2 := Aside0.mk q2
        have Q3 := Aside0.mk q3
        refine (wire_Reader_Number.calls 40 g1 L1 B1 rn re rl re w wr HST.out.i1 HST.out.bel q1).mono ?_
        clear q1 q2 q3 rc0 rc1 xc0 xc1 xc2 xc3 xc4 xc5 s0 s1
        rintro e v1 ⟨rfl, hi1, hb1, hk1⟩
        have HST1 := Aside0.mk (HST.out.put1 hi1 hb1 hk1)
        clear hi1 hb1 hk1
        obtain ⟨xc0, xc1, xc2, xc3, xc4, xc5⟩ := HST1.out.xc
        obtain ⟨xf0, xf1, xf2, xf3, xf4, xf5⟩ := HST1.out.xf
        clear xf0 xf1 xf2 xf3 xf4 xf5
        go_wp2_with (fail)
        refine (massifref06_Reader_Number.calls 40 T a1 B1 T ra re rn re v1 Q2.out).mono ?_
        clear xc0 xc1 xc2 xc3 xc4 xc5
        rintro e v2 ⟨rfl, hb2⟩
        have HST2 := Aside0.mk (HST1.out.below hb2)
        clear hb2
        obtain ⟨xc0, xc1, xc2, xc3, xc4, xc5⟩ := HST2.out.xc
        obtain ⟨xf0, xf1, xf2, xf3, xf4, xf5⟩ := HST2.out.xf
        go_wp2_with (fail)
        go_wp2_with (fail)
        clear xc0 xc1 xc2 xc3 xc4 xc5 xf0 xf1 xf2 xf3 xf4 xf5
        obtain ⟨v3, hv3⟩ : ∃ x, x = ((v2.setCell ⟨bw, 3, none⟩ (.string T)).setCell ⟨bw, 4, none⟩ (.int .i64 (ra : Int))).setCell ⟨bw, 5, none⟩ (.int .i64 re) := ⟨_, rfl⟩
        have HST3 := Aside0.mk (HST2.out.set1 ra re)
        rw [← hv3] at HST3 ⊢
        clear hv3
        have HST3 := Aside0.mk (HST3.out.below (below_drew (Below.refl _ _)))
        obtain ⟨rc0, rc1⟩ := HST3.out.rc
        obtain ⟨xc0, xc1, xc2, xc3, xc4, xc5⟩ := HST3.out.xc
        have hLf : massifref06_Reader_Left.f T ra re = some (rl.size : Int) := both_Left rl T re ra HT.out Q3.out
        have HLf := Aside0.mk hLf
        clear hLf
        go_region_held3 (fun w' => w'.cell? ⟨br, 1, none⟩ = some (.pointer (some ⟨g1, 0, none⟩)) ∧ w'.cell? ⟨bw, 3, none⟩ = some (.string T) ∧ w'.cell? ⟨bw, 4, none⟩ = some (.int .i64 (ra : Int)) ∧ w'.cell? ⟨bw, 5, none⟩ = some (.int .i64 re)) (first | exact ⟨rc1, xc3, xc4, xc5⟩ | exact ⟨y0, y1, y2, y3⟩ | exact ⟨z0, z1, z2, z3⟩ | go_keep) (first | (go_at_call 12; refine (wire_Reader_Left.calls g1 rl re (rl.size : Int) rl re w _ HST3.out.i1 HST3.out.bel rfl).mono ?_; rintro e v4 ⟨rfl, hi4, hb4, hk4⟩; have HST4 := Aside0.mk (HST3.out.put1 hi4 hb4 hk4); have y0 := HST4.out.rc.2; have y1 := HST4.out.xc.2.2.2.1; have y2 := HST4.out.xc.2.2.2.2.1; have y3 := HST4.out.xc.2.2.2.2.2; clear hi4 hb4 hk4) | (go_at_call 13; refine (massifref06_Reader_Left.calls T ra re (rl.size : Int) _ HLf.out).mono ?_; rintro e v5 ⟨rfl, hb5⟩; have HST5 := Aside0.mk (HST4.out.below hb5); have z0 := HST5.out.rc.2; have z1 := HST5.out.xc.2.2.2.1; have z2 := HST5.out.xc.2.2.2.2.1; have z3 := HST5.out.xc.2.2.2.2.2; clear hb5))
        go_wp2_with (fail)
        go_roundg k1
        case measure => exact Nat.lt_succ_self _
        case rel => exact ⟨i + 1, L0, rl, B0, re, a0, ra, by first | rfl | (rw [u3]; rfl), HJ, HST5, R0, Q3⟩
      · have t1 : (P == 0) = false := beq_eq_false_iff_ne.mpr hp
        have t2 : decide (P = 0) = false := decide_eq_false hp
        go_wp2_with (fail)
        obtain ⟨rn, re, rl, ra, q1, q2, q3⟩ := both_Take L1 T B1 M a1 HT.out R1.out
        have Q2 := Aside0.mk q2
        have Q3 := Aside0.mk q3
        have Q1 := Aside0.mk q1
        clear q1 q2 q3
        have HST := Aside0.mk (HST.out.below (below_drew (Below.refl _ _)))
        go_region_held3 (fun w' => w'.cell? ⟨br, 1, none⟩ = some (.pointer (some ⟨g1, 0, none⟩)) ∧ w'.cell? ⟨(ad.add (i * 2)).block, (ad.add (i * 2)).off + 1, none⟩ = some (.int .i64 M)) (first | exact ⟨rc1, s1⟩ | exact ⟨y0, y1⟩ | go_keep) (first | (go_at_call 10; refine (wire_Reader_Take.calls g1 L1 B1 M rn re rl re w _ HST.out.i1 HST.out.bel Q1.out).mono ?_; rintro e v1 ⟨rfl, hi1, hb1, hk1⟩; have HST1 := Aside0.mk (HST.out.put1 hi1 hb1 hk1); have y0 := HST1.out.rc.2; have y1 := hS1 v1 HST1.out.bel; clear hi1 hb1 hk1))
        clear rc0 rc1 xc0 xc1 xc2 xc3 xc4 xc5 s0 s1
        have s1 := hS1 v1 HST1.out.bel
        obtain ⟨xc0, xc1, xc2, xc3, xc4, xc5⟩ := HST1.out.xc
        obtain ⟨xf0, xf1, xf2, xf3, xf4, xf5⟩ := HST1.out.xf
        go_wp2_with (fail)
        go_region_law (first | (go_simp; go_at_call 11; refine (massifref06_Reader_Take.calls 40 T a1 B1 M T ra re rn re _ Q2.out).mono ?_; rintro e v2 ⟨rfl, hb2⟩; have HST2 := Aside0.mk (HST1.out.below (below_weaken (below_drew (Below.refl _ _)) (Nat.le_refl _) hb2)); clear hb2; obtain ⟨xd0, xd1, xd2, xd3, xd4, xd5⟩ := HST2.out.xc; obtain ⟨xg0, xg1, xg2, xg3, xg4, xg5⟩ := HST2.out.xf))
        all_goals (clear xd0 xd1 xd2 xd3 xd4 xd5 xg0 xg1 xg2 xg3 xg4 xg5)
        all_goals (try clear s1)
        all_goals
          go_wp2_with (fail)
          clear xc0 xc1 xc2 xc3 xc4 xc5 xf0 xf1 xf2 xf3 xf4 xf5
          obtain ⟨v3, hv3⟩ : ∃ x, x = ((v2.setCell ⟨bw, 3, none⟩ (.string T)).setCell ⟨bw, 4, none⟩ (.int .i64 (ra : Int))).setCell ⟨bw, 5, none⟩ (.int .i64 re) := ⟨_, rfl⟩
          have HST3 := Aside0.mk (HST2.out.set1 ra re)
          rw [← hv3] at HST3 ⊢
          clear hv3
          have HST3 := Aside0.mk (HST3.out.below (below_drew (Below.refl _ _)))
          obtain ⟨rc0, rc1⟩ := HST3.out.rc
          obtain ⟨xc0, xc1, xc2, xc3, xc4, xc5⟩ := HST3.out.xc
          have hLf : massifref06_Reader_Left.f T ra re = some (rl.size : Int) := both_Left rl T re ra HT.out Q3.out
          have HLf := Aside0.mk hLf
          clear hLf
          go_simp
          go_region_held3 (fun w' => w'.cell? ⟨br, 1, none⟩ = some (.pointer (some ⟨g1, 0, none⟩)) ∧ w'.cell? ⟨bw, 3, none⟩ = some (.string T) ∧ w'.cell? ⟨bw, 4, none⟩ = some (.int .i64 (ra : Int)) ∧ w'.cell? ⟨bw, 5, none⟩ = some (.int .i64 re)) (first | exact ⟨rc1, xc3, xc4, xc5⟩ | exact ⟨y0, y1, y2, y3⟩ | exact ⟨z0, z1, z2, z3⟩ | go_keep) (first | (go_at_call 12; refine (wire_Reader_Left.calls g1 rl re (rl.size : Int) rl re w _ HST3.out.i1 HST3.out.bel rfl).mono ?_; rintro e v4 ⟨rfl, hi4, hb4, hk4⟩; have HST4 := Aside0.mk (HST3.out.put1 hi4 hb4 hk4); have y0 := HST4.out.rc.2; have y1 := HST4.out.xc.2.2.2.1; have y2 := HST4.out.xc.2.2.2.2.1; have y3 := HST4.out.xc.2.2.2.2.2; clear hi4 hb4 hk4) | (go_at_call 13; refine (massifref06_Reader_Left.calls T ra re (rl.size : Int) _ HLf.out).mono ?_; rintro e v5 ⟨rfl, hb5⟩; have HST5 := Aside0.mk (HST4.out.below hb5); have z0 := HST5.out.rc.2; have z1 := HST5.out.xc.2.2.2.1; have z2 := HST5.out.xc.2.2.2.2.1; have z3 := HST5.out.xc.2.2.2.2.2; clear hb5))
          go_wp2_with (fail)
          go_roundg k1
          case measure => exact Nat.lt_succ_self _
          case rel => exact ⟨i + 1, L0, rl, B0, re, a0, ra, by first | rfl | (rw [u3]; rfl), HJ, HST5, R0, Q3⟩
end Go.Proofs.Ytalhbgokelodoaa.Wr
