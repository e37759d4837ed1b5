/- The walk of massiflaw01.ShaPieces: pieces whose lengths together are no great number: it answers true, and what was there stays. -/
import Derived.Test.YthjnnbgamnpegaaSha3
import Derived.Test.YthjnnbgamnpegaaPShaPiecesx
set_option linter.unusedVariables false
set_option linter.unusedSimpArgs false
namespace Go.Proofs.Ythjnnbgamnpegaa.Sha
open Go.RowKit Go.Proofs.YthjnnbgamnpegaaW.PrintWords Go.Proofs.YthjnnbgamnpegaaW.PrintLast Go.Proofs.YthjnnbgamnpegaaW.PrintMore
theorem bI_append (s t : ByteArray) : bI (s ++ t) = bI s ++ bI t := by unfold bI; simp [ByteArray.data_append]
theorem HSt.below {w w1 : World} {hb : Nat} {M : List Int} {z : Int} (h : HSt w hb M z) (hB : Below w.heap.size w w1) : HSt w1 hb M z := by
  obtain ⟨S, B, f, h1, h2⟩ := h
  exact ⟨S, B, f, (hB.block hb (blk_lt h1)).trans h1, h2⟩
theorem HSt.lt {w : World} {hb : Nat} {M : List Int} {z : Int} (h : HSt w hb M z) : hb < w.heap.size := by
  obtain ⟨S, B, f, h1, h2⟩ := h
  exact blk_lt h1
theorem HSt.other {w w1 : World} {hb hc : Nat} {M : List Int} {z : Int} (h : HSt w hb M z) (hk : K1 w w1 hc) (hne : hb ≠ hc) : HSt w1 hb M z := by
  have hl := h.lt
  obtain ⟨S, B, f, h1, h2⟩ := h
  exact ⟨S, B, f, (hk.keep hb hl hne).trans h1, h2⟩
/-- A Hash that was handed just one text. -/
def H1 (w : World) (hb : Nat) (s : ByteArray) : Prop := HSt w hb (bI s) ((s.size : Int) % 18446744073709551616)
theorem H1.below {w w1 : World} {hb : Nat} {s : ByteArray} (h : H1 w hb s) (hB : Below w.heap.size w w1) : H1 w1 hb s := HSt.below h hB
theorem H1.other {w w1 : World} {hb hc : Nat} {s : ByteArray} (h : H1 w hb s) (hk : K1 w w1 hc) (hne : hb ≠ hc) : H1 w1 hb s := HSt.other h hk hne
theorem H1.lt {w : World} {hb : Nat} {s : ByteArray} (h : H1 w hb s) : hb < w.heap.size := HSt.lt h
/-- The sum of one text. -/
def sum1 (s : ByteArray) : ByteArray := sha (bI s)
theorem new1_calls (w : World) : Calls Try.prog 9 #[] w fun e w' => e = .returned (.pointer (some ⟨w.heap.size, 0, none⟩)) ∧ H1 w' w.heap.size ByteArray.empty ∧ Below w.heap.size w w' := by
  refine (new_calls w).mono ?_
  rintro e w1 ⟨rfl, hw1⟩
  refine ⟨rfl, ?_, ?_⟩
  · rw [hw1]; exact new_st w
  · rw [hw1]; exact below_alloc (Below.refl _ _) _
theorem write1_calls (w : World) (hb : Nat) (t s : ByteArray) (h : H1 w hb t) (hs : s.size ≤ 9223372036854775807) :
    Calls Try.prog 10 #[.pointer (some ⟨hb, 0, none⟩), .string s] w fun e w' => e = .returned (.tuple #[]) ∧ H1 w' hb (t ++ s) ∧ K1 w w' hb := by
  refine (write_calls w hb _ _ s h hs).mono ?_
  rintro e w1 ⟨rfl, h1, h2⟩
  refine ⟨rfl, ?_, h2⟩
  unfold H1
  rw [bI_append, ByteArray.size_append]
  have e3 : ((t.size + s.size : Nat) : Int) % 18446744073709551616 = ((t.size : Int) % 18446744073709551616 + (s.size : Int)) % 18446744073709551616 := by rw [Int.emod_add_emod]; rfl
  rw [e3]; exact h1
theorem sum1_calls (w : World) (hb : Nat) (t : ByteArray) (h : H1 w hb t) :
    Calls Try.prog 11 #[.pointer (some ⟨hb, 0, none⟩)] w fun e w' => e = .returned (.string (sum1 t)) ∧ Below w.heap.size w w' := by
  have h1 := sum_calls w hb _ _ h
  have e : shaB (bI t) ((t.size : Int) % 18446744073709551616) = sum1 t := by unfold sum1 sha; rw [bI_len]
  rw [e] at h1
  exact h1
theorem of1_calls (A : Option Addr) (c : Nat) (s : ByteArray) (w : World) (hr : Kd.C Kd.string w A 1 [s]) (hcc : 1 ≤ c) (hl : s.size ≤ 9223372036854775807) :
    Calls Try.prog 12 #[.slice A 1 c] w fun e w' => e = .returned (.string (sum1 s)) ∧ Below w.heap.size w w' := by
  have h1 := of_calls A c [s] w hr hcc (fun x hx => by rw [List.mem_singleton.1 hx]; exact hl)
  have e : sha ([s].flatMap bI) = sum1 s := by unfold sum1; simp
  rw [e] at h1
  exact h1
theorem one_cell {w : World} {g : Nat} {s : ByteArray} {t : TypeId} (h : w.heap[g]? = some (.cells #[.string s] t (0, 0))) : Kd.C Kd.string w (some ⟨g, 0, none⟩) 1 [s] := by
  refine Kd.C_of_reads (h1 := fun _ => rfl) (d := ByteArray.empty) ⟨rfl, by simp [maxLen], fun _ => ⟨⟨g, 0, none⟩, rfl, fun i hi => ?_⟩⟩
  have e : i = 0 := by simp at hi; omega
  subst e
  simp [World.cell?, h, Addr.add]
def join (l : List ByteArray) : ByteArray := l.foldl (· ++ ·) ByteArray.empty
theorem join_snoc (l : List ByteArray) (s : ByteArray) : join (l ++ [s]) = join l ++ s := by unfold join; rw [List.foldl_append]; rfl
theorem fixed_true : PShaPieces.massiflaw01_fixed.f = some true := by decide +kernel
theorem fold_size : ∀ (l : List ByteArray) (a : ByteArray), (l.foldl (· ++ ·) a).size = a.size + (l.map ByteArray.size).sum
  | [], a => by simp
  | s :: l, a => by rw [List.foldl_cons, fold_size l, ByteArray.size_append, List.map_cons, List.sum_cons]; omega
theorem join_size (l : List ByteArray) : (join l).size = (l.map ByteArray.size).sum := by unfold join; rw [fold_size]; simp
/-- Those pieces that the second Hash is handed. -/
def odd : List ByteArray → Nat → List ByteArray
  | [], _ => []
  | s :: l, i => if i % 3 = 1 then s :: odd l (i + 1) else odd l (i + 1)
theorem odd_snoc (s : ByteArray) : ∀ (l : List ByteArray) (i : Nat), odd (l ++ [s]) i = odd l i ++ (if (i + l.length) % 3 = 1 then [s] else [])
  | [], i => by simp [odd]
  | t :: l, i => by
    rw [List.cons_append, odd, odd, odd_snoc s l (i + 1), show i + 1 + l.length = i + (t :: l).length from by simp; omega]
    by_cases c : i % 3 = 1
    · rw [if_pos c, if_pos c]; rfl
    · rw [if_neg c, if_neg c]
theorem odd_le : ∀ (l : List ByteArray) (i : Nat), ((odd l i).map ByteArray.size).sum ≤ (l.map ByteArray.size).sum
  | [], _ => by simp [odd]
  | s :: l, i => by
    have := odd_le l (i + 1)
    rw [odd]
    split
    · rw [List.map_cons, List.sum_cons, List.map_cons, List.sum_cons]; omega
    · rw [List.map_cons, List.sum_cons]; omega
theorem odd_join (l : List ByteArray) (i : Nat) : (join (odd l i)).size ≤ (join l).size := by rw [join_size, join_size]; exact odd_le l i
theorem join_flat (l : List ByteArray) : l.flatMap bI = bI (join l) := by
  have : ∀ (l : List ByteArray) (a : ByteArray), bI (l.foldl (· ++ ·) a) = bI a ++ l.flatMap bI := by
    intro l
    induction l with
    | nil => intro a; simp
    | cons s l ih => intro a; rw [List.foldl_cons, ih, bI_append, List.flatMap_cons, List.append_assoc]
  unfold join; rw [this]; rfl
set_option maxHeartbeats 4000000 in
set_option maxRecDepth 100000 in
theorem pieces_calls (A : Option Addr) (c : Nat) (l : List ByteArray) (w : World) (hr : Kd.C Kd.string w A l.length l) (hcc : l.length ≤ c) (hl : ∀ i, (join (l.take i)).size ≤ 1000000000) (hs : ∀ s ∈ l, s.size ≤ 1000000000) :
    Calls Try.prog 3 #[.slice A l.length c] w fun e w' => e = .returned (.bool true) ∧ Below w.heap.size w w' := by
  have HR := Aside0.mk hr
  have HL := Aside0.mk hl
  have HS := Aside0.mk hs
  have HC := Aside0.mk hcc
  have HM := Aside0.mk hr.2.1
  clear hr hl hs hcc
  go_enter Try.func3, Try.ntmps3
  go_wp2_with (fail)
  refine (PShaPieces.massiflaw01_fixed.calls true w fixed_true).mono ?_
  rintro e w1 ⟨rfl, hb1⟩
  have HB1 := Aside0.mk hb1
  clear hb1
  go_wp2_with (fail)
  refine (new1_calls w1).mono ?_
  rintro e w2 ⟨rfl, ha2, hb2⟩
  obtain ⟨ga, hga⟩ : ∃ g, g = w1.heap.size := ⟨_, rfl⟩
  have HA2 := Aside0.mk (show H1 w2 ga ByteArray.empty from by rw [hga]; exact ha2)
  have HGA := Aside0.mk (show w.heap.size ≤ ga from by rw [hga]; exact HB1.out.size)
  have HB2 := Aside0.mk (below_weaken HB1.out HB1.out.size hb2)
  rw [← hga]
  clear ha2 hb2 hga
  go_wp2_with (fail)
  refine (new1_calls w2).mono ?_
  rintro e w3 ⟨rfl, ha3, hb3⟩
  obtain ⟨gb, hgb⟩ : ∃ g, g = w2.heap.size := ⟨_, rfl⟩
  have HE3 := Aside0.mk (show H1 w3 gb ByteArray.empty from by rw [hgb]; exact ha3)
  have HA3 := Aside0.mk (HA2.out.below hb3)
  have HNE := Aside0.mk (show ga ≠ gb from by have := HA2.out.lt; omega)
  have HGB := Aside0.mk (show w.heap.size ≤ gb from by rw [hgb]; exact HB2.out.size)
  have HB3 := Aside0.mk (below_weaken HB2.out HB2.out.size hb3)
  rw [← hgb]
  clear ha3 hb3 hgb
  go_wp2_with (fail)
  go_loopg [5, 6, 7] l.length (fun kq v5 v6 v7 w' => ∃ i : Nat, v5 = .string (join (l.take i)) ∧ v6 = .string (join (odd (l.take i) 0)) ∧ v7 = .int .i64 (i : Int) ∧ Aside0 (i + kq = l.length) ∧ Aside0 (H1 w' ga (join (l.take i))) ∧ Aside0 (H1 w' gb (join (odd (l.take i) 0))) ∧ Aside0 (Below w.heap.size w w'))
  case atStart => exact ⟨0, by rfl, by rfl, by rfl, ⟨by omega⟩, ⟨HA3.out⟩, ⟨HE3.out⟩, HB3⟩
  case round =>
    obtain ⟨i, rfl, rfl, rfl, HI, HA, HE, HB⟩ := hrel
    cases gk with
    | zero =>
      have hlt : decide (i < l.length) = false := decide_eq_false (by have := HI.out; omega)
      have el : l.take i = l := List.take_of_length_le (by have := HI.out; omega)
      rw [el] at HA HE ⊢
      have HO := Aside0.mk (show (join (odd l 0)).size ≤ 9223372036854775807 from by have h1 := odd_join l 0; have h2 := HL.out l.length; rw [List.take_length] at h2; omega)
      obtain ⟨x, hx⟩ : ∃ x, x = join l := ⟨_, rfl⟩
      obtain ⟨y, hy⟩ : ∃ y, y = join (odd l 0) := ⟨_, rfl⟩
      obtain ⟨sx, hsx⟩ : ∃ sx, sx = sum1 x := ⟨_, rfl⟩
      obtain ⟨sy, hsy⟩ : ∃ sy, sy = sum1 y := ⟨_, rfl⟩
      rw [← hx] at HA ⊢
      rw [← hy] at HE HO ⊢
      have HX := Aside0.mk hx
      have HSX := Aside0.mk hsx
      have HSY := Aside0.mk hsy
      clear hx hy el hsx hsy
      go_wp2_with (fail)
      refine (of_calls A c l wr (Kd.C_below HR.out HB.out) HC.out (fun s hs => by have := HS.out s hs; omega)).mono ?_
      rw [join_flat, ← HX.out, show sha (bI x) = sx from HSX.out.symm]
      rintro e w4 ⟨rfl, hb4⟩
      have HA4 := Aside0.mk (HA.out.below hb4)
      have HE4 := Aside0.mk (HE.out.below hb4)
      have HB4 := Aside0.mk (below_weaken HB.out HB.out.size hb4)
      clear hb4
      go_wp2_with (fail)
      refine (sum1_calls w4 ga x HA4.out).mono ?_
      rw [← HSX.out]
      rintro e w5 ⟨rfl, hb5⟩
      have HE5 := Aside0.mk (HE4.out.below hb5)
      have HB5 := Aside0.mk (below_weaken HB4.out HB4.out.size hb5)
      clear hb5
      go_wp2_with (fail)
      refine (sum1_calls w5 gb y HE5.out).mono ?_
      rw [← HSY.out]
      rintro e w6 ⟨rfl, hb6⟩
      have HB6 := Aside0.mk (below_weaken HB5.out HB5.out.size hb6)
      clear hb6
      go_wp2_with (fail)
      refine (of1_calls _ _ y _ (one_cell (blk_new _ _)) (by omega) HO.out).mono ?_
      rw [← HSY.out]
      rintro e w7 ⟨rfl, hb7⟩
      have HB7 := Aside0.mk (below_weaken (below_alloc HB6.out _) (Nat.le_trans HB6.out.size (by simp)) hb7)
      clear hb7
      go_wp2_with (fail)
      go_ret
      exact ⟨rfl, HB7.out⟩
    | succ k1 =>
      have hil : i < l.length := by have := HI.out; omega
      have hlt : decide (i < l.length) = true := decide_eq_true hil
      have hib : (i : Int) ≤ 9223372036854775806 := by have h1 := HM.out; unfold maxLen at h1; omega
      have hrd : rdOf ByteArray.empty l (i : Int) = l[i] := by unfold rdOf; simp [hil]
      obtain ⟨s, hs⟩ : ∃ s : ByteArray, s = l[i] := ⟨_, rfl⟩
      have HSE := Aside0.mk hs
      have HSL := Aside0.mk (show s.size ≤ 1000000000 from by rw [hs]; exact HS.out _ (List.getElem_mem hil))
      rw [← hs] at hrd
      have HRD := Aside0.mk hrd
      clear hs hrd
      have AT : ∀ u : World, Below w.heap.size w u → ∃ ad : Addr, A = some ad ∧ u.cell? (ad.add i) = some (.string s) := by
        intro u hu
        obtain ⟨ad, e1, hx⟩ := Kd.at_string (Kd.C_below HR.out hu) (i : Int) (by omega) (by omega)
        rw [HRD.out, Int.toNat_natCast] at hx
        exact ⟨ad, e1, by simpa using hx⟩
      obtain ⟨ad, e1, hx1⟩ := AT wr HB.out
      cases e1
      have AT2 := Aside0.mk (fun (u : World) (hu : Below w.heap.size w u) => show u.cell? (ad.add i) = some (.string s) from by
        obtain ⟨ad', e1, hx⟩ := AT u hu
        cases e1; exact hx)
      clear AT
      go_wp2_with (fail)
      refine (write1_calls wr ga _ s HA.out (by have := HSL.out; omega)).mono ?_
      rintro e v1 ⟨rfl, hw1, hk1⟩
      have HAv := Aside0.mk hw1
      have HEv := Aside0.mk (HE.out.other hk1 (fun e => HNE.out e.symm))
      have HBv := Aside0.mk (K1.old HB.out HGA.out hk1)
      have hx2 := AT2.out v1 HBv.out
      have HLi := Aside0.mk (HL.out i)
      have HOi := Aside0.mk (odd_join (l.take i) 0)
      have hcat : (9223372036854775807 < (join (l.take i)).size + s.size) = False := eq_false (by have h1 := HLi.out; have h2 := HSL.out; omega)
      have HXX := Aside0.mk (show (join (l.take i) ++ s).size ≤ 9223372036854775807 from by rw [ByteArray.size_append]; have h1 := HLi.out; have h2 := HSL.out; omega)
      have HOS := Aside0.mk (odd_snoc s (l.take i) 0)
      have htk : (l.take i).length = i := by rw [List.length_take]; omega
      rw [htk, Nat.zero_add] at HOS
      have tm : Int.tmod (i : Int) 3 = ((i % 3 : Nat) : Int) := by rw [Int.tmod_eq_emod_of_nonneg (by omega)]; omega
      have TK := Aside0.mk (show l.take (i + 1) = l.take i ++ [s] from by rw [List.take_succ_eq_append_getElem hil, HSE.out])
      have HX0 := Aside0.mk (show join (l.take i) ++ s = join (l.take (i + 1)) from by rw [TK.out, join_snoc])
      clear hw1 hk1 hx1 htk
      by_cases c3 : i % 3 = 1
      · have t1 : (Int.tmod (i : Int) 3 == 1) = true := by rw [tm, c3]; rfl
        have t2 : (Int.tmod (i : Int) 3 = 1) = True := eq_true (by rw [tm, c3]; rfl)
        rw [if_pos c3] at HOS
        clear tm
        go_wp2_with (fail)
        refine (write1_calls v1 gb _ s HEv.out (by have := HSL.out; omega)).mono ?_
        rintro e v2 ⟨rfl, hw2, hk2⟩
        have HEt := Aside0.mk hw2
        have HAt := Aside0.mk (HAv.out.other hk2 HNE.out)
        have HBt := Aside0.mk (K1.old HBv.out HGB.out hk2)
        have hx3 := AT2.out v2 HBt.out
        have hcat2 : (9223372036854775807 < (join (odd (l.take i) 0)).size + s.size) = False := eq_false (by have h1 := HLi.out; have h2 := HSL.out; have h3 := HOi.out; omega)
        have HYL0 := Aside0.mk (show (join (odd (l.take i) 0) ++ s).size ≤ 9223372036854775807 from by rw [ByteArray.size_append]; have h1 := HLi.out; have h2 := HSL.out; have h3 := HOi.out; omega)
        have HY0 := Aside0.mk (show join (odd (l.take i) 0) ++ s = join (odd (l.take (i + 1)) 0) from by rw [TK.out, HOS.out, join_snoc])
        clear hw2 hk2 hx2
        go_wp2_with (fail)
        obtain ⟨x, hx⟩ : ∃ x, x = join (l.take i) ++ s := ⟨_, rfl⟩
        obtain ⟨y, hy⟩ : ∃ y, y = join (odd (l.take i) 0) ++ s := ⟨_, rfl⟩
        obtain ⟨sx, hsx⟩ : ∃ sx, sx = sum1 x := ⟨_, rfl⟩
        obtain ⟨sy, hsy⟩ : ∃ sy, sy = sum1 y := ⟨_, rfl⟩
        rw [← hx] at HAt ⊢
        rw [← hy] at HEt ⊢
        have HXL := Aside0.mk (show x.size ≤ 9223372036854775807 from by rw [hx]; exact HXX.out)
        have HYL := Aside0.mk (show y.size ≤ 9223372036854775807 from by rw [hy]; exact HYL0.out)
        have HX := Aside0.mk hx
        have HY := Aside0.mk hy
        have HSX := Aside0.mk hsx
        have HSY := Aside0.mk hsy
        clear hx hy hsx hsy
        refine (sum1_calls _ ga x HAt.out).mono ?_
        rw [← HSX.out]
        rintro e u1 ⟨rfl, hc1⟩
        have HA1 := Aside0.mk (HAt.out.below hc1)
        have HE1 := Aside0.mk (HEt.out.below hc1)
        have HB1_ := Aside0.mk (below_weaken HBt.out HBt.out.size hc1)
        clear hc1
        go_wp2_with (fail)
        refine (of1_calls _ _ x _ (one_cell (blk_new _ _)) (by omega) HXL.out).mono ?_
        rw [← HSX.out]
        rintro e u2 ⟨rfl, hc2⟩
        have HD2 := Aside0.mk (below_weaken (below_alloc (Below.refl _ _) _) (by simp) hc2)
        have HA2_ := Aside0.mk (HA1.out.below HD2.out)
        have HE2 := Aside0.mk (HE1.out.below HD2.out)
        have HB2_ := Aside0.mk (below_weaken HB1_.out HB1_.out.size HD2.out)
        clear hc2
        go_wp2_with (fail)
        refine (sum1_calls _ gb y HE2.out).mono ?_
        rw [← HSY.out]
        rintro e u3 ⟨rfl, hc3⟩
        have HA3_ := Aside0.mk (HA2_.out.below hc3)
        have HE3_ := Aside0.mk (HE2.out.below hc3)
        have HB3_ := Aside0.mk (below_weaken HB2_.out HB2_.out.size hc3)
        clear hc3
        go_wp2_with (fail)
        refine (of1_calls _ _ y _ (one_cell (blk_new _ _)) (by omega) HYL.out).mono ?_
        rw [← HSY.out]
        rintro e u4 ⟨rfl, hc4⟩
        have HD4 := Aside0.mk (below_weaken (below_alloc (Below.refl _ _) _) (by simp) hc4)
        have HA4_ := Aside0.mk (HA3_.out.below HD4.out)
        have HE4_ := Aside0.mk (HE3_.out.below HD4.out)
        have HB4_ := Aside0.mk (below_weaken HB3_.out HB3_.out.size HD4.out)
        clear hc4
        go_wp2_with (fail)
        refine (sum1_calls _ ga x HA4_.out).mono ?_
        rw [← HSX.out]
        rintro e u5 ⟨rfl, hc5⟩
        have HA5 := Aside0.mk (HA4_.out.below hc5)
        have HE5 := Aside0.mk (HE4_.out.below hc5)
        have HB5 := Aside0.mk (below_weaken HB4_.out HB4_.out.size hc5)
        clear hc5
        go_wp2_with (fail)
        refine (of1_calls _ _ x _ (one_cell (blk_new _ _)) (by omega) HXL.out).mono ?_
        rw [← HSX.out]
        rintro e u6 ⟨rfl, hc6⟩
        have HD6 := Aside0.mk (below_weaken (below_alloc (Below.refl _ _) _) (by simp) hc6)
        have HA6 := Aside0.mk (HA5.out.below HD6.out)
        have HE6 := Aside0.mk (HE5.out.below HD6.out)
        have HB6 := Aside0.mk (below_weaken HB5.out HB5.out.size HD6.out)
        clear hc6
        go_wp2_with (fail)
        go_roundg k1
        case measure => exact Nat.lt_succ_self _
        case rel =>
          have e1 : x = join (l.take (i + 1)) := HX.out.trans HX0.out
          have e2 : y = join (odd (l.take (i + 1)) 0) := HY.out.trans HY0.out
          refine ⟨i + 1, by rw [e1], by rw [e2], by go_num, ⟨by have := HI.out; clear HSE HX HY; omega⟩, ⟨by rw [← e1]; exact HA6.out⟩, ⟨by rw [← e2]; exact HE6.out⟩, HB6⟩
      · have t1 : (Int.tmod (i : Int) 3 == 1) = false := by rw [tm]; exact beq_eq_false_iff_ne.2 (by omega)
        have t2 : (Int.tmod (i : Int) 3 = 1) = False := eq_false (by rw [tm]; omega)
        rw [if_neg c3, List.append_nil] at HOS
        have HAt := HAv
        have HEt := HEv
        have HBt := HBv
        have HYL0 := Aside0.mk (show (join (odd (l.take i) 0)).size ≤ 9223372036854775807 from by have h1 := HLi.out; have h3 := HOi.out; omega)
        have HY0 := Aside0.mk (show join (odd (l.take i) 0) = join (odd (l.take (i + 1)) 0) from by rw [TK.out, HOS.out])
        clear tm
        go_wp2_with (fail)
        obtain ⟨x, hx⟩ : ∃ x, x = join (l.take i) ++ s := ⟨_, rfl⟩
        obtain ⟨y, hy⟩ : ∃ y, y = join (odd (l.take i) 0) := ⟨_, rfl⟩
        obtain ⟨sx, hsx⟩ : ∃ sx, sx = sum1 x := ⟨_, rfl⟩
        obtain ⟨sy, hsy⟩ : ∃ sy, sy = sum1 y := ⟨_, rfl⟩
        rw [← hx] at HAt ⊢
        rw [← hy] at HEt ⊢
        have HXL := Aside0.mk (show x.size ≤ 9223372036854775807 from by rw [hx]; exact HXX.out)
        have HYL := Aside0.mk (show y.size ≤ 9223372036854775807 from by rw [hy]; exact HYL0.out)
        have HX := Aside0.mk hx
        have HY := Aside0.mk hy
        have HSX := Aside0.mk hsx
        have HSY := Aside0.mk hsy
        clear hx hy hsx hsy
        refine (sum1_calls _ ga x HAt.out).mono ?_
        rw [← HSX.out]
        rintro e u1 ⟨rfl, hc1⟩
        have HA1 := Aside0.mk (HAt.out.below hc1)
        have HE1 := Aside0.mk (HEt.out.below hc1)
        have HB1_ := Aside0.mk (below_weaken HBt.out HBt.out.size hc1)
        clear hc1
        go_wp2_with (fail)
        refine (of1_calls _ _ x _ (one_cell (blk_new _ _)) (by omega) HXL.out).mono ?_
        rw [← HSX.out]
        rintro e u2 ⟨rfl, hc2⟩
        have HD2 := Aside0.mk (below_weaken (below_alloc (Below.refl _ _) _) (by simp) hc2)
        have HA2_ := Aside0.mk (HA1.out.below HD2.out)
        have HE2 := Aside0.mk (HE1.out.below HD2.out)
        have HB2_ := Aside0.mk (below_weaken HB1_.out HB1_.out.size HD2.out)
        clear hc2
        go_wp2_with (fail)
        refine (sum1_calls _ gb y HE2.out).mono ?_
        rw [← HSY.out]
        rintro e u3 ⟨rfl, hc3⟩
        have HA3_ := Aside0.mk (HA2_.out.below hc3)
        have HE3_ := Aside0.mk (HE2.out.below hc3)
        have HB3_ := Aside0.mk (below_weaken HB2_.out HB2_.out.size hc3)
        clear hc3
        go_wp2_with (fail)
        refine (of1_calls _ _ y _ (one_cell (blk_new _ _)) (by omega) HYL.out).mono ?_
        rw [← HSY.out]
        rintro e u4 ⟨rfl, hc4⟩
        have HD4 := Aside0.mk (below_weaken (below_alloc (Below.refl _ _) _) (by simp) hc4)
        have HA4_ := Aside0.mk (HA3_.out.below HD4.out)
        have HE4_ := Aside0.mk (HE3_.out.below HD4.out)
        have HB4_ := Aside0.mk (below_weaken HB3_.out HB3_.out.size HD4.out)
        clear hc4
        go_wp2_with (fail)
        refine (sum1_calls _ ga x HA4_.out).mono ?_
        rw [← HSX.out]
        rintro e u5 ⟨rfl, hc5⟩
        have HA5 := Aside0.mk (HA4_.out.below hc5)
        have HE5 := Aside0.mk (HE4_.out.below hc5)
        have HB5 := Aside0.mk (below_weaken HB4_.out HB4_.out.size hc5)
        clear hc5
        go_wp2_with (fail)
        refine (of1_calls _ _ x _ (one_cell (blk_new _ _)) (by omega) HXL.out).mono ?_
        rw [← HSX.out]
        rintro e u6 ⟨rfl, hc6⟩
        have HD6 := Aside0.mk (below_weaken (below_alloc (Below.refl _ _) _) (by simp) hc6)
        have HA6 := Aside0.mk (HA5.out.below HD6.out)
        have HE6 := Aside0.mk (HE5.out.below HD6.out)
        have HB6 := Aside0.mk (below_weaken HB5.out HB5.out.size HD6.out)
        clear hc6
        go_wp2_with (fail)
        go_roundg k1
        case measure => exact Nat.lt_succ_self _
        case rel =>
          have e1 : x = join (l.take (i + 1)) := HX.out.trans HX0.out
          have e2 : y = join (odd (l.take (i + 1)) 0) := HY.out.trans HY0.out
          refine ⟨i + 1, by rw [e1], by rw [e2], by go_num, ⟨by have := HI.out; clear HSE HX HY; omega⟩, ⟨by rw [← e1]; exact HA6.out⟩, ⟨by rw [← e2]; exact HE6.out⟩, HB6⟩
theorem sum_take (l : List ByteArray) (i : Nat) : (((l.take i).map ByteArray.size).sum) ≤ (l.map ByteArray.size).sum := by
  have h : (l.take i ++ l.drop i).map ByteArray.size = (l.take i).map ByteArray.size ++ (l.drop i).map ByteArray.size := List.map_append ..
  rw [List.take_append_drop] at h
  rw [h, List.sum_append]; omega
theorem le_sum : ∀ (l : List ByteArray), ∀ s ∈ l, s.size ≤ (l.map ByteArray.size).sum
  | t :: l, s, h => by
    rw [List.map_cons, List.sum_cons]
    rcases List.mem_cons.1 h with h | h
    · rw [h]; omega
    · have := le_sum l s h; omega
theorem pieces_all (A : Option Addr) (c : Nat) (l : List ByteArray) (w : World) (hr : Kd.C Kd.string w A l.length l) (hcc : l.length ≤ c) (hsum : (l.map ByteArray.size).sum ≤ 1048576) :
    Calls Try.prog 3 #[.slice A l.length c] w fun e w' => e = .returned (.bool true) ∧ Below w.heap.size w w' :=
  pieces_calls A c l w hr hcc (fun i => by rw [join_size]; have := sum_take l i; omega) (fun s hs => by have := le_sum l s hs; omega)
end Go.Proofs.Ythjnnbgamnpegaa.Sha
