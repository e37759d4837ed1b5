/- massiflaw10.ForestFresh: the walk. No condition beyond those that each theorem names. -/
import Derived.Test.YtelhpamhnnjgaaaFoGrow
import Derived.Test.YtelhpamhnnjgaaaFoR1
import Derived.Test.YtelhpamhnnjgaaaDk
import Derived.Lib.QuietBelow
import Derived.BigQuiet
set_option linter.unusedVariables false
set_option linter.unusedSimpArgs false
namespace Go.Proofs.Ytelhpamhnnjgaaa.Fo
open Go.RowKit Go.Proofs.Ytelhpamhnnjgaaa.MB Go.Proofs.Ytelhpamhnnjgaaa.Pk Go.Proofs.YtelhpamhnnjgaaaW.PrintWords Go.Proofs.YtelhpamhnnjgaaaW.PrintLast Go.Proofs.YtelhpamhnnjgaaaW.PrintMore Go.Proofs.Ytelhpamhnnjgaaa.PForestFresh Go.Proofs.Ytelhpamhnnjgaaa.Ob Go.Proofs.Ytelhpamhnnjgaaa.Ap Go.Proofs.Ytelhpamhnnjgaaa.Dk
theorem fewF_C {w : World} {A : Option Addr} {l : List ByteArray} (h : Kd.C Kd.string w A l.length l) : Kd.C Kd.string w A (fewF l).length (fewF l) := by
  unfold fewF; split
  · exact Kd.C_take h (by omega)
  · exact h
theorem massiflaw10_same.run (l : List ByteArray) (hl : l.length ≤ 140737488351232) : ∀ (d i K : Nat), i + d = l.length → d < K → massiflaw10_same.l0 K l l (i : Int) = some true := by
  intro d
  induction d with
  | zero =>
    intro i K h hK
    obtain ⟨K, rfl⟩ : ∃ m, K = m + 1 := ⟨K - 1, by omega⟩
    rw [massiflaw10_same.l0, if_neg (by omega)]
  | succ d ih =>
    intro i K h hK
    obtain ⟨K, rfl⟩ : ∃ m, K = m + 1 := ⟨K - 1, by omega⟩
    have e : wrap64 ((i : Int) + 1) = ((i + 1 : Nat) : Int) := by rw [IntWalk.wrap64_in _ (by omega)]; omega
    rw [massiflaw10_same.l0, if_pos (by omega), if_pos (by omega), if_pos (by omega), if_pos rfl, e]
    exact ih (i + 1) K (by omega) (by omega)
theorem massiflaw10_same.is (K : Nat) (l : List ByteArray) (hl : l.length ≤ 140737488351232) (hK : l.length < K) : massiflaw10_same.f K l l = some true := by
  unfold massiflaw10_same.f
  rw [if_pos rfl]
  exact massiflaw10_same.run l hl l.length 0 K (by omega) hK
/-- The mark of a list. -/
def mk (t : Nat) : ByteArray := strOfNums ([33, (t : Int) % 256, (wrap64 (Int.tdiv (t : Int) 256)) % 256] : List Int)
theorem mark_ok (t : Nat) (w : World) : Calls Try.prog 23 #[.int .i64 (t : Int)] w fun e w' => e = .returned (.string (mk t)) ∧ Below w.heap.size w w' := massiflaw10_mark.calls (t : Int) (mk t) w rfl
theorem Fr.other {w w1 : World} {hf : Nat} {col : Nat → Nat} {k : Int} {n : Nat} {F : Int → Int → Option ByteArray} {row : Option Nat} (h : Fr w hf (fun j => col j = 1) k n F) (hg : w.grownBy w1 row) (hn : ∀ j, row = some j → col j ≠ 1) : Fr w1 hf (fun j => col j = 1) k n F :=
  h.step (fun j hj hl => hg.block j hl (fun e => hn j e.symm hj))
/-- The blocks of the first i items. -/
def lf0 (i : Nat) : List (Nat × Nat) := (List.range i).map fun j => (0, j)
theorem lf0_succ (i : Nat) : blks (lf0 i) ++ [⟨0, (i : Int)⟩] = blks (lf0 (i + 1)) := by
  unfold lf0; rw [List.range_succ, List.map_append, blks_append]; rfl
theorem lf0_len (i : Nat) : (lf0 i).length = i := by unfold lf0; simp
/-- What stands beside the lists: the forest g (colour 2), the items (0), the row of lists (4). -/
structure Bs (w0 w : World) (col : Nat → Nat) (hg : Nat) (k : Int) (L : List ByteArray) (Al : Option Addr) (cl : Nat) (va : Value) (ha : List H) : Prop where
  g : Fr w hg (fun j => col j = 2) k L.length (fo k L)
  l : Kd.string.R 9 w 0 (fun j => col j = 0) (.slice Al L.length cl) L
  all : kH.R 22 w 0 (fun j => col j = 4) va ha
  low : ∀ j, col j ≠ 0 → w0.heap.size ≤ j
  bel : Below w0.heap.size w0 w
section
variable {w0 w w1 : World} {col col' : Nat → Nat} {hg hf : Nat} {k : Int} {L : List ByteArray} {Al : Option Addr} {cl : Nat} {va v : Value} {ha : List H} {n : Nat} {F : Int → Int → Option ByteArray}
theorem Bs.step (b : Bs w0 w col hg k L Al cl va ha) (hm : ∀ j, (col j = 0 ∨ col j = 2 ∨ col j = 4) → j < w.heap.size → w1.heap[j]? = w.heap[j]?) (hb : Below w0.heap.size w0 w1) : Bs w0 w1 col hg k L Al cl va ha :=
  ⟨b.g.step (fun j hj hl => hm j (.inr (.inl hj)) hl), Kd.R_step b.l (fun j hj hl => hm j (.inl hj) hl), Kd.R_step b.all (fun j hj hl => hm j (.inr (.inr hj)) hl), b.low, hb⟩
theorem Bs.below (b : Bs w0 w col hg k L Al cl va ha) (hb : Below w.heap.size w w1) : Bs w0 w1 col hg k L Al cl va ha := b.step (fun j _ hj => hb.block j hj) (below_weaken b.bel b.bel.size hb)
theorem Fr.recol {m : Nat} (h : Fr w hf (fun j => col j = n) k m F) (hc : ∀ j, j < w.heap.size → col' j = col j) : Fr w hf (fun j => col' j = n) k m F := h.bound.mono (fun j hj => by rw [hc j hj.2]; exact hj.1)
theorem Bs.recol (b : Bs w0 w col hg k L Al cl va ha) (hc : ∀ j, j < w.heap.size → col' j = col j) (hl : ∀ j, col' j ≠ 0 → w0.heap.size ≤ j) : Bs w0 w col' hg k L Al cl va ha :=
  ⟨Fr.recol b.g hc, R_recol b.l hc, R_recol b.all hc, hl, b.bel⟩
theorem Bs.coled (b : Bs w0 w col hg k L Al cl va ha) (t : Nat) : Bs w0 w (coled w col t) hg k L Al cl va ha :=
  b.recol (coled_old w col t) (fun j hj => by
    have hz := b.bel.size
    unfold Ap.coled at hj
    by_cases c : w.heap.size ≤ j
    · omega
    · rw [if_neg c] at hj; exact b.low j hj)
theorem low_ge (b : Bs w0 w col hg k L Al cl va ha) {j t : Nat} (h : col j = t) (ht : t ≠ 0) : w0.heap.size ≤ j := b.low j (by omega)
/-- A row of a colour of no concern (1, 3, 5 or a list's) has been written. -/
theorem Bs.grown {row : Option Nat} (b : Bs w0 w col hg k L Al cl va ha) (hw : w.grownBy w1 row) (hn : ∀ j, row = some j → col j = 1 ∨ col j = 3 ∨ 5 ≤ col j) : Bs w0 w1 col hg k L Al cl va ha :=
  b.step (fun j hj hl => hw.block j hl (fun e => by have := hn j e.symm; omega))
    (Kp.old b.bel b.bel.size (Kp.grown (Kp.refl w (fun j => w0.heap.size ≤ j)) hw (fun j hj => .inl (b.low j (by have := hn j hj; omega)))) (fun _ h => h))
theorem Bs.kept {S : Nat → Prop} (b : Bs w0 w col hg k L Al cl va ha) (hk : Kp w w1 S) (hn : ∀ j, S j → col j = 1 ∨ col j = 3 ∨ 5 ≤ col j) : Bs w0 w1 col hg k L Al cl va ha :=
  b.step (fun j hj hl => hk.keep j hl (fun h => by have := hn j h; omega))
    (Kp.old b.bel b.bel.size (hk.mono (fun j h => b.low j (by have := hn j h; omega))) (fun _ h => h))
end
/-- wpQuiet behind a wall, so that nothing lays it open. -/
structure WQ (P : Program) (ops : Array Oper) (C : World → Prop) (Q : Act → Prop) (l : List Oper) (a : Act) : Prop where
  out : wpQuiet P ops C Q l a
theorem WQ.step {P : Program} {ops : Array Oper} {C : World → Prop} {Q : Act → Prop} {a : Act} {o : Oper} {rest : List Oper}
    (h : ∀ K : Act → Prop, (∀ a, WQ P ops C Q rest a → K a) → if Region.wanted o (yielded ops a.tmps) = true then o.quiet P a C K else K (a.put o.dst undef)) : WQ P ops C Q (o :: rest) a :=
  ⟨wpQuiet_step (fun K hK => h K (fun a ha => hK a ha.out))⟩
theorem WQ.nil {P : Program} {ops : Array Oper} {C : World → Prop} {Q : Act → Prop} {a : Act} (h : Q a) : WQ P ops C Q [] a := ⟨wpQuiet_nil h⟩
theorem region_wq {P : Program} {id : Nat} {Q : Exit → Act → World → Prop} {a : Act} {w : World} {l : List Oper} (hm : P.follows .mixedOrders = true) (hB : Region.lexB .any l.toArray = true)
    (h : WQ P l.toArray (fun w' => ∃ p : Regrown, w' = Go.Sort.grow (redrawn w p.d) p.os) (fun a' => ∀ w', (∃ p : Regrown, w' = Go.Sort.grow (redrawn w p.d) p.os) → Q .normal a' w') l a) : (Code.region id l.toArray true).wp P Q a w :=
  wp_region_quiet_below hm hB h.out
set_option maxHeartbeats 40000000 in
set_option maxRecDepth 100000 in
theorem fresh_calls (w : World) (a0 : Int) (A : Option Addr) (c : Nat) (l : List ByteArray) (hC : Kd.C Kd.string w A l.length l) (hc : l.length ≤ c) :
    Calls Try.prog 4 #[.int .i64 a0, .slice A l.length c] w fun e w' => e = .returned (.bool true) ∧ Below w.heap.size w w' := by
  obtain ⟨k, hk, k1, k2⟩ := strength_is a0
  have HK := Aside0.mk hk
  have HK2 := Aside0.mk (And.intro k1 k2)
  have HC := Aside0.mk hC
  have HCC := Aside0.mk hc
  clear hk k1 k2 hC hc
  go_enter Try.func4, Try.ntmps4
  go_wp2_with (fail)
  refine (alive_calls _).mono ?_
  rintro e w1 ⟨rfl, hb1⟩
  have HB1 := Aside0.mk hb1
  clear hb1
  go_wp2_with (fail)
  refine (massiflaw10_strength.calls a0 k _ HK.out).mono ?_
  rintro e w2 ⟨rfl, hd2⟩
  have HB2 := Aside0.mk (below_weaken HB1.out HB1.out.size hd2.below)
  clear hd2
  go_wp2_with (fail)
  refine (few_calls w2 A c l (Kd.C_below HC.out HB2.out) HCC.out).mono ?_
  rintro e w3 ⟨rfl, hC3, hc3, hb3⟩
  have HB3 := Aside0.mk (below_weaken HB2.out HB2.out.size hb3)
  have HC3 := Aside0.mk hC3
  have HCC3 := Aside0.mk hc3
  obtain ⟨f, hf⟩ : ∃ f, f = fewF l := ⟨_, rfl⟩
  have HFL := Aside0.mk (show f.length ≤ 70 from by rw [hf]; exact fewF_len l)
  rw [← hf] at HC3 HCC3 ⊢
  clear hb3 hC3 hc3 hf HC HCC
  go_wp2_with (fail)
  refine (grown_calls w3 k HK2.out.1 HK2.out.2 A c f HC3.out HCC3.out (by have := HFL.out; omega)).mono ?_
  rintro e w4 ⟨hg, Bg, vl, rfl, hrg, hrl, hz3, hz4, hb4⟩
  obtain ⟨L, hL⟩ : ∃ L, L = fits f := ⟨_, rfl⟩
  have HLS := Aside0.mk (show ∀ s ∈ L, s.size ≤ 1048576 from by rw [hL]; exact fits_mem f)
  have HLN := Aside0.mk (show L.length ≤ 70 from by rw [hL]; exact Nat.le_trans (fits_len f) HFL.out)
  rw [← hL] at hrg hrl
  obtain ⟨Al, cl, el, hcl, hCl⟩ := Kd.R_reads hrl
  subst el
  have HRG4 := Aside0.mk hrg.bound
  have HRL4 := Aside0.mk hrl
  have HZ := Aside0.mk (And.intro hz3 hz4)
  have HB4 := Aside0.mk (below_weaken HB3.out HB3.out.size hb4)
  clear hrg hrl hz3 hz4 hb4 hcl hCl hL
  go_wp2_with (fail)
  refine (new_ok w4 k HK2.out.1 HK2.out.2).mono ?_
  rintro e w5 ⟨hf, rfl, hrf, hb5⟩
  have HRF5 := Aside0.mk hrf.bound
  have HB5 := Aside0.mk (below_weaken HB4.out HB4.out.size hb5)
  have HBL5 := Aside0.mk hb5
  clear hrf hb5
  go_wp2_with (first | (go_at_call 11; refine (num_calls _ _).mono ?_; rintro e _ ⟨rfl, rfl⟩))
  obtain ⟨col, hcol⟩ : ∃ col : Nat → Nat, col = fun j => if j < w3.heap.size then 0 else if j < Bg then 2 else if j < w4.heap.size then 0 else if j < w5.heap.size then 1 else 0 := ⟨_, rfl⟩
  have HBS := Aside0.mk (show Bs w w5 col hg k L Al cl (.slice none 0 0) [] from by
    have z := HZ.out
    have z5 := HBL5.out.size
    have z3 := HB3.out.size
    refine ⟨(HRG4.out.below HBL5.out).mono (fun j hj => ?_), Kd.R_below (Kd.R_lower (Kd.R_mono (Kd.R_bound HRL4.out) (fun j hj => ?_)) (Nat.zero_le _)) HBL5.out, Kd.R_nil _ _ _ _ _, fun j hj => ?_, HB5.out⟩
    · have h1 := hj.1.1; have h2 := hj.1.2; have h3 := hj.2
      rw [hcol]; simp only []; rw [if_neg (by omega), if_pos (by omega)]
    · have h1 := hj.1; have h2 := hj.2.1; have h3 := hj.2.2.1
      rw [hcol]; simp only []; rw [if_neg (by omega), if_neg (by omega), if_pos (by omega)]
    · rcases Nat.lt_or_ge j w3.heap.size with h2 | h2
      · exfalso; apply hj; rw [hcol]; simp only []; rw [if_pos h2]
      · omega)
  have HF := Aside0.mk (show Fr w5 hf (fun j => col j = 1) k 0 (fo k (L.take 0)) from HRF5.out.mono (fun j hj => by
    have z := HZ.out
    have h1 := hj.1; have h2 := hj.2
    rw [hcol]; simp only []; rw [if_neg (by omega), if_neg (by omega), if_neg (by omega), if_pos h2]))
  have HBK := Aside0.mk (show Kd.R k45 45 w5 0 (fun j => col j = 3) (.slice none 0 0) (blks (lf0 0)) from Kd.R_nil _ _ _ _ _)
  have HD := Aside0.mk (Deck.nil Kd.string 9 w5 col 6)
  clear hcol HBL5 HB5 HRF5 HB4 HZ HRL4 HRG4 HB3 HB2 HB1 HC3 HCC3 HFL HK
  go_loopg [10, 12, 13] L.length (fun kq q10 q12 q13 w' => ∃ (i : Nat) (ha : List H) (Xs : List (List ByteArray)) (col : Nat → Nat), q13 = .int .i64 (i : Int) ∧ Aside0 (i + kq = L.length) ∧ Aside0 (Bs w w' col hg k L Al cl q10 ha) ∧ Aside0 (Fr w' hf (fun j => col j = 1) k i (fo k (L.take i))) ∧ Aside0 (Kd.R k45 45 w' 0 (fun j => col j = 3) q12 (blks (lf0 i))) ∧ Aside0 (Deck Kd.string 9 w' col 6 ha Xs) ∧ Aside0 (ha.length = 3 * i ∧ ∀ X ∈ Xs, X.length ≤ 100))
  case atStart => exact ⟨0, [], [], col, by rfl, ⟨by omega⟩, HBS, HF, HBK, HD, ⟨rfl, fun X hX => by cases hX⟩⟩
  case round =>
   obtain ⟨i, ha, Xs, col, rfl, HI, HBS, HF, HBK, HD, HXL⟩ := hrel
   cases gk with
   | zero =>
    have hlt : decide ((i : Int) < (L.length : Int)) = false := decide_eq_false (by have := HI.out; omega)
    have hlt' : decide (i < L.length) = false := decide_eq_false (by have := HI.out; omega)
    have ei : i = L.length := by have := HI.out; omega
    have e : L.take i = L := List.take_of_length_le (by omega)
    rw [e] at HF
    subst ei
    clear e HBK HI
    obtain ⟨Aa, ca, ea, _, hCa⟩ := Kd.R_reads HBS.out.all
    subst ea
    obtain ⟨N, hN⟩ : ∃ N, N = ha.length := ⟨_, rfl⟩
    have HN := Aside0.mk hN
    have HNN := Aside0.mk (show N ≤ 210 from by have := HXL.out.1; have := HLN.out; omega)
    have HHN := Aside0.mk (show ∀ (t : Nat) (h : H), ha[t]? = some h → h.n ≤ 100 from fun t h ht => by
      have hl := (List.getElem?_eq_some_iff.1 ht).1
      have hX : Xs[t]? = some (Xs[t]'(by rw [HD.out.len]; exact hl)) := List.getElem?_eq_getElem _
      rw [HD.out.lens t h _ ht hX]
      exact HXL.out.2 _ (List.getElem_mem _))
    rw [← hN] at HBS ⊢
    clear hN hCa HXL
    go_wp2_with (fail)
    clear hlt hlt'
    obtain ⟨w8, hw8⟩ : ∃ x, x = wr := ⟨_, rfl⟩
    rw [← hw8] at HBS HF HD ⊢
    clear hw8
    go_loopg [20] N (fun kq q20 w' => ∃ (i : Nat) (Xs : List (List ByteArray)), q20 = .int .i64 (i : Int) ∧ Aside0 (i + kq = N) ∧ Aside0 (Bs w w' col hg k L Al cl (.slice Aa N ca) ha) ∧ Aside0 (Fr w' hf (fun j => col j = 1) k L.length (fo k L)) ∧ Aside0 (Deck Kd.string 9 w' col 6 ha Xs) ∧ Aside0 (∀ t X, t < i → Xs[t]? = some X → X = List.replicate X.length (mk t)))
    case atStart => exact ⟨0, Xs, by rfl, ⟨by omega⟩, HBS, HF, HD, ⟨fun t X ht => absurd ht (Nat.not_lt_zero _)⟩⟩
    case round =>
     obtain ⟨i, Xs, rfl, HI, HBS, HF, HD, HM⟩ := hrel
     cases gk with
     | zero =>
      have hlt : decide ((i : Int) < (N : Int)) = false := decide_eq_false (by have := HI.out; omega)
      have hlt' : decide (i < N) = false := decide_eq_false (by have := HI.out; omega)
      have HM := Aside0.mk (show ∀ t X, Xs[t]? = some X → X = List.replicate X.length (mk t) from fun t X hX => HM.out t X (by have := (List.getElem?_eq_some_iff.1 hX).1; have h2 := HD.out.len; have h3 := HI.out; have h4 := HN.out; omega) hX)
      clear HI
      go_wp2_with (fail)
      clear hlt hlt'
      have HFS := Aside0.mk (Fs.start (y := mk) (cs := fun t => [Value.string (mk t)]) (fun t w c h => h) HD.out HM.out)
      obtain ⟨w9, hw9⟩ : ∃ x, x = wr := ⟨_, rfl⟩
      rw [← hw9] at HBS HF HFS ⊢
      clear hw9 HM HD
      have HMO := Aside0.mk (show Kd.R kH 22 w9 0 (fun j => col j = 5) (.slice none 0 0) (ha.take 0) from Kd.R_nil _ _ _ _ _)
      go_loopg [11, 22] N (fun kq q11 q22 w' => ∃ (i : Nat) (vs : List H) (col : Nat → Nat) (xx : Nat → Nat), q22 = .int .i64 (i : Int) ∧ Aside0 (i + kq = N) ∧ Aside0 (Bs w w' col hg k L Al cl (.slice Aa N ca) ha) ∧ Aside0 (Fr w' hf (fun j => col j = 1) k L.length (fo k L)) ∧ Aside0 (Fs Kd.string 9 w' col 6 ha vs mk (fun t => [Value.string (mk t)]) xx) ∧ Aside0 (Kd.R kH 22 w' 0 (fun j => col j = 5) q11 (vs.take i)) ∧ Aside0 ((∀ s, s < i → xx s = 12) ∧ (∀ s, i ≤ s → xx s = 0)) ∧ Aside0 (∀ s : Nat, i ≤ s → vs[s]? = ha[s]?))
      case atStart => exact ⟨0, ha, col, fun _ => 0, by rfl, ⟨by omega⟩, HBS, HF, HFS, HMO, ⟨fun s hs => absurd hs (Nat.not_lt_zero _), fun _ _ => rfl⟩, ⟨fun _ _ => rfl⟩⟩
      case round =>
       obtain ⟨i, vs, col, xx, rfl, HI, HBS, HF, HFS, HMO, HXX, HVS⟩ := hrel
       cases gk with
       | zero =>
        have hlt : decide ((i : Int) < (N : Int)) = false := decide_eq_false (by have := HI.out; omega)
        have hlt' : decide (i < N) = false := decide_eq_false (by have := HI.out; omega)
        have HXX := Aside0.mk (show ∀ s, s < N → xx s = 12 from fun s hs => HXX.out.1 s (by have := HI.out; omega))
        have HMO := Aside0.mk (show Kd.R kH 22 wr 0 (fun j => col j = 5) u11 vs from by
          have h := HMO.out
          rw [List.take_of_length_le (by rw [HFS.out.len]; have h2 := HI.out; have h3 := HN.out; omega)] at h; exact h)
        clear HI HVS
        go_wp2_with (fail)
        clear hlt hlt'
        obtain ⟨Am, cm, em, _, hCm⟩ := Kd.R_reads HMO.out
        have hvn : vs.length = N := by rw [HFS.out.len]; exact HN.out.symm
        rw [hvn] at em hCm
        subst em
        have HVN := Aside0.mk hvn
        have HCM := Aside0.mk hCm
        obtain ⟨w9, hw9⟩ : ∃ x, x = wr := ⟨_, rfl⟩
        rw [← hw9] at HBS HF HFS HCM ⊢
        have HBZ := Aside0.mk (Below.refl w9.heap.size w9)
        clear hw9 HMO hCm hvn
        go_loopg [25] N (fun kq q25 w' => ∃ i : Nat, q25 = .int .i64 (i : Int) ∧ Aside0 (i + kq = N) ∧ Aside0 (Below w9.heap.size w9 w'))
        case atStart => exact ⟨0, by rfl, ⟨by omega⟩, HBZ⟩
        case round =>
         obtain ⟨i, rfl, HI, HBZ⟩ := hrel
         cases gk with
         | zero =>
          have hlt : decide ((i : Int) < (N : Int)) = false := decide_eq_false (by have := HI.out; omega)
          have hlt' : decide (i < N) = false := decide_eq_false (by have := HI.out; omega)
          have HBS := Aside0.mk (HBS.out.below HBZ.out)
          have HF := Aside0.mk (HF.out.below HBZ.out)
          clear HI HFS HCM HVN HBZ
          go_wp2_with (fail)
          clear hlt hlt'
          obtain ⟨n, hn⟩ : ∃ n, n = L.length := ⟨_, rfl⟩
          have HFN := Aside0.mk (show Fr wr hf (fun j => col j = 1) k n (fo k L) from by rw [hn]; exact HF.out)
          have HGN := Aside0.mk (show Fr wr hg (fun j => col j = 2) k n (fo k L) from by rw [hn]; exact HBS.out.g)
          have HNL := Aside0.mk (show n ≤ 70 from by rw [hn]; exact HLN.out)
          have HNE := Aside0.mk hn
          have HBW := Aside0.mk HBS.out.bel
          clear HF HBS hn HXX
          obtain ⟨q, hq⟩ : ∃ q, q = 2 * n - ones n := ⟨_, rfl⟩
          have hno := place_Nodes.is n 65 (by have := HNL.out; omega) (Nat.le_refl _)
          rw [← hq] at hno
          have HNO := Aside0.mk hno
          have HQ := Aside0.mk hq
          have HQL := Aside0.mk (show q ≤ 140 from by have := HNL.out; omega)
          clear hno hq
          refine (size_calls wr hf _ k n _ HFN.out).mono ?_
          rintro e w10 ⟨rfl, hb10⟩
          have HBL := Aside0.mk hb10
          clear hb10
          go_wp2_with (fail)
          refine (place_Nodes.calls 65 n _ _ _ HNO.out).mono ?_
          rintro e w11 ⟨rfl, hd11⟩
          have HBL := Aside0.mk (below_weaken HBL.out (Nat.le_refl _) (hd11.below.mono HBL.out.size))
          have HFN := Aside0.mk (HFN.out.below HBL.out)
          have HGN := Aside0.mk (HGN.out.below HBL.out)
          have HBW := Aside0.mk (below_weaken HBW.out HBW.out.size HBL.out)
          clear hd11 HBL
          go_wp2_with (fail)
          have HBP := Aside0.mk (Below.refl w11.heap.size w11)
          go_loopg [29] q (fun kq q29 w' => ∃ p : Nat, q29 = .int .u64 (p : Int) ∧ Aside0 (p + kq = q) ∧ Aside0 (Below w11.heap.size w11 w'))
          case atStart => exact ⟨0, by rfl, ⟨by omega⟩, HBP⟩
          case round =>
           obtain ⟨p, rfl, HI, HBP⟩ := hrel
           have HF1 := Aside0.mk (HFN.out.below HBP.out)
           have HG1 := Aside0.mk (HGN.out.below HBP.out)
           cases gk with
           | zero =>
            have hlt : decide ((p : Int) < (q : Int)) = false := decide_eq_false (by have := HI.out; omega)
            have hlt' : decide (p < q) = false := decide_eq_false (by have := HI.out; omega)
            have HBW1 := Aside0.mk (below_weaken HBW.out HBW.out.size HBP.out)
            go_wp2_with (fail)
            obtain ⟨D, hD⟩ : ∃ D, D = rtD k L n := ⟨_, rfl⟩
            have HRC := Aside0.mk (fun (w' : World) (x : Nat) (ok : Nat → Prop) (hx : Fr w' x ok k n (fo k L)) => show Calls Try.prog 12 #[.pointer (some ⟨x, 0, none⟩), .int .u64 (n : Int)] w' fun e w'' => e = .returned (.tuple #[.agg #[.int .u64 (n : Int), .string D], .int .i64 0]) ∧ Below w'.heap.size w' w'' from by
              rw [hD]
              exact root_calls w' x ok k L (by rw [← HNE.out]; exact hx) (by have := HLN.out; omega) n (by rw [HNE.out]; exact Nat.le_refl _))
            clear hD hlt hlt'
            refine (size_calls wr hf _ k n _ HF1.out).mono ?_
            rintro e w12 ⟨rfl, hb12⟩
            have HF2 := Aside0.mk (HF1.out.below hb12)
            have HG2 := Aside0.mk (HG1.out.below hb12)
            have HB2 := Aside0.mk (below_weaken HBW1.out HBW1.out.size hb12)
            clear hb12
            go_wp2_with (fail)
            refine (HRC.out w12 hf _ HF2.out).mono ?_
            rintro e w13 ⟨rfl, hb13⟩
            have HF3 := Aside0.mk (HF2.out.below hb13)
            have HG3 := Aside0.mk (HG2.out.below hb13)
            have HB3 := Aside0.mk (below_weaken HB2.out HB2.out.size hb13)
            clear hb13
            go_wp2_with (fail)
            obtain ⟨w13a, hwa⟩ : ∃ x, x = w13.alloc (.cells #[.int .u64 (n : Int), .string D] 34) := ⟨_, rfl⟩
            have hal : Below w13.heap.size w13 w13a := by rw [hwa]; exact below_alloc (Below.refl _ _) _
            have HKC := Aside0.mk (show w13a.heap[w13.heap.size]? = some (.cells #[.int .u64 (n : Int), .string D] 34 (0, 0)) from by rw [hwa]; exact blk_new _ _)
            have HF3 := Aside0.mk (HF3.out.below hal)
            have HG3 := Aside0.mk (HG3.out.below hal)
            have HB3 := Aside0.mk (below_weaken HB3.out HB3.out.size hal)
            rw [← hwa]
            clear hwa hal
            obtain ⟨gc, hgc⟩ : ∃ gc, gc = w13.heap.size := ⟨_, rfl⟩
            rw [← hgc] at HKC ⊢
            clear hgc
            refine (size_calls w13a hg _ k n _ HG3.out).mono ?_
            rintro e w14 ⟨rfl, hb14⟩
            have HKC := Aside0.mk ((hb14.block gc (blkLt HKC.out)).trans HKC.out)
            have HF4 := Aside0.mk (HF3.out.below hb14)
            have HG4 := Aside0.mk (HG3.out.below hb14)
            have HB4 := Aside0.mk (below_weaken HB3.out HB3.out.size hb14)
            clear hb14
            go_wp2_with (fail)
            refine (HRC.out w14 hg _ HG4.out).mono ?_
            rintro e w15 ⟨rfl, hb15⟩
            have HF5 := Aside0.mk (HF4.out.below hb15)
            have HG5 := Aside0.mk (HG4.out.below hb15)
            have HB5 := Aside0.mk (below_weaken HB4.out HB4.out.size hb15)
            have HKC := Aside0.mk ((hb15.block gc (blkLt HKC.out)).trans HKC.out)
            clear hb15
            have hal := below_alloc (Below.refl _ w15) (.cells #[.int .u64 (n : Int), .string D] 34)
            have HF6 := Aside0.mk (HF5.out.below hal)
            have HG6 := Aside0.mk (HG5.out.below hal)
            have HB6 := Aside0.mk (below_weaken HB5.out HB5.out.size hal)
            have hkc := (hal.block gc (blkLt HKC.out)).trans HKC.out
            have hkd := blk_new w15 (.cells #[.int .u64 (n : Int), .string D] 34)
            have e0 : (w15.alloc (.cells #[.int .u64 (n : Int), .string D] 34)).cell? ⟨gc, 0, none⟩ = some (.int .u64 (n : Int)) := by unfold World.cell?; rw [hkc]; rfl
            have e1 : (w15.alloc (.cells #[.int .u64 (n : Int), .string D] 34)).cell? ⟨gc, 1, none⟩ = some (.string D) := by unfold World.cell?; rw [hkc]; rfl
            have f0 : (w15.alloc (.cells #[.int .u64 (n : Int), .string D] 34)).cell? ⟨w15.heap.size, 0, none⟩ = some (.int .u64 (n : Int)) := by unfold World.cell?; rw [hkd]; rfl
            have f1 : (w15.alloc (.cells #[.int .u64 (n : Int), .string D] 34)).cell? ⟨w15.heap.size, 1, none⟩ = some (.string D) := by unfold World.cell?; rw [hkd]; rfl
            clear hal hkc hkd
            go_wp2_with (first | (go_at_call 11; refine (num_calls _ _).mono ?_; rintro e _ ⟨rfl, rfl⟩) | (go_at_call 14; refine (size_calls _ hf _ k n _ HF6.out).mono ?_; rintro e w16 ⟨rfl, hb16⟩; have HG7 := Aside0.mk (HG6.out.below hb16); have HB7 := Aside0.mk (below_weaken HB6.out HB6.out.size hb16); clear hb16) | (go_at_call 14; refine (size_calls _ hg _ k n _ HG7.out).mono ?_; rintro e w17 ⟨rfl, hb17⟩; have HB8 := Aside0.mk (below_weaken HB7.out HB7.out.size hb17); clear hb17))
            go_ret
            exact ⟨rfl, HB8.out⟩
           | succ k1 =>
            have hpq : p < q := by have := HI.out; omega
            have HJ := Aside0.mk (show p + 1 + k1 = q from by have := HI.out; omega)
            have hlt : decide ((p : Int) < (q : Int)) = true := decide_eq_true (by omega)
            have hlt' : decide (p < q) = true := decide_eq_true hpq
            have b2 : 0 ≤ (p : Int) + 1 ∧ (p : Int) + 1 ≤ 18446744073709551615 := by have := HQL.out; omega
            obtain ⟨a, b, hm, hpl, _⟩ := row_block n (by have := HNL.out; omega) p (by have := HQ.out; omega)
            have hn1 := node_in wr hf _ k n _ HF1.out (by have := HNL.out; omega) a b hm p hpl.symm (by have := HQ.out; omega)
            have hpq2 : p < 2 * n - ones n := by have := HQ.out; omega
            have HM := Aside0.mk (And.intro hm hpl)
            have HP2 := Aside0.mk hpq2
            obtain ⟨D, hD⟩ : ∃ D, D = ((fo k L (a : Int) (b : Int)).getD ⟨#[]⟩) := ⟨_, rfl⟩
            obtain ⟨T, hT⟩ : ∃ T, T = (fo k L (a : Int) (b : Int)).isSome := ⟨_, rfl⟩
            rw [← hD, ← hT] at hn1
            have HDT := Aside0.mk (And.intro hD hT)
            have HN1 := Aside0.mk hn1
            have u3 : IntKind.u64.wrap ((p : Int) + 1) = (p : Int) + 1 := IntWalk.u64_in _ b2
            clear hD hT hn1 hpq2 hm hpl b2 hpq
            go_wp2_with (fail)
            refine HN1.out.mono ?_
            rintro e w12 ⟨rfl, hb12⟩
            have HG2 := Aside0.mk (HG1.out.below hb12)
            have HB2 := Aside0.mk (below_weaken HBP.out HBP.out.size hb12)
            clear hb12
            go_wp2_with (fail)
            have hn2 := node_in w12 hg _ k n _ HG2.out (by have := HNL.out; omega) a b HM.out.1 p HM.out.2.symm HP2.out
            rw [← HDT.out.1, ← HDT.out.2] at hn2
            refine hn2.mono ?_
            clear hn2
            rintro e w13 ⟨rfl, hb13⟩
            have HB3 := Aside0.mk (below_weaken HB2.out HB2.out.size hb13)
            clear hb13
            go_wp2_with (fail)
            go_roundg k1
            case measure => exact Nat.lt_succ_self _
            case rel => exact ⟨p + 1, by first | rfl | (rw [u3]; rfl), HJ, HB3⟩
         | succ k1 =>
          have hil : i < N := by have := HI.out; omega
          have HJ := Aside0.mk (show i + 1 + k1 = N from by have := HI.out; omega)
          have hlt : decide ((i : Int) < (N : Int)) = true := decide_eq_true (by omega)
          have hlt' : decide (i < N) = true := decide_eq_true hil
          have b2 : -9223372036854775808 ≤ (i : Int) + 1 ∧ (i : Int) + 1 ≤ 9223372036854775807 := by have := HNN.out; omega
          obtain ⟨h, hh⟩ : ∃ h, ha[i]? = some h := ⟨_, List.getElem?_eq_getElem (by have := HN.out; omega)⟩
          obtain ⟨v, hv⟩ : ∃ v, vs[i]? = some v := ⟨_, List.getElem?_eq_getElem (by have := HVN.out; omega)⟩
          have hF := HFS.out.fam i h v hh hv
          rw [HXX.out i hil] at hF
          obtain ⟨hvn, hvb⟩ := hF.copy
          obtain ⟨gv, ev, _⟩ := hvb (by omega)
          obtain ⟨ad, eA, hcm⟩ := at_H HCM.out i v hv
          subst eA
          obtain ⟨ad2, eA2, hca⟩ := at_H (Kd.R_reads' HBS.out.all).2.2 i h hh
          subst eA2
          obtain ⟨b1, n1, x1⟩ := v
          obtain ⟨gb, n, x2⟩ := h
          have hvn2 : n1 = n + 12 := hvn
          have ev2 : b1 = some gv := ev
          subst hvn2 ev2
          have hn100 : n ≤ 100 := HHN.out i _ hh
          have HCV := Aside0.mk (show ∀ q, q < n + 12 → w9.cell? ⟨gv, q, none⟩ = some (.string (mk i)) from fun q hq => by
            have h3 := rep_cells (cs := [Value.string (mk i)]) (fun w c h => h) (b := 0) hF.row q hq 0 _ rfl
            simpa [Kd.string, Kd.scalar] using h3)
          have HCH := Aside0.mk (show ∀ q, q < n → ∃ g, gb = some g ∧ w9.cell? ⟨g, q, none⟩ = some (.string (mk i)) from fun q hq => by
            obtain ⟨g, e1, h3⟩ := hF.cells q hq 0 _ rfl
            exact ⟨g, e1, by simpa [Kd.string, Kd.scalar] using h3⟩)
          have HC1 := Aside0.mk (show w9.cell? (ad.add i) = some (.slice (some ⟨gv, 0, none⟩) (n + 12) x1) from hcm)
          have HC2 := Aside0.mk (show w9.cell? (ad2.add i) = some (.slice (gb.map fun b => (⟨b, 0, none⟩ : Addr)) n x2) from hca)
          have p1 : (0 : Int) ≤ (i : Int) := by omega
          have p2 : (i : Int) < (N : Int) := by omega
          have u3 : wrap64 ((i : Int) + 1) = (i : Int) + 1 := MB.wrap64_in _ b2.1 b2.2
          obtain ⟨n2, hn2⟩ : ∃ n2, n2 = n + 12 := ⟨_, rfl⟩
          rw [← hn2] at HC1 HCV
          have HNP := Aside0.mk (And.intro hn2 hn100)
          clear hn2 hn100 hcm hca hF hvn hvb ev hh hv b2 hil
          have hcc : wr.cell? (ad.add i) = some (.slice (some ⟨gv, 0, none⟩) n2 x1) := (HBZ.out.cell (World.block_lt_of_cell? _ _ HC1.out)).trans HC1.out
          go_wp2_with (fail)
          go_loopg [26] n2 (fun kq q26 w' => ∃ j : Nat, q26 = .int .i64 (j : Int) ∧ Aside0 (j + kq = n2) ∧ Aside0 (Below w9.heap.size w9 w'))
          case atStart => exact ⟨0, by rfl, ⟨by omega⟩, HBZ⟩
          case round =>
           obtain ⟨j, rfl, HI, HBZ⟩ := hrel
           have hcc : wr.cell? (ad.add i) = some (.slice (some ⟨gv, 0, none⟩) n2 x1) := (HBZ.out.cell (World.block_lt_of_cell? _ _ HC1.out)).trans HC1.out
           cases gk with
           | zero =>
            have hlt2 : decide ((j : Int) < (n2 : Int)) = false := decide_eq_false (by have := HI.out; omega)
            have hlt3 : decide (j < n2) = false := decide_eq_false (by have := HI.out; omega)
            go_wp2_with (fail)
            go_roundg k1
            case measure => exact Nat.lt_succ_self _
            case rel => exact ⟨i + 1, by first | rfl | (rw [u3]; rfl), HJ, HBZ⟩
           | succ k2 =>
            have hjl : j < n2 := by have := HI.out; omega
            have HJ2 := Aside0.mk (show j + 1 + k2 = n2 from by have := HI.out; omega)
            have hlt2 : decide ((j : Int) < (n2 : Int)) = true := decide_eq_true (by omega)
            have hlt3 : decide (j < n2) = true := decide_eq_true hjl
            have b3 : -9223372036854775808 ≤ (j : Int) + 1 ∧ (j : Int) + 1 ≤ 9223372036854775807 := by have := HNP.out; omega
            have p3 : (0 : Int) ≤ (j : Int) := by omega
            have p4 : (j : Int) < (n2 : Int) := by omega
            have u5 : wrap64 ((j : Int) + 1) = (j : Int) + 1 := MB.wrap64_in _ b3.1 b3.2
            have HCVJ := Aside0.mk (HCV.out j hjl)
            have hcc2 : wr.cell? (ad2.add i) = some (.slice (gb.map fun b => (⟨b, 0, none⟩ : Addr)) n x2) := (HBZ.out.cell (World.block_lt_of_cell? _ _ HC2.out)).trans HC2.out
            have hcv : wr.cell? ⟨gv, j, none⟩ = some (.string (mk i)) := (HBZ.out.cell (World.block_lt_of_cell? _ _ HCVJ.out)).trans HCVJ.out
            have k0 := cell_regrown hcc
            have k1' := cell_regrown hcc2
            have k2' := cell_regrown hcv
            have cM : ∀ d os, Calls Try.prog 23 #[.int .i64 (i : Int)] (Go.Sort.grow (redrawn wr d) os) fun e w'' => e = .returned (.string (mk i)) ∧ ∃ p : Regrown, w'' = Go.Sort.grow (redrawn wr p.d) p.os := fun d os => Calls.regrown_of (mark_ok i _)
            by_cases hin : j < n
            · obtain ⟨g, eg, hcj⟩ := HCH.out j hin
              subst eg
              have hcj2 : wr.cell? ⟨g, j, none⟩ = some (.string (mk i)) := (HBZ.out.cell (World.block_lt_of_cell? _ _ hcj)).trans hcj
              have k3' := cell_regrown hcj2
              have p5 : (j : Int) < (n : Int) := Int.ofNat_lt.mpr hin
              have d1 : decide ((j : Int) < (n : Int)) = true := decide_eq_true p5
              have d2 : decide (j < n) = true := decide_eq_true hin
              clear hin hjl b3 hcj hcj2 hcv hcc2
              go_wp2_with (fail)
              clear hcc
              refine region_wq (by kernel_rfl) (by kernel_rfl) ?_
              repeat (refine WQ.step (fun K hK => ?_); go_simp; first | (refine hK _ ?_; clear hK K) | (apply Exists.intro; refine ⟨fun _ => ?_, hK _ ?_⟩; (exact cM _ _); clear hK K))
              refine WQ.nil ?_
              intro _ hw'
              obtain ⟨⟨dq, osq⟩, hw''⟩ := hw'
              subst hw''
              have HD := Aside0.mk (below_weaken HBZ.out HBZ.out.size (below_regrown wr dq osq))
              clear k0 k1' k2' k3' cM
              go_wp2_with (fail)
              go_roundg k2
              case measure => exact Nat.lt_succ_self _
              case rel => exact ⟨j + 1, by first | rfl | (rw [u5]; rfl), HJ2, HD⟩
            · have d1 : decide ((j : Int) < (n : Int)) = false := decide_eq_false (fun h => hin (Int.ofNat_lt.mp h))
              have d2 : decide (j < n) = false := decide_eq_false hin
              obtain ⟨Ab, hAb⟩ : ∃ A, A = (gb.map fun b => (⟨b, 0, none⟩ : Addr)) := ⟨_, rfl⟩
              have k4' : ∀ d os, (Go.Sort.grow (redrawn wr d) os).cell? (ad2.add i) = some (.slice Ab n x2) := fun d os => by rw [hAb]; exact k1' d os
              clear hin hjl b3 hcv hcc2 k1' hAb
              go_wp2_with (fail)
              clear hcc
              refine region_wq (by kernel_rfl) (by kernel_rfl) ?_
              repeat (refine WQ.step (fun K hK => ?_); go_simp; first | (refine hK _ ?_; clear hK K) | (apply Exists.intro; refine ⟨fun _ => ?_, hK _ ?_⟩; (exact cM _ _); clear hK K))
              refine WQ.nil ?_
              intro _ hw'
              obtain ⟨⟨dq, osq⟩, hw''⟩ := hw'
              subst hw''
              have HD := Aside0.mk (below_weaken HBZ.out HBZ.out.size (below_regrown wr dq osq))
              clear k0 k4' k2' cM
              go_wp2_with (fail)
              go_roundg k2
              case measure => exact Nat.lt_succ_self _
              case rel => exact ⟨j + 1, by first | rfl | (rw [u5]; rfl), HJ2, HD⟩
       | succ k1 =>
        have hil : i < N := by have := HI.out; omega
        have HIL := Aside0.mk hil
        have HJ := Aside0.mk (show i + 1 + k1 = N from by have := HI.out; omega)
        have hlt : decide ((i : Int) < (N : Int)) = true := decide_eq_true (by omega)
        have hlt' : decide (i < N) = true := decide_eq_true hil
        have b2 : -9223372036854775808 ≤ (i : Int) + 1 ∧ (i : Int) + 1 ≤ 9223372036854775807 := by have := HNN.out; omega
        obtain ⟨h, hh⟩ : ∃ h, ha[i]? = some h := ⟨_, List.getElem?_eq_getElem (by have := HN.out; omega)⟩
        have HH := Aside0.mk hh
        have HN1 := Aside0.mk (HHN.out i h hh)
        obtain ⟨ad, eA, hcc⟩ := at_H (Kd.R_reads' HBS.out.all).2.2 i h hh
        subst eA
        have HVI := Aside0.mk (show vs[i]? = some h from (HVS.out i (Nat.le_refl _)).trans hh)
        have p1 : (0 : Int) ≤ (i : Int) := by omega
        have p2 : (i : Int) < (N : Int) := by omega
        have u3 : wrap64 ((i : Int) + 1) = (i : Int) + 1 := MB.wrap64_in _ b2.1 b2.2
        clear hh b2 hil
        have HX0 := Aside0.mk (show xx i = 0 from HXX.out.2 i (Nat.le_refl _))
        have HX1 := Aside0.mk (show (∀ s, s < i → xx s = 12) ∧ (∀ s, i < s → xx s = 0) from ⟨HXX.out.1, fun s hs => HXX.out.2 s (Nat.le_of_lt hs)⟩)
        have HV1 := Aside0.mk (show ∀ s : Nat, i < s → vs[s]? = ha[s]? from fun s hs => HVS.out s (Nat.le_of_lt hs))
        clear HXX HVS
        go_wp2_with (fail)
        go_loopg [23, 24] 12 (fun kq q23 q24 w' => ∃ (j : Nat) (v : H) (vs : List H) (col : Nat → Nat) (xx : Nat → Nat), q23 = v.val ∧ q24 = .int .i64 (j : Int) ∧ Aside0 (j + kq = 12) ∧ Aside0 (Bs w w' col hg k L (Al) cl (.slice (some ad) N ca) ha) ∧ Aside0 (Fr w' hf (fun j => col j = 1) k L.length (fo k L)) ∧ Aside0 (Fs Kd.string 9 w' col 6 ha vs mk (fun t => [Value.string (mk t)]) xx) ∧ Aside0 (Kd.R kH 22 w' 0 (fun j => col j = 5) u11 (vs.take i)) ∧ Aside0 (xx i = j) ∧ Aside0 ((∀ s, s < i → xx s = 12) ∧ (∀ s, i < s → xx s = 0)) ∧ Aside0 (∀ s : Nat, i < s → vs[s]? = ha[s]?) ∧ Aside0 (vs[i]? = some v))
        case atStart => exact ⟨0, h, vs, col, xx, by rfl, by rfl, ⟨by omega⟩, HBS, HF, HFS, HMO, HX0, HX1, HV1, HVI⟩
        case round =>
         obtain ⟨j, v, vs, col, xx, rfl, rfl, HI, HBS, HF, HFS, HMO, HX0, HX1, HV1, HVI⟩ := hrel
         cases gk with
         | zero =>
          have hlt2 : decide ((j : Int) < (12 : Int)) = false := decide_eq_false (by have := HI.out; omega)
          have hlt3 : decide (j < 12) = false := decide_eq_false (by have := HI.out; omega)
          have HJN := Aside0.mk (show j = 12 from by have := HI.out; omega)
          obtain ⟨bx, nx, cx⟩ := v
          simp only [H.val]
          have HVL := Aside0.mk (show (vs.take i).length ≤ 210 from by rw [List.length_take]; have := HNN.out; have := HIL.out; omega)
          go_wp2_with (first
            | ((with_reducible refine gate_builtin (b := .append) (xs := #[.tmp 162, .tmp 164]) rfl ?_); at_builtin; refine Kd.R_append kH (w0 := wr) 0 rfl (.tmp 162) (.tmp 164) 53 22 (.slice none 0 0) 24 rfl Try.underlying53 (by kernel_rfl) rfl (by decide) (by omega) u11 (vs.take i) ⟨bx, nx, cx⟩ [.slice (bx.map fun b => (⟨b, 0, none⟩ : Addr)) nx cx] (fun q => col q = 5 ∨ wr.heap.size ≤ q) (fun _ => False) rfl ?hx ?aP (fun _ hk => hk.elim) ?aF ?aO ?aB ?aS ?aL ?_; (case hx => first | rfl | (go_simp; done) | (simp [World.alloc]; done)); (case aP => exact rfl); (case aF => exact fun q hq => .inr hq); (case aO => exact Kd.R_mono HMO.out (fun q hq => .inl hq)); (case aB => exact Below.refl _ _); (case aS => exact Nat.zero_le _); (case aL => have := HVL.out; omega); intro vm v1 ho hb1 hg1 hat; have HO1 := Aside0.mk ho; have HG1 := Aside0.mk hg1; clear ho hb1 hg1 hat))
          obtain ⟨c1, hc1⟩ : ∃ c1, c1 = coled wr col 5 := ⟨_, rfl⟩
          have hco : ∀ q, q < wr.heap.size → c1 q = col q := by rw [hc1]; exact coled_old _ _ _
          have hrow : ∀ q, u11.ownBlock = some q → c1 q = 5 := fun q hq => by rw [hco q (Kd.R_lt HMO.out q hq)]; exact HMO.out.1 q hq
          have HB1 := Aside0.mk (show Bs w v1 c1 hg k L Al cl (.slice (some ad) N ca) ha from by
            have h := HBS.out.coled 5
            rw [← hc1] at h
            exact h.grown HG1.out (fun q hq => .inr (.inr (by rw [hrow q hq]; omega))))
          have HF1 := Aside0.mk (Fr.other (Fr.recol HF.out hco) HG1.out (fun q hq => by rw [hrow q hq]; omega))
          have HS1 := Aside0.mk ((HFS.out.recol hco).grown HG1.out (fun q hq => by rw [hrow q hq]; omega))
          have HM1 := Aside0.mk (show Kd.R kH 22 v1 0 (fun q => c1 q = 5) vm (vs.take (i + 1)) from by
            have h := HO1.out
            rw [show vs.take i ++ [(⟨bx, nx, cx⟩ : H)] = vs.take (i + 1) from by rw [List.take_add_one, HVI.out]; rfl] at h
            refine Kd.R_mono h (fun q hq => ?_)
            rw [hc1]; unfold Ap.coled
            by_cases e : wr.heap.size ≤ q
            · rw [if_pos e]
            · rw [if_neg e]; rcases hq with hq | hq
              · exact hq
              · exact absurd hq e)
          clear hc1 hco hrow
          go_roundg k1
          case measure => exact Nat.lt_succ_self _
          case rel => exact ⟨i + 1, vs, c1, xx, by first | rfl | (rw [u3]; rfl), HJ, HB1, HF1, HS1, HM1, ⟨fun s hs => by
            by_cases e : s = i
            · subst e; rw [HX0.out]; exact HJN.out
            · exact HX1.out.1 s (by omega), fun s hs => HX1.out.2 s (by omega)⟩, ⟨fun s hs => HV1.out s (by omega)⟩⟩
         | succ k2 =>
          have HJ2 := Aside0.mk (show j + 1 + k2 = 12 from by have := HI.out; omega)
          have hlt2 : decide ((j : Int) < (12 : Int)) = true := decide_eq_true (by have := HI.out; omega)
          have hlt3 : decide (j < 12) = true := decide_eq_true (by have := HI.out; omega)
          have u5 : wrap64 ((j : Int) + 1) = (j : Int) + 1 := MB.wrap64_in _ (by omega) (by have := HI.out; omega)
          go_wp2_with (fail)
          refine (mark_ok i wr).mono ?_
          rintro e v1 ⟨rfl, hb1⟩
          have HB1 := Aside0.mk (HBS.out.below hb1)
          have HF1 := Aside0.mk (HF.out.below hb1)
          have HS1 := Aside0.mk (HFS.out.below hb1)
          have HM1 := Aside0.mk (Kd.R_below HMO.out hb1)
          clear hb1 HBS HF HFS HMO
          have hfam := HS1.out.fam i h v HH.out HVI.out
          rw [HX0.out] at hfam
          have HFM := Aside0.mk hfam
          clear hfam
          go_wp2_with (first
            | ((with_reducible refine gate_builtin (b := .append) (xs := #[.tmp 157, .tmp 160]) rfl ?_); at_builtin; refine wpList_append_apart Kd.string rfl (.tmp 157) (.tmp 160) 22 9 (.string ⟨#[]⟩) 16 rfl Try.underlying22 (by kernel_rfl) rfl (by decide) v.val (List.replicate (h.n + j) (mk i)) (mk i) [.string (mk i)] (fun q => col q = 6 + i ∨ v1.heap.size ≤ q) rfl ?hx ?aP ?aF ?aO ?aL (by omega) ?_; (case hx => first | rfl | (go_simp; done) | (simp [World.alloc]; done)); (case aP => exact rfl); (case aF => exact fun q hq => .inr hq); (case aO => exact Kd.R_mono HFM.out.row (fun q hq => .inl hq)); (case aL => rw [List.length_replicate]; have := HN1.out; have := HJ2.out; omega); intro x2 v2 hR hg2 ho2; obtain ⟨v3, ev3, _⟩ := R_hdr hR; subst ev3; have HR2 := Aside0.mk hR; have HG2 := Aside0.mk hg2; have HO2 := Aside0.mk ho2; clear hR hg2 ho2))
          obtain ⟨c1, hc1⟩ : ∃ c1, c1 = coled v1 col (6 + i) := ⟨_, rfl⟩
          have hco : ∀ q, q < v1.heap.size → c1 q = col q := by rw [hc1]; exact coled_old _ _ _
          have hrow : ∀ q, v.val.ownBlock = some q → c1 q = 6 + i := fun q hq => by rw [hco q (Kd.R_lt HFM.out.row q hq)]; exact HFM.out.row.1 q hq
          have HB2 := Aside0.mk (show Bs w v2 c1 hg k L Al cl (.slice (some ad) N ca) ha from by
            have h := HB1.out.coled (6 + i)
            rw [← hc1] at h
            exact h.grown HG2.out (fun q hq => .inr (.inr (by rw [hrow q hq]; omega))))
          have HF2 := Aside0.mk (Fr.other (Fr.recol HF1.out hco) HG2.out (fun q hq => by rw [hrow q hq]; omega))
          have HM2 := Aside0.mk (show Kd.R kH 22 v2 0 (fun q => c1 q = 5) u11 ((vs.set i v3).take i) from by
            rw [List.take_set_of_le (Nat.le_refl _)]
            exact R_other (R_recol HM1.out hco) HG2.out (fun q hq => by rw [hrow q hq]; omega))
          have HS2 := Aside0.mk (show Fs Kd.string 9 v2 c1 6 ha (vs.set i v3) mk (fun t => [Value.string (mk t)]) (fun s => if s = i then xx s + 1 else xx s) from by
            rw [hc1]
            exact HS1.out.push (fun t w c h => h) HH.out HVI.out (by rw [HX0.out]; exact HR2.out) HG2.out HO2.out)
          clear hc1 hco hrow
          go_roundg k2
          case measure => exact Nat.lt_succ_self _
          case rel => exact ⟨j + 1, v3, vs.set i v3, c1, fun s => if s = i then xx s + 1 else xx s, by rfl, by first | rfl | (rw [u5]; rfl), HJ2, HB2, HF2, HS2, HM2, ⟨by have := HX0.out; simp; omega⟩, ⟨fun s hs => (if_neg (Nat.ne_of_lt hs)).trans (HX1.out.1 s hs), fun s hs => (if_neg (Nat.ne_of_gt hs)).trans (HX1.out.2 s hs)⟩, ⟨fun s hs => by rw [List.getElem?_set_ne (by omega)]; exact HV1.out s hs⟩, ⟨by rw [List.getElem?_set_self (by exact (List.getElem?_eq_some_iff.1 HVI.out).1)]⟩⟩
     | succ k1 =>
      have hil : i < N := by have := HI.out; omega
      have HJ := Aside0.mk (show i + 1 + k1 = N from by have := HI.out; omega)
      have hlt : decide ((i : Int) < (N : Int)) = true := decide_eq_true (by omega)
      have hlt' : decide (i < N) = true := decide_eq_true hil
      have b2 : -9223372036854775808 ≤ (i : Int) + 1 ∧ (i : Int) + 1 ≤ 9223372036854775807 := by have := HNN.out; omega
      obtain ⟨h, hh⟩ : ∃ h, ha[i]? = some h := ⟨_, List.getElem?_eq_getElem (by have := HN.out; omega)⟩
      have HH := Aside0.mk hh
      have hn100 := HHN.out i h hh
      have hG : 0 < h.n → ∃ g, h.blk = some g ∧ col g = 6 + i := fun h0 => by
        obtain ⟨X, hX⟩ : ∃ X, Xs[i]? = some X := ⟨_, List.getElem?_eq_getElem (by rw [HD.out.len]; exact (List.getElem?_eq_some_iff.1 hh).1)⟩
        obtain ⟨g, g1, g2, _⟩ := HD.out.blk i h X hh hX h0
        exact ⟨g, g1, g2⟩
      have HAA := Aside0.mk (show ∀ w', Bs w w' col hg k L Al cl (.slice Aa N ca) ha → ∃ ad, Aa = some ad ∧ w'.cell? (ad.add i) = some h.val from fun w' hb => at_H (Kd.R_reads' hb.all).2.2 i h hh)
      obtain ⟨ad, eA, _⟩ := HAA.out _ HBS.out
      have HAC := Aside0.mk (show ∀ w', Bs w w' col hg k L Al cl (.slice Aa N ca) ha → w'.cell? (ad.add i) = some h.val from fun w' hb => by
        obtain ⟨ad2, e2, h2⟩ := HAA.out w' hb
        rw [eA] at e2; cases e2; exact h2)
      subst eA
      have HGG := Aside0.mk hG
      have p1 : (0 : Int) ≤ (i : Int) := by omega
      have p2 : (i : Int) < (N : Int) := by omega
      have u3 : wrap64 ((i : Int) + 1) = (i : Int) + 1 := MB.wrap64_in _ b2.1 b2.2
      clear hG HAA hh b2 hil
      obtain ⟨gb, n, cp⟩ := h
      have HN1 := Aside0.mk (show n ≤ 100 from hn100)
      clear hn100
      go_wp2_with (fail)
      go_loopg [21] n (fun kq q21 w' => ∃ (j : Nat) (Xs : List (List ByteArray)), q21 = .int .i64 (j : Int) ∧ Aside0 (j + kq = n) ∧ Aside0 (Bs w w' col hg k L Al cl (.slice (some ad) N ca) ha) ∧ Aside0 (Fr w' hf (fun j => col j = 1) k L.length (fo k L)) ∧ Aside0 (Deck Kd.string 9 w' col 6 ha Xs) ∧ Aside0 (∀ t X, t < i → Xs[t]? = some X → X = List.replicate X.length (mk t)) ∧ Aside0 (∀ X, Xs[i]? = some X → ∀ p, p < j → X[p]? = some (mk i)))
      case atStart => exact ⟨0, Xs, by rfl, ⟨by omega⟩, HBS, HF, HD, HM, ⟨fun X _ p hp => absurd hp (Nat.not_lt_zero _)⟩⟩
      case round =>
       obtain ⟨j, Xs, rfl, HI, HBS, HF, HD, HM, HMJ⟩ := hrel
       cases gk with
       | zero =>
        have hlt2 : decide ((j : Int) < (n : Int)) = false := decide_eq_false (by have := HI.out; omega)
        have hlt3 : decide (j < n) = false := decide_eq_false (by have := HI.out; omega)
        have hcc : wr.cell? (ad.add i) = some (.slice (gb.map fun b => (⟨b, 0, none⟩ : Addr)) n cp) := HAC.out _ HBS.out
        have HJN := Aside0.mk (show j = n from by have := HI.out; omega)
        go_wp2_with (fail)
        go_roundg k1
        case measure => exact Nat.lt_succ_self _
        case rel => exact ⟨i + 1, Xs, by first | rfl | (rw [u3]; rfl), HJ, HBS, HF, HD, ⟨fun t X ht hX => by
          by_cases e : t = i
          · subst e
            have hl := HD.out.lens t _ X HH.out hX
            refine List.eq_replicate_iff.2 ⟨rfl, fun z hz => ?_⟩
            obtain ⟨p, hp, rfl⟩ := List.getElem_of_mem hz
            have h2 := HMJ.out X hX p (by have h3 := HJN.out; have h4 : n = X.length := hl; omega)
            rw [List.getElem?_eq_getElem hp] at h2; exact Option.some.inj h2
          · exact HM.out t X (by omega) hX⟩⟩
       | succ k2 =>
        have hjl : j < n := by have := HI.out; omega
        have HJ2 := Aside0.mk (show j + 1 + k2 = n from by have := HI.out; omega)
        have hlt2 : decide ((j : Int) < (n : Int)) = true := decide_eq_true (by omega)
        have hlt3 : decide (j < n) = true := decide_eq_true hjl
        obtain ⟨g, eg, cg⟩ := HGG.out (by show 0 < n; omega)
        have eg2 : gb = some g := eg
        subst eg2
        have HCG := Aside0.mk cg
        have hcc : wr.cell? (ad.add i) = some (.slice (some ⟨g, 0, none⟩) n cp) := HAC.out _ HBS.out
        have b3 : -9223372036854775808 ≤ (j : Int) + 1 ∧ (j : Int) + 1 ≤ 9223372036854775807 := by have := HN1.out; omega
        have p3 : (0 : Int) ≤ (j : Int) := by omega
        have p4 : (j : Int) < (n : Int) := by omega
        have u5 : wrap64 ((j : Int) + 1) = (j : Int) + 1 := MB.wrap64_in _ b3.1 b3.2
        clear eg cg b3 hjl
        go_wp2_with (fail)
        have HBD := Aside0.mk (HBS.out.below (below_drew (Below.refl _ _)))
        have HFD := Aside0.mk (HF.out.below (below_drew (Below.refl _ _)))
        have HDD := Aside0.mk (HD.out.below (below_drew (Below.refl _ _)))
        have y0 : wr.drew.cell? (ad.add i) = some (.slice (some ⟨g, 0, none⟩) n cp) := HAC.out _ HBD.out
        clear hcc HBS HF HD
        go_region_held3 (fun w' => w'.cell? (ad.add i) = some (.slice (some ⟨g, 0, none⟩) n cp)) (first | exact y0 | exact y1 | exact y2 | go_keep)
          (first | (go_at_call 23; refine (mark_ok i _).mono ?_; rintro e v1 ⟨rfl, hb1⟩; have HB1 := Aside0.mk (HBD.out.below hb1); have HF1 := Aside0.mk (HFD.out.below hb1); have HD1 := Aside0.mk (HDD.out.below hb1); have y1 : v1.cell? (ad.add i) = some (.slice (some ⟨g, 0, none⟩) n cp) := HAC.out _ HB1.out; obtain ⟨X, hX⟩ : ∃ X, Xs[i]? = some X := ⟨_, List.getElem?_eq_getElem (by rw [HDD.out.len]; exact (List.getElem?_eq_some_iff.1 HH.out).1)⟩; have HX := Aside0.mk hX; have hR : Kd.string.R 9 v1 0 (fun j => col j = 6 + i) (.slice (some ⟨g, 0, none⟩) n cp) X := HD1.out.row i _ X HH.out hX; obtain ⟨hx0, hf0⟩ := Kd.R_celln ByteArray.empty hR (j : Int) p3 p4; have hP := Kd.R_putg hR (j : Int) (mk i); rw [Int.toNat_natCast] at hx0 hf0 hP; have HP := Aside0.mk hP; have HB2 := Aside0.mk (HB1.out.grown hP.2 (fun q hq => by cases hq; have := HCG.out; omega)); have HF2 := Aside0.mk (Fr.other HF1.out hP.2 (fun q hq => by cases hq; have := HCG.out; omega)); have HD2 := Aside0.mk (HD1.out.put HH.out hX hP.2 (fun q hq => by cases hq; exact HCG.out) hP.1); have y2 := HAC.out _ HB2.out; clear hb1 hX hR hP))
        go_wp2_with (fail)
        go_roundg k2
        case measure => exact Nat.lt_succ_self _
        case rel => exact ⟨j + 1, _, by first | rfl | (rw [u5]; rfl), HJ2, HB2, HF2, HD2, ⟨fun t X' ht hX' => by
          rw [List.getElem?_set_ne (by omega)] at hX'
          exact HM.out t X' ht hX'⟩, ⟨fun X' hX' p hp => by
          rw [List.getElem?_set_self (by exact (List.getElem?_eq_some_iff.1 HX.out).1)] at hX'
          cases hX'
          by_cases e : j = p
          · subst e
            have hl : n = X.length := HD1.out.lens i _ X HH.out HX.out
            rw [List.getElem?_set_self (by omega)]
          · rw [List.getElem?_set_ne e]; exact HMJ.out X HX.out p (by omega)⟩⟩
   | succ k1 =>
    have hil : i < L.length := by have := HI.out; omega
    have HIL := Aside0.mk hil
    have HJ := Aside0.mk (show i + 1 + k1 = L.length from by have := HI.out; omega)
    have hlt : decide ((i : Int) < (L.length : Int)) = true := decide_eq_true (by omega)
    have hlt' : decide (i < L.length) = true := decide_eq_true hil
    have b2 : -9223372036854775808 ≤ (i : Int) + 1 ∧ (i : Int) + 1 ≤ 9223372036854775807 := by have := HLN.out; omega
    have b3 : 0 ≤ (i : Int) ∧ (i : Int) ≤ 18446744073709551615 := by have := HLN.out; omega
    obtain ⟨x, hx⟩ : ∃ x, x = L[i] := ⟨_, rfl⟩
    have HX := Aside0.mk (show L.take i ++ [x] = L.take (i + 1) from by rw [hx, List.take_add_one, List.getElem?_eq_getElem hil]; rfl)
    have HXS := Aside0.mk (show x.size ≤ 1048576 from HLS.out x (by rw [hx]; exact List.getElem_mem hil))
    obtain ⟨_, _, hCl⟩ := Kd.R_reads' HBS.out.l
    obtain ⟨ad, eA, s0⟩ := Kd.at_string hCl (i : Int) (by omega) (by omega)
    subst eA
    rw [Int.toNat_natCast, show rdOf ByteArray.empty L (i : Int) = x from by rw [hx]; unfold rdOf; rw [Int.toNat_natCast, List.getD_eq_getElem?_getD, List.getElem?_eq_getElem hil]; rfl] at s0
    have HIT := Aside0.mk (show (L.take i).length = i from by rw [List.length_take]; omega)
    have p1 : (0 : Int) ≤ (i : Int) := by omega
    have p2 : (i : Int) < (L.length : Int) := by omega
    have u3 : wrap64 ((i : Int) + 1) = (i : Int) + 1 := MB.wrap64_in _ b2.1 b2.2
    have u4 : IntKind.u64.wrap (i : Int) = (i : Int) := IntWalk.u64_in _ b3
    clear hx hCl hil b2 b3
    go_wp2_with (fail)
    refine (append_run i wr hf _ k (L.take i) x HIT.out.symm HF.out.bound HK2.out.1 HK2.out.2 (by have := HLN.out; have := HIL.out; omega) HXS.out).mono ?_
    rintro e v1 ⟨vx, rfl, hrx, hrf, hkp⟩
    rw [HX.out] at hrx hrf
    obtain ⟨hx, ex, hnx, _⟩ := R_hdr hrx
    subst ex
    have HNX := Aside0.mk (show (madeL k (L.take (i + 1)) i (t1 i)).length ≤ 100 from by rw [madeL_len]; have := t1_le i (by have := HLN.out; have := HIL.out; omega); omega)
    obtain ⟨X1, hX1⟩ : ∃ X1, X1 = madeL k (L.take (i + 1)) i (t1 i) := ⟨_, rfl⟩
    rw [← hX1] at hrx HNX
    obtain ⟨c1, hc1⟩ : ∃ c1, c1 = coled wr col (6 + ha.length) := ⟨_, rfl⟩
    have hco : ∀ j, j < wr.heap.size → c1 j = col j := by rw [hc1]; exact coled_old _ _ _
    have HF1 := Aside0.mk (show Fr v1 hf (fun j => c1 j = 1) k (i + 1) (fo k (L.take (i + 1))) from hrf.mono (fun j hj => by rw [hco j hj.2]; exact hj.1))
    have HBS1 := Aside0.mk (show Bs w v1 c1 hg k L (some ad) cl u10 ha from by
      have h := HBS.out.coled (6 + ha.length)
      rw [← hc1] at h
      exact h.kept hkp (fun j hj => .inl (by rw [hco j hj.2]; exact hj.1)))
    have HBK1 := Aside0.mk (show Kd.R k45 45 v1 0 (fun j => c1 j = 3) u12 (blks (lf0 i)) from
      Kd.R_step (R_recol HBK.out hco) (fun j hj hl => hkp.keep j hl (fun h => by have h1 := hco j hl; have h2 := h.1; omega)))
    have HD1 := Aside0.mk (show Deck Kd.string 9 v1 c1 6 (ha ++ [hx]) (Xs ++ [X1]) from
      ((HD.out.recol hco).kept hkp (fun j hj => by rw [hco j hj.2, hj.1]; omega)).push (Kd.R_mono hrx (fun j hj => by rw [hc1]; unfold Ap.coled; rw [if_pos hj])))
    have HZ1 := Aside0.mk (hkp.size)
    clear hrx hrf hkp hc1 hco hX1 hnx s0
    go_wp2_with (first | (go_at_call 11; refine (num_calls _ _).mono ?_; rintro e _ ⟨rfl, rfl⟩) | ((with_reducible refine gate_builtin (b := .append) (xs := #[.tmp 84, .tmp 88]) rfl ?_); at_builtin; refine Kd.R_append k45 (w0 := v1) 0 rfl (.tmp 84) (.tmp 88) 54 45 (.agg #[.int .i64 0, .int .u64 0]) 16 rfl Try.underlying54 (by kernel_rfl) rfl (by decide) (by omega) u12 (blks (lf0 i)) (⟨0, (i : Int)⟩ : S45) [.int .i64 0, .int .u64 (i : Int)] (fun j => c1 j = 3 ∨ v1.heap.size ≤ j) (fun _ => False) rfl ?hx ?aP (fun _ hk => hk.elim) ?aF ?aO ?aB ?aS ?aL ?_; (case hx => first | rfl | (go_simp; done) | (simp [World.alloc]; done)); (case aP => exact k45_mkM _ _ _ (⟨0, (i : Int)⟩ : S45)); (case aF => exact fun j hj => .inr hj); (case aO => exact Kd.R_mono HBK1.out (fun j hj => .inl hj)); (case aB => exact Below.refl _ _); (case aS => exact Nat.zero_le _); (case aL => have := HLN.out; have := HIL.out; rw [blks_length, lf0_len]; omega); intro vb v2 ho hb2 hg2 hat; rw [lf0_succ] at ho; have HO2 := Aside0.mk ho; have HG2 := Aside0.mk hg2; clear ho hb2 hg2 hat))
    obtain ⟨c2, hc2⟩ : ∃ c2, c2 = coled v1 c1 3 := ⟨_, rfl⟩
    have hco : ∀ j, j < v1.heap.size → c2 j = c1 j := by rw [hc2]; exact coled_old _ _ _
    have hrow : ∀ j, u12.ownBlock = some j → c2 j = 3 := fun j hj => by rw [hco j (Kd.R_lt HBK1.out j hj)]; exact HBK1.out.1 j hj
    have HF2 := Aside0.mk (show Fr v2 hf (fun j => c2 j = 1) k (i + 1) (fo k (L.take (i + 1))) from (Fr.recol HF1.out hco).step (fun j hj hl => HG2.out.block j hl (fun e => by have := hrow j e.symm; omega)))
    have HBS2 := Aside0.mk (show Bs w v2 c2 hg k L (some ad) cl u10 ha from by
      have h := HBS1.out.coled 3
      rw [← hc2] at h
      exact h.grown HG2.out (fun j hj => .inr (.inl (hrow j hj))))
    have HBK2 := Aside0.mk (show Kd.R k45 45 v2 0 (fun j => c2 j = 3) vb (blks (lf0 (i + 1))) from Kd.R_mono HO2.out (fun j hj => by
      rw [hc2]; unfold Ap.coled
      by_cases h : v1.heap.size ≤ j
      · rw [if_pos h]
      · rw [if_neg h]; rcases hj with hj | hj
        · exact hj
        · exact absurd hj h))
    have HD2 := Aside0.mk (show Deck Kd.string 9 v2 c2 6 (ha ++ [hx]) (Xs ++ [X1]) from (HD1.out.recol hco).grown HG2.out (fun j hj => by rw [hrow j hj]; omega))
    clear hc2 hco hrow HF1 HBS1 HBK1 HD1 HO2 HG2 HBS HBK HD HF
    obtain ⟨Ab, cb, eb, hcb, hCb⟩ := Kd.R_reads HBK2.out
    rw [blks_length] at eb hCb
    subst eb
    have HFO := Aside0.mk (show ∀ b ∈ lf0 (i + 1), fo k (L.take (i + 1)) (b.1 : Int) (b.2 : Int) = some (MT.trB k (L.take (i + 1)) b) ∧ b.1 ≤ 64 ∧ b.2 ≤ 2 ^ 40 from fun b hb => by
      unfold lf0 at hb
      obtain ⟨j, hj, rfl⟩ := List.mem_map.1 hb
      have hj2 := List.mem_range.1 hj
      have h1 := HIL.out
      have h2 := HLN.out
      exact ⟨fo_in k (L.take (i + 1)) 0 j (by rw [List.length_take]; simp; omega), by simp, by simp; omega⟩)
    have HCB := Aside0.mk hCb
    clear hcb hCb
    go_wp2_with (fail)
    refine (digests_calls v2 hf _ k (i + 1) _ HF2.out Ab cb (lf0 (i + 1)) (MT.trB k (L.take (i + 1))) HCB.out (by rw [lf0_len]; have := HIL.out; have := HLN.out; omega) HFO.out).mono ?_
    rintro e v3 ⟨vy, rfl, hry, hb3⟩
    obtain ⟨hy, ey, _, _⟩ := R_hdr hry
    subst ey
    obtain ⟨c3, hc3⟩ : ∃ c3, c3 = coled v2 c2 (6 + (ha ++ [hx]).length) := ⟨_, rfl⟩
    have hco : ∀ j, j < v2.heap.size → c3 j = c2 j := by rw [hc3]; exact coled_old _ _ _
    have HF3 := Aside0.mk (show Fr v3 hf (fun j => c3 j = 1) k (i + 1) (fo k (L.take (i + 1))) from (Fr.recol HF2.out hco).below hb3)
    have HBS3 := Aside0.mk (show Bs w v3 c3 hg k L (some ad) cl u10 ha from by
      have h := HBS2.out.coled (6 + (ha ++ [hx]).length)
      rw [← hc3] at h
      exact h.below hb3)
    have HBK3 := Aside0.mk (show Kd.R k45 45 v3 0 (fun j => c3 j = 3) (.slice Ab (lf0 (i + 1)).length cb) (blks (lf0 (i + 1))) from Kd.R_below (R_recol HBK2.out hco) hb3)
    have HD3 := Aside0.mk (show Deck Kd.string 9 v3 c3 6 (ha ++ [hx] ++ [hy]) (Xs ++ [X1] ++ [(lf0 (i + 1)).map (MT.trB k (L.take (i + 1)))]) from ((HD2.out.recol hco).below hb3).push (Kd.R_lower (Kd.R_mono hry (fun j hj => by rw [hc3]; unfold Ap.coled; rw [if_pos hj])) (Nat.zero_le _)))
    clear hc3 hco HF2 HBS2 HBK2 HD2 hry hb3
    have HCB3 := Aside0.mk (show Kd.C k45 v3 Ab (lf0 (i + 1)).length (blks (lf0 (i + 1))) from by
      have h := (Kd.R_reads' HBK3.out).2.2
      rw [blks_length] at h; exact h)
    go_wp2_with (fail)
    refine (digests_calls v3 hf _ k (i + 1) _ HF3.out Ab cb (lf0 (i + 1)) (MT.trB k (L.take (i + 1))) HCB3.out (by rw [lf0_len]; have := HIL.out; have := HLN.out; omega) HFO.out).mono ?_
    rintro e v4 ⟨vz, rfl, hrz, hb4⟩
    obtain ⟨hz, ez, _, _⟩ := R_hdr hrz
    subst ez
    obtain ⟨c4, hc4⟩ : ∃ c4, c4 = coled v3 c3 (6 + (ha ++ [hx] ++ [hy]).length) := ⟨_, rfl⟩
    have hco : ∀ j, j < v3.heap.size → c4 j = c3 j := by rw [hc4]; exact coled_old _ _ _
    have HF4 := Aside0.mk (show Fr v4 hf (fun j => c4 j = 1) k (i + 1) (fo k (L.take (i + 1))) from (Fr.recol HF3.out hco).below hb4)
    have HBS4 := Aside0.mk (show Bs w v4 c4 hg k L (some ad) cl u10 ha from by
      have h := HBS3.out.coled (6 + (ha ++ [hx] ++ [hy]).length)
      rw [← hc4] at h
      exact h.below hb4)
    have HBK4 := Aside0.mk (show Kd.R k45 45 v4 0 (fun j => c4 j = 3) (.slice Ab (lf0 (i + 1)).length cb) (blks (lf0 (i + 1))) from Kd.R_below (R_recol HBK3.out hco) hb4)
    have HD4 := Aside0.mk (show Deck Kd.string 9 v4 c4 6 (ha ++ [hx] ++ [hy] ++ [hz]) (Xs ++ [X1] ++ [(lf0 (i + 1)).map (MT.trB k (L.take (i + 1)))] ++ [(lf0 (i + 1)).map (MT.trB k (L.take (i + 1)))]) from ((HD3.out.recol hco).below hb4).push (Kd.R_lower (Kd.R_mono hrz (fun j hj => by rw [hc4]; unfold Ap.coled; rw [if_pos hj])) (Nat.zero_le _)))
    clear hc4 hco HF3 HBS3 HBK3 HD3 hrz hb4
    clear HCB HCB3 HFO
    obtain ⟨Y, hY⟩ : ∃ Y, Y = (lf0 (i + 1)).map (MT.trB k (L.take (i + 1))) := ⟨_, rfl⟩
    have HYN := Aside0.mk (show Y.length ≤ 100 from by rw [hY, List.length_map, lf0_len]; have := HIL.out; have := HLN.out; omega)
    rw [← hY] at HD4
    clear hY
    go_wp2_with (fail)
    have hlx : (ha ++ [hx]).length = (Xs ++ [X1]).length := by have := HD4.out.len; simp at this ⊢; omega
    have hy1 := HD4.out.row (ha ++ [hx]).length hy Y (by rw [List.append_assoc, List.getElem?_append_right (Nat.le_refl _), Nat.sub_self]; rfl) (by rw [hlx, List.append_assoc, List.getElem?_append_right (Nat.le_refl _), Nat.sub_self]; rfl)
    have hlz : (ha ++ [hx] ++ [hy]).length = (Xs ++ [X1] ++ [Y]).length := by simp only [List.length_append, List.length_singleton] at hlx ⊢; omega
    have hz1 := HD4.out.row (ha ++ [hx] ++ [hy]).length hz Y (by rw [List.getElem?_append_right (Nat.le_refl _), Nat.sub_self]; rfl) (by rw [hlz, List.getElem?_append_right (Nat.le_refl _), Nat.sub_self]; rfl)
    obtain ⟨Ay, cy, ey, hcy, hCy⟩ := Kd.R_reads hy1
    obtain ⟨Az, cz, ez, hcz, hCz⟩ := Kd.R_reads hz1
    have hsm := massiflaw10_same.calls 200 Ay cy Y Az cz Y true v4 hCy hcy hCz hcz (massiflaw10_same.is 200 Y (by have := HYN.out; omega) (by have := HYN.out; omega))
    rw [← ey, ← ez] at hsm
    refine hsm.mono ?_
    clear hsm hlx hlz hy1 hz1 ey ez hcy hCy hcz hCz
    rintro e v5 ⟨rfl, hb5⟩
    have HF5 := Aside0.mk (HF4.out.below hb5.below)
    have HBS5 := Aside0.mk (HBS4.out.below hb5.below)
    have HBK5 := Aside0.mk (Kd.R_below HBK4.out hb5.below)
    have HD5 := Aside0.mk (HD4.out.below hb5.below)
    clear hb5 HF4 HBS4 HBK4 HD4
    obtain ⟨bx, nx, cx⟩ := hx
    obtain ⟨by', ny, cy'⟩ := hy
    obtain ⟨bz, nz, cz'⟩ := hz
    simp only [H.val]
    obtain ⟨v6, hv6⟩ : ∃ x, x = v5.alloc (.cells #[(H.mk bx nx cx).val, (H.mk by' ny cy').val, (H.mk bz nz cz').val] 22) := ⟨_, rfl⟩
    have HBL6 := Aside0.mk (show Below v5.heap.size v5 v6 from by rw [hv6]; exact below_alloc (Below.refl _ _) _)
    have HCQ := Aside0.mk (show Kd.C kH v6 (some ⟨v5.heap.size, 0, none⟩) 3 [⟨bx, nx, cx⟩, ⟨by', ny, cy'⟩, ⟨bz, nz, cz'⟩] from by rw [hv6]; exact three (blk_new _ _))
    have HV6 := Aside0.mk (show v6 = v5.alloc (.cells #[.slice (bx.map fun b => (⟨b, 0, none⟩ : Addr)) nx cx, .slice (by'.map fun b => (⟨b, 0, none⟩ : Addr)) ny cy', .slice (bz.map fun b => (⟨b, 0, none⟩ : Addr)) nz cz'] 22) from hv6)
    clear hv6
    go_wp2_with (first
      | ((with_reducible refine gate_builtin (b := .append) (xs := #[.tmp 114, .tmp 118]) rfl ?_); at_builtin; rw [← HV6.out]; refine Kd.R_append_rows kH (w0 := v6) 0 rfl (.tmp 114) (.tmp 118) 53 22 (.slice none 0 0) 24 rfl Try.underlying53 (by kernel_rfl) rfl (by decide) (by omega) u10 ha [⟨bx, nx, cx⟩, ⟨by', ny, cy'⟩, ⟨bz, nz, cz'⟩] _ _ _ (fun j => c4 j = 4 ∨ v5.heap.size ≤ j) (fun _ => False) rfl rfl ?aO ?aR (fun _ _ h => h) (fun _ h => h.elim) ?aF ?aB ?aS ?aL ?_; (case aO => exact Kd.R_below (Kd.R_mono HBS5.out.all (fun j hj => .inl hj)) HBL6.out); (case aR => exact HCQ.out); (case aF => exact fun j hj => .inr (Nat.le_trans HBL6.out.size hj)); (case aB => exact Below.refl _ _); (case aS => exact Nat.zero_le _); (case aL => have := HXL.out.1; have := HIL.out; have := HLN.out; omega); intro va7 v7 ho hb7 hg7 hat; have HO7 := Aside0.mk ho; have HG7 := Aside0.mk hg7; clear ho hb7 hg7 hat))
    obtain ⟨hx, hhx⟩ : ∃ h, h = H.mk bx nx cx := ⟨_, rfl⟩
    obtain ⟨hy, hhy⟩ : ∃ h, h = H.mk by' ny cy' := ⟨_, rfl⟩
    obtain ⟨hz, hhz⟩ : ∃ h, h = H.mk bz nz cz' := ⟨_, rfl⟩
    rw [← hhx, ← hhy, ← hhz] at HO7 HD5
    clear hhx hhy hhz HV6 HCQ
    obtain ⟨c5, hc5⟩ : ∃ c5, c5 = coled v5 c4 4 := ⟨_, rfl⟩
    have hco : ∀ j, j < v5.heap.size → c5 j = c4 j := by rw [hc5]; exact coled_old _ _ _
    have hrow : ∀ j, u10.ownBlock = some j → c5 j = 4 := fun j hj => by rw [hco j (Kd.R_lt HBS5.out.all j hj)]; exact HBS5.out.all.1 j hj
    have HF7 := Aside0.mk (show Fr v7 hf (fun j => c5 j = 1) k (i + 1) (fo k (L.take (i + 1))) from ((Fr.recol HF5.out hco).below HBL6.out).step (fun j hj hl => HG7.out.block j hl (fun e => by have := hrow j e.symm; omega)))
    have HBK7 := Aside0.mk (show Kd.R k45 45 v7 0 (fun j => c5 j = 3) (.slice Ab (lf0 (i + 1)).length cb) (blks (lf0 (i + 1))) from R_other (Kd.R_below (R_recol HBK5.out hco) HBL6.out) HG7.out (fun j hj => by rw [hrow j hj]; omega))
    have HD7 := Aside0.mk (show Deck Kd.string 9 v7 c5 6 (ha ++ [hx, hy, hz]) (Xs ++ [X1] ++ [Y] ++ [Y]) from by
      have h := ((HD5.out.recol hco).below HBL6.out).grown HG7.out (fun j hj => by rw [hrow j hj]; omega)
      rw [List.append_assoc, List.append_assoc] at h; exact h)
    have HBS7 := Aside0.mk (show Bs w v7 c5 hg k L (some ad) cl va7 (ha ++ [hx, hy, hz]) from by
      have h := HBS5.out.coled 4
      rw [← hc5] at h
      have h6 := h.below HBL6.out
      refine ⟨h6.g.step (fun j hj hl => HG7.out.block j hl (fun e => by have := hrow j e.symm; omega)), R_other h6.l HG7.out (fun j hj => by rw [hrow j hj]; omega), Kd.R_mono HO7.out (fun j hj => ?_), h6.low,
        Kp.old h6.bel h6.bel.size (Kp.grown (Kp.refl v6 (fun j => w.heap.size ≤ j)) HG7.out (fun j hj => .inl (h6.low j (by rw [hrow j hj]; omega)))) (fun _ h => h)⟩
      rw [hc5]; unfold Ap.coled
      by_cases hq : v5.heap.size ≤ j
      · rw [if_pos hq]
      · rw [if_neg hq]; rcases hj with hj | hj
        · exact hj
        · exact absurd hj hq)
    have HXL7 := Aside0.mk (show (ha ++ [hx, hy, hz]).length = 3 * (i + 1) ∧ ∀ X ∈ Xs ++ [X1] ++ [Y] ++ [Y], X.length ≤ 100 from ⟨by have := HXL.out.1; simp; omega, fun X hX => by
      have h1 := HXL.out.2 X
      have h2 := HNX.out
      have h3 := HYN.out
      simp only [List.mem_append, List.mem_singleton] at hX
      rcases hX with ((hX | rfl) | rfl) | rfl
      · exact h1 hX
      · exact h2
      · exact h3
      · exact h3⟩)
    clear hc5 hco hrow
    go_roundg k1
    case measure => exact Nat.lt_succ_self _
    case rel => exact ⟨i + 1, _, _, _, by first | rfl | (rw [u3]; rfl), HJ, HBS7, HF7, HBK7, HD7, HXL7⟩
end Go.Proofs.Ytelhpamhnnjgaaa.Fo
