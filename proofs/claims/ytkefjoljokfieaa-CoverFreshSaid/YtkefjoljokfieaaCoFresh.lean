/- massiflaw04.CoverFresh: few, by hand; the walk is to follow. No condition beyond those that each theorem names. -/
import Derived.Test.YtkefjoljokfieaaCoB
import Derived.Test.YtkefjoljokfieaaWq
import Derived.Test.YtkefjoljokfieaaWKept
import Derived.Carry
import Derived.Deep.RegionHeld3
import Derived.StillTailTactics
import Derived.WalkMore
set_option linter.unusedVariables false
set_option linter.unusedSimpArgs false
namespace Go.Proofs.Ytkefjoljokfieaa.Cf
open Go.RowKit Go.Proofs.Ytkefjoljokfieaa.MB Go.Proofs.YtkefjoljokfieaaW.PrintWords Go.Proofs.YtkefjoljokfieaaW.PrintLast Go.Proofs.YtkefjoljokfieaaW.PrintMore Go.Proofs.Ytkefjoljokfieaa.PCoverFresh Go.Proofs.Ytkefjoljokfieaa.Pure Go.Proofs.Ytkefjoljokfieaa.Ob Go.Proofs.Ytkefjoljokfieaa.Ap Go.Proofs.Ytkefjoljokfieaa.Dk Go.Proofs.Ytkefjoljokfieaa.Wq
theorem few_calls (w : World) (A : Option Addr) (c : Nat) (l : List Int) (hC : Kd.C (Kd.int .u64) w A l.length l) (hc : l.length ≤ c) :
    Calls Try.prog 6 #[.slice A l.length c] w fun e w' => e = .returned (.slice A (fewI l).length c) ∧ Kd.C (Kd.int .u64) w' A (fewI l).length (fewI l) ∧ (fewI l).length ≤ c ∧ Below w.heap.size w w' := by
  by_cases h : 200 < l.length
  · have e : fewI l = l.take 200 := by unfold fewI; rw [if_pos h]
    have el : (l.take 200).length = 200 := by rw [List.length_take]; omega
    have HC := Aside0.mk (Kd.C_take hC (Nat.le_of_lt h))
    have t1 : decide ((l.length : Int) > 200) = true := decide_eq_true (by omega)
    have t2 : decide ((200 : Int) < l.length) = true := decide_eq_true (by omega)
    have t3 : decide (200 < l.length) = true := decide_eq_true h
    have HL := Aside0.mk (show 200 ≤ c from by omega)
    have t4 : (200 : Int) ≤ (c : Int) := by omega
    have t5 : 200 ≤ c := by omega
    rw [e, el]
    rw [el] at HC
    clear e el hC hc h
    go_enter Try.func6, Try.ntmps6
    go_wp2_with (fail)
    go_ret
    exact ⟨rfl, HC.out, HL.out, Below.refl _ _⟩
  · have e : fewI l = l := by unfold fewI; rw [if_neg h]
    have HC := Aside0.mk hC
    have HL := Aside0.mk hc
    have t1 : decide ((l.length : Int) > 200) = false := decide_eq_false (by omega)
    have t2 : decide ((200 : Int) < l.length) = false := decide_eq_false (by omega)
    have t3 : decide (200 < l.length) = false := decide_eq_false h
    rw [e]
    clear e hC hc h
    go_enter Try.func6, Try.ntmps6
    go_wp2_with (fail)
    go_ret
    exact ⟨rfl, HC.out, HL.out, Below.refl _ _⟩
theorem blkLt0 {w : World} {e : TypeId} {b n c g : Nat} {ok : Nat → Prop} {xs : List Int} (h : Kd.R (Kd.int .u64) e w b ok (.slice (some ⟨g, 0, none⟩) n c) xs) : g < w.heap.size := Kd.R_lt h g rfl
set_option maxHeartbeats 40000000 in
set_option maxRecDepth 100000 in
theorem fresh_calls (w : World) (a0 a1 : Int) (f0 : (Lit.int .u64 a0).wf = true) (f1 : (Lit.int .u64 a1).wf = true) (A : Option Addr) (c : Nat) (l : List Int) (hC : Kd.C (Kd.int .u64) w A l.length l) (hc : l.length ≤ c) (hwf : ∀ z ∈ l, (Lit.int .u64 z).wf = true) :
    Calls Try.prog 4 #[.int .u64 a0, .int .u64 a1, .slice A l.length c] w fun e w' => e = .returned (.bool true) ∧ Below w.heap.size w w' := by
  obtain ⟨m0, rfl, hm0⟩ := MB.wf_u64 f0
  obtain ⟨m1, rfl, hm1⟩ := MB.wf_u64 f1
  have HC := Aside0.mk hC
  have HCC := Aside0.mk hc
  clear hC hc f0 f1
  go_enter Try.func4, Try.ntmps4
  go_wp2_with (fail)
  refine (massiflaw04_alive.calls 400 true _ (alive_is 400 (by omega))).mono ?_
  rintro e w1 ⟨rfl, hb1⟩
  have HB1 := Aside0.mk hb1
  clear hb1
  obtain ⟨n0, hn0⟩ : ∃ n0, n0 = m0 % 1099511627776 := ⟨_, rfl⟩
  have HW0 := Aside0.mk (show massiflaw04_within.f (m0 : Int) 1099511627775 = some (n0 : Int) from by rw [hn0]; exact within_is m0 1099511627775 (by omega))
  have hn1 : n0 < 1099511627776 := by rw [hn0]; exact Nat.mod_lt _ (by omega)
  obtain ⟨n, hn⟩ : ∃ n, n = n0 + 1 := ⟨_, rfl⟩
  have b1 : 0 ≤ (n0 : Int) + 1 ∧ (n0 : Int) + 1 ≤ 18446744073709551615 := by omega
  have e1 : (n0 : Int) + 1 = (n : Int) := by omega
  obtain ⟨h, hh⟩ : ∃ h, h = m1 % (n + 1) := ⟨_, rfl⟩
  have HW1 := Aside0.mk (show massiflaw04_within.f (m1 : Int) (n : Int) = some (h : Int) from by rw [hh]; exact within_is m1 n (by omega))
  have HN := Aside0.mk (show 0 < n ∧ n ≤ 2 ^ 40 from by omega)
  have HH := Aside0.mk (show h ≤ n from by rw [hh]; exact mod_le m1 n)
  have u1 : IntKind.u64.wrap ((n0 : Int) + 1) = (n : Int) := (IntWalk.u64_in _ b1).trans e1
  have HFL := Aside0.mk (few_len l)
  have hf0 : ∀ z ∈ [(m1 : Int)] ++ fewI l, 0 ≤ z := by
    intro z hz
    rcases List.mem_append.1 hz with hz | hz
    · rw [List.mem_singleton] at hz
      rw [hz]; omega
    · obtain ⟨q, rfl, _⟩ := MB.wf_u64 (hwf z (few_mem l z hz)); omega
  obtain ⟨set, hset, hg, hs⟩ := rise_out n ([(m1 : Int)] ++ fewI l) HN.out.1 hf0 (by have := HFL.out; simp; omega) 61 0 500000 [] (by omega) (by omega) (by omega) ⟨List.Pairwise.nil, (fun _ h => by cases h), by simp⟩ (by simp) (.inr ⟨rfl, by simp⟩)
  have HSET := Aside0.mk (show massiflaw04_rising.f 500000 n ([(m1 : Int)] ++ fewI l) = some set from hset)
  have HGS := Aside0.mk (And.intro hg hs)
  clear hn0 hn1 hn b1 e1 hh hf0 hset hg hs hwf
  go_wp2_with (fail)
  refine (massiflaw04_within.calls (m0 : Int) 1099511627775 (n0 : Int) _ HW0.out).mono ?_
  rintro e w2 ⟨rfl, hd2⟩
  have HB2 := Aside0.mk (below_weaken HB1.out HB1.out.size hd2.below)
  clear hd2
  go_wp2_with (fail)
  refine (massiflaw04_within.calls (m1 : Int) (n : Int) (h : Int) _ HW1.out).mono ?_
  rintro e w3 ⟨rfl, hd3⟩
  have HB3 := Aside0.mk (below_weaken HB2.out HB2.out.size hd3.below)
  clear hd3 u1
  go_wp2_with (fail)
  have HBA := Aside0.mk (below_alloc (Below.refl _ w3) (.cells #[.int .u64 (m1 : Int)] 22))
  refine (few_calls _ A c l (Kd.C_below (Kd.C_below HC.out HB3.out) HBA.out) HCC.out).mono ?_
  rintro e w4 ⟨rfl, hC4, hc4, hb4⟩
  have HC4 := Aside0.mk hC4
  have HB4 := Aside0.mk (below_weaken (below_weaken HB3.out HB3.out.size HBA.out) (Nat.le_trans HB3.out.size HBA.out.size) hb4)
  have HLI := Aside0.mk (show Kd.R (Kd.int .u64) 22 w4 w3.heap.size (fun j => w3.heap.size ≤ j) (.slice (some ⟨w3.heap.size, 0, none⟩) 1 1) [(m1 : Int)] from by
    have h2 := World.ownsRow_lit (base := w3.heap.size) (e := 22) (size := 1) w3 #[.int .u64 (m1 : Int)] 1 (Nat.le_refl _) (by simp [maxLen]) (by simp)
    exact Kd.R_below (Kd.R_of_own (enc := Value.int .u64) (h1 := fun _ => rfl) (xs := [(m1 : Int)]) (by simpa [encs] using h2) (fun k hk => by cases hk; exact Nat.le_refl _)) hb4)
  clear hC4 hc4 hb4
  have HZ4 := Aside0.mk (Nat.le_trans HBA.out.size (Nat.le_refl _))
  go_wp2_with (first
    | ((with_reducible refine gate_builtin (b := .append) (xs := #[.tmp 44, .tmp 46]) rfl ?_); at_builtin; refine Kd.R_append_rows (Kd.int .u64) (w0 := w4) 0 rfl (.tmp 44) (.tmp 46) 23 22 (.int .u64 0) 8 rfl Try.underlying23 (by kernel_rfl) rfl (by decide) (by omega) (.slice (some ⟨w3.heap.size, 0, none⟩) 1 1) [(m1 : Int)] (fewI l) _ _ _ (fun j => w3.heap.size ≤ j) (fun _ => False) rfl rfl ?aO ?aR (fun _ _ h => h) (fun _ h => h.elim) ?aF ?aB ?aS ?aL ?_; (case aO => exact Kd.R_lower HLI.out (Nat.zero_le _)); (case aR => exact HC4.out); (case aF => exact fun j hj => by have h1 := blkLt0 HLI.out; omega); (case aB => exact Below.refl _ _); (case aS => exact Nat.zero_le _); (case aL => have := HFL.out; simp; omega); intro vs v5 ho hb5 hg5 hat; have HO5 := Aside0.mk ho; have HG5 := Aside0.mk hg5; clear ho hb5 hg5 hat))
  obtain ⟨As, cs, es, hcs, hCs⟩ := Kd.R_reads HO5.out
  subst es
  have HB5 := Aside0.mk (Kp.old HB4.out HB4.out.size (Kp.grown (Kp.refl w4 (fun j => w3.heap.size ≤ j)) HG5.out (fun j hj => .inl (HLI.out.1 j hj))) (fun j hj => Nat.le_trans HB3.out.size hj))
  have HCS := Aside0.mk (And.intro hcs hCs)
  clear hcs hCs
  refine (massiflaw04_rising.calls 500000 (n : Int) As cs ([(m1 : Int)] ++ fewI l) set _ HCS.out.2 HCS.out.1 HSET.out).mono ?_
  rintro e w6 ⟨vt, rfl, hrt, hb6⟩
  obtain ⟨At, ct, et, hct, hCt⟩ := Kd.R_reads hrt
  subst et
  have HRT := Aside0.mk hrt
  have HCT := Aside0.mk hct
  have HB6 := Aside0.mk (below_weaken HB5.out HB5.out.size hb6)
  have HB6L := Aside0.mk hb6
  clear hrt hct hCt hb6 HCS HO5 HG5 HLI HC4 HB4 HBA HB3 HB2 HB1
  go_wp2_with (fail)
  obtain ⟨M, hM⟩ : ∃ M, M = blks (mtS n 41) := ⟨_, rfl⟩
  obtain ⟨R, hR⟩ : ∃ R, R = blks (gathAll 0 h (mtS n 41)) := ⟨_, rfl⟩
  obtain ⟨Z, hZ⟩ : ∃ Z, Z = blks (restAll (mtS n 41) set) := ⟨_, rfl⟩
  have HFM := Aside0.mk (show cover_Mountains.f 200 (n : Int) = some (M, 0) from by rw [hM]; exact cover_Mountains.is n 200 HN.out.2 (by omega))
  have HFR := Aside0.mk (show cover_Range.f 0 (h : Int) (n : Int) = some (R, 0) from by rw [hR]; exact range_in 0 h n (Nat.zero_le _) HH.out HN.out.2)
  have HFZ := Aside0.mk (show cover_Rest.f (n : Int) set = some (Z, 0) from by rw [hZ]; exact (rest_in n set HN.out.2 HGS.out.2 HGS.out.1.1 (fun z hz => (HGS.out.1.2.1 z hz).2)).1)
  have HTL := Aside0.mk (show ∀ t, (T3 M R Z t).length ≤ 4000 from T3_len (by rw [hM, blks_length]; have := mountains_len n HN.out.2; omega) (by rw [hR, blks_length]; have := range_len 0 h n HN.out.2; omega) (by
    rw [hZ, blks_length]
    obtain ⟨c, _, hc, hb⟩ := heights n HN.out.2 HN.out.1
    have h1 := restAll_len c (mtS n 41) set hb
    have h2 := mountains_len n HN.out.2
    have h3 := HGS.out.1.2.2
    have h4 : set.length * c ≤ 60 * 64 := Nat.mul_le_mul h3 hc
    omega))
  obtain ⟨col, hcol⟩ : ∃ col : Nat → Nat, col = fun j => if j < v5.heap.size then 0 else if j < w6.heap.size then 4 else 0 := ⟨_, rfl⟩
  have HBS := Aside0.mk (show Bs w w6 col At ct set (.slice none 0 0) [] (.slice none 0 0) [] [] from by
    have z5 := HB5.out.size
    refine ⟨Kd.R_lower (Kd.R_mono (Kd.R_bound HRT.out) (fun j hj => ?_)) (Nat.zero_le _), Kd.R_nil _ _ _ _ _, Kd.R_nil _ _ _ _ _, rfl, fun t h X h1 _ => by simp at h1, fun j hj => ?_, HB6.out⟩
    · have h1 := hj.2.1; have h2 := hj.2.2.1
      rw [hcol]; simp only []; rw [if_neg (by omega), if_pos (by omega)]
    · rcases Nat.lt_or_ge j v5.heap.size with h2 | h2
      · exfalso; apply hj; rw [hcol]; simp only []; rw [if_pos h2]
      · omega)
  have HD := Aside0.mk (Deck.nil k42 42 w6 col 6)
  clear hcol hM hR hZ HB6L HB6 HRT HB5 HZ4 HGS HSET HFL HH HW1 HW0 HC HCC
  go_loopg [10, 12] 2 (fun kq q10 q12 w' => ∃ (i : Nat) (ha : List H) (Xs : List (List S42)) (col : Nat → Nat), q12 = .int .i64 (i : Int) ∧ Aside0 (i + kq = 2) ∧ Aside0 (Bs w w' col At ct set q10 ha (.slice none 0 0) [] []) ∧ Aside0 (Deck k42 42 w' col 6 ha Xs) ∧ Aside0 (ha.length = 3 * i ∧ ∀ (t : Nat) X, Xs[t]? = some X → X = T3 M R Z t))
  case atStart => exact ⟨0, [], [], col, by rfl, ⟨by omega⟩, HBS, HD, ⟨rfl, fun t X hX => by simp at hX⟩⟩
  case round =>
   obtain ⟨i, ha, Xs, col, rfl, HI, HBS, HD, HXL⟩ := hrel
   cases gk with
   | zero =>
    have hlt : decide ((i : Int) < 2) = false := decide_eq_false (by have := HI.out; omega)
    have hlt' : decide (i < 2) = false := decide_eq_false (by have := HI.out; omega)
    obtain ⟨Aa, ca, ea, _, hCa⟩ := Kd.R_reads HBS.out.all
    subst ea
    obtain ⟨N, hN⟩ : ∃ N, N = ha.length := ⟨_, rfl⟩
    have HNL := Aside0.mk hN
    have HN6 := Aside0.mk (show N = 6 from by have := HXL.out.1; have := HI.out; omega)
    have HXT := Aside0.mk HXL.out.2
    have HHN := Aside0.mk (show ∀ (t : Nat) (h : H), ha[t]? = some h → h.n ≤ 4000 from fun t h ht => by
      have hl := (List.getElem?_eq_some_iff.1 ht).1
      have hX : Xs[t]? = some (Xs[t]'(by rw [HD.out.len]; exact hl)) := List.getElem?_eq_getElem _
      rw [HD.out.lens t h _ ht hX, HXT.out t _ hX]
      exact HTL.out t)
    rw [← hN] at HBS ⊢
    clear hN hCa HXL HI
    go_wp2_with (fail)
    clear hlt hlt'
    obtain ⟨w8, hw8⟩ : ∃ x, x = wr := ⟨_, rfl⟩
    rw [← hw8] at HBS HD ⊢
    clear hw8
    go_loopg [19, 20] N (fun kq q19 q20 w' => ∃ (i : Nat) (hw : List H) (Ws : List (List S42)) (col : Nat → Nat), q20 = .int .i64 (i : Int) ∧ Aside0 (i + kq = N) ∧ Aside0 (Bs w w' col At ct set (.slice Aa N ca) ha q19 hw Ws) ∧ Aside0 (Deck k42 42 w' col 6 ha Xs) ∧ Aside0 (hw.length = i ∧ ∀ (t : Nat) X, Ws[t]? = some X → X = T3 M R Z t))
    case atStart => exact ⟨0, [], [], col, by rfl, ⟨by omega⟩, HBS, HD, ⟨rfl, fun t X hX => by simp at hX⟩⟩
    case round =>
     obtain ⟨i, hw, Ws, col, rfl, HI, HBS, HD, HWL⟩ := hrel
     cases gk with
     | zero =>
      have hlt : decide ((i : Int) < (N : Int)) = false := decide_eq_false (by have := HI.out; omega)
      have hlt' : decide (i < N) = false := decide_eq_false (by have := HI.out; omega)
      obtain ⟨Aw, cw, ew, _, hCw⟩ := Kd.R_reads HBS.out.was
      subst ew
      have HW6 := Aside0.mk (show hw.length = 6 from by have := HWL.out.1; have := HN6.out; have := HI.out; omega)
      have HWT := Aside0.mk HWL.out.2
      rw [HW6.out] at HBS ⊢
      clear hCw HWL HI
      go_wp2_with (fail)
      clear hlt hlt'
      obtain ⟨w9, hw9⟩ : ∃ x, x = wr := ⟨_, rfl⟩
      rw [← hw9] at HBS HD ⊢
      clear hw9
      have HM := Aside0.mk (show ∀ t X, t < 0 → Xs[t]? = some X → X = List.replicate X.length (mk t) from fun t X ht => absurd ht (Nat.not_lt_zero _))
      clear HXT
      go_loopg [21] N (fun kq q21 w' => ∃ (i : Nat) (Xs : List (List S42)), q21 = .int .i64 (i : Int) ∧ Aside0 (i + kq = N) ∧ Aside0 (Bs w w' col At ct set (.slice Aa N ca) ha (.slice Aw 6 cw) hw Ws) ∧ Aside0 (Deck k42 42 w' col 6 ha Xs) ∧ Aside0 (∀ t X, t < i → Xs[t]? = some X → X = List.replicate X.length (mk t)))
      case atStart => exact ⟨0, Xs, by rfl, ⟨by omega⟩, HBS, HD, HM⟩
      case round =>
       obtain ⟨i, Xs, rfl, HI, HBS, HD, HM⟩ := hrel
       cases gk with
       | zero =>
        have hlt : decide ((i : Int) < (N : Int)) = false := decide_eq_false (by have := HI.out; omega)
        have hlt' : decide (i < N) = false := decide_eq_false (by have := HI.out; omega)
        have HM := Aside0.mk (show ∀ t X, Xs[t]? = some X → X = List.replicate X.length (mk t) from fun t X hX => HM.out t X (by have := (List.getElem?_eq_some_iff.1 hX).1; have h2 := HD.out.len; have h3 := HI.out; have h4 := HNL.out; omega) hX)
        clear HI
        go_wp2_with (fail)
        clear hlt hlt'
        have HFS := Aside0.mk (Fs.start (y := mk) (cs := mc) (fun t w c h => mc_of t w c h) HD.out HM.out)
        obtain ⟨w10, hw10⟩ : ∃ x, x = wr := ⟨_, rfl⟩
        rw [← hw10] at HBS HFS ⊢
        clear hw10 HM HD
        have HMO := Aside0.mk (show Kd.R kH 26 w10 0 (fun j => col j = 3) (.slice none 0 0) (ha.take 0) from Kd.R_nil _ _ _ _ _)
        go_loopg [11, 23] N (fun kq q11 q23 w' => ∃ (i : Nat) (vs : List H) (col : Nat → Nat) (xx : Nat → Nat), q23 = .int .i64 (i : Int) ∧ Aside0 (i + kq = N) ∧ Aside0 (Bs w w' col At ct set (.slice Aa N ca) ha (.slice Aw 6 cw) hw Ws) ∧ Aside0 (Fs k42 42 w' col 6 ha vs mk mc xx) ∧ Aside0 (Kd.R kH 26 w' 0 (fun j => col j = 3) q11 (vs.take i)) ∧ Aside0 ((∀ s, s < i → xx s = 60) ∧ (∀ s, i ≤ s → xx s = 0)) ∧ Aside0 (∀ s : Nat, i ≤ s → vs[s]? = ha[s]?))
        case atStart => exact ⟨0, ha, col, fun _ => 0, by rfl, ⟨by omega⟩, HBS, HFS, HMO, ⟨fun s hs => absurd hs (Nat.not_lt_zero _), fun _ _ => rfl⟩, ⟨fun _ _ => rfl⟩⟩
        case round =>
         obtain ⟨i, vs, col, xx, rfl, HI, HBS, HFS, HMO, HXX, HVS⟩ := hrel
         cases gk with
         | zero =>
          have hlt : decide ((i : Int) < (N : Int)) = false := decide_eq_false (by have := HI.out; omega)
          have hlt' : decide (i < N) = false := decide_eq_false (by have := HI.out; omega)
          have HXX := Aside0.mk (show ∀ s, s < N → xx s = 60 from fun s hs => HXX.out.1 s (by have := HI.out; omega))
          have HMO := Aside0.mk (show Kd.R kH 26 wr 0 (fun j => col j = 3) u11 vs from by
            have h := HMO.out
            rw [List.take_of_length_le (by rw [HFS.out.len]; have h2 := HI.out; have h3 := HNL.out; omega)] at h; exact h)
          clear HI HVS
          go_wp2_with (fail)
          clear hlt hlt'
          obtain ⟨Am, cm, em, _, hCm⟩ := Kd.R_reads HMO.out
          have hvn : vs.length = N := by rw [HFS.out.len]; exact HNL.out.symm
          rw [hvn] at em hCm
          subst em
          have HVN := Aside0.mk hvn
          have HCM := Aside0.mk hCm
          obtain ⟨w11, hw11⟩ : ∃ x, x = wr := ⟨_, rfl⟩
          rw [← hw11] at HBS HFS HCM ⊢
          have HBZ := Aside0.mk (Below.refl w11.heap.size w11)
          clear hw11 HMO hCm hvn
          go_loopg [26] N (fun kq q26 w' => ∃ i : Nat, q26 = .int .i64 (i : Int) ∧ Aside0 (i + kq = N) ∧ Aside0 (Below w11.heap.size w11 w'))
          case atStart => exact ⟨0, by rfl, ⟨by omega⟩, HBZ⟩
          case round =>
           obtain ⟨i, rfl, HI, HBZ⟩ := hrel
           cases gk with
           | zero =>
            have hlt : decide ((i : Int) < (N : Int)) = false := decide_eq_false (by have := HI.out; omega)
            have hlt' : decide (i < N) = false := decide_eq_false (by have := HI.out; omega)
            have HBS := Aside0.mk (HBS.out.below HBZ.out)
            clear HI HFS HCM HVN HBZ
            go_wp2_with (fail)
            clear hlt hlt'
            obtain ⟨h0, hh0⟩ : ∃ h0, hw[0]? = some h0 := ⟨_, List.getElem?_eq_getElem (by have := HW6.out; omega)⟩
            obtain ⟨h1, hh1⟩ : ∃ h1, hw[1]? = some h1 := ⟨_, List.getElem?_eq_getElem (by have := HW6.out; omega)⟩
            obtain ⟨h2, hh2⟩ : ∃ h2, hw[2]? = some h2 := ⟨_, List.getElem?_eq_getElem (by have := HW6.out; omega)⟩
            have hWt : ∀ t, t < 6 → Ws[t]? = some (T3 M R Z t) := fun t ht => by
              have h1 : Ws[t]? = some (Ws[t]'(by rw [HBS.out.wl, HW6.out]; exact ht)) := List.getElem?_eq_getElem _
              rw [h1, ← HWT.out t _ h1]
            have hW0 : Ws[0]? = some M := hWt 0 (by omega)
            have hW1 : Ws[1]? = some R := hWt 1 (by omega)
            have hW2 : Ws[2]? = some Z := hWt 2 (by omega)
            have hM : M.length ≤ 4000 := HTL.out 0
            have hR : R.length ≤ 4000 := HTL.out 1
            have hZ : Z.length ≤ 4000 := HTL.out 2
            have hCw := (Kd.R_reads' HBS.out.was).2.2
            have hr0 := HBS.out.row 0 h0 M hh0 hW0
            have hr1 := HBS.out.row 1 h1 R hh1 hW1
            have hr2 := HBS.out.row 2 h2 Z hh2 hW2
            obtain ⟨adw, eA, hc0⟩ := at_H hCw 0 h0 hh0
            subst eA
            obtain ⟨ad2, e2, hc1⟩ := at_H hCw 1 h1 hh1
            cases e2
            obtain ⟨ad3, e3, hc2⟩ := at_H hCw 2 h2 hh2
            cases e3
            obtain ⟨b0, n0', x0⟩ := h0
            obtain ⟨b1, n1, x1⟩ := h1
            obtain ⟨b2, n2, x2⟩ := h2
            have e0 := (Kd.R_reads' hr0).1
            have e1 := (Kd.R_reads' hr1).1
            have e2 := (Kd.R_reads' hr2).1
            subst e0 e1 e2
            have HC0 := Aside0.mk (show wr.cell? (adw.add 0) = some (.slice (b0.map fun b => (⟨b, 0, none⟩ : Addr)) M.length x0) from hc0)
            have ea1 : adw.add 1 = ⟨adw.block, adw.off + 1, none⟩ := by simp [Addr.add]
            have ea2 : adw.add 2 = ⟨adw.block, adw.off + 2, none⟩ := by simp [Addr.add]
            rw [ea1] at hc1
            rw [ea2] at hc2
            have HC1 := Aside0.mk (show wr.cell? ⟨adw.block, adw.off + 1, none⟩ = some (.slice (b1.map fun b => (⟨b, 0, none⟩ : Addr)) R.length x1) from hc1)
            have HC2 := Aside0.mk (show wr.cell? ⟨adw.block, adw.off + 2, none⟩ = some (.slice (b2.map fun b => (⟨b, 0, none⟩ : Addr)) Z.length x2) from hc2)
            have HR0 := Aside0.mk (And.intro (Kd.R_reads' hr0).2.1 (Kd.R_reads' hr0).2.2)
            have HR1 := Aside0.mk (And.intro (Kd.R_reads' hr1).2.1 (Kd.R_reads' hr1).2.2)
            have HR2 := Aside0.mk (And.intro (Kd.R_reads' hr2).2.1 (Kd.R_reads' hr2).2.2)
            have HS := Aside0.mk (show ∀ (X : List S42) (A B : Option Addr) (c d : Nat) (w' : World), (∃ t, X = T3 M R Z t) → Kd.C k42 w' A X.length X → X.length ≤ c → Kd.C k42 w' B X.length X → X.length ≤ d → Calls Try.prog 12 #[.slice A X.length c, .slice B X.length d] w' fun e w'' => e = .returned (.bool true) ∧ Below w'.heap.size w' w'' from fun X A B c d w' hx k1 k2 k3 k4 => (massiflaw04_same.calls 5000 A c X B d X true w' k1 k2 k3 k4 (by
              obtain ⟨t, rfl⟩ := hx
              have h5 := HTL.out t
              exact same_is _ 5000 (by omega) (by omega))).mono (fun e w'' h => ⟨h.1, h.2.below⟩))
            have HBW := Aside0.mk HBS.out.bel
            have HSE := Aside0.mk (Kd.R_reads' HBS.out.set).2.2
            clear ea1 ea2 hWt hW0 hW1 hW2 hM hR hZ hCw hr0 hr1 hr2 hc0 hc1 hc2 hh0 hh1 hh2 HBS
            refine (cover_Mountains.calls 200 (n : Int) M 0 wr HFM.out).mono ?_
            rintro e z1 ⟨vx, rfl, hrx, hbx⟩
            obtain ⟨Ax, cx, ex, hcx, hCx⟩ := Kd.R_reads hrx
            subst ex
            have HX := Aside0.mk (And.intro hcx hCx)
            have HB1 := Aside0.mk hbx
            have HSE1 := Aside0.mk (Kd.C_below HSE.out hbx)
            clear hrx hbx hcx hCx HSE
            go_wp2_with (fail)
            refine (cover_Range.calls 0 (h : Int) (n : Int) R 0 z1 HFR.out).mono ?_
            rintro e z2 ⟨vy, rfl, hry, hby⟩
            obtain ⟨Ay, cy, ey, hcy, hCy⟩ := Kd.R_reads hry
            subst ey
            have HY := Aside0.mk (And.intro hcy hCy)
            have HX2 := Aside0.mk (And.intro HX.out.1 (Kd.C_below HX.out.2 hby))
            have HB2 := Aside0.mk (below_weaken HB1.out HB1.out.size hby)
            have HSE2 := Aside0.mk (Kd.C_below HSE1.out hby)
            clear hry hby hcy hCy HSE1 HX HB1
            go_wp2_with (fail)
            refine (cover_Rest.calls (n : Int) At ct set Z 0 z2 HSE2.out HCT.out HFZ.out).mono ?_
            rintro e z3 ⟨vz, rfl, hrz, hbz⟩
            obtain ⟨Az, cz, ez, hcz, hCz⟩ := Kd.R_reads hrz
            subst ez
            have HZ := Aside0.mk (And.intro hcz hCz)
            have HX3 := Aside0.mk (And.intro HX2.out.1 (Kd.C_below HX2.out.2 hbz))
            have HY3 := Aside0.mk (And.intro HY.out.1 (Kd.C_below HY.out.2 hbz))
            have HB3 := Aside0.mk (below_weaken HB2.out HB2.out.size hbz)
            clear hrz hbz hcz hCz HSE2 HX2 HY HB2
            have y0 : z3.cell? (adw.add 0) = some (.slice (b0.map fun b => (⟨b, 0, none⟩ : Addr)) M.length x0) := (HB3.out.cell (World.block_lt_of_cell? _ _ HC0.out)).trans HC0.out
            have ea : adw.add 0 = adw := by obtain ⟨q1, q2, q3⟩ := adw; simp [Addr.add]
            rw [ea] at y0
            clear ea
            go_wp2_with (first
              | (go_at_call 12; refine (HS.out M _ _ _ _ _ ⟨0, rfl⟩ HX3.out.2 HX3.out.1 (Kd.C_below HR0.out.2 HB3.out) HR0.out.1).mono ?_; rintro e z4 ⟨rfl, hb4⟩; have HB4 := Aside0.mk (below_weaken HB3.out HB3.out.size hb4); have HY4 := Aside0.mk (And.intro HY3.out.1 (Kd.C_below HY3.out.2 hb4)); have HZ4 := Aside0.mk (And.intro HZ.out.1 (Kd.C_below HZ.out.2 hb4)); have y1 : z4.cell? ⟨adw.block, adw.off + 1, none⟩ = some (.slice (b1.map fun b => (⟨b, 0, none⟩ : Addr)) R.length x1) := (HB4.out.cell (World.block_lt_of_cell? _ _ HC1.out)).trans HC1.out; clear hb4 HX3 y0)
              | (go_at_call 12; refine (HS.out R _ _ _ _ _ ⟨1, rfl⟩ HY4.out.2 HY4.out.1 (Kd.C_below HR1.out.2 HB4.out) HR1.out.1).mono ?_; rintro e z5 ⟨rfl, hb5⟩; have HB5 := Aside0.mk (below_weaken HB4.out HB4.out.size hb5); have HZ5 := Aside0.mk (And.intro HZ4.out.1 (Kd.C_below HZ4.out.2 hb5)); have y2 : z5.cell? ⟨adw.block, adw.off + 2, none⟩ = some (.slice (b2.map fun b => (⟨b, 0, none⟩ : Addr)) Z.length x2) := (HB5.out.cell (World.block_lt_of_cell? _ _ HC2.out)).trans HC2.out; clear hb5 HY4 y1)
              | (go_at_call 12; refine (HS.out Z _ _ _ _ _ ⟨2, rfl⟩ HZ5.out.2 HZ5.out.1 (Kd.C_below HR2.out.2 HB5.out) HR2.out.1).mono ?_; rintro e z6 ⟨rfl, hb6⟩; have HB6 := Aside0.mk (below_weaken HB5.out HB5.out.size hb6); clear hb6))
            go_ret
            exact ⟨rfl, below_weaken HBW.out HBW.out.size HB6.out⟩
           | succ k1 =>
            have hil : i < N := by have := HI.out; omega
            have HJ := Aside0.mk (show i + 1 + k1 = N from by have := HI.out; omega)
            have hlt : decide ((i : Int) < (N : Int)) = true := decide_eq_true (by omega)
            have hlt' : decide (i < N) = true := decide_eq_true hil
            obtain ⟨h1, hh⟩ : ∃ h1, ha[i]? = some h1 := ⟨_, List.getElem?_eq_getElem (by have := HNL.out; omega)⟩
            obtain ⟨v, hv⟩ : ∃ v, vs[i]? = some v := ⟨_, List.getElem?_eq_getElem (by have := HVN.out; omega)⟩
            have hF := HFS.out.fam i h1 v hh hv
            rw [HXX.out i hil] at hF
            obtain ⟨hvn, hvb⟩ := hF.copy
            obtain ⟨gv, ev, _⟩ := hvb (by omega)
            obtain ⟨ad, eA, hcm⟩ := at_H HCM.out i v hv
            subst eA
            obtain ⟨ad2, eA2, hca⟩ := at_H (Kd.R_reads' HBS.out.all).2.2 i h1 hh
            subst eA2
            obtain ⟨b1, n1, x1⟩ := v
            obtain ⟨gb, n3, x2⟩ := h1
            have hvn2 : n1 = n3 + 60 := hvn
            have ev2 : b1 = some gv := ev
            subst hvn2 ev2
            have hn4 : n3 ≤ 4000 := HHN.out i _ hh
            have HCV := Aside0.mk (show ∀ q, q < n3 + 60 → w11.cell? ⟨gv, q * 2, none⟩ = some (.int .i64 (-1 - (i : Int))) ∧ w11.cell? ⟨gv, q * 2 + 1, none⟩ = some (.int .u64 0) from fun q hq => ⟨rep_cells (cs := mc i) (fun w c h => mc_of i w c h) (b := 0) hF.row q hq 0 _ rfl, rep_cells (cs := mc i) (fun w c h => mc_of i w c h) (b := 0) hF.row q hq 1 _ rfl⟩)
            have HCH := Aside0.mk (show ∀ q, q < n3 → ∃ g, gb = some g ∧ w11.cell? ⟨g, q * 2, none⟩ = some (.int .i64 (-1 - (i : Int))) ∧ w11.cell? ⟨g, q * 2 + 1, none⟩ = some (.int .u64 0) from fun q hq => by
              obtain ⟨g, e1, h3⟩ := hF.cells q hq 0 _ rfl
              obtain ⟨g', e2, h4⟩ := hF.cells q hq 1 _ rfl
              rw [e1] at e2; cases e2
              exact ⟨g, e1, h3, h4⟩)
            have HC1 := Aside0.mk (show w11.cell? (ad.add i) = some (.slice (some ⟨gv, 0, none⟩) (n3 + 60) x1) from hcm)
            have HC2 := Aside0.mk (show w11.cell? (ad2.add i) = some (.slice (gb.map fun b => (⟨b, 0, none⟩ : Addr)) n3 x2) from hca)
            have p1 : (0 : Int) ≤ (i : Int) := by omega
            have p2 : (i : Int) < (N : Int) := by omega
            have b3 : -9223372036854775808 ≤ (i : Int) + 1 ∧ (i : Int) + 1 ≤ 9223372036854775807 := by have := HN6.out; omega
            have b4 : -9223372036854775808 ≤ -1 - (i : Int) ∧ -1 - (i : Int) ≤ 9223372036854775807 := by have := HN6.out; omega
            have u3 : wrap64 ((i : Int) + 1) = (i : Int) + 1 := MB.wrap64_in _ b3.1 b3.2
            have u4 : wrap64 (-1 - (i : Int)) = -1 - (i : Int) := MB.wrap64_in _ b4.1 b4.2
            clear b3 b4
            obtain ⟨n2, hn2⟩ : ∃ n2, n2 = n3 + 60 := ⟨_, rfl⟩
            rw [← hn2] at HC1 HCV
            have HNP := Aside0.mk (And.intro hn2 hn4)
            clear hn2 hn4 hcm hca hF hvn hvb ev hh hv hil
            have hcc : wr.cell? (ad.add i) = some (.slice (some ⟨gv, 0, none⟩) n2 x1) := (HBZ.out.cell (World.block_lt_of_cell? _ _ HC1.out)).trans HC1.out
            go_wp2_with (fail)
            go_loopg [27] n2 (fun kq q27 w' => ∃ j : Nat, q27 = .int .i64 (j : Int) ∧ Aside0 (j + kq = n2) ∧ Aside0 (Below w11.heap.size w11 w'))
            case atStart => exact ⟨0, by rfl, ⟨by exact Nat.zero_add _⟩, HBZ⟩
            case round =>
             obtain ⟨j, rfl, HI, HBZ⟩ := hrel
             have hcc : wr.cell? (ad.add i) = some (.slice (some ⟨gv, 0, none⟩) n2 x1) := (HBZ.out.cell (World.block_lt_of_cell? _ _ HC1.out)).trans HC1.out
             cases gk with
             | zero =>
              have hjn := HI.out
              have hlt2 : decide ((j : Int) < (n2 : Int)) = false := decide_eq_false (fun h => Nat.lt_irrefl _ (Nat.lt_of_lt_of_eq (Int.ofNat_lt.mp h) hjn.symm))
              have hlt3 : decide (j < n2) = false := decide_eq_false (fun h => Nat.lt_irrefl _ (Nat.lt_of_lt_of_eq h hjn.symm))
              clear hjn
              go_wp2_with (fail)
              go_roundg k1
              case measure => exact Nat.lt_succ_self _
              case rel => exact ⟨i + 1, by first | rfl | (rw [u3]; rfl), HJ, HBZ⟩
             | succ k2 =>
              have hjl : j < n2 := by have h1 := HI.out; clear u3 u4; omega
              have HJ2 := Aside0.mk (show j + 1 + k2 = n2 from by have h1 := HI.out; clear u3 u4; omega)
              have hlt2 : decide ((j : Int) < (n2 : Int)) = true := decide_eq_true (Int.ofNat_lt.mpr hjl)
              have hlt3 : decide (j < n2) = true := decide_eq_true hjl
              have p3 : (0 : Int) ≤ (j : Int) := Int.natCast_nonneg _
              have p4 : (j : Int) < (n2 : Int) := Int.ofNat_lt.mpr hjl
              have u5 : wrap64 ((j : Int) + 1) = (j : Int) + 1 := by
                have h2 := HNP.out
                clear u3 u4
                exact MB.wrap64_in _ (by omega) (by omega)
              have hcv0 : wr.cell? ⟨gv, j * 2, none⟩ = some (.int .i64 (-1 - (i : Int))) := (HBZ.out.cell (World.block_lt_of_cell? _ _ (HCV.out j hjl).1)).trans (HCV.out j hjl).1
              have hcv1 : wr.cell? ⟨gv, j * 2 + 1, none⟩ = some (.int .u64 0) := (HBZ.out.cell (World.block_lt_of_cell? _ _ (HCV.out j hjl).2)).trans (HCV.out j hjl).2
              have hcc2 : wr.cell? (ad2.add i) = some (.slice (gb.map fun b => (⟨b, 0, none⟩ : Addr)) n3 x2) := (HBZ.out.cell (World.block_lt_of_cell? _ _ HC2.out)).trans HC2.out
              by_cases hin : j < n3
              · obtain ⟨g, eg, hcj, hck⟩ := HCH.out j hin
                subst eg
                have hch0 : wr.cell? ⟨g, j * 2, none⟩ = some (.int .i64 (-1 - (i : Int))) := (HBZ.out.cell (World.block_lt_of_cell? _ _ hcj)).trans hcj
                have hch1 : wr.cell? ⟨g, j * 2 + 1, none⟩ = some (.int .u64 0) := (HBZ.out.cell (World.block_lt_of_cell? _ _ hck)).trans hck
                have p5 : (j : Int) < (n3 : Int) := Int.ofNat_lt.mpr hin
                have d1 : decide ((j : Int) < (n3 : Int)) = true := decide_eq_true p5
                have d2 : decide (j < n3) = true := decide_eq_true hin
                clear hin hjl hcj hck
                go_wp2_with (fail)
                go_roundg k2
                case measure => exact Nat.lt_succ_self _
                case rel => exact ⟨j + 1, by first | rfl | (rw [u5]; rfl), HJ2, HBZ⟩
              · have d1 : decide ((j : Int) < (n3 : Int)) = false := decide_eq_false (fun h => hin (Int.ofNat_lt.mp h))
                have d2 : decide (j < n3) = false := decide_eq_false hin
                clear hin hjl
                go_wp2_with (fail)
                go_roundg k2
                case measure => exact Nat.lt_succ_self _
                case rel => exact ⟨j + 1, by first | rfl | (rw [u5]; rfl), HJ2, HBZ⟩
         | succ k1 =>
          have hil : i < N := by have := HI.out; omega
          have HIL := Aside0.mk hil
          have HJ := Aside0.mk (show i + 1 + k1 = N from by have := HI.out; omega)
          have hlt : decide ((i : Int) < (N : Int)) = true := decide_eq_true (by omega)
          have hlt' : decide (i < N) = true := decide_eq_true hil
          have u3 : wrap64 ((i : Int) + 1) = (i : Int) + 1 := MB.wrap64_in _ (by omega) (by have := HN6.out; omega)
          obtain ⟨h1, hh⟩ : ∃ h1, ha[i]? = some h1 := ⟨_, List.getElem?_eq_getElem (by have := HNL.out; omega)⟩
          have HH := Aside0.mk hh
          have HN1 := Aside0.mk (HHN.out i h1 hh)
          obtain ⟨ad, eA, hcc⟩ := at_H (Kd.R_reads' HBS.out.all).2.2 i h1 hh
          subst eA
          have HVI := Aside0.mk (show vs[i]? = some h1 from (HVS.out i (Nat.le_refl _)).trans hh)
          have p1 : (0 : Int) ≤ (i : Int) := by omega
          have p2 : (i : Int) < (N : Int) := by omega
          have HU4 := Aside0.mk (show wrap64 (-1 - (i : Int)) = -1 - (i : Int) from MB.wrap64_in _ (by have := HN6.out; omega) (by omega))
          clear hh hil
          have HX0 := Aside0.mk (show xx i = 0 from HXX.out.2 i (Nat.le_refl _))
          have HX1 := Aside0.mk (show (∀ s, s < i → xx s = 60) ∧ (∀ s, i < s → xx s = 0) from ⟨HXX.out.1, fun s hs => HXX.out.2 s (Nat.le_of_lt hs)⟩)
          have HV1 := Aside0.mk (show ∀ s : Nat, i < s → vs[s]? = ha[s]? from fun s hs => HVS.out s (Nat.le_of_lt hs))
          clear HXX HVS
          go_wp2_with (fail)
          go_loopg [24, 25] 60 (fun kq q24 q25 w' => ∃ (j : Nat) (v : H) (vs : List H) (col : Nat → Nat) (xx : Nat → Nat), q24 = v.val ∧ q25 = .int .i64 (j : Int) ∧ Aside0 (j + kq = 60) ∧ Aside0 (Bs w w' col At ct set (.slice (some ad) N ca) ha (.slice Aw 6 cw) hw Ws) ∧ Aside0 (Fs k42 42 w' col 6 ha vs mk mc xx) ∧ Aside0 (Kd.R kH 26 w' 0 (fun j => col j = 3) u11 (vs.take i)) ∧ Aside0 (xx i = j) ∧ Aside0 ((∀ s, s < i → xx s = 60) ∧ (∀ s, i < s → xx s = 0)) ∧ Aside0 (∀ s : Nat, i < s → vs[s]? = ha[s]?) ∧ Aside0 (vs[i]? = some v))
          case atStart => exact ⟨0, h1, vs, col, xx, by rfl, by rfl, ⟨by omega⟩, HBS, HFS, HMO, HX0, HX1, HV1, HVI⟩
          case round =>
           obtain ⟨j, v, vs, col, xx, rfl, rfl, HI, HBS, HFS, HMO, HX0, HX1, HV1, HVI⟩ := hrel
           cases gk with
           | zero =>
            have hlt2 : decide ((j : Int) < (60 : Int)) = false := decide_eq_false (by have := HI.out; omega)
            have hlt3 : decide (j < 60) = false := decide_eq_false (by have := HI.out; omega)
            have HJN := Aside0.mk (show j = 60 from by have := HI.out; omega)
            obtain ⟨bx, nx, cx⟩ := v
            simp only [H.val]
            have HVL := Aside0.mk (show (vs.take i).length ≤ 210 from by rw [List.length_take]; have := HN6.out; have := HIL.out; omega)
            go_wp2_with (first
              | ((with_reducible refine gate_builtin (b := .append) (xs := #[.tmp 145, .tmp 147]) rfl ?_); at_builtin; refine Kd.R_append kH (w0 := wr) 0 rfl (.tmp 145) (.tmp 147) 38 26 (.slice none 0 0) 24 rfl Try.underlying38 (by kernel_rfl) rfl (by decide) (by omega) u11 (vs.take i) ⟨bx, nx, cx⟩ [.slice (bx.map fun b => (⟨b, 0, none⟩ : Addr)) nx cx] (fun q => col q = 3 ∨ wr.heap.size ≤ q) (fun _ => False) rfl ?hx ?aP (fun _ hk => hk.elim) ?aF ?aO ?aB ?aS ?aL ?_; (case hx => first | rfl | (go_simp; done) | (simp [World.alloc]; done)); (case aP => exact rfl); (case aF => exact fun q hq => .inr hq); (case aO => exact Kd.R_mono HMO.out (fun q hq => .inl hq)); (case aB => exact Below.refl _ _); (case aS => exact Nat.zero_le _); (case aL => have := HVL.out; omega); intro vm v1 ho hb1 hg1 hat; have HO1 := Aside0.mk ho; have HG1 := Aside0.mk hg1; clear ho hb1 hg1 hat))
            obtain ⟨c1, hc1⟩ : ∃ c1, c1 = coled wr col 3 := ⟨_, rfl⟩
            have hco : ∀ q, q < wr.heap.size → c1 q = col q := by rw [hc1]; exact coled_old _ _ _
            have hrow : ∀ q, u11.ownBlock = some q → c1 q = 3 := fun q hq => by rw [hco q (Kd.R_lt HMO.out q hq)]; exact HMO.out.1 q hq
            have HB1 := Aside0.mk (show Bs w v1 c1 At ct set (.slice (some ad) N ca) ha (.slice Aw 6 cw) hw Ws from by
              have h := HBS.out.coled 3
              rw [← hc1] at h
              exact h.grown HG1.out (fun q hq => .inl (hrow q hq)))
            have HS1 := Aside0.mk ((HFS.out.recol hco).grown HG1.out (fun q hq => by rw [hrow q hq]; exact Nat.lt_of_lt_of_le (Nat.lt_succ_self 3) (by decide)))
            have HM1 := Aside0.mk (show Kd.R kH 26 v1 0 (fun q => c1 q = 3) vm (vs.take (i + 1)) from by
              have h := HO1.out
              rw [show vs.take i ++ [(⟨bx, nx, cx⟩ : H)] = vs.take (i + 1) from by rw [List.take_add_one, HVI.out]; rfl] at h
              refine Kd.R_mono h (fun q hq => ?_)
              rw [hc1]; unfold Ap.coled
              by_cases e : wr.heap.size ≤ q
              · rw [if_pos e]
              · rw [if_neg e]; rcases hq with hq | hq
                · exact hq
                · exact absurd hq e)
            clear hc1 hco hrow
            go_roundg k1
            case measure => exact Nat.lt_succ_self _
            case rel => exact ⟨i + 1, vs, c1, xx, by first | rfl | (rw [u3]; rfl), HJ, HB1, HS1, HM1, ⟨fun s hs => by
              by_cases e : s = i
              · subst e; rw [HX0.out]; exact HJN.out
              · exact HX1.out.1 s (Nat.lt_of_le_of_ne (Nat.le_of_lt_succ hs) e), fun s hs => HX1.out.2 s hs⟩, ⟨fun s hs => HV1.out s hs⟩⟩
           | succ k2 =>
            have HJ2 := Aside0.mk (show j + 1 + k2 = 60 from by have := HI.out; omega)
            have hlt2 : decide ((j : Int) < (60 : Int)) = true := decide_eq_true (by have := HI.out; omega)
            have hlt3 : decide (j < 60) = true := decide_eq_true (by have := HI.out; omega)
            have hfam := HFS.out.fam i h1 v HH.out HVI.out
            rw [HX0.out] at hfam
            have HFM := Aside0.mk hfam
            have HLL := Aside0.mk (show ((List.replicate (h1.n + j) (mk i)).length + 1) * 16 ≤ 140737488355328 from by rw [List.length_replicate]; have := HN1.out; have := HJ2.out; omega)
            have u5 : wrap64 ((j : Int) + 1) = (j : Int) + 1 := MB.wrap64_in _ (by omega) (by have := HI.out; omega)
            have u4 := HU4.out
            clear hfam
            go_wp2_with (first
              | ((with_reducible refine gate_builtin (b := .append) (xs := #[.tmp 139, .tmp 143]) rfl ?_); at_builtin; refine wpList_append_apart k42 rfl (.tmp 139) (.tmp 143) 26 42 (.agg #[.int .i64 0, .int .u64 0]) 16 rfl Try.underlying26 (by kernel_rfl) rfl (by decide) v.val (List.replicate (h1.n + j) (mk i)) (mk i) [.int .i64 (-1 - (i : Int)), .int .u64 0] (fun q => col q = 6 + i ∨ wr.heap.size ≤ q) rfl ?hx ?aP ?aF ?aO ?aL (by decide) ?_; (case hx => first | rfl | (go_simp; done) | (simp [World.alloc]; done)); (case aP => exact k42_mkM _ _ _ (mk i)); (case aF => exact fun q hq => .inr hq); (case aO => exact Kd.R_mono HFM.out.row (fun q hq => .inl hq)); (case aL => exact HLL.out); intro x2 v2 hR hg2 ho2; obtain ⟨v3, ev3, _⟩ := R_hdr hR; subst ev3; have HR2 := Aside0.mk hR; have HG2 := Aside0.mk hg2; have HO2 := Aside0.mk ho2; clear hR hg2 ho2))
            obtain ⟨c1, hc1⟩ : ∃ c1, c1 = coled wr col (6 + i) := ⟨_, rfl⟩
            have hco : ∀ q, q < wr.heap.size → c1 q = col q := by rw [hc1]; exact coled_old _ _ _
            have hrow : ∀ q, v.val.ownBlock = some q → c1 q = 6 + i := fun q hq => by rw [hco q (Kd.R_lt HFM.out.row q hq)]; exact HFM.out.row.1 q hq
            have HB2 := Aside0.mk (show Bs w v2 c1 At ct set (.slice (some ad) N ca) ha (.slice Aw 6 cw) hw Ws from by
              have h := HBS.out.coled (6 + i)
              rw [← hc1] at h
              exact h.grown HG2.out (fun q hq => .inr (by rw [hrow q hq]; exact Nat.le_add_right 6 i)))
            have HM2 := Aside0.mk (show Kd.R kH 26 v2 0 (fun q => c1 q = 3) u11 ((vs.set i v3).take i) from by
              rw [List.take_set_of_le (Nat.le_refl _)]
              exact R_other (R_recol HMO.out hco) HG2.out (fun q hq => by rw [hrow q hq]; exact Nat.ne_of_gt (Nat.lt_of_lt_of_le (by decide) (Nat.le_add_right 6 i))))
            have HS2 := Aside0.mk (show Fs k42 42 v2 c1 6 ha (vs.set i v3) mk mc (fun s => if s = i then xx s + 1 else xx s) from by
              rw [hc1]
              exact HFS.out.push (fun t w c h => mc_of t w c h) HH.out HVI.out (by rw [HX0.out]; exact HR2.out) HG2.out HO2.out)
            clear hc1 hco hrow
            go_roundg k2
            case measure => exact Nat.lt_succ_self _
            case rel => exact ⟨j + 1, v3, vs.set i v3, c1, fun s => if s = i then xx s + 1 else xx s, by rfl, by first | rfl | (rw [u5]; rfl), HJ2, HB2, HS2, HM2, ⟨(if_pos rfl).trans (congrArg (· + 1) HX0.out)⟩, ⟨fun s hs => (if_neg (Nat.ne_of_lt hs)).trans (HX1.out.1 s hs), fun s hs => (if_neg (Nat.ne_of_gt hs)).trans (HX1.out.2 s hs)⟩, ⟨fun s hs => by rw [List.getElem?_set_ne (Nat.ne_of_lt hs)]; exact HV1.out s hs⟩, ⟨by rw [List.getElem?_set_self (by exact (List.getElem?_eq_some_iff.1 HVI.out).1)]⟩⟩
       | succ k1 =>
        have hil : i < N := by have := HI.out; omega
        have HJ := Aside0.mk (show i + 1 + k1 = N from by have := HI.out; omega)
        have hlt : decide ((i : Int) < (N : Int)) = true := decide_eq_true (by omega)
        have hlt' : decide (i < N) = true := decide_eq_true hil
        have b3 : -9223372036854775808 ≤ (i : Int) + 1 ∧ (i : Int) + 1 ≤ 9223372036854775807 := by have := HN6.out; omega
        have b4 : -9223372036854775808 ≤ -1 - (i : Int) ∧ -1 - (i : Int) ≤ 9223372036854775807 := by have := HN6.out; omega
        have u3 : wrap64 ((i : Int) + 1) = (i : Int) + 1 := MB.wrap64_in _ b3.1 b3.2
        have u4 : wrap64 (-1 - (i : Int)) = -1 - (i : Int) := MB.wrap64_in _ b4.1 b4.2
        clear b3 b4
        obtain ⟨h1, hh⟩ : ∃ h1, ha[i]? = some h1 := ⟨_, List.getElem?_eq_getElem (by have := HNL.out; omega)⟩
        have HH := Aside0.mk hh
        have hn4 := HHN.out i h1 hh
        have hG : 0 < h1.n → ∃ g, h1.blk = some g ∧ col g = 6 + i := fun h0 => by
          obtain ⟨X, hX⟩ : ∃ X, Xs[i]? = some X := ⟨_, List.getElem?_eq_getElem (by rw [HD.out.len]; exact (List.getElem?_eq_some_iff.1 hh).1)⟩
          obtain ⟨g, g1, g2, _⟩ := HD.out.blk i h1 X hh hX h0
          exact ⟨g, g1, g2⟩
        have HAA := Aside0.mk (show ∀ w', Bs w w' col At ct set (.slice Aa N ca) ha (.slice Aw 6 cw) hw Ws → ∃ ad, Aa = some ad ∧ w'.cell? (ad.add i) = some h1.val from fun w' hb => at_H (Kd.R_reads' hb.all).2.2 i h1 hh)
        obtain ⟨ad, eA, _⟩ := HAA.out _ HBS.out
        have HAC := Aside0.mk (show ∀ w', Bs w w' col At ct set (.slice Aa N ca) ha (.slice Aw 6 cw) hw Ws → w'.cell? (ad.add i) = some h1.val from fun w' hb => by
          obtain ⟨ad2, e2, h2⟩ := HAA.out w' hb
          rw [eA] at e2; cases e2; exact h2)
        subst eA
        have HGG := Aside0.mk hG
        have p1 : (0 : Int) ≤ (i : Int) := by omega
        have p2 : (i : Int) < (N : Int) := by omega
        clear hG HAA hh hil
        obtain ⟨gb, n1, cp⟩ := h1
        have HN1 := Aside0.mk (show n1 ≤ 4000 from hn4)
        clear hn4
        go_wp2_with (fail)
        go_loopg [22] n1 (fun kq q22 w' => ∃ (j : Nat) (Xs : List (List S42)), q22 = .int .i64 (j : Int) ∧ Aside0 (j + kq = n1) ∧ Aside0 (Bs w w' col At ct set (.slice (some ad) N ca) ha (.slice Aw 6 cw) hw Ws) ∧ Aside0 (Deck k42 42 w' col 6 ha Xs) ∧ Aside0 (∀ t X, t < i → Xs[t]? = some X → X = List.replicate X.length (mk t)) ∧ Aside0 (∀ X, Xs[i]? = some X → ∀ p, p < j → X[p]? = some (mk i)))
        case atStart => exact ⟨0, Xs, by rfl, ⟨by omega⟩, HBS, HD, HM, ⟨fun X _ p hp => absurd hp (Nat.not_lt_zero _)⟩⟩
        case round =>
         obtain ⟨j, Xs, rfl, HI, HBS, HD, HM, HMJ⟩ := hrel
         cases gk with
         | zero =>
          have hlt2 : decide ((j : Int) < (n1 : Int)) = false := decide_eq_false (by have := HI.out; omega)
          have hlt3 : decide (j < n1) = false := decide_eq_false (by have := HI.out; omega)
          have hcc : wr.cell? (ad.add i) = some (.slice (gb.map fun b => (⟨b, 0, none⟩ : Addr)) n1 cp) := HAC.out _ HBS.out
          have HJN := Aside0.mk (show j = n1 from by have := HI.out; omega)
          go_wp2_with (fail)
          go_roundg k1
          case measure => exact Nat.lt_succ_self _
          case rel => exact ⟨i + 1, Xs, by first | rfl | (rw [u3]; rfl), HJ, HBS, HD, ⟨fun t X ht hX => by
            by_cases e : t = i
            · subst e
              have hl := HD.out.lens t _ X HH.out hX
              refine List.eq_replicate_iff.2 ⟨rfl, fun z hz => ?_⟩
              obtain ⟨p, hp, rfl⟩ := List.getElem_of_mem hz
              have h2 := HMJ.out X hX p (by have h3 := HJN.out; have h4 : n1 = X.length := hl; omega)
              rw [List.getElem?_eq_getElem hp] at h2; exact Option.some.inj h2
            · exact HM.out t X (by omega) hX⟩⟩
         | succ k2 =>
          have hjl : j < n1 := by have := HI.out; omega
          have HJ2 := Aside0.mk (show j + 1 + k2 = n1 from by have := HI.out; omega)
          have hlt2 : decide ((j : Int) < (n1 : Int)) = true := decide_eq_true (by omega)
          have hlt3 : decide (j < n1) = true := decide_eq_true hjl
          obtain ⟨g, eg, cg⟩ := HGG.out (by show 0 < n1; omega)
          have eg2 : gb = some g := eg
          subst eg2
          have HCG := Aside0.mk cg
          have hcc : wr.cell? (ad.add i) = some (.slice (some ⟨g, 0, none⟩) n1 cp) := HAC.out _ HBS.out
          have p3 : (0 : Int) ≤ (j : Int) := by omega
          have p4 : (j : Int) < (n1 : Int) := by omega
          have u5 : wrap64 ((j : Int) + 1) = (j : Int) + 1 := MB.wrap64_in _ (by omega) (by have := HN1.out; omega)
          obtain ⟨X, hX⟩ : ∃ X, Xs[i]? = some X := ⟨_, List.getElem?_eq_getElem (by rw [HD.out.len]; exact (List.getElem?_eq_some_iff.1 HH.out).1)⟩
          have HX := Aside0.mk hX
          have hR : Kd.R k42 42 wr 0 (fun j => col j = 6 + i) (.slice (some ⟨g, 0, none⟩) n1 cp) X := HD.out.row i _ X HH.out hX
          have hlX : n1 = X.length := HD.out.lens i _ X HH.out hX
          have HJX := Aside0.mk (show j < X.length from hlX ▸ hjl)
          clear hlX
          obtain ⟨⟨⟨a0, hx0⟩, hf0⟩, ⟨a1, hx1⟩, hf1⟩ := R_room2 (d := k42) rfl hR j hjl (.int .i64 (-1 - (i : Int)))
          have hP := R_put2 (d := k42) rfl (f := fun x => (Value.int .i64 x.f0, Value.int .u64 x.f1)) kB_M hR j hjl (mk i)
          rw [Nat.mul_comm 2 j] at hP
          have HP := Aside0.mk (show Kd.R k42 42 ((wr.setCell ⟨g, j * 2, none⟩ (.int .i64 (-1 - (i : Int)))).setCell ⟨g, j * 2 + 1, none⟩ (.int .u64 0)) 0 (fun j => col j = 6 + i) (.slice (some ⟨g, 0, none⟩) n1 cp) (X.set j (mk i)) ∧ wr.grownBy ((wr.setCell ⟨g, j * 2, none⟩ (.int .i64 (-1 - (i : Int)))).setCell ⟨g, j * 2 + 1, none⟩ (.int .u64 0)) (some g) from hP)
          clear eg cg hP hR hX hjl
          go_wp2_with (fail)
          have HB2 := Aside0.mk (HBS.out.grown HP.out.2 (fun q hq => by cases hq; exact .inr (by rw [HCG.out]; exact Nat.le_add_right 6 i)))
          have HD2 := Aside0.mk (HD.out.put HH.out HX.out HP.out.2 (fun q hq => by cases hq; exact HCG.out) HP.out.1)
          go_roundg k2
          case measure => exact Nat.lt_succ_self _
          case rel => exact ⟨j + 1, _, by first | rfl | (rw [u5]; rfl), HJ2, HB2, HD2, ⟨fun t X' ht hX' => by
            rw [List.getElem?_set_ne (Nat.ne_of_gt ht)] at hX'
            exact HM.out t X' ht hX'⟩, ⟨fun X' hX' p hp => by
            rw [List.getElem?_set_self (by exact (List.getElem?_eq_some_iff.1 HX.out).1)] at hX'
            cases hX'
            by_cases e : j = p
            · subst e
              rw [List.getElem?_set_self HJX.out]
            · rw [List.getElem?_set_ne e]; exact HMJ.out X HX.out p (Nat.lt_of_le_of_ne (Nat.le_of_lt_succ hp) (fun h => e h.symm))⟩⟩
     | succ k1 =>
      have hil : i < N := by have := HI.out; omega
      have HIL := Aside0.mk hil
      have HJ := Aside0.mk (show i + 1 + k1 = N from by have := HI.out; omega)
      have hlt : decide ((i : Int) < (N : Int)) = true := decide_eq_true (by omega)
      have hlt' : decide (i < N) = true := decide_eq_true hil
      have u3 : wrap64 ((i : Int) + 1) = (i : Int) + 1 := MB.wrap64_in _ (by omega) (by have := HN6.out; omega)
      obtain ⟨h1, hh⟩ : ∃ h1, ha[i]? = some h1 := ⟨_, List.getElem?_eq_getElem (by have := HNL.out; omega)⟩
      obtain ⟨X, hX⟩ : ∃ X, Xs[i]? = some X := ⟨_, List.getElem?_eq_getElem (by have := HNL.out; have := HD.out.len; omega)⟩
      have hXT := HXT.out i X hX
      have HXN := Aside0.mk (show X.length ≤ 4000 from by rw [hXT]; exact HTL.out i)
      have HXE := Aside0.mk hXT
      have HAA := Aside0.mk (show ∀ w' col hw Ws v, Bs w w' col At ct set (.slice Aa N ca) ha v hw Ws → ∃ ad, Aa = some ad ∧ w'.cell? (ad.add i) = some h1.val from fun w' col hw Ws v hb => at_H (Kd.R_reads' hb.all).2.2 i h1 hh)
      obtain ⟨ad, eA, hcc⟩ := HAA.out _ _ _ _ _ HBS.out
      have HAC := Aside0.mk (show ∀ w' col hw Ws v, Bs w w' col At ct set (.slice Aa N ca) ha v hw Ws → w'.cell? (ad.add i) = some h1.val from fun w' col hw Ws v hb => by
        obtain ⟨ad2, e2, h2⟩ := HAA.out w' _ _ _ _ hb
        rw [eA] at e2; cases e2; exact h2)
      subst eA
      have HHI := Aside0.mk hh
      have HXI := Aside0.mk hX
      obtain ⟨bq, nq, cq⟩ := h1
      have hcc : wr.cell? (ad.add i) = some (.slice (bq.map fun b => (⟨b, 0, none⟩ : Addr)) nq cq) := hcc
      have hrow := HD.out.row i _ X hh hX
      have hnq : nq = X.length := HD.out.lens i _ X hh hX
      subst hnq
      have HCX := Aside0.mk (Kd.R_reads' hrow).2.2
      have p1 : (0 : Int) ≤ (i : Int) := by omega
      have p2 : (i : Int) < (N : Int) := by omega
      clear hh hX hXT hrow HAA hil
      go_wp2_with (first
        | ((with_reducible refine gate_builtin (b := .append) (xs := #[.const (.slice none 0 0), .tmp 86]) rfl ?_); at_builtin; refine Kd.R_append_rows k42 (w0 := wr) 0 rfl (.const (.slice none 0 0)) (.tmp 86) 26 42 (.agg #[.int .i64 0, .int .u64 0]) 16 rfl Try.underlying26 (by kernel_rfl) rfl (by decide) (by omega) (.slice none 0 0) ([] : List S42) X _ _ _ (fun j => wr.heap.size ≤ j) (fun _ => False) rfl rfl ?aO ?aR (fun _ _ h => h) (fun _ h => h.elim) ?aF ?aB ?aS ?aL ?_; (case aO => exact Kd.R_nil _ _ _ _ _); (case aR => exact HCX.out); (case aF => exact fun j hj => hj); (case aB => exact Below.refl _ _); (case aS => exact Nat.zero_le _); (case aL => have := HXN.out; simp; omega); intro vs v1 ho hb5 hg5 hat; obtain ⟨⟨b1, n1, x1⟩, ex, _⟩ := R_hdr ho; subst ex; have HO1 := Aside0.mk ho; have HG1 := Aside0.mk hg5; have HBS1 := Aside0.mk ((HBS.out.coled 5).grown HG1.out (fun j hj => by cases hj)); clear ho hb5 hg5 hat; simp only [H.val])
        | ((with_reducible refine gate_builtin (b := .append) (xs := #[.tmp 82, .tmp 88]) rfl ?_); at_builtin; refine Kd.R_append kH (w0 := v1) 0 rfl (.tmp 82) (.tmp 88) 38 26 (.slice none 0 0) 24 rfl Try.underlying38 (by kernel_rfl) rfl (by decide) (by omega) u19 hw ⟨b1, n1, x1⟩ [.slice (b1.map fun b => (⟨b, 0, none⟩ : Addr)) n1 x1] (fun q => coled wr col 5 q = 2 ∨ v1.heap.size ≤ q) (fun _ => False) rfl ?hx ?aP (fun _ hk => hk.elim) ?aF ?aO ?aB ?aS ?aL ?_; (case hx => first | rfl | (go_simp; done) | (simp [World.alloc]; done)); (case aP => exact rfl); (case aF => exact fun q hq => .inr hq); (case aO => exact Kd.R_mono HBS1.out.was (fun q hq => .inl hq)); (case aB => exact Below.refl _ _); (case aS => exact Nat.zero_le _); (case aL => have := HWL.out.1; have := HN6.out; have := HIL.out; omega); intro vm v2 ho hb1 hg1 hat; have HO2 := Aside0.mk ho; have HG2 := Aside0.mk hg1; clear ho hb1 hg1 hat))
      have hX1 : Kd.R k42 42 v1 0 (fun j => coled wr col 5 j = 5) (H.mk b1 n1 x1).val X := Kd.R_mono HO1.out (fun j hj => by unfold Ap.coled; rw [if_pos hj])
      have hbs2 := Bs.newWas HBS1.out HG2.out HO2.out hX1
      have hd1 := (HD.out.recol (coled_old wr col 5)).grown HG1.out (fun j hj => by cases hj)
      have hd2 := (hd1.recol (coled_old v1 (coled wr col 5) 2)).grown HG2.out (fun j hj => by rw [coled_old v1 _ 2 j (Kd.R_lt HBS1.out.was j hj), HBS1.out.was.1 j hj]; omega)
      obtain ⟨c2, hc2⟩ : ∃ c2, c2 = coled v1 (coled wr col 5) 2 := ⟨_, rfl⟩
      rw [← hc2] at hbs2 hd2
      obtain ⟨hw2, hhw⟩ : ∃ z, z = hw ++ [H.mk b1 n1 x1] := ⟨_, rfl⟩
      obtain ⟨Ws2, hws⟩ : ∃ z, z = Ws ++ [X] := ⟨_, rfl⟩
      have HWL2 := Aside0.mk (show hw2.length = i + 1 ∧ ∀ (t : Nat) Y, Ws2[t]? = some Y → Y = T3 M R Z t from ⟨by rw [hhw]; have := HWL.out.1; simp; omega, fun t Y hY => by
        rw [hws] at hY
        have hl := HBS.out.wl
        have hl2 := HWL.out.1
        rcases Nat.lt_or_ge t Ws.length with ht | ht
        · rw [List.getElem?_append_left ht] at hY; exact HWL.out.2 t Y hY
        · rw [List.getElem?_append_right ht] at hY
          have h2 := (List.getElem?_eq_some_iff.1 hY).1
          simp at h2
          have e0 : t - Ws.length = 0 := by omega
          rw [e0] at hY; simp at hY
          rw [← hY, HXE.out, show t = i from by omega]⟩)
      rw [← hhw, ← hws] at hbs2
      have HBS2 := Aside0.mk hbs2
      have HD2 := Aside0.mk hd2
      clear hX1 hbs2 hd1 hd2 hc2 hhw hws HO1 HO2 HG1 HG2 HBS1 HBS HD HCX HWL
      obtain ⟨Aw, cw, ew, _, hCw⟩ := Kd.R_reads HBS2.out.was
      subst ew
      obtain ⟨q, hq⟩ : ∃ q, q = i % 3 := ⟨_, rfl⟩
      have hqi : q < i + 1 := by omega
      obtain ⟨h2, hh2⟩ : ∃ h2, hw2[q]? = some h2 := ⟨_, List.getElem?_eq_getElem (by have := HWL2.out.1; omega)⟩
      obtain ⟨Y, hY⟩ : ∃ Y, Ws2[q]? = some Y := ⟨_, List.getElem?_eq_getElem (by have := HWL2.out.1; have := HBS2.out.wl; omega)⟩
      have hYX : Y = X := by rw [HWL2.out.2 q Y hY, HXE.out, hq, T3_mod]
      subst hYX
      obtain ⟨adw, eA, hc1⟩ := at_H hCw q h2 hh2
      subst eA
      obtain ⟨b2, n2, x2⟩ := h2
      have hr2 := HBS2.out.row q _ _ hh2 hY
      have hn2 := (Kd.R_reads' hr2).1
      subst hn2
      have hc0 : v2.cell? (ad.add i) = some (.slice (bq.map fun b => (⟨b, 0, none⟩ : Addr)) Y.length cq) := HAC.out _ _ _ _ _ HBS2.out
      have hc1 : v2.cell? (adw.add q) = some (.slice (b2.map fun b => (⟨b, 0, none⟩ : Addr)) Y.length x2) := hc1
      have hr1 := HD2.out.row i _ Y HHI.out HXI.out
      have k0 := cell_regrown hc0
      have k1' := cell_regrown hc1
      have cM : ∀ d os, Calls Try.prog 12 #[.slice (bq.map fun b => (⟨b, 0, none⟩ : Addr)) Y.length cq, .slice (b2.map fun b => (⟨b, 0, none⟩ : Addr)) Y.length x2] (Go.Sort.grow (redrawn v2 d) os) fun e w'' => e = .returned (.bool true) ∧ ∃ p : Regrown, w'' = Go.Sort.grow (redrawn v2 p.d) p.os := fun d os => Calls.regrown_of ((massiflaw04_same.calls 5000 _ _ Y _ _ Y true _ (Kd.C_below (Kd.R_reads' hr1).2.2 (below_regrown v2 d os)) (Kd.R_reads' hr1).2.1 (Kd.C_below (Kd.R_reads' hr2).2.2 (below_regrown v2 d os)) (Kd.R_reads' hr2).2.1 (same_is Y 5000 (by have := HXN.out; omega) (by have := HXN.out; omega))).mono (fun e w'' h => ⟨h.1, h.2.below⟩))
      obtain ⟨L, hL⟩ : ∃ L, L = hw2.length := ⟨_, rfl⟩
      have HLL := Aside0.mk hL
      have hLi := HWL2.out.1
      rw [← hL] at HBS2 HWL2 hLi ⊢
      have p3 : (0 : Int) ≤ (q : Int) := by omega
      have p4 : (q : Int) < (L : Int) := by omega
      have u4 : wrap64 (Int.tmod (i : Int) 3) = (q : Int) := by
        rw [Int.tmod_eq_emod_of_nonneg (Int.natCast_nonneg _)]
        exact (MB.wrap64_in _ (by omega) (by omega)).trans (by omega)
      have u5 : Int.tmod (i : Int) 3 = (q : Int) := by
        rw [Int.tmod_eq_emod_of_nonneg (Int.natCast_nonneg _)]; omega
      clear hq hqi hh2 hY hc0 hc1 hr1 hr2 hCw hL hLi
      refine region_wq (by kernel_rfl) (by kernel_rfl) ?_
      repeat (refine WQ.step (fun K hK => ?_); go_simp; first | (refine hK _ ?_; clear hK K) | (apply Exists.intro; refine ⟨fun _ => ?_, hK _ ?_⟩; (exact cM _ _); clear hK K))
      refine WQ.nil ?_
      intro _ hw'
      obtain ⟨⟨dq, osq⟩, hw''⟩ := hw'
      subst hw''
      have HBS3 := Aside0.mk (HBS2.out.below (below_regrown v2 dq osq))
      have HD3 := Aside0.mk (HD2.out.below (below_regrown v2 dq osq))
      obtain ⟨v3, hv3⟩ : ∃ x, x = Go.Sort.grow (redrawn v2 dq) osq := ⟨_, rfl⟩
      rw [← hv3] at HBS3 HD3 ⊢
      clear k0 k1' cM hv3 HBS2 HD2
      go_wp2_with (fail)
      go_roundg k1
      case measure => exact Nat.lt_succ_self _
      case rel => exact ⟨i + 1, _, _, _, by first | rfl | (rw [u3]; rfl), HJ, HBS3, HD3, ⟨by have h := HWL2.out; rw [HLL.out] at h; exact h⟩⟩
   | succ k1 =>
    have hi2 : i < 2 := by have := HI.out; omega
    have HIL := Aside0.mk hi2
    have HJ := Aside0.mk (show i + 1 + k1 = 2 from by have := HI.out; omega)
    have hlt : decide ((i : Int) < 2) = true := decide_eq_true (by omega)
    have hlt' : decide (i < 2) = true := decide_eq_true hi2
    have u3 : wrap64 ((i : Int) + 1) = (i : Int) + 1 := MB.wrap64_in _ (by omega) (by omega)
    clear hi2
    go_wp2_with (fail)
    refine (cover_Mountains.calls 200 (n : Int) M 0 wr HFM.out).mono ?_
    rintro e v1 ⟨vx, rfl, hrx, hbx⟩
    obtain ⟨hx, ex, _⟩ := R_hdr hrx
    subst ex
    have ht1 := told HBS.out HD.out hbx hrx
    obtain ⟨c1, hc1⟩ : ∃ c1, c1 = coled wr col (6 + ha.length) := ⟨_, rfl⟩
    rw [← hc1] at ht1
    have HBS1 := Aside0.mk ht1.1
    have HD1 := Aside0.mk ht1.2
    clear ht1 hc1 hrx hbx HBS HD
    go_wp2_with (fail)
    refine (cover_Range.calls 0 (h : Int) (n : Int) R 0 v1 HFR.out).mono ?_
    rintro e v2 ⟨vy, rfl, hry, hby⟩
    obtain ⟨hy, ey, _⟩ := R_hdr hry
    subst ey
    have ht2 := told HBS1.out HD1.out hby hry
    obtain ⟨c2, hc2⟩ : ∃ c2, c2 = coled v1 c1 (6 + (ha ++ [hx]).length) := ⟨_, rfl⟩
    rw [← hc2] at ht2
    have HBS2 := Aside0.mk ht2.1
    have HD2 := Aside0.mk ht2.2
    clear ht2 hc2 hry hby HBS1 HD1
    go_wp2_with (fail)
    refine (cover_Rest.calls (n : Int) At ct set Z 0 v2 (Kd.R_reads' HBS2.out.set).2.2 HCT.out HFZ.out).mono ?_
    rintro e v3 ⟨vz, rfl, hrz, hbz⟩
    obtain ⟨hz, ez, _⟩ := R_hdr hrz
    subst ez
    have ht3 := told HBS2.out HD2.out hbz hrz
    obtain ⟨c3, hc3⟩ : ∃ c3, c3 = coled v2 c2 (6 + (ha ++ [hx] ++ [hy]).length) := ⟨_, rfl⟩
    rw [← hc3] at ht3
    have HBS3 := Aside0.mk ht3.1
    have HD3 := Aside0.mk ht3.2
    clear ht3 hc3 hrz hbz HBS2 HD2
    obtain ⟨bx, nx, cx⟩ := hx
    obtain ⟨by', ny, cy'⟩ := hy
    obtain ⟨bz, nz, cz'⟩ := hz
    simp only [H.val]
    obtain ⟨v6, hv6⟩ : ∃ x, x = v3.alloc (.cells #[(H.mk bx nx cx).val, (H.mk by' ny cy').val, (H.mk bz nz cz').val] 26) := ⟨_, rfl⟩
    have HBL6 := Aside0.mk (show Below v3.heap.size v3 v6 from by rw [hv6]; exact below_alloc (Below.refl _ _) _)
    have HCQ := Aside0.mk (show Kd.C kH v6 (some ⟨v3.heap.size, 0, none⟩) 3 [⟨bx, nx, cx⟩, ⟨by', ny, cy'⟩, ⟨bz, nz, cz'⟩] from by rw [hv6]; exact three (blk_new _ _))
    have HV6 := Aside0.mk (show v6 = v3.alloc (.cells #[.slice (bx.map fun b => (⟨b, 0, none⟩ : Addr)) nx cx, .slice (by'.map fun b => (⟨b, 0, none⟩ : Addr)) ny cy', .slice (bz.map fun b => (⟨b, 0, none⟩ : Addr)) nz cz'] 26) from hv6)
    have HBS4 := Aside0.mk (HBS3.out.below HBL6.out)
    have HD4 := Aside0.mk (HD3.out.below HBL6.out)
    clear hv6
    go_wp2_with (first
      | ((with_reducible refine gate_builtin (b := .append) (xs := #[.tmp 70, .tmp 74]) rfl ?_); at_builtin; rw [← HV6.out]; refine Kd.R_append_rows kH (w0 := v6) 0 rfl (.tmp 70) (.tmp 74) 38 26 (.slice none 0 0) 24 rfl Try.underlying38 (by kernel_rfl) rfl (by decide) (by omega) u10 ha [⟨bx, nx, cx⟩, ⟨by', ny, cy'⟩, ⟨bz, nz, cz'⟩] _ _ _ (fun j => c3 j = 1 ∨ v6.heap.size ≤ j) (fun _ => False) rfl rfl ?aO ?aR (fun _ _ h => h) (fun _ h => h.elim) ?aF ?aB ?aS ?aL ?_; (case aO => exact Kd.R_mono HBS4.out.all (fun j hj => .inl hj)); (case aR => exact HCQ.out); (case aF => exact fun j hj => .inr hj); (case aB => exact Below.refl _ _); (case aS => exact Nat.zero_le _); (case aL => have := HXL.out.1; have := HIL.out; omega); intro va7 v7 ho hb7 hg7 hat; have HO7 := Aside0.mk ho; have HG7 := Aside0.mk hg7; clear ho hb7 hg7 hat))
    obtain ⟨hx, hhx⟩ : ∃ h, h = H.mk bx nx cx := ⟨_, rfl⟩
    obtain ⟨hy, hhy⟩ : ∃ h, h = H.mk by' ny cy' := ⟨_, rfl⟩
    obtain ⟨hz, hhz⟩ : ∃ h, h = H.mk bz nz cz' := ⟨_, rfl⟩
    rw [← hhx, ← hhy, ← hhz] at HO7 HD4
    clear hhx hhy hhz HV6 HCQ
    have HBS7 := Aside0.mk (Bs.newAll HBS4.out HG7.out HO7.out)
    have HD7 := Aside0.mk (show Deck k42 42 v7 (coled v6 c3 1) 6 (ha ++ [hx, hy, hz]) (Xs ++ [M] ++ [R] ++ [Z]) from by
      have h := (HD4.out.recol (coled_old v6 c3 1)).grown HG7.out (fun j hj => by rw [coled_old v6 c3 1 j (Kd.R_lt HBS4.out.all j hj), HBS4.out.all.1 j hj]; omega)
      rw [List.append_assoc, List.append_assoc] at h; exact h)
    have HXL7 := Aside0.mk (show (ha ++ [hx, hy, hz]).length = 3 * (i + 1) ∧ ∀ (t : Nat) X, (Xs ++ [M] ++ [R] ++ [Z])[t]? = some X → X = T3 M R Z t from ⟨by have := HXL.out.1; simp; omega, by
      have hxl : Xs.length = 3 * i := by have h1 := HD7.out.len; have h2 := HXL.out.1; simp at h1; omega
      exact three_more (M := M) (R := R) (Z := Z) hxl HXL.out.2⟩)
    go_roundg k1
    case measure => exact Nat.lt_succ_self _
    case rel => exact ⟨i + 1, _, _, _, by first | rfl | (rw [u3]; rfl), HJ, HBS7, HD7, HXL7⟩
end Go.Proofs.Ytkefjoljokfieaa.Cf
