/- massifref08.Mountains and Peaks: where a list's mountains begin, and the trees over them. No condition beyond those that each theorem names. -/
import Derived.Test.YtcghicmdphfodaaDoorMT
import Derived.Test.YtcghicmdphfodaaDoorOb
import Derived.Test.YtcghicmdphfodaaDoorWs
import Derived.Test.YtcghicmdphfodaaDoorAp
import Derived.Test.YtcghicmdphfodaaDoorRf1
import Derived.Test.YtcghicmdphfodaaDoorPPlainAsksx0
import Derived.Test.YtcghicmdphfodaaDoorPPlainAsksx6
set_option linter.unusedVariables false
set_option linter.unusedSimpArgs false
namespace Go.Proofs.YtcghicmdphfodaaDoor.PPlainAsks.M8
open Go.RowKit Go.Proofs.YtcghicmdphfodaaDoor Go.Proofs.YtcghicmdphfodaaDoor.MB Go.Proofs.YtcghicmdphfodaaDoor.MT Go.Proofs.YtcghicmdphfodaaDoorW.PrintWords Go.Proofs.YtcghicmdphfodaaDoorW.PrintLast Go.Proofs.YtcghicmdphfodaaDoorW.PrintMore Go.Proofs.YtcghicmdphfodaaDoor.PPlainAsks Go.Proofs.YtcghicmdphfodaaDoor.Ob Go.Proofs.YtcghicmdphfodaaDoor.Ws Go.Proofs.YtcghicmdphfodaaDoor.Ap
def kP : Kd (Int × Int) := Kd.pair (Kd.int .i64) (Kd.int .i64)
/-- A mountain's beginning and its items. -/
def mo (b : Nat × Nat) : Int × Int := (((b.2 * 2 ^ b.1 : Nat) : Int), ((2 ^ b.1 : Nat) : Int))
def M8 (n d : Nat) : List (Int × Int) := (mtS n d).map mo
theorem hi_step_zero (n d : Nat) (h : bit n d = 0) : n / 2 ^ d * 2 ^ d = n / 2 ^ (d + 1) * 2 ^ (d + 1) := by
  rw [hi_step n d, h]; omega
theorem top (n : Nat) : ∀ d, 0 < n % 2 ^ d → ∃ j, j < d ∧ 2 ^ j ≤ n % 2 ^ d ∧ n % 2 ^ d < 2 * 2 ^ j ∧ 1 ≤ n / 2 ^ j ∧ mtS n d = (j, n / 2 ^ j - 1) :: mtS n j ∧ n / 2 ^ d * 2 ^ d = (n / 2 ^ j - 1) * 2 ^ j
  | 0, h => by simp at h; omega
  | d + 1, h => by
    have hm := mod_succ n d
    have hb := bit_lt n d
    by_cases e : bit n d = 1
    · have h1 := half_up n d
      have hlt := Nat.mod_lt n (two_pow_pos d)
      refine ⟨d, Nat.lt_succ_self _, ?_, ?_, by omega, by rw [mtS, if_pos e]; rfl, hi_one n d e⟩
      · rw [hm, e]; omega
      · rw [hm, e]; omega
    · have e0 : bit n d = 0 := by omega
      have e1 : n % 2 ^ (d + 1) = n % 2 ^ d := by rw [hm, e0]; omega
      rw [e1] at h ⊢
      obtain ⟨j, h1, h2, h3, h4, h5, h6⟩ := top n d h
      refine ⟨j, by omega, h2, h3, h4, ?_, ?_⟩
      · rw [mtS, if_neg e]; exact h5
      · rw [← hi_step_zero n d e0]; exact h6
theorem M8_top (n d j : Nat) (h : mtS n d = (j, n / 2 ^ j - 1) :: mtS n j) : M8 n d = ((((n / 2 ^ j - 1) * 2 ^ j : Nat) : Int), ((2 ^ j : Nat) : Int)) :: M8 n j := by unfold M8; rw [h]; rfl
theorem M8_none (n d : Nat) (h : n % 2 ^ d = 0) : M8 n d = [] := by unfold M8; rw [mtS_none n d h]; rfl
theorem M8_le (n d : Nat) : (M8 n d).length ≤ d := by unfold M8; rw [List.length_map]; exact mtS_le n d
set_option maxHeartbeats 8000000 in
set_option maxRecDepth 100000 in
theorem mountains_calls (w : World) (n : Nat) (hn : n ≤ 2 ^ 40) :
    Calls Tryd.prog 57 #[.int .i64 (n : Int)] w fun e w' => ∃ v, e = .returned v ∧ kP.R 78 w' w.heap.size (fun j => w.heap.size ≤ j) v (M8 n 41) ∧ Below w.heap.size w w' := by
  have HN := Aside0.mk hn
  have HM := Aside0.mk (show n % 2 ^ 41 = n from Nat.mod_eq_of_lt (by omega))
  clear hn
  go_enter Tryd.func57, Tryd.ntmps57
  go_wp2_with (fail)
  go_loopg [3, 4] 41 (fun kq v3 v4 w' => ∃ (d : Nat) (acc : List (Int × Int)) (vl : Value), v3 = vl ∧ v4 = .int .i64 ((n / 2 ^ d * 2 ^ d : Nat) : Int) ∧ Aside0 (d ≤ kq ∧ d ≤ 41 ∧ acc.length + d ≤ 41) ∧ Aside0 (acc ++ M8 n d = M8 n 41) ∧ Aside0 (kP.R 78 w' w.heap.size (fun j => w.heap.size ≤ j) vl acc) ∧ Aside0 (Below w.heap.size w w'))
  case atStart => exact ⟨41, [], _, rfl, by rw [Nat.div_eq_of_lt (by have := HN.out; omega)]; rfl, ⟨⟨Nat.le_refl _, Nat.le_refl _, Nat.le_refl _⟩⟩, ⟨rfl⟩, ⟨Kd.R_nil _ _ _ _ _⟩, ⟨Below.refl _ _⟩⟩
  case round =>
    obtain ⟨d, acc, vl, rfl, rfl, HD, HA, HR, HB⟩ := hrel
    obtain ⟨Al, cl, el⟩ := Kd.R_slice HR.out
    subst el
    have hlo := lo_rest n d
    obtain ⟨a, ha⟩ : ∃ a, a = n / 2 ^ d * 2 ^ d := ⟨_, rfl⟩
    obtain ⟨q, hq⟩ : ∃ q, q = n % 2 ^ d := ⟨_, rfl⟩
    rw [← ha, ← hq] at hlo
    rw [← ha]
    have HAQ := Aside0.mk (And.intro ha (And.intro hq hlo))
    by_cases hz : q = 0
    · have t1 : decide ((a : Int) < (n : Int)) = false := decide_eq_false (by omega)
      have t2 : decide ((n : Int) > (a : Int)) = false := decide_eq_false (by omega)
      have t3 : decide (a < n) = false := decide_eq_false (by omega)
      have hF : acc = M8 n 41 := by have h := HA.out; rw [M8_none n d (by rw [← hq]; exact hz), List.append_nil] at h; exact h
      have HF := Aside0.mk hF
      clear ha hq hlo hz hF
      go_wp2_with (fail)
      go_ret
      exact ⟨_, rfl, by rw [← HF.out]; exact HR.out, HB.out⟩
    · have t1 : decide ((a : Int) < (n : Int)) = true := decide_eq_true (by omega)
      have t2 : decide ((n : Int) > (a : Int)) = true := decide_eq_true (by omega)
      have t3 : decide (a < n) = true := decide_eq_true (by omega)
      obtain ⟨j, h1, h2, h3, h4, h5, h6⟩ := top n d (by rw [← hq]; omega)
      have HJ := Aside0.mk (show j < d ∧ 2 ^ j ≤ q ∧ q < 2 * 2 ^ j ∧ 1 ≤ n / 2 ^ j ∧ a = (n / 2 ^ j - 1) * 2 ^ j from ⟨h1, by rw [hq]; exact h2, by rw [hq]; exact h3, h4, by rw [ha]; exact h6⟩)
      have HJM := Aside0.mk (M8_top n d j h5)
      have hnq : (n : Int) - (a : Int) = (q : Int) := by omega
      have u1 : wrap64 ((n : Int) - (a : Int)) = (q : Int) := by rw [hnq]; exact MB.wrap64_in _ (by omega) (by have := HN.out; omega)
      have HQ40 := Aside0.mk (show q ≤ 2 ^ 40 from by have := HN.out; omega)
      clear ha hq hlo hz h1 h2 h3 h4 h5 h6 hnq
      go_wp2_with (fail)
      obtain ⟨wz, hwz⟩ : ∃ x, x = wr := ⟨_, rfl⟩
      rw [← hwz] at HR HB ⊢
      clear hwz
      go_loopg [5] j (fun kq v5 w' => ∃ (i s : Nat), v5 = .int .i64 (s : Int) ∧ Aside0 (s = 2 ^ i ∧ i + kq = j) ∧ Aside0 (w' = wz))
      case atStart => exact ⟨0, 1, by rfl, ⟨rfl, by omega⟩, ⟨rfl⟩⟩
      case round =>
        obtain ⟨i, s, rfl, HI, HW⟩ := hrel
        have hw := HW.out
        subst hw
        have hi := HI.out
        have HIL := Aside0.mk (show s ≤ 2 ^ 40 from by
          have h1 := HJ.out.2.1
          have h2 := HQ40.out
          have h3 : 2 ^ i ≤ 2 ^ j := Nat.pow_le_pow_right (by omega) (by omega)
          omega)
        have u2 : wrap64 (2 * (s : Int)) = 2 * (s : Int) := MB.wrap64_in _ (by omega) (by have := HIL.out; omega)
        clear hi
        cases gk with
        | zero =>
          have hij : i = j := by have := HI.out; omega
          have hs : s = 2 ^ j := by rw [← hij]; exact HI.out.1
          have t5 : decide (2 * (s : Int) ≤ (q : Int)) = false := decide_eq_false (by have := HJ.out; rw [hs]; omega)
          have t6 : (2 * (s : Int) ≤ (q : Int)) = False := eq_false (by have := HJ.out; rw [hs]; omega)
          have HSJ := Aside0.mk hs
          have HAS := Aside0.mk (show a + s = n / 2 ^ j * 2 ^ j ∧ a + s ≤ n from by
            have h := HJ.out
            have h4 := h.2.2.2.1
            have e1 : n / 2 ^ j * 2 ^ j = (n / 2 ^ j - 1) * 2 ^ j + 2 ^ j := by
              obtain ⟨m, hm⟩ : ∃ m, n / 2 ^ j = m + 1 := ⟨n / 2 ^ j - 1, by omega⟩
              rw [hm, Nat.add_sub_cancel, Nat.add_mul, Nat.one_mul]
            have h5 := HAQ.out.2.2
            rw [hs]
            constructor
            · rw [e1]; omega
            · omega)
          have u3 : wrap64 ((a : Int) + (s : Int)) = ((a + s : Nat) : Int) := by
            rw [MB.wrap64_in _ (by omega) (by have := HAS.out.2; have := HN.out; omega)]; omega
          clear hij hs
          go_wp2_with (first | ((with_reducible refine gate_builtin (b := .append) (xs := #[.tmp 17, .tmp 21]) rfl ?_); at_builtin; refine Kd.R_append kP (w0 := w) w.heap.size rfl (.tmp 17) (.tmp 21) 76 78 (.agg #[.int .i64 0, .int .i64 0]) 16 rfl Tryd.underlying76 (by kernel_rfl) rfl (by decide) (by decide) (.slice Al acc.length cl) acc ((a : Int), (s : Int)) [.int .i64 (a : Int), .int .i64 (s : Int)] (fun j => w.heap.size ≤ j) (fun _ => False) rfl ?hx ?aP (fun _ hk => hk.elim) ?aF ?aO ?aB ?aS ?aL ?_; (case hx => first | rfl | (go_simp; done) | (simp [World.alloc]; done)); (case aP => exact ⟨_, _, rfl, rfl, rfl⟩); (case aF => exact fun j hj => Nat.le_trans HB.out.size hj); (case aO => exact HR.out); (case aB => exact HB.out); (case aS => exact HB.out.size); (case aL => have h1 := HD.out; omega); intro vm v5 ho hb5 hg5 hat; have HO5 := Aside0.mk ho; have HB5 := Aside0.mk hb5; clear ho hb5 hg5 hat))
          obtain ⟨k1, rfl⟩ : ∃ k1, gk = k1 + 1 := ⟨gk - 1, by have h1 := HD.out.1; have h2 := HJ.out.1; omega⟩
          go_roundg k1
          case measure => exact Nat.lt_succ_self _
          case rel =>
            refine ⟨j, acc ++ [((a : Int), (s : Int))], _, rfl, ?_, ⟨?_⟩, ⟨?_⟩, HO5, HB5⟩
            · rw [← HAS.out.1]; rfl
            · have h1 := HD.out
              have h2 := HJ.out.1
              rw [List.length_append]
              simp only [List.length_cons, List.length_nil]
              omega
            · rw [List.append_assoc, ← HA.out, HJM.out, ← HJ.out.2.2.2.2, ← HSJ.out]; rfl
        | succ k2 =>
          have t5 : decide (2 * (s : Int) ≤ (q : Int)) = true := decide_eq_true (by
            have h1 := HJ.out.2.1
            have h3 : 2 ^ (i + 1) ≤ 2 ^ j := Nat.pow_le_pow_right (by omega) (by have := HI.out; omega)
            have h4 := HI.out.1
            have ep : 2 ^ (i + 1) = 2 * 2 ^ i := by rw [Nat.pow_succ, Nat.mul_comm]
            omega)
          have t6 : (2 * (s : Int) ≤ (q : Int)) = True := eq_true (of_decide_eq_true t5)
          go_wp2_with (fail)
          go_roundg k2
          case measure => exact Nat.lt_succ_self _
          case rel => exact ⟨i + 1, 2 * s, by first | rfl | (congr 1), ⟨by rw [HI.out.1, Nat.pow_succ, Nat.mul_comm], by have := HI.out; omega⟩, ⟨rfl⟩⟩
theorem M8_mem (n : Nat) : ∀ d, ∀ x ∈ M8 n d, 0 ≤ x.1 ∧ 0 < x.2 ∧ x.1 + x.2 ≤ (n : Int)
  | 0, x, hx => by cases hx
  | d + 1, x, hx => by
    unfold M8 at hx
    rw [mtS, List.map_append, List.mem_append] at hx
    rcases hx with hx | hx
    · by_cases e : bit n d = 1
      · rw [if_pos e] at hx
        simp only [List.map_cons, List.map_nil, List.mem_singleton] at hx
        subst hx
        have h1 := half_up n d
        have h2 := lo_rest n d
        have hp := two_pow_pos d
        unfold mo
        simp only []
        obtain ⟨m, hm⟩ : ∃ m, n / 2 ^ d = m + 1 := ⟨n / 2 ^ d - 1, by omega⟩
        rw [hm, Nat.add_mul, Nat.one_mul] at h2
        rw [hm, Nat.add_sub_cancel]
        generalize m * 2 ^ d = y at *
        generalize 2 ^ d = p at *
        omega
      · rw [if_neg e] at hx; cases hx
    · exact M8_mem n d x hx
theorem WS_w {P : Program} {ops : Array Oper} {Q : Exit → Act → World → Prop} {S : World → Prop} {i : Nat} {σ : List (Nat × Bool)} {oi : Oper} {a : Act} {w : World} (hi : ops[i]? = some oi) (hS : S w) (hw : Region.wanted oi (yielded ops a.tmps) = true)
    (h : ∀ K : Act → Prop, (∀ a, WS P ops Q S σ a w → K a) → yq P oi a K) : WS P ops Q S ((i, false) :: σ) a w :=
  WS.y hi hS (fun K hK => by rw [if_pos hw]; exact h K hK)
theorem WS_c {P : Program} {ops : Array Oper} {Q : Exit → Act → World → Prop} {S : World → Prop} {i : Nat} {σ : List (Nat × Bool)} {oi : Oper} {a : Act} {w : World} (hi : ops[i]? = some oi) (hw : Region.wanted oi (yielded ops a.tmps) = true)
    (h : ∀ K' : Act → World → Prop, Shut (∀ a w, S w → WS P ops Q S σ a w → K' a w) → Oper.wp P oi a w K' Q) : WS P ops Q S ((i, true) :: σ) a w :=
  WS.c hi (fun K hK => by rw [if_pos hw]; exact h K hK)
theorem oper_append_apart {P : Program} {o : Oper} {a : Act} {K : Act → World → Prop} {Q : Exit → Act → World → Prop} {α : Type} (d : Kd α) {W : World} (s x : Operand) (t e : TypeId) (z : Value) (bytes : Nat)
    (ho : o.op = .call { callee := .builtin .append, args := #[s, x], argTypes := #[t, t] })
    (ht : P.underlying t = some (.slice e)) (hinfo : (P.info? e).map (fun i => (i.zero, i.size, i.bytes)) = some (some z, d.sz, bytes)) (hz : z.cells.size = d.sz) (hs0 : 0 < d.sz)
    (v : Value) (xs : List α) (p : α) (cs : List Value) (ok : Nat → Prop) (hs : a.eval s = v) (hx : a.eval x = .slice (some ⟨W.heap.size, 0, none⟩) 1 1) (hp : d.M W 0 (fun _ => False) p cs) (hfresh : ∀ k, W.heap.size ≤ k → ok k)
    (HO : d.R e W 0 ok v xs) (hl : (xs.length + 1) * bytes ≤ 140737488355328) (hb0 : 0 < bytes)
    (h : ∀ v1 w1, d.R e w1 0 ok v1 (xs ++ [p]) → W.grownBy w1 v.ownBlock → (v1.ownBlock = v.ownBlock ∨ ((∃ b, v1.ownBlock = some b ∧ W.heap.size ≤ b) ∧ ∀ k, k < W.heap.size → w1.heap[k]? = W.heap[k]?)) → K (a.put o.dst v1) w1) :
    Oper.wp P o a (W.alloc (.cells cs.toArray e)) K Q := by
  obtain ⟨h0, inner, hown, hr⟩ := HO
  obtain ⟨i0, hi, hzz⟩ := Option.map_eq_some_iff.1 hinfo
  simp only [Prod.mk.injEq] at hzz
  obtain ⟨hz0, hz1, hz2⟩ := hzz
  have hcl : cs.length = d.sz := d.K_len (d.K_of_M hp)
  have hlen : xs.length + 1 ≤ 140737488355328 := Nat.le_trans (Nat.le_mul_of_pos_right _ hb0) hl
  have hnews : ∀ j u, cs[j]? = some u → (W.alloc (.cells cs.toArray e)).cell? ((⟨W.heap.size, 0, none⟩ : Addr).add j) = some u := by
    simpa using World.news_of_block (cs := cs.toArray) (t := e) (fr := (0, 0)) (heap_alloc_new W (.cells cs.toArray e))
  have hown' := hown.alloc (.cells cs.toArray e)
  obtain ⟨v1, w1, hrun, h2, h3, _, h5⟩ := run_append_own_at (P := P) (W.alloc (.cells cs.toArray e)) 0 t o.type e i0 z d.sz bytes ht hi hz0 hz1 hz2 hz hs0 v xs.length inner hown' ⟨W.heap.size, 0, none⟩ 1 1 cs (by rw [hcl]; omega) hnews (d.K_one (d.K_of_M hp)) (by simp only [maxLen]; omega) hl (Nat.zero_le _)
  have h6 := append_apart (P := P) (W.alloc (.cells cs.toArray e)) 0 t o.type e i0 z ht hi hz0 v xs.length inner (by rw [hz1]; exact hown') ⟨W.heap.size, 0, none⟩ 1 1 cs (by rw [hcl, hz1]; omega) hnews (d.K_one (d.K_of_M hp)) (by omega) (by simp only [maxLen]; omega) (by rw [hz2]; exact hl) hrun
  have hg : W.grownBy w1 v.ownBlock := World.grownBy.trans (World.grownBy_alloc W _ _) h3
  have hat : v1.ownBlock = v.ownBlock ∨ ∃ b, v1.ownBlock = some b ∧ W.heap.size ≤ b := by
    rcases h5 with h5 | h5
    · exact .inl h5
    · exact .inr ⟨_, h5, by simp⟩
  unfold Oper.wp execOp
  simp only [ho, resolve, invoke, builtin, Sem.run_bind, Sem.run_pure, Result.andThen_ok, List.map_toArray, List.map_cons, List.map_nil, hs, hx, hrun]
  refine h v1 w1 (Kd.R_appended h0 hr hp (fun _ h => h.elim) hfresh h2 hg hat) hg ?_
  rcases hat with hat | hat
  · exact .inl hat
  · rcases h6 with h6 | h6
    · exact .inl h6
    · exact .inr ⟨hat, fun k hk => (h6 k (by simp; omega)).trans (by first | exact heap_alloc_old W _ hk | exact Go.heap_alloc_old W _ k hk)⟩
theorem add0 (g k : Nat) : (⟨g, 0, none⟩ : Addr).add k = ⟨g, k, none⟩ := by
  cases k <;> simp [Addr.add]
theorem own_raise {w : World} {b e : Nat} {size n : Nat} {v : Value} {xs : List Value} (h : w.ownsRow 0 e size v n xs) (hb : ∀ k, v.ownBlock = some k → b ≤ k) : w.ownsRow b e size v n xs := by
  obtain ⟨h1, h2⟩ := h
  refine ⟨h1, ?_⟩
  rcases h2 with h2 | ⟨g, cap, cur, rfl, hg, hh, r⟩
  · exact .inl h2
  · exact .inr ⟨g, cap, cur, rfl, hb g (by simp [Value.ownBlock]), hh, r⟩
theorem str_raise {e b : Nat} {w : World} {ok : Nat → Prop} {v : Value} {xs : List ByteArray} (h : Kd.string.R e w 0 ok v xs) (hb : ∀ k, ok k → b ≤ k) : Kd.string.R e w b ok v xs :=
  Kd.R_of_own (enc := Value.string) (h1 := fun _ => rfl) (own_raise (Kd.own_of_R h) (fun k hk => hb k (h.1 k hk))) h.1
attribute [local go_sem] Go.Proofs.YtcghicmdphfodaaDoor.Ws.yq Go.Proofs.YtcghicmdphfodaaDoor.Ws.yAt
end Go.Proofs.YtcghicmdphfodaaDoor.PPlainAsks.M8
namespace Go.Proofs.YtcghicmdphfodaaDoor.PPlainAsks
open Go.RowKit Go.Proofs.YtcghicmdphfodaaDoor Go.Proofs.YtcghicmdphfodaaDoor.MB Go.Proofs.YtcghicmdphfodaaDoorW.PrintWords Go.Proofs.YtcghicmdphfodaaDoorW.PrintLast Go.Proofs.YtcghicmdphfodaaDoorW.PrintMore Go.Proofs.YtcghicmdphfodaaDoor.Ob Go.Proofs.YtcghicmdphfodaaDoor.Ws Go.Proofs.YtcghicmdphfodaaDoor.PPlainAsks.M8
attribute [local go_sem] Go.Proofs.YtcghicmdphfodaaDoor.Ws.yq Go.Proofs.YtcghicmdphfodaaDoor.Ws.yAt
/-- The trees over the mountains, one behind the other. -/
def massifref08_Peaks.go (K : Nat) (k : Int) (l : List ByteArray) : List (Int × Int) → List ByteArray → Option (List ByteArray)
  | [], acc => some acc
  | x :: t, acc => (massifref08_tree.f K k ((l.take (x.1 + x.2).toNat).drop x.1.toNat)).bind fun d => massifref08_Peaks.go K k l t (acc ++ [d])
def massifref08_Peaks.f (K : Nat) (k : Int) (l : List ByteArray) : Option (List ByteArray) :=
  if l.length ≤ 1099511627776 then massifref08_Peaks.go K k l (M8 l.length 41) [] else none
theorem massifref08_Peaks.go_mono (k : Int) (l : List ByteArray) : ∀ (M : List (Int × Int)) (acc : List ByteArray) (K : Nat), LeO (massifref08_Peaks.go K k l M acc) (massifref08_Peaks.go (K + 1) k l M acc)
  | [], acc, K => LeO.refl _
  | x :: t, acc, K => LeO.bind (massifref08_tree.mono _ _ _) (fun _ => massifref08_Peaks.go_mono k l t _ K)
theorem massifref08_Peaks.mono : ∀ a0 a1 k, LeO (massifref08_Peaks.f k a0 a1) (massifref08_Peaks.f (k + 1) a0 a1) := by
  intro a0 a1 k
  unfold massifref08_Peaks.f
  exact LeO.ite (massifref08_Peaks.go_mono _ _ _ _ _) (LeO.none _)
set_option maxHeartbeats 16000000 in
set_option maxRecDepth 100000 in
theorem massifref08_Peaks.calls (K : Nat) (a0 : Int) (A1 : Option Addr) (c1 : Nat) (l1 : List ByteArray) (r : List ByteArray) (w : World) (hr1 : Kd.C Kd.string w A1 l1.length l1) (hc1 : l1.length ≤ c1) (h : massifref08_Peaks.f K a0 l1 = some r) (hg : Sha.Gl w) :
    Calls Tryd.prog 43 #[.int .i64 a0, .slice A1 l1.length c1] w fun e w' => ∃ v, e = .returned v ∧ Kd.R Kd.string 9 w' w.heap.size (fun j => w.heap.size ≤ j) v r ∧ Below w.heap.size w w' := by
  unfold massifref08_Peaks.f at h
  by_cases hn : l1.length ≤ 1099511627776
  · rw [if_pos hn] at h
    obtain ⟨n, hnn⟩ : ∃ n, n = l1.length := ⟨_, rfl⟩
    rw [← hnn] at h hn
    obtain ⟨M, hM⟩ : ∃ M, M = M8 n 41 := ⟨_, rfl⟩
    have HMM := Aside0.mk (show ∀ x ∈ M, 0 ≤ x.1 ∧ 0 < x.2 ∧ x.1 + x.2 ≤ (n : Int) from by rw [hM]; exact M8_mem n 41)
    have HML := Aside0.mk (show M.length ≤ 41 from by rw [hM]; exact M8_le n 41)
    rw [← hM] at h
    have HGO := Aside0.mk h
    have HME := Aside0.mk hM
    have HC := Aside0.mk (And.intro hr1 hc1)
    have HG := Aside0.mk hg
    have HN := Aside0.mk hnn
    have HNL := Aside0.mk hn
    rw [← hnn]
    clear hr1 hc1 h hg hM hnn hn
    go_enter Tryd.func43, Tryd.ntmps43
    go_wp2_with (fail)
    refine (mountains_calls w n HNL.out).mono ?_
    rintro e w1 ⟨vm, rfl, hR, hb1⟩
    rw [← HME.out] at hR
    obtain ⟨Am, cm, em, hcm, hCm⟩ := Kd.R_reads hR
    subst em
    have HR1 := Aside0.mk hR
    have HB1 := Aside0.mk hb1
    clear hcm hCm hR hb1
    go_wp2_with (fail)
    obtain ⟨wz, hwz⟩ : ∃ x, x = w1 := ⟨_, rfl⟩
    rw [← hwz] at HR1 HB1 ⊢
    clear hwz
    go_loopg [6, 7] M.length (fun kq v6 v7 w' => ∃ (i : Nat) (acc : List ByteArray) (vo : Value), v6 = vo ∧ v7 = .int .i64 (i : Int) ∧ Aside0 (i + kq = M.length) ∧ Aside0 (massifref08_Peaks.go K a0 l1 (M.drop i) acc = some r) ∧ Aside0 (acc.length = i) ∧ Aside0 (Kd.string.R 9 w' 0 (fun j => wz.heap.size ≤ j) vo acc) ∧ Aside0 (Below wz.heap.size wz w'))
    case atStart => exact ⟨0, [], _, rfl, by rfl, ⟨by omega⟩, HGO, ⟨rfl⟩, ⟨Kd.R_nil _ _ _ _ _⟩, ⟨Below.refl _ _⟩⟩
    case round =>
      obtain ⟨i, acc, vo, rfl, rfl, HI, HA, HAL, HO, HB⟩ := hrel
      obtain ⟨Ao, co, eo⟩ := Kd.R_slice HO.out
      subst eo
      cases gk with
      | zero =>
        have hlt : decide ((i : Int) < (M.length : Int)) = false := decide_eq_false (by have := HI.out; omega)
        have hlt2 : decide (i < M.length) = false := decide_eq_false (by have := HI.out; omega)
        have hr : acc = r := by
          have h := HA.out
          rw [List.drop_eq_nil_of_le (by have := HI.out; omega), massifref08_Peaks.go] at h
          exact Option.some.inj h
        have HRR := Aside0.mk hr
        clear hr
        go_wp2_with (fail)
        go_ret
        refine ⟨_, rfl, ?_, below_weaken HB1.out HB1.out.size HB.out⟩
        rw [← HRR.out]
        exact str_raise (Kd.R_mono HO.out (fun j hj => Nat.le_trans HB1.out.size hj)) (fun j hj => hj)
      | succ k1 =>
        have hil : i < M.length := by have := HI.out; omega
        have hlt : decide ((i : Int) < (M.length : Int)) = true := decide_eq_true (by omega)
        have hlt2 : decide (i < M.length) = true := decide_eq_true hil
        obtain ⟨x, hx⟩ : ∃ x, x = M[i] := ⟨_, rfl⟩
        obtain ⟨b, s⟩ := x
        have hmem := HMM.out (b, s) (by rw [hx]; exact List.getElem_mem hil)
        simp only [] at hmem
        have hd : M.drop i = (b, s) :: M.drop (i + 1) := by rw [hx]; exact List.drop_eq_getElem_cons hil
        have h := HA.out
        rw [hd, massifref08_Peaks.go] at h
        obtain ⟨d, hd1, hd2⟩ := Option.bind_eq_some_iff.mp h
        have HT := Aside0.mk hd1
        have HA2 := Aside0.mk hd2
        obtain ⟨g, cg, eg, _, _, _⟩ := Kd.R_form HR1.out (by omega)
        have hrow := HR1.out
        rw [eg] at hrow
        injection eg with eA eN eC
        subst eA
        subst eC
        obtain ⟨ad, cs, ea, hcl, hK, hcs⟩ := Kd.C_get (Kd.R_reads' hrow).2.2 ((0, 0) : Int × Int) (i : Int) (by omega) (by omega)
        cases ea
        obtain ⟨e0, e1, rfl, h0, h1⟩ := hK
        have ex : M.getD ((i : Int).toNat) (0, 0) = (b, s) := by rw [Int.toNat_natCast, List.getD_eq_getElem?_getD, List.getElem?_eq_getElem hil, hx]; rfl
        rw [ex] at h0 h1
        have h0 : e0 = [.int .i64 b] := h0
        have h1 : e1 = [.int .i64 s] := h1
        subst h0
        subst h1
        have q0 := hcs 0 (.int .i64 b) rfl
        have q1 := hcs 1 (.int .i64 s) rfl
        rw [Int.toNat_natCast, show i * kP.sz + 0 = i * 2 from rfl] at q0
        rw [Int.toNat_natCast, show i * kP.sz + 1 = i * 2 + 1 from rfl] at q1
        have q0 : wz.cell? ⟨g, i * 2, none⟩ = some (.int .i64 b) := by
          rw [← add0 g (i * 2)]; exact q0
        have q1 : wz.cell? ⟨g, i * 2 + 1, none⟩ = some (.int .i64 s) := by
          rw [← add0 g (i * 2 + 1)]; exact q1
        have HSC := Aside0.mk (show ∀ v : World, Below wz.heap.size wz v → v.cell? ⟨g, i * 2, none⟩ = some (.int .i64 b) ∧ v.cell? ⟨g, i * 2 + 1, none⟩ = some (.int .i64 s) from fun v hv => ⟨(hv.cell (World.block_lt_of_cell? _ _ q0)).trans q0, (hv.cell (World.block_lt_of_cell? _ _ q1)).trans q1⟩)
        have HMEM := Aside0.mk hmem
        have HIL := Aside0.mk hil
        obtain ⟨sg, hsg⟩ : ∃ sg, sg = (l1.take (b + s).toNat).drop b.toNat := ⟨_, rfl⟩
        rw [← hsg] at HT
        have HSG := Aside0.mk hsg
        have HSL := Aside0.mk (show sg.length = (b + s).toNat - b.toNat from by rw [hsg, List.length_drop, List.length_take, ← HN.out]; omega)
        have p1 : (0 : Int) ≤ b := hmem.1
        have p2 : b ≤ b + s := by omega
        have p3 : b + s ≤ (n : Int) := hmem.2.2
        have p4 : (0 : Int) ≤ b + s := by omega
        have p5 : b + s ≤ (c1 : Int) := by have := HC.out.2; have := HN.out; omega
        have p6 : b ≤ (n : Int) := by omega
        have i1 : (i : Int) < (M.length : Int) := by omega
        have i2 : (0 : Int) ≤ (i : Int) := Int.natCast_nonneg _
        have b1 : -9223372036854775808 ≤ b + s ∧ b + s ≤ 9223372036854775807 := by have := HNL.out; omega
        have b2 : -9223372036854775808 ≤ (i : Int) + 1 ∧ (i : Int) + 1 ≤ 9223372036854775807 := by have := HML.out; omega
        have b3 : (b + s).toNat ≤ l1.length ∧ b.toNat ≤ (b + s).toNat ∧ l1.length ≤ c1 := by have := HN.out; have := HC.out.2; omega
        have HB3 := Aside0.mk b3
        have HIK := Aside0.mk (show i + 1 + k1 = M.length from by have := HI.out; omega)
        have HAL2 := Aside0.mk (show (acc.length + 1) * 16 ≤ 140737488355328 from by have h1 := HAL.out; have h2 := HML.out; omega)
        have u1 : wrap64 (b + s) = b + s := MB.wrap64_in _ b1.1 b1.2
        have u2 : IntKind.i64.wrap (b + s) = b + s := (i64_w _).trans u1
        have u3 : wrap64 ((i : Int) + 1) = (i : Int) + 1 := MB.wrap64_in _ b2.1 b2.2
        clear b1 b2 b3
        clear hx hmem hd h hd1 hd2 hrow hcl hcs q0 q1 ex hsg hil
        go_wp2_with (fail)
        obtain ⟨v0, hv0⟩ : ∃ x, x = wr.drew := ⟨_, rfl⟩
        have HB0 := Aside0.mk (show Below wz.heap.size wz v0 from by rw [hv0]; exact below_drew HB.out)
        have HO0 := Aside0.mk (show Kd.string.R 9 v0 0 (fun j => wz.heap.size ≤ j) (.slice Ao acc.length co) acc from by rw [hv0]; exact Kd.R_drew HO.out)
        have hs0 := HSC.out v0 HB0.out
        refine region_ws ((0, false) :: (1, false) :: (2, false) :: (3, false) :: (4, false) :: (5, false) :: (6, false) :: (7, false) :: (8, false) :: (9, false) :: (10, false) :: (11, false) :: (12, false) :: (13, false) :: (14, false) :: (15, false) :: (16, false) :: (17, false) :: (18, false) :: (19, false) :: (20, true) :: (21, true) :: (22, true) :: (23, false) :: []) (fun w' : World => w'.cell? ⟨g, i * 2, none⟩ = some (.int .i64 b) ∧ w'.cell? ⟨g, i * 2 + 1, none⟩ = some (.int .i64 s)) (by kernel_rfl) (by kernel_rfl) (fun _ d _ _ _ h => by cases d <;> exact h) ?_
        rw [← hv0]
        clear hv0 HO HB
        repeat (refine WS_w rfl hs0 (by rfl) (fun KK hKK => ?_); go_simp; refine hKK _ ?_; clear hKK KK)
        refine WS.l (.int .i64 b) rfl hs0 (by rfl) (fun w0 hSw => ?_) (fun KK hKK => ?_)
        · (have hq := hSw.1; clear hs0; go_simp; try rfl)
        go_simp
        refine hKK _ ?_
        clear hKK KK
        repeat (refine WS_w rfl hs0 (by rfl) (fun KK hKK => ?_); go_simp; refine hKK _ ?_; clear hKK KK)
        refine WS.l (.int .i64 b) rfl hs0 (by rfl) (fun w0 hSw => ?_) (fun KK hKK => ?_)
        · (have hq := hSw.1; clear hs0; go_simp; try rfl)
        go_simp
        refine hKK _ ?_
        clear hKK KK
        repeat (refine WS_w rfl hs0 (by rfl) (fun KK hKK => ?_); go_simp; refine hKK _ ?_; clear hKK KK)
        refine WS.l (.int .i64 s) rfl hs0 (by rfl) (fun w0 hSw => ?_) (fun KK hKK => ?_)
        · (have hq := hSw.2; clear hs0; go_simp; try rfl)
        go_simp
        refine hKK _ ?_
        clear hKK KK
        repeat (refine WS_w rfl hs0 (by rfl) (fun KK hKK => ?_); go_simp; refine hKK _ ?_; clear hKK KK)
        refine WS_c rfl (by rfl) (fun KK hKK => ?_)
        go_simp
        have hcut : Kd.C Kd.string v0 (if c1 = b.toNat then A1 else Option.map (fun x => x.add b.toNat) A1) sg.length sg := by
          have h := Kd.C_drop (m := b.toNat) (c := c1) (Kd.C_take (m := (b + s).toNat) (Kd.C_below HC.out.1 (below_weaken HB1.out HB1.out.size HB0.out)) HB3.out.1) (by rw [List.length_take]; have h1 := HB3.out; clear u1 u2 u3; omega) (by rw [List.length_take]; have h1 := HB3.out; clear u1 u2 u3; omega)
          have e : ∀ m, m * Kd.string.sz = m := Nat.mul_one
          simp only [e] at h
          rw [← HSG.out] at h
          exact h
        obtain ⟨A', hA'⟩ : ∃ A', A' = (if c1 = b.toNat then A1 else Option.map (fun x => x.add b.toNat) A1) := ⟨_, rfl⟩
        rw [← hA'] at hcut
        rw [← hA', ← HSL.out]
        clear hA'
        refine (massifref08_tree.calls K a0 _ _ sg d v0 hcut (by rw [HSL.out]; have h1 := HB3.out; clear u1 u2 u3; omega) HT.out (HG.out.below (below_weaken HB1.out HB1.out.size HB0.out))).mono ?_
        rintro e v1 ⟨rfl, hb'⟩
        have HBx := Aside0.mk (below_weaken HB0.out HB0.out.size hb')
        have HO1 := Aside0.mk (Kd.R_below HO0.out hb')
        have hs1 := HSC.out v1 HBx.out
        clear hb' hcut
        try go_wp2_with (fail)
        refine hKK.out _ _ hs1 ?_
        clear hKK KK
        refine WS_c rfl (by rfl) (fun KK hKK => ?_)
        go_simp
        have hs2 := HSC.out _ (below_weaken HBx.out HBx.out.size (below_alloc (Below.refl _ v1) (.cells #[.string d] 9)))
        refine hKK.out _ _ hs2 ?_
        clear hKK KK
        refine WS_c rfl (by rfl) (fun KK hKK => ?_)
        refine oper_append_apart Kd.string (W := v1) (.tmp 17) (.tmp 38) 22 9 (.string ⟨#[]⟩) 16 rfl Tryd.underlying22 (by kernel_rfl) rfl (by decide) (.slice Ao acc.length co) acc d [.string d] (fun j => wz.heap.size ≤ j) (by first | rfl | (go_simp; done)) (by first | rfl | (go_simp; done)) rfl (fun q hq => Nat.le_trans HBx.out.size hq) HO1.out HAL2.out (by decide) ?_
        intro x2 v2 hR hg2 ho2
        have HO2 := Aside0.mk hR
        have HB2 := Aside0.mk (Kp.old HBx.out HBx.out.size (Kp.grown (Kp.refl v1 (fun j => wz.heap.size ≤ j)) hg2 (fun j hj => .inl (HO1.out.1 j hj))) (fun _ h => h))
        have hs3 := HSC.out v2 HB2.out
        clear hR hg2 ho2
        go_simp
        refine hKK.out _ _ hs3 ?_
        clear hKK KK
        repeat (refine WS_w rfl hs3 (by rfl) (fun KK hKK => ?_); go_simp; refine hKK _ ?_; clear hKK KK)
        refine WS.nil ?_
        clear hs0 hs1 hs2 hs3
        go_wp2_with (fail)
        go_roundg k1
        case measure => exact Nat.lt_succ_self _
        case rel => exact ⟨i + 1, acc ++ [d], _, rfl, by first | rfl | (rw [u3]; rfl), HIK, HA2, ⟨by rw [List.length_append, HAL.out]; rfl⟩, HO2, HB2⟩
  · rw [if_neg hn] at h; cases h
end Go.Proofs.YtcghicmdphfodaaDoor.PPlainAsks
