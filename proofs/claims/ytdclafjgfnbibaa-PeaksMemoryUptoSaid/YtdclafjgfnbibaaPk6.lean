/- massiflaw09: does: an Add or a Join. No condition beyond those that each theorem names. -/
import Derived.Test.YtdclafjgfnbibaaPk5
import Derived.Test.YtdclafjgfnbibaaXDig
import Derived.Outline
set_option linter.unusedVariables false
set_option linter.unusedSimpArgs false
namespace Go.Proofs.Ytdclafjgfnbibaa.Pk
open Go.RowKit Go.Proofs.Ytdclafjgfnbibaa.MB Go.Proofs.YtdclafjgfnbibaaW.PrintWords Go.Proofs.YtdclafjgfnbibaaW.PrintLast Go.Proofs.YtdclafjgfnbibaaW.PrintMore Go.Proofs.Ytdclafjgfnbibaa.PPeaksRefused Go.Proofs.Ytdclafjgfnbibaa.Ob
/-- What an op asks: kind, height, text, right. -/
structure Op where
  kind : Int
  which : Int
  h : Int
  s : ByteArray
  right : Bool
def Op.cells (o : Op) : Array Value := #[.int .i64 o.kind, .int .i64 o.which, .int .i64 o.h, .string o.s, .bool o.right]
def Op.text (o : Op) (k : Int) : ByteArray := if o.right = true then dgt o.s k.toNat else o.s
def Op.height (o : Op) : Int := if Int.tmod o.kind 2 = 0 then o.h else 0
def Op.E (o : Op) (k : Int) (n : Nat) : Int := opE k n o.height (o.text k)
def Op.N (o : Op) (k : Int) (n : Nat) : Nat := opN k n o.height (o.text k)
def Op.L (o : Op) (k : Int) (n : Nat) (L : List ByteArray) : List ByteArray := opL k n L o.height (o.text k)
def Op.M (o : Op) (k : Int) (n : Nat) (L : List ByteArray) : List ByteArray := if Int.tmod o.kind 2 = 0 then [] else opM k n L 0 (o.text k)
theorem Inv.does {k : Int} {n : Nat} {L : List ByteArray} (hI : Inv k n L) (o : Op) : Inv k (o.N k n) (o.L k n L) := hI.op o.height (o.text k)
def Does (w : World) (hb : Nat) (ok : Nat → Prop) (k : Int) (n : Nat) (L : List ByteArray) (o : Op) (e : Ending) (w' : World) : Prop :=
  ∃ v, e = .returned (.tuple #[v, .int .i64 (o.E k n)]) ∧ Kd.string.R 9 w' w.heap.size (fun j => w.heap.size ≤ j) v (o.M k n L) ∧
    Rg w' hb (fun j => (ok j ∧ j < w.heap.size) ∨ (w.heap.size ≤ j ∧ some j ≠ v.ownBlock)) k ((o.N k n : Nat) : Int) (o.L k n L) ∧ Kp w w' ok
theorem Does.add {w w1 : World} {hb : Nat} {ok : Nat → Prop} {k : Int} {n : Nat} {L : List ByteArray} {o : Op} {e : Ending} {w' : World} (hk : ¬ Int.tmod o.kind 2 = 0) (hb1 : Below w.heap.size w w1)
    (h : Added w1 hb (fun j => ok j ∧ j < w.heap.size) k n L (o.text k) e w') : Does w hb ok k n L o e w' := by
  obtain ⟨v, h1, h2, h3, h4⟩ := h
  have hz := hb1.size
  have eh : o.height = 0 := by unfold Op.height; rw [if_neg hk]
  refine ⟨v, ?_, ?_, ?_, ?_⟩
  · unfold Op.E; rw [eh]; exact h1
  · unfold Op.M; rw [if_neg hk]; exact Kd.R_lower (Kd.R_mono h2 (fun j hj => Nat.le_trans hz hj)) hz
  · unfold Op.N Op.L; rw [eh]
    refine h3.mono (fun j hj => ?_)
    rcases hj with hj | hj
    · exact .inl hj.1
    · exact .inr ⟨Nat.le_trans hz hj.1, hj.2⟩
  · exact (Kp.below (S := ok) hb1).trans h4 (fun j _ hj => hj.1)
theorem Does.join {w w1 : World} {hb : Nat} {ok : Nat → Prop} {k : Int} {n : Nat} {L : List ByteArray} {o : Op} {w' : World} (hk : Int.tmod o.kind 2 = 0) (hb1 : Below w.heap.size w w1)
    (h : Joined w1 hb (fun j => ok j ∧ j < w.heap.size) k n L o.h (o.text k) (.returned (.int .i64 (opE k n o.h (o.text k)))) w') :
    Does w hb ok k n L o (.returned (.tuple #[.slice none 0 0, .int .i64 (opE k n o.h (o.text k))])) w' := by
  obtain ⟨h1, h3, h4⟩ := h
  have hz := hb1.size
  have eh : o.height = o.h := by unfold Op.height; rw [if_pos hk]
  refine ⟨.slice none 0 0, ?_, ?_, ?_, ?_⟩
  · unfold Op.E; rw [eh]
  · unfold Op.M; rw [if_pos hk]; exact Kd.R_nil _ _ _ _ _
  · unfold Op.N Op.L; rw [eh]
    refine h3.mono (fun j hj => ?_)
    rcases hj with hj | hj
    · exact .inl hj.1
    · exact .inr ⟨Nat.le_trans hz hj, by simp [Value.ownBlock]⟩
  · exact (Kp.below (S := ok) hb1).trans h4 (fun j _ hj => hj.1)
theorem digest_calls (w : World) (s : ByteArray) (k : Int) (h1 : 1 ≤ k) (h2 : k ≤ 32) :
    Calls Try.prog 8 #[.string s, .int .i64 k] w fun e w' => e = .returned (.string (dgt s k.toNat)) ∧ Below w.heap.size w w' := by
  have h3 := massiflaw09_digest.is s k.toNat 1001 (by omega) (Nat.le_refl _)
  rw [Int.toNat_of_nonneg (by omega)] at h3
  exact massiflaw09_digest.calls 1001 s k _ w h3
set_option maxHeartbeats 2000000 in
set_option maxRecDepth 100000 in
theorem does_calls (w : World) (hb : Nat) (ok : Nat → Prop) (k : Int) (n : Nat) (L : List ByteArray) (o : Op) (hR : Rg w hb ok k n L) (hI : Inv k n L) :
    Calls Try.prog 16 #[.pointer (some ⟨hb, 0, none⟩), .agg o.cells, .int .i64 k] w (Does w hb ok k n L o) := by
  have HR := Aside0.mk hR.bound
  have HI := Aside0.mk hI
  obtain ⟨q, x, h, s, r⟩ := o
  have HD := Aside0.mk (fun (W : World) => digest_calls W s k hI.k1 hI.k2)
  clear hR hI
  unfold Op.cells
  simp only []
  have HB0 := Aside0.mk (below_alloc (Below.refl _ w) (.cells #[.int .i64 q, .int .i64 x, .int .i64 h, .string s, .bool r] 46))
  have HK0 := Aside0.mk (blk_new w (.cells #[.int .i64 q, .int .i64 x, .int .i64 h, .string s, .bool r] 46))
  obtain ⟨w0, hw0⟩ : ∃ w0, w0 = w.alloc (.cells #[.int .i64 q, .int .i64 x, .int .i64 h, .string s, .bool r] 46) := ⟨_, rfl⟩
  have HW0 := Aside0.mk hw0
  rw [← hw0] at HB0 HK0
  clear hw0
  obtain ⟨z, hz⟩ : ∃ z : Nat, z = w.heap.size := ⟨_, rfl⟩
  have HZ := Aside0.mk hz
  have FIN : ∀ t : ByteArray, (Op.mk q x h s r).text k = t → ∀ w1 : World, Below w.heap.size w w1 →
      (Int.tmod q 2 = 0 → Calls Try.prog 25 #[.pointer (some ⟨hb, 0, none⟩), .int .i64 h, .string t] w1 fun e w' => e = .returned (.int .i64 (opE k n h t)) ∧ Does w hb ok k n L ⟨q, x, h, s, r⟩ (.returned (.tuple #[.slice none 0 0, .int .i64 (opE k n h t)])) w') ∧
      (¬ Int.tmod q 2 = 0 → Calls Try.prog 12 #[.pointer (some ⟨hb, 0, none⟩), .string t] w1 fun e w' => (∃ v y, e = .returned (.tuple #[v, .int .i64 y])) ∧ Does w hb ok k n L ⟨q, x, h, s, r⟩ e w') := by
    intro t ht w1 hw1
    refine ⟨fun hq => ?_, fun hq => ?_⟩
    · refine (join_calls w1 hb _ k n L h t (HR.out.below hw1) HI.out).mono ?_
      rintro e w' hj
      have he := hj.1
      subst he
      refine ⟨rfl, ?_⟩
      have := Does.join (o := ⟨q, x, h, s, r⟩) hq hw1 (by rw [ht]; exact hj)
      rw [ht] at this; exact this
    · refine (add_calls w1 hb _ k n L t (HR.out.below hw1) HI.out).mono ?_
      rintro e w' hj
      refine ⟨?_, Does.add (o := ⟨q, x, h, s, r⟩) hq hw1 (by rw [ht]; exact hj)⟩
      obtain ⟨v, he, _⟩ := hj
      exact ⟨v, _, he⟩
  have HF := Aside0.mk FIN
  clear FIN
  cases r <;> by_cases hq : Int.tmod q 2 = 0
  all_goals
    first
    | (have tq : (Int.tmod q 2 == 0) = true := by simp [hq])
    | (have tq : (Int.tmod q 2 == 0) = false := by simp [hq])
  · have HQ := Aside0.mk hq
    have HF1 := Aside0.mk ((HF.out s (by unfold Op.text; simp) w0 HB0.out).1 hq)
    clear hq
    go_enter Try.func16, Try.ntmps16
    go_wp2_with (fail)
    rw [← HW0.out]
    refine HF1.out.mono ?_
    rintro e w2 ⟨rfl, hj⟩
    have HJ := Aside0.mk hj
    clear hj
    go_wp2_with (fail)
    go_ret2
    exact HJ.out
  · have HQ := Aside0.mk hq
    have HF1 := Aside0.mk ((HF.out s (by unfold Op.text; simp) w0 HB0.out).2 hq)
    clear hq
    go_enter Try.func16, Try.ntmps16
    go_wp2_with (fail)
    rw [← HW0.out]
    refine HF1.out.mono ?_
    rintro e w2 ⟨⟨v, y, rfl⟩, hj⟩
    have HJ := Aside0.mk hj
    clear hj
    go_wp2_with (fail)
    go_ret2
    exact HJ.out
  · have HQ := Aside0.mk hq
    have HF1 := Aside0.mk (fun w1 h1 => (HF.out (dgt s k.toNat) (by unfold Op.text; simp) w1 h1).1 hq)
    clear hq
    go_enter Try.func16, Try.ntmps16
    go_wp2_with (fail)
    rw [← HW0.out]
    refine (HD.out w0).mono ?_
    rintro e w1 ⟨rfl, hb1⟩
    have HB1 := Aside0.mk (below_weaken HB0.out HB0.out.size hb1)
    have hk1 := blk_below HK0.out hb1
    have c0 : w1.cell? ⟨w.heap.size, 0, none⟩ = some (.int .i64 q) := by simp [World.cell?, hk1]
    have c2 : w1.cell? ⟨w.heap.size, 2, none⟩ = some (.int .i64 h) := by simp [World.cell?, hk1]
    clear hb1 hk1
    go_wp2_with (fail)
    refine (HF1.out w1 HB1.out).mono ?_
    rintro e w2 ⟨rfl, hj⟩
    have HJ := Aside0.mk hj
    clear hj
    go_wp2_with (fail)
    go_ret2
    exact HJ.out
  · have HQ := Aside0.mk hq
    have HF1 := Aside0.mk (fun w1 h1 => (HF.out (dgt s k.toNat) (by unfold Op.text; simp) w1 h1).2 hq)
    clear hq
    go_enter Try.func16, Try.ntmps16
    go_wp2_with (fail)
    rw [← HW0.out]
    refine (HD.out w0).mono ?_
    rintro e w1 ⟨rfl, hb1⟩
    have HB1 := Aside0.mk (below_weaken HB0.out HB0.out.size hb1)
    have hk1 := blk_below HK0.out hb1
    have c0 : w1.cell? ⟨w.heap.size, 0, none⟩ = some (.int .i64 q) := by simp [World.cell?, hk1]
    have c2 : w1.cell? ⟨w.heap.size, 2, none⟩ = some (.int .i64 h) := by simp [World.cell?, hk1]
    clear hb1 hk1
    go_wp2_with (fail)
    refine (HF1.out w1 HB1.out).mono ?_
    rintro e w2 ⟨⟨v, y, rfl⟩, hj⟩
    have HJ := Aside0.mk hj
    clear hj
    go_wp2_with (fail)
    go_ret2
    exact HJ.out
/-- A list that was told, apart from the blocks ok. -/
def Ls (w : World) (ok : Nat → Prop) (v : Value) (M : List ByteArray) : Prop := Kd.string.R 9 w 0 (fun j => some j = v.ownBlock) v M ∧ ∀ j, v.ownBlock = some j → ¬ ok j
theorem Ls.mk {w : World} {ok okr : Nat → Prop} {b : Nat} {v : Value} {M : List ByteArray} (h : Kd.string.R 9 w b okr v M) (ha : ∀ j, v.ownBlock = some j → ¬ ok j) : Ls w ok v M :=
  ⟨Kd.R_lower (Kd.R_of_own (Kd.own_of_R h) (fun j hj => hj.symm)) (Nat.zero_le _), ha⟩
theorem Ls.lt {w : World} {ok : Nat → Prop} {v : Value} {M : List ByteArray} (h : Ls w ok v M) : ∀ j, v.ownBlock = some j → j < w.heap.size := Kd.R_lt h.1
theorem Ls.keep {w w' : World} {ok ok' S : Nat → Prop} {v : Value} {M : List ByteArray} (h : Ls w ok v M) (hk : Kp w w' S) (hS : ∀ j, j < w.heap.size → S j → ok j) (ho : ∀ j, j < w.heap.size → ok' j → ok j) : Ls w' ok' v M :=
  ⟨Kd.R_step h.1 (fun j hj hl => hk.keep j hl (fun hs => h.2 j hj.symm (hS j hl hs))), fun j hj h2 => h.2 j hj (ho j (h.lt j hj) h2)⟩
theorem Ls.below {w w' : World} {ok : Nat → Prop} {v : Value} {M : List ByteArray} (h : Ls w ok v M) (hb : Below w.heap.size w w') : Ls w' ok v M := h.keep (Kp.below (S := fun _ => False) hb) (fun _ _ h => h.elim) (fun _ _ h => h)
theorem Ls.mono {w : World} {ok ok' : Nat → Prop} {v : Value} {M : List ByteArray} (h : Ls w ok v M) (ho : ∀ j, ok' j → ok j) : Ls w ok' v M := ⟨h.1, fun j hj h2 => h.2 j hj (ho j h2)⟩
theorem Ls.slice {w : World} {ok : Nat → Prop} {v : Value} {M : List ByteArray} (h : Ls w ok v M) : ∃ A N c, v = .slice A N c ∧ N = M.length ∧ N ≤ c := by
  obtain ⟨A, c, h1, h2, _⟩ := Kd.R_reads h.1
  exact ⟨A, _, c, h1, rfl, h2⟩
theorem Ls.C {w : World} {ok : Nat → Prop} {A : Option Addr} {N c : Nat} {M : List ByteArray} (h : Ls w ok (.slice A N c) M) : N = M.length ∧ N ≤ c ∧ Kd.C Kd.string w A M.length M := by
  obtain ⟨A', c', h1, h2, h3⟩ := Kd.R_reads h.1
  injection h1 with h4 h5 h6
  subst h4 h5 h6
  exact ⟨rfl, h2, h3⟩
theorem Rg.kept {w w' : World} {hb : Nat} {ok S : Nat → Prop} {k n : Int} {L : List ByteArray} (h : Rg w hb ok k n L) (hk : Kp w w' S) (hd : ∀ j, ok j → ¬ S j) : Rg w' hb (fun j => ok j ∧ j < w.heap.size) k n L :=
  h.bound.step (fun j hj hl => hk.keep j hl (hd j hj.1))
/-- The blocks of a range behind a call. -/
abbrev nx (w : World) (ok : Nat → Prop) (v : Value) : Nat → Prop := fun j => (ok j ∧ j < w.heap.size) ∨ (w.heap.size ≤ j ∧ some j ≠ v.ownBlock)
theorem Added.told {w : World} {hb : Nat} {ok : Nat → Prop} {k : Int} {n : Nat} {L : List ByteArray} {s : ByteArray} {e : Ending} {w' : World} (h : Added w hb ok k n L s e w') :
    ∃ A N c, e = .returned (.tuple #[.slice A N c, .int .i64 (opE k n 0 s)]) ∧ (∀ j, (Value.slice A N c).ownBlock = some j → w.heap.size ≤ j) ∧ Ls w' (nx w ok (.slice A N c)) (.slice A N c) (opM k n L 0 s) ∧ Rg w' hb (nx w ok (.slice A N c)) k ((opN k n 0 s : Nat) : Int) (opL k n L 0 s) ∧ Kp w w' ok := by
  obtain ⟨v, h1, h2, h3, h4⟩ := h
  have hl : Ls w' (nx w ok v) v (opM k n L 0 s) := Ls.mk h2 (fun j hj h5 => by
    have h6 := Kd.R_base h2 j hj
    rcases h5 with h5 | h5
    · omega
    · exact h5.2 hj.symm)
  obtain ⟨A, N, c, rfl, _, _⟩ := hl.slice
  exact ⟨A, N, c, h1, Kd.R_base h2, hl, h3, h4⟩
theorem Does.told {w : World} {hb : Nat} {ok : Nat → Prop} {k : Int} {n : Nat} {L : List ByteArray} {o : Op} {e : Ending} {w' : World} (h : Does w hb ok k n L o e w') :
    ∃ A N c, e = .returned (.tuple #[.slice A N c, .int .i64 (o.E k n)]) ∧ (∀ j, (Value.slice A N c).ownBlock = some j → w.heap.size ≤ j) ∧ Ls w' (nx w ok (.slice A N c)) (.slice A N c) (o.M k n L) ∧ Rg w' hb (nx w ok (.slice A N c)) k ((o.N k n : Nat) : Int) (o.L k n L) ∧ Kp w w' ok := by
  obtain ⟨v, h1, h2, h3, h4⟩ := h
  have hl : Ls w' (nx w ok v) v (o.M k n L) := Ls.mk h2 (fun j hj h5 => by
    have h6 := Kd.R_base h2 j hj
    rcases h5 with h5 | h5
    · omega
    · exact h5.2 hj.symm)
  obtain ⟨A, N, c, rfl, _, _⟩ := hl.slice
  exact ⟨A, N, c, h1, Kd.R_base h2, hl, h3, h4⟩
/-- A list that was told before, behind a call at the range. -/
theorem Ls.next {w w' : World} {ok : Nat → Prop} {v u : Value} {M : List ByteArray} (h : Ls w ok v M) (hk : Kp w w' ok) : Ls w' (nx w ok u) v M :=
  h.keep hk (fun _ _ h => h) (fun j hj h => by rcases h with h | h; exact h.1; omega)
end Go.Proofs.Ytdclafjgfnbibaa.Pk
