/- Package forest: Append. No condition beyond those that each theorem names. -/
import Derived.Test.YtelhpamhnnjgaaaFo1
import Derived.WalkMore
import Derived.Outline
set_option linter.unusedVariables false
set_option linter.unusedSimpArgs false
namespace Go.Proofs.Ytelhpamhnnjgaaa.Fo
open Go.RowKit Go.Proofs.Ytelhpamhnnjgaaa.MB Go.Proofs.Ytelhpamhnnjgaaa.Pk Go.Proofs.YtelhpamhnnjgaaaW.PrintWords Go.Proofs.YtelhpamhnnjgaaaW.PrintLast Go.Proofs.YtelhpamhnnjgaaaW.PrintMore Go.Proofs.Ytelhpamhnnjgaaa.PForestFresh Go.Proofs.Ytelhpamhnnjgaaa.Ob
theorem gate_store {P : Program} {ops : Array Oper} {rest : List Oper} {o : Oper} {a : Act} {W : World} {Q : Exit → Act → World → Prop} {t : TypeId} {x v : Operand} (_ho : o.op = .store t x v) (h : wpList P ops Q (o :: rest) a W) : wpList P ops Q (o :: rest) a W := h
/-- How it stands in the midst of Append: the object, the local block, the map. -/
structure At (w w' : World) (hb bm bb : Nat) (ok : Nat → Prop) (k n m : Int) (F : Int → Int → Option ByteArray) (h i : Int) : Prop where
  hlt : hb < w.heap.size
  blt : bm < w.heap.size
  bbe : bb = w.heap.size
  oks : ok hb ∧ ok bm ∧ bm ≠ hb
  obj : w'.heap[hb]? = some (.cells #[.int .i64 k, .int .u64 n, .map (some bm)] 70 (0, 0))
  blk : w'.heap[bb]? = some (.cells #[.int .i64 h, .int .u64 i] 45 (0, 0))
  mp : Mp.Mp Try.prog 45 9 w' bm m.toNat F
  kp : Kp w w' ok
theorem At.below {w w1 w2 : World} {hb bm bb : Nat} {ok : Nat → Prop} {k n m : Int} {F : Int → Int → Option ByteArray} {h i : Int} (a : At w w1 hb bm bb ok k n m F h i) (hB : Below w1.heap.size w1 w2) : At w w2 hb bm bb ok k n m F h i :=
  ⟨a.hlt, a.blt, a.bbe, a.oks, (hB.block _ (blkLt a.obj)).trans a.obj, (hB.block _ (blkLt a.blk)).trans a.blk, a.mp.step (hB.block _ a.mp.lt), a.kp.then_below hB⟩
theorem At.drew {w w1 : World} {hb bm bb : Nat} {ok : Nat → Prop} {k n m : Int} {F : Int → Int → Option ByteArray} {h i : Int} (a : At w w1 hb bm bb ok k n m F h i) : At w w1.drew hb bm bb ok k n m F h i :=
  ⟨a.hlt, a.blt, a.bbe, a.oks, a.obj, a.blk, a.mp.step rfl, a.kp.drewN 1⟩
theorem At.grown {w w1 w2 : World} {hb bm bb : Nat} {ok : Nat → Prop} {k n m : Int} {F : Int → Int → Option ByteArray} {h i : Int} {row : Option Nat} (a : At w w1 hb bm bb ok k n m F h i) (hg : w1.grownBy w2 row) (hr : ∀ j, row = some j → w.heap.size < j) : At w w2 hb bm bb ok k n m F h i := by
  have e : ∀ j, j ≤ w.heap.size → some j ≠ row := fun j hj he => by have := hr j he.symm; omega
  exact ⟨a.hlt, a.blt, a.bbe, a.oks, (hg.block _ (blkLt a.obj) (e _ (Nat.le_of_lt a.hlt))).trans a.obj, (hg.block _ (blkLt a.blk) (e _ (Nat.le_of_eq a.bbe))).trans a.blk, a.mp.step (hg.block _ a.mp.lt (e _ (Nat.le_of_lt a.blt))), a.kp.grown hg (fun j hj => .inr (Nat.le_of_lt (hr j hj)))⟩
theorem At.store {w w1 : World} {hb bm bb : Nat} {ok : Nat → Prop} {k n m : Int} {F : Int → Int → Option ByteArray} {h i : Int} (a : At w w1 hb bm bb ok k n m F h i) (hm : m.toNat < maxLen) (hm0 : 0 ≤ m) (hh : (Lit.int .i64 h).wf = true) (hi : (Lit.int .u64 i).wf = true) {d : ByteArray} (hd : d.size ≤ maxLen) :
    ∃ w2, (Instr.mapUpdate 68 (.map (some bm)) (.agg #[.int .i64 h, .int .u64 i]) (.string d)).run Try.prog w1 = .ok () w2 ∧ At w w2 hb bm bb ok k n (m + 1) (Mp.put F h i d) h i ∧ w1.grownBy w2 (some bm) := by
  obtain ⟨w2, h1, h2, h3⟩ := a.mp.store ty hm hh hi hd
  refine ⟨w2, h1, ⟨a.hlt, a.blt, a.bbe, a.oks, (h3.block _ (blkLt a.obj) (fun e => a.oks.2.2 (Option.some.inj e).symm)).trans a.obj, (h3.block _ (blkLt a.blk) (fun e => ?_)).trans a.blk, ?_, a.kp.grown h3 (fun j hj => .inl (by rw [← Option.some.inj hj]; exact a.oks.2.1))⟩, h3⟩
  · have := Option.some.inj e; have := a.bbe; have := a.blt; omega
  · rw [show (m + 1).toNat = m.toNat + 1 from by omega]; exact h2
theorem At.look {w w1 : World} {hb bm bb : Nat} {ok : Nat → Prop} {k n m : Int} {F : Int → Int → Option ByteArray} {h i : Int} (a : At w w1 hb bm bb ok k n m F h i) {x y : Int} (hh : (Lit.int .i64 x).wf = true) (hi : (Lit.int .u64 y).wf = true) {d : ByteArray} (hd : F x y = some d) :
    (Instr.lookup 68 (.map (some bm)) (.agg #[.int .i64 x, .int .u64 y]) false).run Try.prog w1 = .ok (.string d) w1 := by
  rw [a.mp.look ty hh hi false, hd]; rfl
theorem At.row {w w1 : World} {hb bm bb : Nat} {ok : Nat → Prop} {k n m : Int} {F : Int → Int → Option ByteArray} {h i : Int} (a : At w w1 hb bm bb ok k n m F h i) (x y : Int) : At w (w1.setRow bb #[.int .i64 x, .int .u64 y]) hb bm bb ok k n m F x y := by
  have e : ∀ j, j < w.heap.size → (w1.setRow bb #[.int .i64 x, .int .u64 y]).heap[j]? = w1.heap[j]? := fun j hj => setRow_other w1 bb j _ (by have := a.bbe; omega)
  exact ⟨a.hlt, a.blt, a.bbe, a.oks, (e _ a.hlt).trans a.obj, setRow_heap _ _ _ _ _ _ a.blk, a.mp.step (e _ a.blt), ⟨a.kp.os, a.kp.tape, a.kp.output, by simpa using a.kp.size, fun j h1 h2 => (e j h1).trans (a.kp.keep j h1 h2)⟩⟩
theorem At.cells {w w1 : World} {hb bm bb : Nat} {ok : Nat → Prop} {k n m : Int} {F : Int → Int → Option ByteArray} {h i : Int} (a : At w w1 hb bm bb ok k n m F h i) :
    w1.cell? ⟨hb, 0, none⟩ = some (.int .i64 k) ∧ w1.cell? ⟨hb, 1, none⟩ = some (.int .u64 n) ∧ w1.cell? ⟨hb, 2, none⟩ = some (.map (some bm)) ∧ w1.cell? ⟨bb, 0, none⟩ = some (.int .i64 h) ∧ w1.cell? ⟨bb, 1, none⟩ = some (.int .u64 i) := by
  refine ⟨?_, ?_, ?_, ?_, ?_⟩
  · simp [World.cell?, a.obj]
  · simp [World.cell?, a.obj]
  · simp [World.cell?, a.obj]
  · simp [World.cell?, a.blk]
  · simp [World.cell?, a.blk]
theorem At.first {w : World} {hb bm : Nat} {ok : Nat → Prop} {k : Int} {n : Nat} {F : Int → Int → Option ByteArray} (hbk : w.heap[hb]? = some (.cells #[.int .i64 k, .int .u64 (n : Int), .map (some bm)] 70 (0, 0))) (hmp : Mp.Mp Try.prog 45 9 w bm (64 * n) F) (hok : ok hb ∧ ok bm ∧ bm ≠ hb) (u : Int) :
    At w ((w.alloc (.cells #[.int .i64 0, .int .u64 (n : Int)] 45)).setCell ⟨hb, 1, none⟩ (.int .u64 u)) hb bm w.heap.size ok k u (64 * (n : Int)) F 0 n := by
  have hB := below_alloc (Below.refl _ w) (.cells #[.int .i64 0, .int .u64 (n : Int)] 45)
  have hl := blkLt hbk
  have e1 := (hB.block _ hl).trans hbk
  refine ⟨hl, hmp.lt, rfl, hok, blk_put e1 _ _ rfl, ?_, ?_, (Kp.below hB).set (.inl hok.1) _⟩
  · exact (Below.heap_setCell _ _ _ _ (Nat.ne_of_gt hl)).trans (blk_new _ _)
  · rw [show (64 * (n : Int)).toNat = 64 * n from by omega]
    exact hmp.step ((Below.heap_setCell _ _ _ _ hok.2.2).trans (hB.block _ hmp.lt))
theorem oneB (a b : Int) : ∀ v ∈ (#[Value.int .i64 a, .int .u64 b] : Array Value).toList, v.oneCell' = true := by
  intro v hv; simp at hv; rcases hv with rfl | rfl <;> rfl
/-- What Append leaves. -/
def Appended (w : World) (hb : Nat) (ok : Nat → Prop) (k : Int) (l : List ByteArray) (n : Nat) (x : ByteArray) (e : Ending) (w' : World) : Prop :=
  ∃ v, e = .returned (.tuple #[v, .int .i64 0]) ∧ Kd.string.R 9 w' 0 (fun j => w.heap.size ≤ j) v (madeL k (l ++ [x]) n (t1 n)) ∧
    Fr w' hb ok k (n + 1) (fo k (l ++ [x])) ∧ Kp w w' ok
theorem At.done {w w' : World} {hb bm bb : Nat} {ok : Nat → Prop} {k : Int} {l : List ByteArray} {n i : Nat} {x : ByteArray} {v : Value} {q : Int} (a : At w w' hb bm bb ok k (n + 1) (64 * n + 1 + i) (foS k (l ++ [x]) n i) i q) (hn : n = l.length) (hl : n + 1 ≤ 65536) (hi : i = t1 n) (h40 : t1 n ≤ 40)
    (hO : Kd.string.R 9 w' 0 (fun j => w.heap.size < j) v (madeL k (l ++ [x]) n i)) : Appended w hb ok k l n x (.returned (.tuple #[v, .int .i64 0])) w' := by
  subst hi
  have e := fo_last k l x (by omega)
  rw [← hn] at e
  refine ⟨v, rfl, Kd.R_mono hO (fun j hj => Nat.le_of_lt hj), ⟨a.oks.1, bm, a.oks.2.1, a.oks.2.2, ?_, ?_⟩, a.kp⟩
  · exact a.obj
  · have := a.mp; rw [e] at this; exact this.mono (by omega)
theorem leaf_calls (k : Int) (x : ByteArray) (w : World) (hx : x.size ≤ 1048576) : Calls Try.prog 24 #[.int .i64 k, .string x] w fun e w' => e = .returned (.string (MH.lf k x)) ∧ Below w.heap.size w w' :=
  hash_Leaf.calls k x _ w (hash_Leaf.is k x (by omega))
theorem node_calls (k : Int) (a b : ByteArray) (w : World) (ha : a.size ≤ 32) (hb : b.size ≤ 32) :
    Calls Try.prog 19 #[.int .i64 k, .string a, .string b] w fun e w' => e = .returned (.string (MH.nd k a b)) ∧ Below w.heap.size w w' :=
  hash_Node.calls k a b _ w (hash_Node.is k a b (by omega))
set_option maxHeartbeats 8000000 in
set_option maxRecDepth 100000 in
theorem append_run (n : Nat) (w : World) (hb : Nat) (ok : Nat → Prop) (k : Int) (l : List ByteArray) (x : ByteArray) (hn : n = l.length) (hR : Fr w hb ok k n (fo k l)) (h1 : 1 ≤ k) (h2 : k ≤ 32) (hl : n + 1 ≤ 65536) (hx : x.size ≤ 1048576) :
    Calls Try.prog 13 #[.pointer (some ⟨hb, 0, none⟩), .string x] w (Appended w hb ok k l n x) := by
  obtain ⟨hok, bm, hobm, hne, hbk, hmp⟩ := hR
  have HBK := Aside0.mk hbk
  have HMP := Aside0.mk hmp
  have HOK := Aside0.mk (And.intro hok (And.intro hobm hne))
  have HLT := Aside0.mk (blkLt hbk)
  have HK := Aside0.mk (And.intro h1 h2)
  have c0 : w.cell? ⟨hb, 0, none⟩ = some (.int .i64 k) := by simp [World.cell?, hbk]
  have c1 : w.cell? ⟨hb, 1, none⟩ = some (.int .u64 (n : Int)) := by simp [World.cell?, hbk]
  have f1 : w.frozen? ⟨hb, 1, none⟩ = false := by simp [World.frozen?, hbk]
  have q1 : decide ((x.size : Int) > 1048576) = false := decide_eq_false (by omega)
  have q2 : decide ((1048576 : Int) < x.size) = false := decide_eq_false (by omega)
  have q3 : decide ((n : Int) ≥ 65536) = false := decide_eq_false (by omega)
  have q4 : decide ((65536 : Int) ≤ n) = false := decide_eq_false (by omega)
  have q5 : decide (1048576 < x.size) = false := decide_eq_false (by omega)
  have q6 : decide (65536 ≤ n) = false := decide_eq_false (by omega)
  have u1 : IntKind.u64.wrap ((n : Int) + 1) = (n : Int) + 1 := IntWalk.u64_in _ (by omega)
  obtain ⟨wb, hwb⟩ : ∃ wb, wb = w.alloc (.cells #[.int .i64 0, .int .u64 (n : Int)] 45) := ⟨_, rfl⟩
  have hBb : Below w.heap.size w wb := by rw [hwb]; exact below_alloc (Below.refl _ w) _
  have b1 : (w.alloc (.cells #[.int .i64 0, .int .u64 (n : Int)] 45)).cell? ⟨hb, 1, none⟩ = some (.int .u64 (n : Int)) := by rw [← hwb]; exact (hBb.cell HLT.out).trans c1
  have b2 : (w.alloc (.cells #[.int .i64 0, .int .u64 (n : Int)] 45)).frozen? ⟨hb, 1, none⟩ = false := by rw [← hwb]; exact (World.frozen?_of_block (hBb.block hb HLT.out)).trans f1
  have HA0 := Aside0.mk (At.first hbk hmp HOK.out ((n : Int) + 1))
  obtain ⟨b3, _⟩ := HA0.out.cells
  have HL := Aside0.mk hl
  have HX := Aside0.mk hx
  have HN := Aside0.mk hn
  obtain ⟨d, hd⟩ : ∃ d, d = MH.lf k x := ⟨_, rfl⟩
  have HLF := Aside0.mk (fun W => show Calls Try.prog 24 #[.int .i64 k, .string x] W fun e w' => e = .returned (.string d) ∧ Below W.heap.size W w' from by rw [hd]; exact leaf_calls k x W hx)
  have HD := Aside0.mk hd
  have HDS := Aside0.mk (show d.size ≤ 32 from by rw [hd]; exact Nat.le_trans (Nat.le_of_eq (MH.dig_size _ _)) (MH.hK_in k).2)
  have HTR := Aside0.mk (t1_le n (by omega))
  have htc := num_Trail.is (n + 1) 65 (by omega) (by omega)
  rw [Int.natCast_add, Int.natCast_one] at htc
  have HTC := Aside0.mk htc
  clear htc
  clear hbk hmp hok hobm hne hl hx h1 h2 hn hwb hBb hd
  go_enter Try.func13, Try.ntmps13
  go_wp2_with (fail)
  refine (HLF.out _).mono ?_
  rintro e w3 ⟨rfl, hb3⟩
  have HA3 := Aside0.mk (HA0.out.below hb3)
  clear c0 c1 f1 b1 b2 b3 hb3 HA0
  obtain ⟨c0, c1, c2, d0, d1⟩ := HA3.out.cells
  obtain ⟨w4, hr4, ha4, hg4⟩ := HA3.out.drew.store (d := d) (by have := HL.out; unfold maxLen; omega) (by omega) (by decide) (WalkArith.wf_u64 (by have := HL.out; omega)) (by have := HDS.out; unfold maxLen; omega)
  rw [show Mp.put (fo k l) 0 (n : Int) d = foS k (l ++ [x]) n 0 from by rw [HD.out, HN.out]; exact fo_first k l x] at ha4
  have HA4 := Aside0.mk ha4
  clear ha4 hg4
  go_wp2_with (fail)
  go_region
  clear hr4 c0 c1 c2 d0 d1
  obtain ⟨c0, c1, c2, d0, d1⟩ := HA4.out.cells
  go_wp2_with (first | ((with_reducible refine gate_dst (N := 45) rfl ?_); refine Kd.R_lit Kd.string (w0 := w4) 0 9 ?hg (N := 45) ?hd (xs := ([d] : List ByteArray)) (inner := [.string d]) (ok := fun j => w4.heap.size ≤ j) (okp := fun _ => False) ?hr ?hp (fun _ hk => hk.elim) (Nat.le_refl _) (Below.refl _ _) (Nat.zero_le _) (by simp) ?_; (case hd => rfl); (case hg => rfl); (case hr => first | (go_simp; done) | (go_simp; rfl)); (case hp => exact (Reps.one (show Kd.M Kd.string _ _ _ d [.string d] from rfl) (Reps.none _ _))); intro vo w5 ho hb5_ hg5 hnew_; have HO5 := Aside0.mk ho; have HA5 := Aside0.mk (HA4.out.grown hg5 (fun j hj => by cases hj)); have HS5 := Aside0.mk hg5.size; obtain ⟨e0, e1, e2, e3, e4⟩ := HA5.out.cells; clear hb5_ hg5 hnew_ ho c0 c1 c2 d0 d1))
  refine (num_Trail.calls 65 ((n : Int) + 1) _ _ HTC.out).mono ?_
  rintro e w6 ⟨rfl, hd6⟩
  have hb6 := hd6.below
  have HA6 := Aside0.mk (HA5.out.below hb6)
  have HO6 := Aside0.mk (Kd.R_mono (Kd.R_below HO5.out hb6) (fun j hj => show w.heap.size < j from Nat.lt_of_lt_of_le (blkLt HA4.out.blk) hj))
  clear hb6 hd6 e0 e1 e2 e3 e4
  obtain ⟨t, ht⟩ : ∃ t, t = tr (n + 1) := ⟨_, rfl⟩
  rw [← ht]
  have HT := Aside0.mk (show t = t1 n from ht)
  have HT40 := Aside0.mk (show t ≤ 40 from by rw [ht]; exact HTR.out)
  clear ht
  go_wp2_with (fail)
  go_loopg [7, 8, 51] t (fun kq v7 v8 v51 w' => ∃ (i : Nat) (z : ByteArray) (q : Int), v7 = .string z ∧ v51 = .int .i64 (i : Int) ∧ Aside0 (i + kq = t) ∧ Aside0 (q = ((n / 2 ^ i : Nat) : Int)) ∧ Aside0 (z = MT.trB k (l ++ [x]) (i, n / 2 ^ i)) ∧ Aside0 (Kd.string.R 9 w' 0 (fun j => w.heap.size < j) v8 (madeL k (l ++ [x]) n i)) ∧ Aside0 (At w w' hb bm w.heap.size ok k (n + 1) (64 * n + 1 + i) (foS k (l ++ [x]) n i) i q))
  case atStart =>
    refine ⟨0, d, (n : Int), by rfl, by rfl, ⟨by omega⟩, ⟨by rw [Nat.pow_zero, Nat.div_one]⟩, ⟨?_⟩, ⟨?_⟩, ⟨?_⟩⟩
    · have e : MT.trB k (l ++ [x]) (0, n / 2 ^ 0) = MH.lf k ((l ++ [x])[n]'(by rw [HN.out]; simp)) := by rw [Nat.pow_zero, Nat.div_one]; exact MT.trB_leaf k _ _ (by rw [HN.out]; simp)
      rw [e, HD.out]; simp [HN.out]
    · have := HO6.out; rw [HD.out, ← madeL_zero k l x, ← HN.out] at this; exact this
    · have := HA6.out; rw [show (64 * (n : Int) + 1) = 64 * n + 1 + ((0 : Nat) : Int) from by omega] at this; exact this
  case round =>
    obtain ⟨i, z, q, rfl, rfl, HI, HQ, HZ, HO, HA⟩ := hrel
    cases gk with
    | zero =>
      have hlt : decide ((i : Int) < (t : Int)) = false := decide_eq_false (by have := HI.out; omega)
      have hlt' : decide (i < t) = false := decide_eq_false (by have := HI.out; omega)
      go_wp2_with (fail)
      go_ret2
      exact HA.out.done HN.out HL.out (by have := HI.out; have := HT.out; omega) HTR.out HO.out
    | succ k1 =>
      have hit : i < t := by have := HI.out; omega
      have hlt : decide ((i : Int) < (t : Int)) = true := decide_eq_true (by omega)
      have hlt' : decide (i < t) = true := decide_eq_true hit
      obtain ⟨p1, p2, p3⟩ := fo_left k (l ++ [x]) n i (by have := HL.out; omega) (by rw [← HT.out]; exact hit)
      rw [← HZ.out] at p2
      rw [← HQ.out] at p1
      have hdle := Nat.div_le_self n (2 ^ i)
      have q1 : 1 ≤ q := by rw [HQ.out]; omega
      have q2 : q ≤ 65536 := by rw [HQ.out]; have := HL.out; omega
      have u2 : IntKind.u64.wrap (q - 1) = q - 1 := IntWalk.u64_in _ (by omega)
      have u3 : wrap64 ((i : Int) + 1) = (i : Int) + 1 := MB.wrap64_in _ (by omega) (by have := HT40.out; omega)
      obtain ⟨y, hy⟩ : ∃ y, y = MT.trB k (l ++ [x]) (i, 2 * (n / 2 ^ (i + 1))) := ⟨_, rfl⟩
      have HYS := Aside0.mk (show y.size ≤ 32 from by rw [hy, MT.trB_size]; exact (MH.hK_in k).2)
      have HZS := Aside0.mk (show z.size ≤ 32 from by rw [HZ.out, MT.trB_size]; exact (MH.hK_in k).2)
      rw [← hy] at p1 p2
      obtain ⟨z1, hz1⟩ : ∃ z1, z1 = MT.trB k (l ++ [x]) (i + 1, n / 2 ^ (i + 1)) := ⟨_, rfl⟩
      rw [← hz1] at p2
      have HZ1S := Aside0.mk (show z1.size ≤ 32 from by rw [hz1, MT.trB_size]; exact (MH.hK_in k).2)
      have HZ1 := Aside0.mk hz1
      have HND := Aside0.mk (fun W => show Calls Try.prog 19 #[.int .i64 k, .string y, .string z] W fun e w' => e = .returned (.string z1) ∧ Below W.heap.size W w' from by rw [← p2]; exact node_calls k y z W HYS.out HZS.out)
      have HQ2 := Aside0.mk (show q / 2 = ((n / 2 ^ (i + 1) : Nat) : Int) from by rw [HQ.out, Nat.pow_succ, ← Nat.div_div_eq_div_mul]; omega)
      have HIT := Aside0.mk hit
      clear hz1 p2
      have hr1 := HA.out.drew.look (WalkArith.wf_i64 (by have := HT40.out; omega)) (WalkArith.wf_u64 (by omega)) p1
      obtain ⟨c0, c1, c2, d0, d1⟩ := HA.out.cells
      clear hy hdle
      go_wp2_with (fail)
      go_region
      have HAD := Aside0.mk HA.out.drew
      clear hr1 c0 c1 c2 d0 d1
      obtain ⟨c0, c1, c2, d0, d1⟩ := HAD.out.cells
      clear c0 c1 c2
      go_wp2_with (first | ((with_reducible refine gate_store (t := 45) (x := .tmp 6) (v := .tmp 70) rfl ?_); refine Sha.wpList_store_row' rfl 45 (.tmp 6) (.tmp 70) rfl w.heap.size rfl _ rfl _ 45 HAD.out.blk rfl (by kernel_rfl) (oneB _ _) ?_; intro w7 hw7; have HA7 := Aside0.mk (show At w w7 hb bm w.heap.size ok k (n + 1) (64 * n + 1 + i) (foS k (l ++ [x]) n i) ((i : Int) + 1) (q / 2) from by rw [hw7]; exact HAD.out.row _ _); have HO7 := Aside0.mk (show Kd.string.R 9 w7 0 (fun j => w.heap.size < j) u8 (madeL k (l ++ [x]) n i) from Kd.R_step HO.out (fun j hj _ => by rw [hw7]; exact setRow_other wr.drew w.heap.size j _ (by omega))); obtain ⟨e0, e1, e2, e3, e4⟩ := HA7.out.cells; clear hw7 d0 d1 e1 e2 e3 e4))
      refine (HND.out _).mono ?_
      rintro e w8 ⟨rfl, hb8⟩
      have HA8 := Aside0.mk (HA7.out.below hb8)
      have HO8 := Aside0.mk (Kd.R_below HO7.out hb8)
      clear hb8 e0
      obtain ⟨w9, hr9, ha9, hg9⟩ := HA8.out.drew.store (d := z1) (by have := HL.out; have := HT40.out; have := HIT.out; unfold maxLen; omega) (by omega) (WalkArith.wf_i64 (by have := HT40.out; have := HIT.out; omega)) (WalkArith.wf_u64 (by omega)) (by have := HZ1S.out; unfold maxLen; omega)
      rw [HQ2.out, show ((i : Int) + 1) = ((i + 1 : Nat) : Int) from rfl, HZ1.out, fo_next k (l ++ [x]) n i] at ha9
      have HA9 := Aside0.mk ha9
      have HO9 := Aside0.mk (Kd.R_grown (Kd.R_drew HO8.out) hg9 (fun j hj e => by have := Option.some.inj e; have := HA8.out.blt; omega))
      obtain ⟨e0, e1, e2, e3, e4⟩ := HA8.out.cells
      clear ha9 hg9
      go_wp2_with (fail)
      go_region
      clear hr9 e0 e1 e2 e3 e4
      go_wp2_with (first | ((with_reducible refine gate_builtin (b := .append) (xs := #[.tmp 84, .tmp 86]) rfl ?_); at_builtin; refine Kd.R_append Kd.string (w0 := w9) 0 rfl (.tmp 84) (.tmp 86) 22 9 (.string ⟨#[]⟩) 16 rfl Try.underlying22 info9 rfl (by decide) (by omega) u8 (madeL k (l ++ [x]) n i) z1 [.string z1] (fun j => w.heap.size < j) (fun _ => False) rfl rfl ?aP (fun _ hk => hk.elim) ?aF ?aO ?aB ?aS ?aL ?_; (case aP => exact rfl); (case aF => exact (fun j hj => Nat.lt_of_lt_of_le (blkLt HA9.out.blk) hj)); (case aO => exact HO9.out); (case aB => exact Below.refl _ _); (case aS => exact Nat.zero_le _); (case aL => rw [madeL_len]; have := HIT.out; have := HT40.out; omega); intro v1 w10 ho hb3 hg hat; rw [HZ1.out, ← madeL_succ] at ho; have HOX := Aside0.mk ho; have HAX := Aside0.mk (HA9.out.grown hg (fun j hj => (Kd.R_bound HO9.out).1 j hj |>.1)); clear ho hb3 hg hat))
      go_roundg k1
      case measure => exact Nat.lt_succ_self _
      exact ⟨i + 1, z1, q / 2, rfl, by rw [u3]; rfl, ⟨by have := HI.out; omega⟩, HQ2, HZ1, HOX, ⟨by have := HAX.out; rw [← HQ2.out, show (64 * (n : Int) + 1 + i + 1) = 64 * n + 1 + ((i + 1 : Nat) : Int) from by omega] at this; exact this⟩⟩
theorem append_ok (w : World) (hb : Nat) (ok : Nat → Prop) (k : Int) (l : List ByteArray) (x : ByteArray) (hR : Fr w hb ok k l.length (fo k l)) (h1 : 1 ≤ k) (h2 : k ≤ 32) (hl : l.length + 1 ≤ 65536) (hx : x.size ≤ 1048576) :
    Calls Try.prog 13 #[.pointer (some ⟨hb, 0, none⟩), .string x] w (Appended w hb ok k l l.length x) := append_run l.length w hb ok k l x rfl hR h1 h2 hl hx
/-- An item that is too long. -/
theorem append_long (w : World) (hb : Nat) (x : ByteArray) (hx : 1048576 < x.size) :
    Calls Try.prog 13 #[.pointer (some ⟨hb, 0, none⟩), .string x] w fun e w' => e = .returned (.tuple #[.slice none 0 0, .int .i64 100]) ∧ Below w.heap.size w w' := by
  have q1 : decide ((x.size : Int) > 1048576) = true := decide_eq_true (by omega)
  have q2 : decide ((1048576 : Int) < x.size) = true := decide_eq_true (by omega)
  have q5 : decide (1048576 < x.size) = true := decide_eq_true (by omega)
  clear hx
  go_enter Try.func13, Try.ntmps13
  go_wp2_with (fail)
  go_ret2
  exact ⟨rfl, by first | exact Below.refl _ _ | exact below_alloc (Below.refl _ _) _⟩
end Go.Proofs.Ytelhpamhnnjgaaa.Fo
