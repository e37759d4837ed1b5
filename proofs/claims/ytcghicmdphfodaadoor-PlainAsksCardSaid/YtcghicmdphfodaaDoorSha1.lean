/- SHA-256 over lists of numbers: what a block does to the state, what a text comes to. No condition, no program. -/
import Derived.Test.YtcghicmdphfodaaDoorProg
import Derived.Below
import Derived.Deep.Draws
import Derived.Deep.AppendLies
import Derived.Maps.AppendAt
import Derived.OwnWalk
import Derived.Laws.BytesArg
import Derived.Laws.MakeOwn
import Derived.Laws.OwnMore
import Derived.Deep.OwnRows
import Derived.Tactics
import Derived.Lib.ConvBytes
import Derived.Laws.Slices
import Derived.WalkKit
import Derived.KernelRfl
import Derived.RowKit3
import Derived.Deep.LoopGhost
import Derived.Deep.QuietTactic
import Derived.BigQuiet
import Derived.WideLaws
import Derived.Deep.DeepCutAuto
import Derived.Deep.CutBlock
import Derived.Deep.RegionHeld3
import Derived.Laws.Rows
import Derived.Lib.AppendStr
import Derived.ArgAppend
import Derived.Laws.IdiomCopy
import Derived.OrdersHeld
import Derived.Laws.BitsLemmas
import Derived.RowKit
import Derived.StillTailTactics
import Derived.Laws.CopyRow
import Derived.Test.YtcghicmdphfodaaDoorWWords
import Derived.Test.YtcghicmdphfodaaDoorWLast
import Derived.Test.YtcghicmdphfodaaDoorWTab
import Derived.Test.YtcghicmdphfodaaDoorWFour
import Derived.Test.YtcghicmdphfodaaDoorWQPut
import Derived.Test.YtcghicmdphfodaaDoorWApart
import Derived.Test.YtcghicmdphfodaaDoorWArr
import Derived.Test.YtcghicmdphfodaaDoorWZeros
import Derived.Test.YtcghicmdphfodaaDoorWFoot
import Derived.Test.YtcghicmdphfodaaDoorWKept
import Derived.Test.YtcghicmdphfodaaDoorWShare
import Derived.Test.YtcghicmdphfodaaDoorWN
import Derived.Test.YtcghicmdphfodaaDoorWFootNe
import Derived.Test.YtcghicmdphfodaaDoorWAt
import Derived.Test.YtcghicmdphfodaaDoorWEqStruct
import Derived.Test.YtcghicmdphfodaaDoorWRepsOne
import Derived.Test.YtcghicmdphfodaaDoorWInv
import Derived.Test.YtcghicmdphfodaaDoorWInvWords
import Derived.Test.YtcghicmdphfodaaDoorWGuard
import Derived.Test.YtcghicmdphfodaaDoorWNEv
import Derived.Test.YtcghicmdphfodaaDoorWMore
set_option linter.unusedVariables false
set_option linter.unusedSimpArgs false
namespace Go.Proofs.YtcghicmdphfodaaDoor.Sha
open Go.RowKit Go.Proofs.YtcghicmdphfodaaDoorW.PrintWords Go.Proofs.YtcghicmdphfodaaDoorW.PrintLast Go.Proofs.YtcghicmdphfodaaDoorW.PrintMore

/-! ### Words -/
def rot (x : Int) (n : Nat) : Int := Go.bits .or .u32 (x * 2 ^ (32 - n) % 4294967296) (x / 2 ^ n)
def x32 (x y : Int) : Int := Go.bits .xor .u32 x y
def a32 (x y : Int) : Int := (x + y) % 4294967296
def u32s (l : List Int) : List Value := l.map (Value.int .u32)
def u8s (l : List Int) : List Value := l.map (Value.int .u8)
def hc (S B : List Int) (f z : Int) : Array Value := (u32s S ++ (u8s B ++ [Value.int .i64 f, Value.int .u64 z])).toArray
def wc (W : List Int) : Array Value := (u32s W).toArray
def s0 (x : Int) : Int := x32 (x32 (rot x 7) (rot x 18)) (x / 8)
def s1 (x : Int) : Int := x32 (x32 (rot x 17) (rot x 19)) (x / 1024)
def wstep (x c : Int) : Int := Go.bits .or .u32 (x * 256 % 4294967296) (c % 4294967296)
def word (B : List Int) (t : Nat) : Nat → Int
  | 0 => 0
  | j + 1 => wstep (word B t j) (B.getD (4 * t + j) 0)
def W1 (B : List Int) (t : Nat) : List Int := (List.range 64).map fun i => if i < t then word B i 4 else 0
def nextW (W : List Int) (n : Nat) : Int := (W.getD n 0 + s0 (W.getD (n + 1) 0) + W.getD (n + 9) 0 + s1 (W.getD (n + 14) 0)) % 4294967296
def W2 (B : List Int) : Nat → List Int
  | 0 => W1 B 16
  | n + 1 => (W2 B n).set (n + 16) (nextW (W2 B n) n)
structure R8 where
  (a b c d e f g i : Int)
def S1 (x : Int) : Int := x32 (x32 (rot x 6) (rot x 11)) (rot x 25)
def S0 (x : Int) : Int := x32 (x32 (rot x 2) (rot x 13)) (rot x 22)
def n32 (x y : Int) : Int := Go.bits .and .u32 x y
def ch (e f g : Int) : Int := x32 (n32 e f) (n32 (x32 IntKind.u32.max e) g)
def mj (a b c : Int) : Int := x32 (x32 (n32 a b) (n32 a c)) (n32 b c)
def one (v : R8) (k w : Int) : Int := (v.i + S1 v.e + ch v.e v.f v.g + k + w) % 4294967296
def two (v : R8) : Int := a32 (S0 v.a) (mj v.a v.b v.c)
def rnd (v : R8) (k w : Int) : R8 := ⟨a32 (one v k w) (two v), v.a, v.b, v.c, a32 v.d (one v k w), v.e, v.f, v.g⟩
def K64 : List Int := [0x428a2f98, 0x71374491, 0xb5c0fbcf, 0xe9b5dba5, 0x3956c25b, 0x59f111f1, 0x923f82a4, 0xab1c5ed5, 0xd807aa98, 0x12835b01, 0x243185be, 0x550c7dc3, 0x72be5d74, 0x80deb1fe, 0x9bdc06a7, 0xc19bf174, 0xe49b69c1, 0xefbe4786, 0x0fc19dc6, 0x240ca1cc, 0x2de92c6f, 0x4a7484aa, 0x5cb0a9dc, 0x76f988da, 0x983e5152, 0xa831c66d, 0xb00327c8, 0xbf597fc7, 0xc6e00bf3, 0xd5a79147, 0x06ca6351, 0x14292967, 0x27b70a85, 0x2e1b2138, 0x4d2c6dfc, 0x53380d13, 0x650a7354, 0x766a0abb, 0x81c2c92e, 0x92722c85, 0xa2bfe8a1, 0xa81a664b, 0xc24b8b70, 0xc76c51a3, 0xd192e819, 0xd6990624, 0xf40e3585, 0x106aa070, 0x19a4c116, 0x1e376c08, 0x2748774c, 0x34b0bcb5, 0x391c0cb3, 0x4ed8aa4a, 0x5b9cca4f, 0x682e6ff3, 0x748f82ee, 0x78a5636f, 0x84c87814, 0x8cc70208, 0x90befffa, 0xa4506ceb, 0xbef9a3f7, 0xc67178f2]
def vs (W : List Int) (v : R8) : Nat → R8
  | 0 => v
  | n + 1 => rnd (vs W v n) (K64.getD n 0) (W.getD n 0)
def R8.l (v : R8) : List Int := [v.a, v.b, v.c, v.d, v.e, v.f, v.g, v.i]
def ofL (S : List Int) : R8 := ⟨S.getD 0 0, S.getD 1 0, S.getD 2 0, S.getD 3 0, S.getD 4 0, S.getD 5 0, S.getD 6 0, S.getD 7 0⟩
def addS (S V : List Int) (n : Nat) : List Int := (List.range 8).map fun i => if i < n then a32 (S.getD i 0) (V.getD i 0) else S.getD i 0
/-- What a block does to the state. -/
def mixS (S B : List Int) : List Int := addS S (vs (W2 B 48) (ofL S) 64).l 8

/-! ### Cells -/
theorem len_u32s (l : List Int) : (u32s l).length = l.length := by simp [u32s]
theorem len_u8s (l : List Int) : (u8s l).length = l.length := by simp [u8s]
theorem get_map (k : IntKind) (l : List Int) (i : Nat) (h : i < l.length) : (l.map (Value.int k))[i]? = some (.int k (l.getD i 0)) := by
  rw [List.getElem?_map, List.getElem?_eq_getElem h, List.getD_eq_getElem?_getD, List.getElem?_eq_getElem h]; rfl
theorem wc_get (W : List Int) (i : Nat) (h : i < W.length) : (wc W)[i]? = some (.int .u32 (W.getD i 0)) := by
  unfold wc u32s; rw [List.getElem?_toArray]; exact get_map .u32 W i h
theorem wc_set (W : List Int) (i : Nat) (v : Int) : (wc W).setIfInBounds i (.int .u32 v) = wc (W.set i v) := by
  unfold wc u32s; simp [List.map_set]
theorem hc_state (S B : List Int) (f z : Int) (i : Nat) (h : i < S.length) : (hc S B f z)[i]? = some (.int .u32 (S.getD i 0)) := by
  unfold hc; rw [List.getElem?_toArray, List.getElem?_append_left (by rw [len_u32s]; exact h)]; exact get_map .u32 S i h
theorem hc_block (S B : List Int) (f z : Int) (i : Nat) (h : i < B.length) : (hc S B f z)[S.length + i]? = some (.int .u8 (B.getD i 0)) := by
  unfold hc
  rw [List.getElem?_toArray, List.getElem?_append_right (by rw [len_u32s]; omega), len_u32s, show S.length + i - S.length = i from by omega, List.getElem?_append_left (by rw [len_u8s]; exact h)]
  exact get_map .u8 B i h
theorem hc_fill (S B : List Int) (f z : Int) : (hc S B f z)[S.length + B.length]? = some (.int .i64 f) := by
  unfold hc
  rw [List.getElem?_toArray, List.getElem?_append_right (by rw [len_u32s]; omega), len_u32s, List.getElem?_append_right (by rw [len_u8s]; omega), len_u8s, show S.length + B.length - S.length - B.length = 0 from by omega]
  rfl
theorem hc_size (S B : List Int) (f z : Int) : (hc S B f z)[S.length + B.length + 1]? = some (.int .u64 z) := by
  unfold hc
  rw [List.getElem?_toArray, List.getElem?_append_right (by rw [len_u32s]; omega), len_u32s, List.getElem?_append_right (by rw [len_u8s]; omega), len_u8s, show S.length + B.length + 1 - S.length - B.length = 1 from by omega]
  rfl
theorem hc_set_state (S B : List Int) (f z : Int) (i : Nat) (v : Int) (h : i < S.length) : (hc S B f z).setIfInBounds i (.int .u32 v) = hc (S.set i v) B f z := by
  unfold hc u32s; simp [List.map_set, List.set_append, h]
theorem hc_set_fill (S B : List Int) (f z v : Int) : (hc S B f z).setIfInBounds (S.length + B.length) (.int .i64 v) = hc S B v z := by
  unfold hc
  simp only [List.setIfInBounds_toArray]
  rw [List.set_append, if_neg (by rw [len_u32s]; omega), len_u32s, List.set_append, if_neg (by rw [len_u8s]; omega), len_u8s, show S.length + B.length - S.length - B.length = 0 from by omega]
  rfl
theorem hc_set_size (S B : List Int) (f z v : Int) : (hc S B f z).setIfInBounds (S.length + B.length + 1) (.int .u64 v) = hc S B f v := by
  unfold hc
  simp only [List.setIfInBounds_toArray]
  rw [List.set_append, if_neg (by rw [len_u32s]; omega), len_u32s, List.set_append, if_neg (by rw [len_u8s]; omega), len_u8s, show S.length + B.length + 1 - S.length - B.length = 1 from by omega]
  rfl
theorem W1_len (B : List Int) (t : Nat) : (W1 B t).length = 64 := by simp [W1]
theorem W2_len (B : List Int) : ∀ n, (W2 B n).length = 64
  | 0 => W1_len B 16
  | n + 1 => by rw [W2, List.length_set, W2_len B n]
theorem addS_len (S V : List Int) (n : Nat) : (addS S V n).length = 8 := by simp [addS]
theorem K64_len : K64.length = 64 := by rfl
theorem getD_set (l : List Int) (i j : Nat) (v : Int) (h : i < l.length) : (l.set i v).getD j 0 = if i = j then v else l.getD j 0 := by
  rw [List.getD_eq_getElem?_getD, List.getElem?_set]
  split
  · rename_i e; subst e; simp [h]
  · rw [List.getD_eq_getElem?_getD]
theorem W1_get (B : List Int) (t i : Nat) (h : i < 64) : (W1 B t).getD i 0 = if i < t then word B i 4 else 0 := by
  unfold W1; rw [List.getD_eq_getElem?_getD, List.getElem?_map, List.getElem?_range h]; rfl
theorem W1_succ (B : List Int) (t : Nat) (h : t < 64) : (W1 B t).set t (word B t 4) = W1 B (t + 1) := by
  apply List.ext_getElem
  · simp [W1]
  · intro i h1 h2
    rw [List.length_set, W1_len] at h1
    simp only [W1, List.getElem_set, List.getElem_map, List.getElem_range]
    by_cases e : t = i
    · subst e; simp
    · rw [if_neg e]
      by_cases c : i < t
      · rw [if_pos c, if_pos (by omega)]
      · rw [if_neg c, if_neg (by omega)]
theorem W1_self (B : List Int) (t : Nat) (h : t < 64) : (W1 B t).set t (word B t 0) = W1 B t := by
  apply List.ext_getElem
  · simp
  · intro i h1 h2
    simp only [W1, List.getElem_set, List.getElem_map, List.getElem_range, word]
    by_cases e : t = i
    · subst e; simp
    · rw [if_neg e]
theorem addS_get (S V : List Int) (n i : Nat) (h : i < 8) : (addS S V n).getD i 0 = if i < n then a32 (S.getD i 0) (V.getD i 0) else S.getD i 0 := by
  unfold addS; rw [List.getD_eq_getElem?_getD, List.getElem?_map, List.getElem?_range h]; rfl
theorem addS_zero (S V : List Int) (h : S.length = 8) : addS S V 0 = S := by
  apply List.ext_getElem
  · rw [addS_len, h]
  · intro i h1 h2
    simp only [addS, List.getElem_map, List.getElem_range]
    rw [if_neg (by omega), List.getD_eq_getElem?_getD, List.getElem?_eq_getElem h2]; rfl
theorem addS_succ (S V : List Int) (n : Nat) (h : n < 8) : (addS S V n).set n (a32 ((addS S V n).getD n 0) (V.getD n 0)) = addS S V (n + 1) := by
  rw [addS_get _ _ _ _ h, if_neg (by omega)]
  apply List.ext_getElem
  · simp [addS]
  · intro i h1 h2
    simp only [addS, List.getElem_set, List.getElem_map, List.getElem_range]
    by_cases e : n = i
    · subst e; simp
    · rw [if_neg e]
      by_cases c : i < n
      · rw [if_pos c, if_pos (by omega)]
      · rw [if_neg c, if_neg (by omega)]
theorem mixS_len (S B : List Int) : (mixS S B).length = 8 := addS_len _ _ _
/-! ### What is written, and the state behind it -/
def H8 : List Int := [0x6a09e667, 0xbb67ae85, 0x3c6ef372, 0xa54ff53a, 0x510e527f, 0x9b05688c, 0x1f83d9ab, 0x5be0cd19]
def blk (M : List Int) (n : Nat) : List Int := (M.drop (64 * n)).take 64
def stB (M : List Int) : Nat → List Int
  | 0 => H8
  | n + 1 => mixS (stB M n) (blk M n)
theorem stB_len (M : List Int) : ∀ n, (stB M n).length = 8
  | 0 => rfl
  | n + 1 => mixS_len _ _
theorem blk_app (M X : List Int) (n : Nat) (h : 64 * (n + 1) ≤ M.length) : blk (M ++ X) n = blk M n := by
  unfold blk
  rw [List.drop_append_of_le_length (by omega), List.take_append_of_le_length (by rw [List.length_drop]; omega)]
theorem stB_app (M X : List Int) : ∀ n, 64 * n ≤ M.length → stB (M ++ X) n = stB M n
  | 0, _ => rfl
  | n + 1, h => by rw [stB, stB, stB_app M X n (by omega), blk_app M X n (by omega)]
/-- State, block and fill that stand for what was written. -/
structure Inv (M S B : List Int) (fl : Nat) : Prop where
  s : S = stB M (M.length / 64)
  l : B.length = 64
  f : fl = M.length % 64
  b : B.take fl = M.drop (64 * (M.length / 64))
theorem Inv.nil (B : List Int) (h : B.length = 64) : Inv [] H8 B 0 := ⟨rfl, h, rfl, rfl⟩
def spl (B X : List Int) (f : Nat) : List Int := B.take f ++ X ++ B.drop (f + X.length)
theorem spl_len (B X : List Int) (f : Nat) (h : f + X.length ≤ B.length) : (spl B X f).length = B.length := by
  unfold spl; simp; omega
theorem Inv.part {M S B X : List Int} {f : Nat} (q : Inv M S B f) (h : f + X.length < 64) : Inv (M ++ X) S (spl B X f) (f + X.length) := by
  have hl := q.l
  have hf := q.f
  have e : (M ++ X).length / 64 = M.length / 64 := by rw [List.length_append]; omega
  refine ⟨?_, ?_, ?_, ?_⟩
  · rw [e, stB_app _ _ _ (by omega)]; exact q.s
  · rw [spl_len _ _ _ (by omega)]; exact hl
  · rw [List.length_append]; omega
  · rw [e, List.drop_append_of_le_length (by omega), ← q.b]
    unfold spl
    rw [List.take_append_of_le_length (by rw [List.length_append, List.length_take]; omega), List.take_of_length_le (by rw [List.length_append, List.length_take]; omega)]
theorem Inv.full {M S B X : List Int} {f : Nat} (q : Inv M S B f) (h : f + X.length = 64) : Inv (M ++ X) (mixS S (spl B X f)) (spl B X f) 0 := by
  have hl := q.l
  have hf := q.f
  have e : (M ++ X).length / 64 = M.length / 64 + 1 := by rw [List.length_append]; omega
  refine ⟨?_, ?_, ?_, ?_⟩
  · rw [e, stB, stB_app _ _ _ (by omega), ← q.s]
    congr 1
    unfold blk spl
    rw [List.drop_append_of_le_length (by omega), ← q.b, show B.drop (f + X.length) = [] from List.drop_eq_nil_of_le (by omega), List.append_nil]
    exact (List.take_of_length_le (by rw [List.length_append, List.length_take]; omega)).symm
  · rw [spl_len _ _ _ (by omega)]; exact hl
  · rw [List.length_append]; omega
  · rw [e, List.drop_eq_nil_of_le (by rw [List.length_append]; omega)]; rfl
/-- The bytes of a text. -/
def bI (s : ByteArray) : List Int := s.data.toList.map fun b => (b.toNat : Int)
theorem bI_len (s : ByteArray) : (bI s).length = s.size := by unfold bI; rw [List.length_map, Array.length_toList]; rfl
theorem bI_extract (s : ByteArray) (n : Nat) (h : n ≤ s.size) : (bI s).take n ++ bI (s.extract n s.size) = bI s := by
  have e : bI (s.extract n s.size) = (bI s).drop n := by
    unfold bI
    rw [ByteArray.data_extract]
    rw [Array.toList_extract, List.extract_eq_take_drop]
    rw [← List.map_drop, List.take_of_length_le (by rw [List.length_drop, Array.length_toList]; exact Nat.le_refl _)]
  rw [e, List.take_append_drop]
theorem hc_splice (S B X : List Int) (f : Nat) (a z : Int) (hS : S.length = 8) (h : f + X.length ≤ B.length) :
    ((hc S B a z).toList.take (8 + f) ++ X.map (Value.int .u8) ++ (hc S B a z).toList.drop (8 + f + X.length)).toArray = hc S (spl B X f) a z := by
  unfold hc
  have e1 : (u32s S).length = 8 := by rw [len_u32s, hS]
  have e2 : (u8s B).length = B.length := len_u8s B
  have t1 : (u32s S ++ (u8s B ++ [Value.int .i64 a, Value.int .u64 z])).take (8 + f) = u32s S ++ u8s (B.take f) := by
    rw [List.take_append, List.take_of_length_le (by omega), e1, show 8 + f - 8 = f from by omega, List.take_append_of_le_length (by omega)]
    unfold u8s; rw [List.map_take]
  have t2 : (u32s S ++ (u8s B ++ [Value.int .i64 a, Value.int .u64 z])).drop (8 + f + X.length) = u8s (B.drop (f + X.length)) ++ [Value.int .i64 a, Value.int .u64 z] := by
    rw [List.drop_append, List.drop_eq_nil_of_le (by omega), e1, show 8 + f + X.length - 8 = f + X.length from by omega, List.nil_append, List.drop_append_of_le_length (by omega)]
    unfold u8s; rw [List.map_drop]
  rw [List.toList_toArray, t1, t2]
  congr 1
  unfold spl u8s
  simp [List.map_append, List.append_assoc]
theorem bI_take (s : ByteArray) (n : Nat) : (s.data.toList.take n).map (fun b => Value.int .u8 (b.toNat : Int)) = ((bI s).take n).map (Value.int .u8) := by
  unfold bI; rw [← List.map_take, List.map_map]; rfl
/-! ### The end of a text, and the sum's bytes -/
def padb (z : Int) (i : Nat) : Int := IntKind.u64.wrap (z * 8) / 2 ^ (56 - 8 * i) % 256
def tl (n : Nat) (z : Int) : Nat → List Int
  | 0 => 128 :: List.replicate 71 0
  | i + 1 => (tl n z i).set (n + i) (padb z i)
theorem tl_len (n : Nat) (z : Int) : ∀ i, (tl n z i).length = 72
  | 0 => by simp [tl]
  | i + 1 => by rw [tl, List.length_set, tl_len n z i]
def padn (f : Nat) : Nat := 64 - (f + 8) % 64
def tail (f : Nat) (z : Int) : List Int := (tl (padn f) z 8).take (padn f + 8)
theorem tail_len (f : Nat) (z : Int) : (tail f z).length = padn f + 8 := by
  unfold tail; rw [List.length_take, tl_len]; unfold padn; omega
def obyte (S : List Int) (m : Nat) : Int := S.getD (m / 4) 0 / 2 ^ (24 - 8 * (m % 4)) % 256
def outN (S : List Int) : Nat → List Int
  | 0 => List.replicate 32 0
  | m + 1 => (outN S m).set m (obyte S m)
theorem outN_len (S : List Int) : ∀ m, (outN S m).length = 32
  | 0 => by simp [outN]
  | m + 1 => by rw [outN, List.length_set, outN_len S m]
def bc (L : List Int) : Array Value := (u8s L).toArray
theorem bc_get (L : List Int) (i : Nat) (h : i < L.length) : (bc L)[i]? = some (.int .u8 (L.getD i 0)) := by
  unfold bc u8s; rw [List.getElem?_toArray]; exact get_map .u8 L i h
theorem bc_set (L : List Int) (i : Nat) (v : Int) : (bc L).setIfInBounds i (.int .u8 v) = bc (L.set i v) := by
  unfold bc u8s; simp [List.map_set]
/-- The state behind a text with its end. -/
def fin (M : List Int) (z : Int) : List Int := stB (M ++ tail (M.length % 64) z) ((M.length + padn (M.length % 64) + 8) / 64)
theorem fin_len (M : List Int) (z : Int) : (fin M z).length = 8 := stB_len _ _
theorem padn_full (n : Nat) : (n + padn (n % 64) + 8) % 64 = 0 := by unfold padn; omega
/-- The sum of a text. -/
def shaB (M : List Int) (z : Int) : ByteArray := Go.strOfNums (outN (fin M z) 32)
theorem bI_str (L : List Int) (h : ∀ x ∈ L, 0 ≤ x ∧ x ≤ 255) : bI (Go.strOfNums L) = L := by
  unfold bI Go.strOfNums
  rw [List.map_map]
  conv => rhs; rw [← List.map_id L]
  refine List.map_congr_left fun x hx => ?_
  have := h x hx
  simp only [Function.comp, id]
  rw [UInt8.toNat_ofNat']
  omega
theorem tl_range (n : Nat) (z : Int) : ∀ i, ∀ x ∈ tl n z i, 0 ≤ x ∧ x ≤ 255
  | 0, x, h => by
    simp only [tl, List.mem_cons, List.mem_replicate] at h
    rcases h with h | ⟨_, h⟩ <;> omega
  | i + 1, x, h => by
    rw [tl] at h
    rcases List.mem_or_eq_of_mem_set h with h | h
    · exact tl_range n z i x h
    · subst h; unfold padb; omega
theorem tail_range (f : Nat) (z : Int) : ∀ x ∈ tail f z, 0 ≤ x ∧ x ≤ 255 := fun x h => tl_range _ z 8 x (List.mem_of_mem_take h)
end Go.Proofs.YtcghicmdphfodaaDoor.Sha
