/- massiflaw01.ShaOf answers true for every list of parts whose lengths together are at most 1048576. No further condition. -/
import Derived.Test.YtcghicmdphfodaaDoorPShaOfx
import Derived.Test.YtcghicmdphfodaaDoorMB
set_option linter.unusedVariables false
namespace Go.Proofs.YtcghicmdphfodaaDoor.Pure
open Go Go.RowKit Go.Proofs.YtcghicmdphfodaaDoor.PShaOf Go.Proofs.YtcghicmdphfodaaDoorW.PrintWords Go.Proofs.YtcghicmdphfodaaDoorW.PrintLast Go.Proofs.YtcghicmdphfodaaDoor
/-- The bytes of a list's texts. -/
def tot (l : List ByteArray) : Nat := (l.flatMap Sha.bI).length
theorem tot_le (l : List ByteArray) (i : Nat) : tot (l.take i) ≤ tot l := by
  unfold tot
  conv => rhs; rw [← List.take_append_drop i l]
  rw [List.flatMap_append, List.length_append]; omega
theorem tot_sum : ∀ l : List ByteArray, tot l = (l.map ByteArray.size).sum
  | [] => rfl
  | s :: l => by
    have ih := tot_sum l
    unfold tot at ih ⊢
    rw [List.flatMap_cons, List.length_append, ih, Sha.bI_len, List.map_cons, List.sum_cons]
theorem tot_rev (l : List ByteArray) : tot l.reverse = tot l := by rw [tot_sum, tot_sum, List.map_reverse, List.sum_reverse]
theorem tot_mem (l : List ByteArray) (s : ByteArray) (h : s ∈ l) : s.size ≤ tot l := by
  obtain ⟨a, b, e⟩ := List.append_of_mem h
  rw [e, tot_sum, List.map_append, List.sum_append, List.map_cons, List.sum_cons]; omega
theorem flat_succ (l : List ByteArray) (i : Nat) (h : i < l.length) : (l.take (i + 1)).flatMap Sha.bI = (l.take i).flatMap Sha.bI ++ Sha.bI l[i] := by
  rw [List.take_succ_eq_append_getElem h, List.flatMap_append]; simp
theorem rd_is (l : List ByteArray) (i : Nat) (h : i < l.length) : rdOf ByteArray.empty l (i : Int) = l[i] := by unfold rdOf; simp [h]
theorem sha_is (l : List ByteArray) (h : tot l ≤ 1048576) : sha_Of.f l = some (Sha.sha (l.flatMap Sha.bI)) := by
  unfold sha_Of.f
  rw [if_pos (List.all_eq_true.2 fun s hs => decide_eq_true (by have := tot_mem l s hs; omega))]
theorem ref_is (x : ByteArray) (M : List Int) (h : Sha.bI x = M) (hM : M.length ≤ 1048576) : massifref01_Of.f [x] = some (Sha.sha M) := by
  unfold massifref01_Of.f
  rw [show ([x] : List ByteArray).flatMap Sha.bI = M from by simp [h], if_pos (by omega)]
theorem fixed_true : massiflaw01_fixed.f = some true := by decide +kernel
def m1 : ByteArray := ⟨#[109, 97, 114, 107, 32, 111, 110, 101]⟩
def m2 : ByteArray := ⟨#[109, 97, 114, 107, 32, 116, 119, 111]⟩
/-- Turned around as far as i. -/
def half (l : List ByteArray) (i : Nat) : List ByteArray := l.reverse.take i ++ l.drop i ++ [m1, m2]
theorem half_len (l : List ByteArray) (i : Nat) (h : i ≤ l.length) : (half l i).length = l.length + 2 := by unfold half; simp; omega
theorem half_set (l : List ByteArray) (i : Nat) (h : i < l.length) : (half l i).set i l[l.length - 1 - i] = half l (i + 1) := by
  have hr : i < l.reverse.length := by simpa using h
  have e : l.reverse[i] = l[l.length - 1 - i] := by rw [List.getElem_reverse]
  unfold half
  rw [List.set_append_left _ _ (by simp; omega), List.set_append_right _ _ (by simp; omega)]
  rw [show i - (l.reverse.take i).length = 0 from by simp; omega]
  rw [List.drop_eq_getElem_cons h, List.set_cons_zero, List.take_succ_eq_append_getElem hr, e]
  simp
theorem half_get (l : List ByteArray) (i : Nat) (h : i < l.length) : (half l (i + 1))[i]? = some l[l.length - 1 - i] := by
  rw [← half_set l i h, List.getElem?_set_self (by rw [half_len l i (by omega)]; omega)]
theorem loop2 (l : List ByteArray) (hl : l.length ≤ 1048576) (ht : tot l ≤ 1048576) : ∀ (r i K : Nat) (x : ByteArray), i + r = l.length → r < K → Sha.bI x = (l.reverse.take i).flatMap Sha.bI → massiflaw01_ShaOf.l2 K l (l.length : Int) (half l i) x (i : Int) = some true := by
  intro r
  induction r with
  | zero =>
    intro i K x hi hK hx
    obtain ⟨K, rfl⟩ : ∃ m, K = m + 1 := ⟨K - 1, by omega⟩
    have e : i = l.length := by omega
    subst e
    have e2 : (half l l.length).take l.length = l.reverse := by
      unfold half
      rw [List.drop_length, List.append_nil, List.take_of_length_le (show l.reverse.length ≤ l.length by simp)]
      exact List.take_left' (by simp)
    have hx2 : Sha.bI x = l.reverse.flatMap Sha.bI := by rw [hx, List.take_of_length_le (by simp)]
    have hM : (l.reverse.flatMap Sha.bI).length ≤ 1048576 := by have := tot_rev l; unfold tot at this ht; omega
    rw [massiflaw01_ShaOf.l2, if_neg (by omega), if_pos (by omega), if_pos (by rw [half_len _ _ (Nat.le_refl _)]; omega), Int.toNat_natCast, e2, sha_is _ (by rw [tot_rev]; exact ht)]
    simp only [Option.bind_some]
    rw [ref_is x _ hx2 hM]
    simp
  | succ r ih =>
    intro i K x hi hK hx
    obtain ⟨K, rfl⟩ : ∃ m, K = m + 1 := ⟨K - 1, by omega⟩
    have hil : i < l.length := by omega
    have ew : wrap64 ((wrap64 ((l.length : Int) - 1)) - (i : Int)) = ((l.length - 1 - i : Nat) : Int) := by rw [MB.wrap64_in ((l.length : Int) - 1) (by omega) (by omega), MB.wrap64_in _ (by omega) (by omega)]; omega
    have hj : l.length - 1 - i < l.length := by omega
    have hr : i < l.reverse.length := by simpa using hil
    have e : l.reverse[i] = l[l.length - 1 - i] := by rw [List.getElem_reverse]
    have hx2 : Sha.bI (x ++ l[l.length - 1 - i]) = (l.reverse.take (i + 1)).flatMap Sha.bI := by rw [flat_succ _ _ hr, e, Sha.bI_append, hx]
    have hsz : x.size + l[l.length - 1 - i].size ≤ 1048576 := by
      have h1 := tot_le l.reverse (i + 1)
      rw [tot_rev] at h1
      unfold tot at h1 ht
      rw [← hx2, Sha.bI_append, List.length_append, Sha.bI_len, Sha.bI_len] at h1
      omega
    have hg : rdOf ByteArray.empty (half l (i + 1)) (i : Int) = l[l.length - 1 - i] := by
      unfold rdOf; rw [Int.toNat_natCast, List.getD_eq_getElem?_getD, half_get l i hil]; rfl
    rw [massiflaw01_ShaOf.l2, if_pos (by omega), ew, if_pos (by omega), if_pos (by omega), if_pos (by omega), if_pos (by rw [half_len _ _ (by omega)]; omega)]
    simp only [Option.bind_some]
    rw [Int.toNat_natCast, rd_is l _ hj, half_set l i hil, hg, if_pos (by omega), MB.wrap64_in _ (by omega) (by omega)]
    exact ih (i + 1) K _ (by omega) (by omega) hx2
theorem half0_get (l : List ByteArray) (i : Nat) (h : i < l.length) : rdOf ByteArray.empty (half l 0) (i : Int) = l[i] := by
  unfold rdOf half
  rw [Int.toNat_natCast, List.getD_eq_getElem?_getD, List.take_zero, List.drop_zero, List.nil_append, List.getElem?_append_left h, List.getElem?_eq_getElem h]; rfl
theorem loop1 (l : List ByteArray) (hl : l.length ≤ 1048576) (ht : tot l ≤ 1048576) : ∀ (r i K : Nat), i + r = l.length → r + l.length + 1 < K → massiflaw01_ShaOf.l1 K l (l.length : Int) (half l 0) (i : Int) = some true := by
  intro r
  induction r with
  | zero =>
    intro i K hi hK
    obtain ⟨K, rfl⟩ : ∃ m, K = m + 1 := ⟨K - 1, by omega⟩
    rw [massiflaw01_ShaOf.l1, if_neg (by omega)]
    exact loop2 l hl ht l.length 0 K _ (by omega) (by omega) rfl
  | succ r ih =>
    intro i K hi hK
    obtain ⟨K, rfl⟩ : ∃ m, K = m + 1 := ⟨K - 1, by omega⟩
    have hil : i < l.length := by omega
    rw [massiflaw01_ShaOf.l1, if_pos (by omega), if_pos (by omega), if_pos (by rw [half_len _ _ (by omega)]; omega), if_pos (by omega), half0_get l i hil, rd_is l i hil, if_pos rfl, MB.wrap64_in _ (by omega) (by omega)]
    exact ih (i + 1) K (by omega) (by omega)
theorem half_mark (l : List ByteArray) : rdOf ByteArray.empty (half l 0) (l.length : Int) = m1 ∧ rdOf ByteArray.empty (half l 0) ((l.length + 1 : Nat) : Int) = m2 := by
  unfold rdOf half
  constructor
  · rw [Int.toNat_natCast, List.getD_eq_getElem?_getD, List.take_zero, List.drop_zero, List.nil_append, List.getElem?_append_right (Nat.le_refl _), Nat.sub_self]; rfl
  · rw [Int.toNat_natCast, List.getD_eq_getElem?_getD, List.take_zero, List.drop_zero, List.nil_append, List.getElem?_append_right (by omega), show l.length + 1 - l.length = 1 from by omega]; rfl
theorem loop0 (l : List ByteArray) (hl : l.length ≤ 1048576) (ht : tot l ≤ 1048576) : ∀ (r i K : Nat) (x : ByteArray), i + r = l.length → r + 2 * l.length + 4 < K → Sha.bI x = (l.take i).flatMap Sha.bI → massiflaw01_ShaOf.l0 K l (l.length : Int) (half l 0) x (i : Int) = some true := by
  intro r
  induction r with
  | zero =>
    intro i K x hi hK hx
    obtain ⟨K, rfl⟩ : ∃ m, K = m + 2 := ⟨K - 2, by omega⟩
    have hx2 : Sha.bI x = l.flatMap Sha.bI := by rw [hx, List.take_of_length_le (by omega)]
    have hM : (l.flatMap Sha.bI).length ≤ 1048576 := ht
    have e2 : (half l 0).take l.length = l := by unfold half; rw [List.take_zero, List.drop_zero, List.nil_append]; exact List.take_left' rfl
    obtain ⟨h1, h2⟩ := half_mark l
    have ew : wrap64 ((l.length : Int) + 1) = ((l.length + 1 : Nat) : Int) := by rw [MB.wrap64_in _ (by omega) (by omega)]; omega
    rw [massiflaw01_ShaOf.l0, if_neg (by omega), if_pos (by omega), if_pos (by rw [half_len _ _ (by omega)]; omega), Int.toNat_natCast, e2, sha_is l ht]
    simp only [Option.bind_some]
    rw [ref_is x _ hx2 hM]
    simp only [Option.bind_some]
    rw [if_pos trivial, if_pos (by rw [half_len _ _ (by omega)]; omega), h1, if_pos (by decide +kernel), ew, if_pos (by omega), if_pos (by rw [half_len _ _ (by omega)]; omega), h2]
    rw [massiflaw01_ShaOf.j1, if_neg (by decide +kernel)]
    exact loop1 l hl ht l.length 0 K (by omega) (by omega)
  | succ r ih =>
    intro i K x hi hK hx
    obtain ⟨K, rfl⟩ : ∃ m, K = m + 1 := ⟨K - 1, by omega⟩
    have hil : i < l.length := by omega
    have hx2 : Sha.bI (x ++ l[i]) = (l.take (i + 1)).flatMap Sha.bI := by rw [flat_succ _ _ hil, Sha.bI_append, hx]
    have hsz : x.size + l[i].size ≤ 1048576 := by
      have h1 := tot_le l (i + 1)
      unfold tot at h1 ht
      rw [← hx2, Sha.bI_append, List.length_append, Sha.bI_len, Sha.bI_len] at h1
      omega
    rw [massiflaw01_ShaOf.l0, if_pos (by omega), if_pos (by omega), if_pos (by omega), rd_is l i hil, if_pos (by omega), MB.wrap64_in _ (by omega) (by omega)]
    exact ih (i + 1) K _ (by omega) (by omega) hx2
theorem ShaOf (l : List ByteArray) (hl : l.length ≤ 1048576) (ht : (l.map ByteArray.size).sum ≤ 1048576) : massiflaw01_ShaOf.f (3 * l.length + 10) l = some true := by
  rw [← tot_sum] at ht
  unfold massiflaw01_ShaOf.f
  rw [fixed_true]
  simp only [Option.bind_some, if_true]
  have e : massiflaw01_texts.f l = some (half l 0) := by
    unfold massiflaw01_texts.f
    rw [if_pos (by simp; omega)]
    simp only [Option.bind_some]
    rw [if_pos (by simp; omega)]
    rfl
  rw [e]
  simp only [Option.bind_some]
  exact loop0 l hl ht l.length 0 _ _ (by omega) (by omega) rfl
end Go.Proofs.YtcghicmdphfodaaDoor.Pure
