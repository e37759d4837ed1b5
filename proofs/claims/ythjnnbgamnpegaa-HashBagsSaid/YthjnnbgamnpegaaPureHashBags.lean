/- massiflaw07.HashBags answers true for every strength and every list of texts that a call may be handed. No further condition. -/
import Derived.Test.YthjnnbgamnpegaaQHashBags
set_option linter.unusedVariables false
namespace Go.Proofs.Ythjnnbgamnpegaa.Pure
open Go Go.RowKit Go.Proofs.Ythjnnbgamnpegaa.PHashBags Go.Proofs.YthjnnbgamnpegaaW.PrintWords Go.Proofs.YthjnnbgamnpegaaW.PrintLast Go.Proofs.Ythjnnbgamnpegaa
theorem loop_bags (k : Int) (l : List ByteArray) (hl : ∀ s ∈ l, s.size ≤ 140737488351232) (hll : l.length ≤ 140737488351232) :
    ∀ (i K : Nat), l.length + i < K → i < l.length → massiflaw07_HashBags.l0 K k l ((i : Int) - 1) = some true := by
  intro i
  induction i with
  | zero =>
    intro K hK hi
    obtain ⟨K, rfl⟩ : ∃ m, K = m + 1 := ⟨K - 1, by omega⟩
    have e : ((l.length : Int) - 1) = ((l.length - 1 : Nat) : Int) := by omega
    have hd : l.drop (l.length - 1) = [l[l.length - 1]] := by
      rw [List.drop_eq_getElem_cons (by omega), show l.length - 1 + 1 = l.length from by omega, List.drop_length]
    rw [massiflaw07_HashBags.l0, if_neg (by omega), IntWalk.wrap64_in _ (by omega), if_pos (by omega), if_pos (by omega), e, Int.toNat_natCast, hd, hash_Bagged.is K k [l[l.length - 1]] 140737488351232 (by omega) (Nat.le_refl _) (fun s hs => by rw [List.mem_singleton.1 hs]; exact hl _ (List.getElem_mem _)) (by simp) (by simp; omega)]
    simp only [Option.bind_some, MH.bag_one]
    have hb := MH.bag_size k 140737488351232 (by omega) l hl
    rw [if_pos (by simp), if_pos (by unfold rdOf; simp), hash_Root.is K k 7 l 140737488351232 (by omega) (Nat.le_refl _) hl hll (by omega), hash_Bagged.is K k l 140737488351232 (by omega) (Nat.le_refl _) hl hll (by omega)]
    simp only [Option.bind_some]
    rw [hash_RootText.is 7 _ (by omega)]
    simp only [Option.bind_some]
    rw [hash_Of.is k _ (by rw [MH.rootT_size]; omega)]
    simp [MH.rootD]
  | succ i ih =>
    intro K hK hi
    obtain ⟨K, rfl⟩ : ∃ m, K = m + 1 := ⟨K - 1, by omega⟩
    have e0 : (((i + 1 : Nat) : Int) - 1) = (i : Int) := by omega
    have hil : i < l.length := by omega
    have hd : l.drop i = l[i] :: l.drop (i + 1) := List.drop_eq_getElem_cons hil
    have hd1 : l.drop (i + 1) = l[i + 1] :: l.drop (i + 2) := List.drop_eq_getElem_cons hi
    have hx : rdOf ByteArray.empty l (i : Int) = l[i] := by unfold rdOf; simp [hil]
    have hm : ∀ j, ∀ s ∈ l.drop j, s.size ≤ 140737488351232 := fun j s hs => hl s (List.mem_of_mem_drop hs)
    have hb := MH.bag_size k 140737488351232 (by omega) (l.drop (i + 1)) (hm _)
    have hs := hl l[i] (List.getElem_mem hil)
    have ew : wrap64 ((i : Int) + 1) = ((i + 1 : Nat) : Int) := by rw [IntWalk.wrap64_in _ (by omega)]; omega
    rw [e0, massiflaw07_HashBags.l0, if_pos (by omega), if_pos (by omega), if_pos (by omega), Int.toNat_natCast, hash_Bagged.is K k (l.drop i) 140737488351232 (by omega) (Nat.le_refl _) (hm _) (by rw [List.length_drop]; omega) (by rw [List.length_drop]; omega)]
    simp only [Option.bind_some]
    rw [if_pos (by omega), ew, if_pos (by omega), if_pos (by omega), Int.toNat_natCast, hash_Bagged.is K k (l.drop (i + 1)) 140737488351232 (by omega) (Nat.le_refl _) (hm _) (by rw [List.length_drop]; omega) (by rw [List.length_drop]; omega)]
    simp only [Option.bind_some]
    rw [hx, hash_BagText.is _ _ (by omega)]
    simp only [Option.bind_some]
    rw [hash_Of.is k _ (by rw [MH.bagT_size]; omega)]
    simp only [Option.bind_some]
    rw [IntWalk.wrap64_in _ (by omega), if_pos (by rw [hd, hd1, MH.bag_two])]
    exact ih K (by omega) (by omega)
theorem HashBags : ∀ (a0 : Int) (l1 : List ByteArray), (Lit.int .i64 a0).wf = true → l1.length * 16 ≤ 140737488351232 → (∀ s ∈ l1, s.size ≤ 140737488351232) → ∃ k, massiflaw07_HashBags.f k a0 l1 = some true := by
  intro a l _ hll hl
  refine ⟨2 * l.length + 10, ?_⟩
  unfold massiflaw07_HashBags.f
  rw [massiflaw07_alive.is _ (by omega)]
  simp only [Option.bind_some, if_true]
  by_cases h0 : l = []
  · subst h0
    rw [if_pos (by simp), hash_Bagged.is _ a [] 140737488351232 (by omega) (Nat.le_refl _) hl (by simp) (by simp)]
    simp only [Option.bind_some, MH.bag]
    decide +kernel
  · have hp : 0 < l.length := List.length_pos_iff.2 h0
    rw [if_neg (by omega), IntWalk.wrap64_in _ (by omega)]
    have := loop_bags a l hl (by omega) (l.length - 1) (2 * l.length + 10) (by omega) (by omega)
    rw [show ((l.length - 1 : Nat) : Int) - 1 = (l.length : Int) - 2 from by omega] at this
    exact this
end Go.Proofs.Ythjnnbgamnpegaa.Pure
