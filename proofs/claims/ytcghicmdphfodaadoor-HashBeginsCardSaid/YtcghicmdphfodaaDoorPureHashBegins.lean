/- massiflaw07.HashBegins answers true for every pair of strengths and every text that a call may be handed. No further condition. -/
import Derived.Test.YtcghicmdphfodaaDoorQHashBegins
set_option linter.unusedVariables false
namespace Go.Proofs.YtcghicmdphfodaaDoor.Pure
open Go Go.RowKit Go.Proofs.YtcghicmdphfodaaDoor.PHashBegins Go.Proofs.YtcghicmdphfodaaDoorW.PrintWords Go.Proofs.YtcghicmdphfodaaDoorW.PrintLast Go.Proofs.YtcghicmdphfodaaDoor
theorem ext_ext (S : ByteArray) (m n : Nat) (h : n ≤ m) : (S.extract 0 m).extract 0 n = S.extract 0 n := by
  apply ByteArray.ext
  simp only [ByteArray.data_extract]
  apply Array.ext'
  simp only [Array.toList_extract, List.extract_eq_take_drop, List.drop_zero, Nat.sub_zero, List.take_take]
  rw [Nat.min_eq_left h]
theorem ext_all (S : ByteArray) (n : Nat) (h : S.size ≤ n) : S.extract 0 n = S := by
  apply ByteArray.ext
  simp only [ByteArray.data_extract]
  apply Array.ext'
  simp only [Array.toList_extract, List.extract_eq_take_drop, List.drop_zero, Nat.sub_zero]
  exact List.take_of_length_le (by rw [Array.length_toList]; exact h)
theorem begins_join (k : Nat) (a b c : Int) (s : ByteArray) (hs : s.size ≤ 140737488351232) (h : MH.hK b ≤ MH.hK c) : massiflaw07_HashBegins.j0 (k + 1) a s (MH.dig b s) (MH.dig c s) = some true := by
  have hz := MH.sha_size (Sha.bI s)
  have e1 : (MH.dig c s).extract 0 (MH.hK b) = MH.dig b s := ext_ext _ _ _ h
  have e2 : MH.dig 32 s = Sha.sha (Sha.bI s) := ext_all _ _ (by rw [hz]; decide)
  have e3 : (MH.dig 32 s).extract 0 (MH.hK c) = MH.dig c s := by rw [e2]; rfl
  have h1 := MH.hK_in b
  have h2 := MH.hK_in c
  have h32 : MH.hK 32 = 32 := by decide
  rw [massiflaw07_HashBegins.j0, hash_Of.is 32 s (by omega)]
  simp only [Option.bind_some]
  rw [MH.dig_size, MH.dig_size, if_pos (by omega), if_pos (by omega), Int.toNat_natCast, Int.toNat_natCast, e1, if_pos rfl, massifref01_Of.is1 s (by omega)]
  simp only [Option.bind_some]
  rw [if_pos (by rw [e2]), if_pos (by omega), MH.dig_size, if_pos (by rw [h32]; omega), e3, if_pos rfl]
  have hn : ∀ x : Int, (hash_Of.f x s).bind (fun t => some (decide ((t.size : Int) ≥ 1))) = some true := fun x => by
    have h3 := MH.hK_in x
    rw [hash_Of.is x s (by omega)]
    simp only [Option.bind_some]
    rw [MH.dig_size, decide_eq_true (by omega)]
  by_cases c1 : a < 1
  · rw [if_pos c1]; exact hn _
  · rw [if_neg c1]
    by_cases c2 : a > 32
    · rw [if_pos c2]; exact hn _
    · rw [if_neg c2, hash_Of.is a s (by omega)]
      simp only [Option.bind_some]
      rw [if_pos (by rw [MH.dig_size]; exact MH.hK_of a ⟨by omega, by omega⟩)]
      exact hn _
theorem HashBegins : ∀ (a0 : Int) (a1 : Int) (a2 : ByteArray), (Lit.int .i64 a0).wf = true → (Lit.int .i64 a1).wf = true → a2.size ≤ 140737488351232 → ∃ k, massiflaw07_HashBegins.f k a0 a1 a2 = some true := by
  intro a b s _ _ hs
  refine ⟨10 + 1, ?_⟩
  unfold massiflaw07_HashBegins.f
  rw [massiflaw07_alive.is _ (by omega)]
  simp only [Option.bind_some, if_true]
  rw [hash_Of.is a s (by omega)]
  simp only [Option.bind_some]
  rw [hash_Of.is b s (by omega)]
  simp only [Option.bind_some]
  rw [MH.dig_size, MH.dig_size]
  by_cases c : ((MH.hK a : Nat) : Int) > ((MH.hK b : Nat) : Int)
  · rw [if_pos c]; exact begins_join _ _ _ _ _ hs (by omega)
  · rw [if_neg c]; exact begins_join _ _ _ _ _ hs (by omega)
end Go.Proofs.YtcghicmdphfodaaDoor.Pure
