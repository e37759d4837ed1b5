/- massiflaw02.NumAsks answers true for all numbers of the parameters' types. No further condition. -/
import Derived.Test.YtbfmdcccnneanaaPNumAsksx
import Derived.Test.YtbfmdcccnneanaaQNumAsks
namespace Go.Proofs.Ytbfmdcccnneanaa.Pure
open Go.RowKit Go.Proofs.Ytbfmdcccnneanaa.PNumAsks Go.Proofs.Ytbfmdcccnneanaa.MB Go.Proofs.YtbfmdcccnneanaaW.PrintWords Go.Proofs.YtbfmdcccnneanaaW.PrintLast

theorem NumAsks : massiflaw02_NumAsks.Pure := by
  intro a0 a1 a2 h0 h1 h2
  obtain ⟨n, rfl, hn⟩ := wf_u64 h0
  obtain ⟨b, rfl, hb⟩ := wf_u64 h1
  have hw := wf_i64 h2
  refine ⟨66, ?_⟩
  unfold massiflaw02_NumAsks.f
  rw [massiflaw02_alive.is 66 (by omega), num_Add.is n b hn hb, massifref02_Add.is n b hn hb, num_Ones.is n 66 hn (by omega), massifref02_Ones.is n 66 hn (by omega), num_Log.is n 66 hn (by omega), massifref02_Log.is n 66 hn (by omega), num_Ceil.is n 66 hn (by omega), massifref02_Ceil.is n 66 hn (by omega), num_Trail.is n 66 hn (by omega), massifref02_Trail.is n 66 hn (by omega)]
  by_cases hh : 0 ≤ a2 ∧ a2 < 64
  · obtain ⟨h, rfl⟩ := Int.eq_ofNat_of_zero_le hh.1
    rw [num_Pow.is h (by omega), massifref02_Pow.is h 66 (by omega) (by omega)]
    by_cases e : n + b < 2 ^ 64
    · rw [if_pos e]; simp
    · rw [if_neg e]; simp
  · rw [num_Pow.no a2 (by omega), massifref02_Pow.no a2 66 (by omega) (by omega)]
    by_cases e : n + b < 2 ^ 64
    · rw [if_pos e]; simp
    · rw [if_neg e]; simp

end Go.Proofs.Ytbfmdcccnneanaa.Pure
