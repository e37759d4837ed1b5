/- massiflaw08.PlainBegins answers true for every two lists of texts and every number that a call may be handed. No further condition. -/
import Derived.Test.YthjnnbgamnpegaaQPlainBegins
set_option linter.unusedVariables false
namespace Go.Proofs.Ythjnnbgamnpegaa.Pure
open Go Go.RowKit Go.Proofs.Ythjnnbgamnpegaa.PPlainBegins Go.Proofs.YthjnnbgamnpegaaW.PrintWords Go.Proofs.YthjnnbgamnpegaaW.PrintLast Go.Proofs.Ythjnnbgamnpegaa Go.Proofs.Ythjnnbgamnpegaa.MB
theorem PlainBegins : ∀ (l0 l1 : List ByteArray) (a2 : Int), l0.length * 16 ≤ 140737488351232 → (∀ s ∈ l0, s.size ≤ 140737488351232) → l1.length * 16 ≤ 140737488351232 → (∀ s ∈ l1, s.size ≤ 140737488351232) → (Lit.int .u64 a2).wf = true → ∃ k, massiflaw08_PlainBegins.f k l0 l1 a2 = some true := by
  intro l0 l1 a2 _ h0 _ h1 h2
  refine ⟨4200, ?_⟩
  obtain ⟨n, rfl, hn⟩ := wf_u64 h2
  have f0 := fewL_len l0
  have f1 := fewL_len l1
  have s0 : ∀ s ∈ fewL l0, s.size ≤ 140737488351232 := fun s h => h0 s (fewL_mem l0 s h)
  have s1 : ∀ s ∈ fewL l0 ++ fewL l1, s.size ≤ 140737488351232 := fun s h => (List.mem_append.1 h).elim (s0 s) (fun h => h1 s (fewL_mem l1 s h))
  have hal := @List.length_append _ (fewL l0) (fewL l1)
  have e1 : IntKind.u64.wrap (((fewL l0).length : Int) + 1) = ((fewL l0).length : Int) + 1 := IntWalk.u64_in _ (by omega)
  have tm : Int.tmod (n : Int) 1000 = ((n % 1000 : Nat) : Int) := by rw [Int.tmod_eq_emod_of_nonneg (by omega)]; omega
  have hm := Nat.mod_lt n (show 1000 > 0 by omega)
  have e2 : IntKind.u64.wrap (((fewL l0).length : Int) + 1 + ((n % 1000 : Nat) : Int)) = ((fewL l0).length : Int) + 1 + ((n % 1000 : Nat) : Int) := IntWalk.u64_in _ (by omega)
  have big := plain_Root.size 4200 16 (fewL l0) (((fewL l0).length : Int) + 1 + ((n % 1000 : Nat) : Int)) (by omega) (by omega) (by omega)
  have main : ∀ m : Nat, m ≤ (fewL l0).length → plain_Root.f 4200 16 (fewL l0) (m : Int) = some ((m : Int), MH.rootD 16 m (MT.pks 16 ((fewL l0).take m)), 0) ∧ plain_Root.f 4200 16 (fewL l0 ++ fewL l1) (m : Int) = some ((m : Int), MH.rootD 16 m (MT.pks 16 ((fewL l0).take m)), 0) := by
    intro m hm
    refine ⟨plain_Root.is 4200 16 _ m (by omega) hm (by omega) s0 (Nat.le_refl _), ?_⟩
    rw [plain_Root.is 4200 16 (fewL l0 ++ fewL l1) m (by omega) (by omega) (by omega) s1 (Nat.le_refl _), List.take_append_of_le_length hm]
  unfold massiflaw08_PlainBegins.f
  rw [massiflaw08_alive.is 4200 (Nat.le_refl _), Option.bind_some, if_pos rfl, massiflaw08_few.is, Option.bind_some, if_pos (by simp; omega), List.nil_append, Option.bind_some, massiflaw08_few.is, Option.bind_some, if_pos (by omega), Option.bind_some, len_u64 _ (by omega), e1, tm, e2]
  by_cases c : (n : Int) < ((fewL l0).length : Int)
  · obtain ⟨g1, g2⟩ := main n (by omega)
    rw [if_pos c, g1, Option.bind_some, g2, Option.bind_some, big, Option.bind_some]
    simp
  · obtain ⟨g1, g2⟩ := main (fewL l0).length (Nat.le_refl _)
    rw [if_neg c, g1, Option.bind_some, g2, Option.bind_some, big, Option.bind_some]
    simp
end Go.Proofs.Ythjnnbgamnpegaa.Pure
