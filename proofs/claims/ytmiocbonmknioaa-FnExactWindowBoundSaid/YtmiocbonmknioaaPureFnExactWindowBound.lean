/- For all arguments the program's WindowBound is the reference's: the same guards in another order of telling, the same sum. -/
import Derived.Test.YtmiocbonmknioaaPureFnExactSetupFault
import Derived.Test.YtmiocbonmknioaaPx3
namespace Go.Proofs.Ytmiocbonmknioaa.Pure
open Go.RowKit Go.Proofs.Ytmiocbonmknioaa.P Go.Proofs.Ytmiocbonmknioaa.Mth

theorem FnExactWindowBound : laws_FnExactWindowBound.Pure := by
  intro a b c d e f g h _ _ _ _ _ _ _ _
  refine ⟨8, ?_⟩
  have key : impl_WindowBound.f 8 a b c d e f g h = spec_WindowBound.f 8 a b c d e f g h ∧ ∃ r, spec_WindowBound.f 8 a b c d e f g h = some r := by
    unfold impl_WindowBound.f spec_WindowBound.f
    rw [impl_SetupFault_eq a b c d e f (by omega), spec_SetupFault_eq]
    simp only [Option.bind_some]
    by_cases h0 : setupFault a b c d e f = 0
    · rw [if_pos h0, if_pos h0]
      by_cases h1 : c < wrap64 (8 * a)
      · rw [if_pos h1, if_pos h1]
        simp [spec_WindowBound.j0]
      · rw [if_neg h1, if_neg h1]
        simp only [spec_WindowBound.j0, within_eq, l1in_eq, Option.bind_some, decide_eq_true_eq]
        refine ⟨trivial, ?_⟩
        repeat' split
        all_goals exact ⟨_, rfl⟩
    · rw [if_neg h0, if_neg h0]
      simp [spec_WindowBound.j0]
  obtain ⟨e1, r, e2⟩ := key
  unfold laws_FnExactWindowBound.f laws_toSetup.f
  simp only [Option.bind_some]
  rw [e1, e2]
  simp
end Go.Proofs.Ytmiocbonmknioaa.Pure
