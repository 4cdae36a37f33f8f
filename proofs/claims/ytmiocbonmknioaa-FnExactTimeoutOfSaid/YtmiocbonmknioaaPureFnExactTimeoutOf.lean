/- For every base and every draw the program's timeout is the reference's: both are 0 outside 1..1000, else both add the same remainder. -/
import Derived.Test.YtmiocbonmknioaaPFnExactTimeoutOfx1
import Derived.Test.YtmiocbonmknioaaMath
namespace Go.Proofs.Ytmiocbonmknioaa.Pure
open Go.RowKit Go.Proofs.Ytmiocbonmknioaa.PFnExactTimeoutOf

theorem FnExactTimeoutOf : laws_FnExactTimeoutOf.Pure := by
  intro a b _ _
  have hin : impl_within.f a 1 1000 = spec_l1in.f a 1 1000 := rfl
  have key : impl_TimeoutOf.f a b = spec_TimeoutOf.f a b := by
    unfold impl_TimeoutOf.f spec_TimeoutOf.f
    rw [hin]
    unfold spec_l1in.f
    by_cases h1 : 1 ≤ a
    · by_cases h2 : a ≤ 1000
      · have h0 : a ≠ 0 := by omega
        have hm := Mth.modulo_same b h1 (by omega)
        simp only [h1, h2, h0, if_true, if_false, decide_true, Option.bind_some, impl_modulo.f, spec_l1mod.f, hm]
        split <;> rfl
      · simp [h1, h2]
    · simp [h1]
  have ho : ∃ r, spec_TimeoutOf.f a b = some r := by
    unfold spec_TimeoutOf.f spec_l1in.f
    by_cases h1 : 1 ≤ a
    · by_cases h2 : a ≤ 1000
      · have h0 : a ≠ 0 := by omega
        simp only [h1, h2, h0, if_true, if_false, decide_true, Option.bind_some, spec_l1mod.f]
        split <;> exact ⟨_, rfl⟩
      · simp [h1, h2]
    · simp [h1]
  obtain ⟨r, hr⟩ := ho
  unfold laws_FnExactTimeoutOf.f
  rw [key, hr]
  simp

end Go.Proofs.Ytmiocbonmknioaa.Pure
