/- For every setup the program's SetupFault is the reference's: both tell the first broken of the six rules. -/
import Derived.Test.YtmiocbonmknioaaFaults
import Derived.Test.YtmiocbonmknioaaPx1
import Derived.Test.YtmiocbonmknioaaPx2
namespace Go.Proofs.Ytmiocbonmknioaa.Pure
open Go.RowKit Go.Proofs.Ytmiocbonmknioaa.P Go.Proofs.Ytmiocbonmknioaa.Mth

def setupFault (a b c d e f : Int) : Int := if 3 = a ∨ a = 5 ∨ a = 7 then if 1 ≤ b ∧ b ≤ 8 then if 2 ≤ c ∧ c ≤ 1000 then if 1 ≤ d ∧ d ≤ c then if 1 ≤ e ∧ e ≤ 1000 then if 0 ≤ f ∧ f ≤ 1048576 then 0 else 6 else 5 else 4 else 3 else 2 else 1

theorem spec_SetupFault_eq (a b c d e f : Int) : spec_SetupFault.f a b c d e f = some (setupFault a b c d e f) := by
  unfold spec_SetupFault.f setupFault
  simp only [l3size_eq, l1in_eq, Option.bind_some, decide_eq_true_eq, eq_comm (a := (3 : Int))]
  repeat' split
  all_goals rfl

theorem impl_SetupFault_eq (a b c d e f : Int) {k : Nat} (hk : 6 < k) : impl_SetupFault.f k a b c d e f = some (setupFault a b c d e f) := by
  unfold impl_SetupFault.f setupFault
  simp only [sizeOk_eq, within_eq, Option.bind_some]
  rw [firstBroken_eq _ (by simp) (by simpa using hk)]
  simp only [fb, decide_eq_true_eq, Option.bind_some, eq_comm (a := (3 : Int))]
  repeat' split
  all_goals rfl

theorem FnExactSetupFault : laws_FnExactSetupFault.Pure := by
  intro a b c d e f _ _ _ _ _ _
  refine ⟨7, ?_⟩
  unfold laws_FnExactSetupFault.f laws_toSetup.f
  simp only [Option.bind_some, spec_SetupFault_eq, impl_SetupFault_eq a b c d e f (k := 7) (by omega), if_true]
end Go.Proofs.Ytmiocbonmknioaa.Pure
