/- The program's constants are the reference's: the printed function of the law answers true outright. -/
import Derived.Test.YtmiocbonmknioaaPFnExactConstantsx1
namespace Go.Proofs.Ytmiocbonmknioaa.Pure
open Go.Proofs.Ytmiocbonmknioaa.PFnExactConstants

theorem FnExactConstants : laws_FnExactConstants.Pure := rfl

end Go.Proofs.Ytmiocbonmknioaa.Pure
