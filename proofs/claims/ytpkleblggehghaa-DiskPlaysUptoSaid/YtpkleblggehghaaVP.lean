/- The program, under a short name. -/
import Derived.Test.YtpkleblggehghaaVC
import Derived.Test.YtpkleblggehghaaProg
import Derived.KernelRfl
namespace Go.Proofs.Ytpkleblggehghaa.V
set_option linter.unusedSectionVars false
set_option linter.unusedVariables false
set_option linter.unusedSimpArgs false
open Go

noncomputable abbrev PR : Program := Go.Proofs.Try.prog

theorem mixed : PR.follows .mixedOrders = true := by kernel_rfl

end Go.Proofs.Ytpkleblggehghaa.V
