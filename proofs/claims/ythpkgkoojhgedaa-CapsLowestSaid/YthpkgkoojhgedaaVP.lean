/- The program, under a short name. -/
import Derived.Test.YthpkgkoojhgedaaVC
import Derived.Test.YthpkgkoojhgedaaProg
import Derived.KernelRfl
namespace Go.Proofs.Ythpkgkoojhgedaa.V
set_option linter.unusedSectionVars false
set_option linter.unusedVariables false
set_option linter.unusedSimpArgs false
open Go

noncomputable abbrev PR : Program := Go.Proofs.Try.prog

theorem mixed : PR.follows .mixedOrders = true := by kernel_rfl

end Go.Proofs.Ythpkgkoojhgedaa.V
