/- The program, under a short name. -/
import Derived.Test.YthpkgkoojhgedaaDoorVC
import Derived.Test.YthpkgkoojhgedaaDoorProg
import Derived.KernelRfl
namespace Go.Proofs.YthpkgkoojhgedaaDoor.V
set_option linter.unusedSectionVars false
set_option linter.unusedVariables false
set_option linter.unusedSimpArgs false
open Go

noncomputable abbrev PR : Program := Go.Proofs.Tryd.prog

theorem mixed : PR.follows .mixedOrders = true := by kernel_rfl

end Go.Proofs.YthpkgkoojhgedaaDoor.V
