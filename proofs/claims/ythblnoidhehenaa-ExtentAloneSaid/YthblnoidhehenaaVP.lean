/- The program, under a short name. -/
import Derived.Test.YthblnoidhehenaaVC
import Derived.Test.YthblnoidhehenaaProg
import Derived.KernelRfl
namespace Go.Proofs.Ythblnoidhehenaa.V
set_option linter.unusedSectionVars false
set_option linter.unusedVariables false
set_option linter.unusedSimpArgs false
open Go

noncomputable abbrev PR : Program := Go.Proofs.Try.prog

theorem mixed : PR.follows .mixedOrders = true := by kernel_rfl

end Go.Proofs.Ythblnoidhehenaa.V
