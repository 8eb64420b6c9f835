/- The program, under a short name. -/
import Derived.Test.YtljenppmdhldbaaVC
import Derived.Test.YtljenppmdhldbaaProg
import Derived.KernelRfl
namespace Go.Proofs.Ytljenppmdhldbaa.V
set_option linter.unusedSectionVars false
set_option linter.unusedVariables false
set_option linter.unusedSimpArgs false
open Go

noncomputable abbrev PR : Program := Go.Proofs.Try.prog

theorem mixed : PR.follows .mixedOrders = true := by kernel_rfl

end Go.Proofs.Ytljenppmdhldbaa.V
