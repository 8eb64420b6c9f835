/- Seat 08: what the listed variable holds when a call begins. -/
import Derived.Test.YthpkgkoojhgedaaDoorRows
import Derived.Test.YthpkgkoojhgedaaDoorK9
import Derived.Test.YthpkgkoojhgedaaDoorU2
import Derived.ChangeArms
import Derived.LaidLaws
import Derived.LaidHandle
import Derived.LaidByTextLater
import Derived.LaidSub
import Derived.LaidMore
namespace Go.Proofs.YthpkgkoojhgedaaDoor.V
set_option linter.unusedVariables false
set_option linter.unusedSimpArgs false
set_option linter.unusedSectionVars false
open Go

theorem own : ownKnob Tryd.prog.godebug = none := by kernel_rfl
theorem laidOut : laidOutB Tryd.prog = true := by kernel_rfl

def laidL : List (String × DataW Unit) := [("amber/caps.none", Rows.laid_amber_caps_none)]

theorem door_met (os : Os) (args : Array Value) : laidMetH Tryd.prog laidL ((World.doorLaid Tryd.prog 400 os).forCall (fun _ _ => 0) ⟨#[], args, []⟩).memory :=
  show laidMet Tryd.prog laidL _ from laidMet_of_run' 8 (by kernel_rfl) (by kernel_rfl)

set_option maxRecDepth 100000 in
theorem of_laid {W : World} (h : laidMetH Tryd.prog laidL W) : NoneR (allH W) := by
  have h : laidMet Tryd.prog laidL W := h
  obtain ⟨ps, ⟨g, t, cs, fuel, p, q, hg, ht, hv, hd, _, _⟩, _⟩ := h
  obtain rfl := Option.some.inj ((show Tryd.prog.globalNamed "amber/caps.none" = some 0 by kernel_rfl).symm.trans hg)
  obtain rfl := Option.some.inj ((show (Tryd.prog.globals[0]?).map (·.type) = some 28 by kernel_rfl).symm.trans ht)
  obtain ⟨xs, n, _, hx, hl, hlen, hall⟩ := DataW.trod_struct Tryd.underlying28 hd
  have hc2 : cs.toList.length = 2 := hl.trans (show Tryd.prog.cellsOf 28 = 2 by kernel_rfl)
  match xs, hlen with
  | [x0, x1], _ =>
    have f0 := hall 0 _ rfl
    have f1 := hall 1 _ rfl
    injection hx with ha hb
    have ha : Rows.laid_amber_caps_none = DataW.agg [x0.1, x1.1] := ha
    unfold Rows.laid_amber_caps_none at ha
    injection ha with ha
    injection ha with a0 a1
    injection a1 with a1 _
    obtain ⟨n0, g1, g2, _⟩ := DataW.trod_int Tryd.underlying3 f0
    obtain ⟨n1, k1, k2, _⟩ := DataW.trod_int Tryd.underlying3 f1
    have m0 : DataW.lit (H := Unit) (.int .i64 (-1)) = .lit (.int .i64 n0) := by rw [a0, g2]
    have m1 : DataW.lit (H := Unit) (.int .i64 (-1)) = .lit (.int .i64 n1) := by rw [a1, k2]
    obtain rfl : (-1 : Int) = n0 := by injection m0 with m0; injection m0
    obtain rfl : (-1 : Int) = n1 := by injection m1 with m1; injection m1
    have e : cs = #[iv (-1), iv (-1)] := by
      apply Array.toList_inj.1
      match hcs : cs.toList, hc2 with
      | [y0, y1], _ =>
        rw [hcs] at g1 k1
        have g1 : [y0] = [iv (-1)] := g1
        have k1 : [y1] = [iv (-1)] := k1
        injection g1 with g1
        injection k1 with k1
        rw [g1, k1]
    subst e
    unfold World.var? at hv
    rw [show Tryd.prog.globalNamed "amber/caps.none" = some 0 by kernel_rfl] at hv
    simp only [Option.bind_some] at hv
    split at hv
    · rename_i c ty z hb
      cases hv
      exact ⟨ty, z, hb⟩
    · cases hv
end Go.Proofs.YthpkgkoojhgedaaDoor.V
