/- Seat 04: a touch that comes in. -/
import Derived.Test.YtpkleblggehghaaD19
namespace Go.Proofs.Ytpkleblggehghaa.V
set_option linter.unusedVariables false
set_option linter.unusedSimpArgs false
set_option linter.unusedSectionVars false
set_option linter.unusedSectionVars false
open Go

theorem opn_touch : Opn 51 TouchD TouchR (fun o => (sumB (fun o => o.data.length + o.keep.length + 1) o.ahead + 1) + (sumB (fun _ => 1) o.data + 1)) := by
  intro H enc w base spare held fuel cs x h
  obtain ⟨xs, n, _, rfl, hl, hlen, hall⟩ := DataW.trod_struct Try.underlying51 h
  match xs, hlen with
  | [x0, x1, x2, x3], _ =>
    have f0 := hall 0 _ rfl
    have f1 := hall 1 _ rfl
    have f2 := hall 2 _ rfl
    have f3 := hall 3 _ rfl
    obtain ⟨a0, e0, b0⟩ := opn_script f0
    obtain ⟨a1, e1, _⟩ := opn_put f1
    obtain ⟨a2, ⟨e2, w2⟩, _⟩ := opn_int Try.underlying3 f2
    obtain ⟨a3, e3, b3⟩ := opn_bytes f3
    obtain ⟨va, hva⟩ : ∃ v, (cs.drop 0).take (PR.cellsOf 22) = [v] := let ⟨_, _, q, _⟩ := e0; ⟨_, q⟩
    obtain ⟨vd, hvd⟩ : ∃ v, (cs.drop 4).take (PR.cellsOf 34) = [v] := let ⟨_, _, q, _⟩ := e3; ⟨_, q⟩
    have hl5 : cs.length = 5 := hl.trans (by kernel_rfl)
    have e0' : SlR 7 OpR (allH w) [va] a0 := by rw [← hva]; exact e0
    have e3' : SlR 1 byR (allH w) [vd] a3 := by rw [← hvd]; exact e3
    have e1' : PutR (allH w) ((cs.drop 1).take 2) a1 := by rw [← show PR.cellsOf 30 = 2 from by kernel_rfl]; exact e1
    have hc1 := e1'.cells
    have g0 := take_cell hva
    have g3 := take_cell e2
    have g4 := take_cell hvd
    refine ⟨⟨a0, a1, a2, a3⟩, ⟨va, vd, e0', e3', ?_⟩, ?_⟩
    · match cs, hl5 with
      | [y0, y1, y2, y3, y4], _ =>
        cases g0; cases g3; cases g4
        cases hc1
        rfl
    · dsimp only at b0 b3 ⊢
      simp only [List.map_cons, List.map_nil, Rows.uptoBulk, Rows.uptoBulkAll]
      omega

end Go.Proofs.Ytpkleblggehghaa.V
