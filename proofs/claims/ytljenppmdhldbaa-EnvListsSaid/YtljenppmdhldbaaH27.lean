/- Seat 09: scripts that come in. -/
import Derived.Test.YtljenppmdhldbaaH24
import Derived.Test.YtljenppmdhldbaaH25
import Derived.Test.YtljenppmdhldbaaU2
import Derived.Deep.Slices
import Derived.OpenShut
namespace Go.Proofs.Ytljenppmdhldbaa.V
set_option linter.unusedVariables false
set_option linter.unusedSimpArgs false
set_option linter.unusedSectionVars false
set_option linter.unusedSectionVars false
open Go

theorem wf64 {n : Int} (h : (Lit.int .i64 n).wf = true) : in64 n := by have := bounds_i64 h; unfold in64; omega

set_option maxRecDepth 100000 in
theorem opn_q : Opn 39 Q3 (fun _ cs q => cs = q3 q ∧ qin q) (fun _ => 1) := by
  intro H enc w base spare held fuel cs x h
  obtain ⟨xs, n, _, rfl, hl, hlen, hall⟩ := DataW.trod_struct Try.underlying39 h
  match xs, hlen with
  | [x0, x1, x2], _ =>
    have f0 := hall 0 _ rfl
    have f1 := hall 1 _ rfl
    have f2 := hall 2 _ rfl
    obtain ⟨a0, ⟨e0, w0⟩, _⟩ := opn_int Try.underlying3 f0
    obtain ⟨a1, ⟨e1, w1⟩, _⟩ := opn_int Try.underlying3 f1
    obtain ⟨a2, ⟨e2, w2⟩, _⟩ := opn_int Try.underlying3 f2
    have hl3 : cs.length = 3 := hl.trans (by kernel_rfl)
    refine ⟨(a0, a1, a2), ⟨?_, wf64 w0, wf64 w1, wf64 w2⟩, by simp [Rows.uptoBulk]⟩
    match cs, hl3 with
    | [c0, c1, c2], _ =>
      have e0 : [c0] = [iv a0] := e0
      have e1 : [c1] = [iv a1] := e1
      have e2 : [c2] = [iv a2] := e2
      cases e0; cases e1; cases e2; rfl

set_option maxRecDepth 100000 in
theorem opn_u32s : Opn 31 (List Int) (fun _ cs l => cs = l.map u32v ∧ l.length = 8) (fun _ => 1) := by
  intro H enc w base spare held fuel cs x h
  obtain ⟨xs, m, _, rfl, hcl, hl, hall⟩ := DataW.trod_array Try.underlying31 h
  have key : ∀ j, j < 8 → ∃ q : Int, cs[j]? = some (u32v q) := fun j hj => by
    have h1 := hall j hj
    rw [show Try.prog.cellsOf 30 = 1 from by kernel_rfl, Nat.mul_one, List.getElem?_eq_getElem (by omega)] at h1
    obtain ⟨q, ⟨h2, _⟩, _⟩ := opn_int Try.underlying30 h1
    exact ⟨q, take_cell' h2⟩
  have hl8 : cs.length = 8 := hcl.trans (by kernel_rfl)
  obtain ⟨g0, k0⟩ := key 0 (by omega)
  obtain ⟨g1, k1⟩ := key 1 (by omega)
  obtain ⟨g2, k2⟩ := key 2 (by omega)
  obtain ⟨g3, k3⟩ := key 3 (by omega)
  obtain ⟨g4, k4⟩ := key 4 (by omega)
  obtain ⟨g5, k5⟩ := key 5 (by omega)
  obtain ⟨g6, k6⟩ := key 6 (by omega)
  obtain ⟨g7, k7⟩ := key 7 (by omega)
  refine ⟨[g0, g1, g2, g3, g4, g5, g6, g7], ⟨?_, rfl⟩, by simp [Rows.uptoBulk]⟩
  match cs, hl8 with
  | [c0, c1, c2, c3, c4, c5, c6, c7], _ =>
    cases k0; cases k1; cases k2; cases k3; cases k4; cases k5; cases k6; cases k7; rfl

set_option maxRecDepth 100000 in
theorem opn_regs : Opn 33 (List Int × Int) (fun _ cs l => cs = l.1.map u32v ++ [u32v l.2] ∧ l.1.length = 8) (fun _ => 1) := by
  intro H enc w base spare held fuel cs x h
  obtain ⟨xs, n, _, rfl, hl, hlen, hall⟩ := DataW.trod_struct Try.underlying33 h
  match xs, hlen with
  | [x0, x1], _ =>
    have f0 := hall 0 _ rfl
    have f1 := hall 1 _ rfl
    obtain ⟨a0, ⟨e0, w0⟩, _⟩ := opn_u32s f0
    obtain ⟨a1, ⟨e1, w1⟩, _⟩ := opn_int Try.underlying30 f1
    have hl9 : cs.length = 9 := hl.trans (by kernel_rfl)
    have e0 : (cs.drop 0).take 8 = a0.map u32v := e0
    have e1 : (cs.drop 8).take 1 = [u32v a1] := e1
    refine ⟨(a0, a1), ⟨?_, w0⟩, by simp [Rows.uptoBulk]⟩
    show cs = a0.map u32v ++ [u32v a1]
    rw [← e0, ← e1, List.drop_zero, List.take_of_length_le (l := cs.drop 8) (by rw [List.length_drop]; omega), List.take_append_drop]

def OpR : Hp → List Value → OpE → Prop := fun _ cs o => cs = opC o ∧ o.regs.length = 8

set_option maxRecDepth 100000 in
theorem opn_op : Opn 47 OpE OpR (fun _ => 1) := by
  intro H enc w base spare held fuel cs x h
  obtain ⟨xs, n, _, rfl, hl, hlen, hall⟩ := DataW.trod_struct Try.underlying47 h
  match xs, hlen with
  | [x0, x1, x2, x3, x4, x5, x6, x7], _ =>
    have f0 := hall 0 _ rfl
    have f1 := hall 1 _ rfl
    have f2 := hall 2 _ rfl
    have f3 := hall 3 _ rfl
    have f4 := hall 4 _ rfl
    have f5 := hall 5 _ rfl
    have f6 := hall 6 _ rfl
    have f7 := hall 7 _ rfl
    obtain ⟨a0, ⟨e0, _⟩, _⟩ := opn_int Try.underlying3 f0
    obtain ⟨a1, ⟨e1, _⟩, _⟩ := opn_int Try.underlying3 f1
    obtain ⟨a2, ⟨e2, _⟩, _⟩ := opn_int Try.underlying3 f2
    obtain ⟨a3, ⟨e3, _⟩, _⟩ := opn_int Try.underlying3 f3
    obtain ⟨a4, ⟨e4, _⟩, _⟩ := opn_int Try.underlying3 f4
    obtain ⟨a5, ⟨e5, _⟩, _⟩ := opn_q f5
    obtain ⟨a6, ⟨e6, w6⟩, _⟩ := opn_regs f6
    obtain ⟨a7, e7, _⟩ := opn_bool Try.underlying4 f7
    have hl9 : cs.length = 18 := hl.trans (by kernel_rfl)
    have e0 : (cs.drop 0).take 1 = [iv a0] := e0
    have e1 : (cs.drop 1).take 1 = [iv a1] := e1
    have e2 : (cs.drop 2).take 1 = [iv a2] := e2
    have e3 : (cs.drop 3).take 1 = [iv a3] := e3
    have e4 : (cs.drop 4).take 1 = [iv a4] := e4
    have e5 : (cs.drop 5).take 3 = q3 a5 := e5
    have e6 : (cs.drop 8).take 9 = a6.1.map u32v ++ [u32v a6.2] := e6
    have e7 : (cs.drop 17).take 1 = [.bool a7] := e7
    refine ⟨⟨a0, a1, a2, a3, a4, a5, a6.1, a6.2, a7⟩, ⟨?_, w6⟩, by simp [Rows.uptoBulk]⟩
    have : cs = (cs.drop 0).take 1 ++ (cs.drop 1).take 1 ++ (cs.drop 2).take 1 ++ (cs.drop 3).take 1 ++ (cs.drop 4).take 1 ++ (cs.drop 5).take 3 ++ (cs.drop 8).take 9 ++ (cs.drop 17).take 1 := by
      match cs, hl9 with
      | [_, _, _, _, _, _, _, _, _, _, _, _, _, _, _, _, _, _], _ => rfl
    rw [this, e0, e1, e2, e3, e4, e5, e6, e7]
    simp [opC]

theorem opn_script : Opn 45 (List OpE) (SlR 18 OpR) (fun l => sumB (fun _ => 1) l + 1) := opn_slice Try.underlying45 (by kernel_rfl) (by omega) opn_op

/-- A script that came in. -/
def Scr (h : Hp) (a : Option Addr) (len : Nat) (l : List OpE) : Prop := l.length = len ∧ ∀ (i : Nat) (o : OpE), l[i]? = some o →
  o.regs.length = 8 ∧ ∃ b off c ty z, a = some ⟨b, off, none⟩ ∧ h b = some (.cells c ty z) ∧ off + len * 18 ≤ c.size ∧ ∀ j v, (opC o)[j]? = some v → c[off + i * 18 + j]? = some v

theorem Scr.of {h : Hp} {a : Option Addr} {len cap : Nat} {l : List OpE} (hs : SlR 18 OpR h [.slice a len cap] l) : Scr h a len l := by
  obtain ⟨a', cap', e1, e2, e3, e4⟩ := hs
  cases e1
  refine ⟨rfl, fun i o ho => ?_⟩
  obtain ⟨b, off, c, ty, z, vs, g1, g2, ⟨rfl, g3⟩, g4, g5, g6⟩ := e4 i o ho
  exact ⟨g3, b, off, c, ty, z, g1, g2, g5, g6⟩

theorem opC_len {o : OpE} (ho : o.regs.length = 8) : (opC o).length = 18 := by simp [opC, q3, ho]

end Go.Proofs.Ytljenppmdhldbaa.V
