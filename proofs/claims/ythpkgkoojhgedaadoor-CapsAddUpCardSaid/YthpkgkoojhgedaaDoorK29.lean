/- Seat 08: scripts that come in. -/
import Derived.Test.YthpkgkoojhgedaaDoorK28
import Derived.Test.YthpkgkoojhgedaaDoorU2
import Derived.Deep.Slices
import Derived.OpenShut
namespace Go.Proofs.YthpkgkoojhgedaaDoor.V
set_option linter.unusedVariables false
set_option linter.unusedSimpArgs false
set_option linter.unusedSectionVars false
set_option linter.unusedSectionVars false
open Go

set_option maxRecDepth 100000 in
theorem opn_cap : Opn 26 Cp (fun _ cs c => cs = capC c) (fun _ => 1) := by
  intro H enc w base spare held fuel cs x h
  obtain ⟨xs, n, _, rfl, hl, hlen, hall⟩ := DataW.trod_struct Tryd.underlying26 h
  match xs, hlen with
  | [x0, x1, x2, x3], _ =>
    have f0 := hall 0 _ rfl
    have f1 := hall 1 _ rfl
    have f2 := hall 2 _ rfl
    have f3 := hall 3 _ rfl
    obtain ⟨a0, ⟨e0, w0⟩, _⟩ := opn_int Tryd.underlying3 f0
    obtain ⟨a1, ⟨e1, w1⟩, _⟩ := opn_int Tryd.underlying3 f1
    obtain ⟨a2, ⟨e2, w2⟩, _⟩ := opn_int Tryd.underlying3 f2
    obtain ⟨a3, ⟨e3, w3⟩, _⟩ := opn_int Tryd.underlying3 f3
    have hl3 : cs.length = 4 := hl.trans (by kernel_rfl)
    refine ⟨⟨a0, a1, a2, a3⟩, ?_, by simp [Rows.uptoBulk]⟩
    match cs, hl3 with
    | [c0, c1, c2, c3], _ =>
      have e0 : [c0] = [iv a0] := e0
      have e1 : [c1] = [iv a1] := e1
      have e2 : [c2] = [iv a2] := e2
      have e3 : [c3] = [iv a3] := e3
      cases e0; cases e1; cases e2; cases e3; rfl

theorem opn_ints : Opn 22 (List Int) (SlR 1 (fun _ cs n => cs = [iv n] ∧ (Lit.int .i64 n).wf = true)) (fun l => sumB (fun _ => 1) l + 1) := opn_slice Tryd.underlying22 (by kernel_rfl) (by omega) (opn_int Tryd.underlying3)

/-- A step, with the list it names. -/
def OpR : Hp → List Value → OpV × List Int → Prop := fun h cs o => cs = opV o.1 ∧ SlR 1 (fun _ cs n => cs = [iv n] ∧ (Lit.int .i64 n).wf = true) h [o.1.ins] o.2

set_option maxRecDepth 100000 in
theorem opn_op : Opn 46 (OpV × List Int) OpR (fun _ => 1) := by
  intro H enc w base spare held fuel cs x h
  obtain ⟨xs, n, _, rfl, hl, hlen, hall⟩ := DataW.trod_struct Tryd.underlying46 h
  match xs, hlen with
  | [x0, x1, x2, x3, x4, x5, x6, x7, x8], _ =>
    have f0 := hall 0 _ rfl
    have f1 := hall 1 _ rfl
    have f2 := hall 2 _ rfl
    have f3 := hall 3 _ rfl
    have f4 := hall 4 _ rfl
    have f5 := hall 5 _ rfl
    have f6 := hall 6 _ rfl
    have f7 := hall 7 _ rfl
    have f8 := hall 8 _ rfl
    obtain ⟨b0, e0, _⟩ := opn_bool Tryd.underlying4 f0
    obtain ⟨a1, ⟨e1, w1⟩, _⟩ := opn_int Tryd.underlying3 f1
    obtain ⟨a2, ⟨e2, w2⟩, _⟩ := opn_int Tryd.underlying3 f2
    obtain ⟨a3, ⟨e3, w3⟩, _⟩ := opn_int Tryd.underlying3 f3
    obtain ⟨a4, ⟨e4, w4⟩, _⟩ := opn_int Tryd.underlying3 f4
    obtain ⟨a5, ⟨e5, w5⟩, _⟩ := opn_int Tryd.underlying3 f5
    obtain ⟨a6, ⟨e6, w6⟩, _⟩ := opn_int Tryd.underlying3 f6
    obtain ⟨a7, e7, _⟩ := opn_cap f7
    obtain ⟨a8, e8, _⟩ := opn_ints f8
    have hl12 : cs.length = 12 := hl.trans (by kernel_rfl)
    match cs, hl12 with
    | [c0, c1, c2, c3, c4, c5, c6, c7, c8, c9, c10, c11], _ =>
      have e0 : [c0] = [.bool b0] := e0
      have e1 : [c1] = [iv a1] := e1
      have e2 : [c2] = [iv a2] := e2
      have e3 : [c3] = [iv a3] := e3
      have e4 : [c4] = [iv a4] := e4
      have e5 : [c5] = [iv a5] := e5
      have e6 : [c6] = [iv a6] := e6
      have e7 : [c7, c8, c9, c10] = capC a7 := e7
      have e8 : SlR 1 _ (allH w) [c11] a8 := e8
      refine ⟨(⟨b0, a1, a2, a3, a4, a5, a6, a7, c11⟩, a8), ⟨?_, e8⟩, by simp [Rows.uptoBulk]⟩
      cases e0; cases e1; cases e2; cases e3; cases e4; cases e5; cases e6
      unfold capC at e7
      cases e7
      rfl

theorem opn_script : Opn 40 (List (OpV × List Int)) (SlR 12 OpR) (fun l => sumB (fun _ => 1) l + 1) := opn_slice Tryd.underlying40 (by kernel_rfl) (by omega) opn_op

/-- A script as it lies. -/
theorem script_at {h : Hp} {a : Option Addr} {len cap : Nat} {l : List (OpV × List Int)} (hs : SlR 12 OpR h [.slice a len cap] l) {i : Nat} (hi : i < len) :
    len = l.length ∧ ∃ (o : OpV × List Int) (b off : Nat) (c : Array Value) (ty : TypeId) (z : Nat × Nat), l[i]? = some o ∧ a = some ⟨b, off, none⟩ ∧ h b = some (.cells c ty z) ∧ rd c (off + i * 12) 12 true = some (.agg (opV o.1).toArray) ∧ SlR 1 (fun _ cs n => cs = [iv n] ∧ (Lit.int .i64 n).wf = true) h [o.1.ins] o.2 := by
  obtain ⟨a', cap', e1, e2, e3, e4⟩ := hs
  cases e1
  refine ⟨rfl, l[i], ?_⟩
  have ho : l[i]? = some l[i] := List.getElem?_eq_getElem hi
  obtain ⟨b, off, c, ty, z, vs, g1, g2, ⟨rfl, g3⟩, g4, g5, g6⟩ := e4 i _ ho
  exact ⟨b, off, c, ty, z, ho, g1, g2, agg_rd (row := opV l[i].1) g4 (by have : (i + 1) * 12 ≤ l.length * 12 := Nat.mul_le_mul_right _ hi; omega) g6, g3⟩

theorem op_one {h : Hp} {o : OpV × List Int} (hs : SlR 1 (fun _ cs n => cs = [iv n] ∧ (Lit.int .i64 n).wf = true) h [o.1.ins] o.2) : (opV o.1).all one = true := by
  obtain ⟨a', cap', e1, _⟩ := hs
  injection e1 with e1
  unfold opV
  rw [e1]; rfl
end Go.Proofs.YthpkgkoojhgedaaDoor.V
