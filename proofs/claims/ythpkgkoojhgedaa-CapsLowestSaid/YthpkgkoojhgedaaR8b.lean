/- CapsLowest returns true for every input, and leaves what came in as it was. -/
import Derived.Test.YthpkgkoojhgedaaRows
import Derived.Test.YthpkgkoojhgedaaK21
import Derived.WalkKit
import Derived.ProofKit
import Derived.OpenShut
import Derived.ShutString
import Derived.ChangeOld
import Derived.Below
import Derived.HandedShaped
namespace Go.Proofs.Ythpkgkoojhgedaa.capsLowest
open Go Go.ChangeShapes Go.WideShapes Go.ChangeAt Go.RowKit
open Go.Proofs.Ythpkgkoojhgedaa.V
set_option linter.unusedVariables false
set_option linter.unusedSimpArgs false
set_option linter.unusedSectionVars false

theorem own : ownKnob Try.prog.godebug = none := by kernel_rfl
theorem laidOut : laidOutB Try.prog = true := by kernel_rfl

set_option maxRecDepth 100000 in
theorem lifted (os : Os) (started : os.Started) (H : Type) (enc : TypeId × Value → H) :
    ReturnsInHanded {} Try.checked os 3 .any (Rows.capsLowestSpec.pre6 enc Try.prog Try.f3 Rows.capsLowestRow.domain false) (Rows.capsLowestSpec.post enc Try.prog Try.f3 false true false false) := by
  refine returnsInHanded_of_change_shaped (C := Try.checked) own started (by kernel_rfl) Try.func3
    (ChangeSpec.witness6 (enc := enc) (C := Try.checked) false ⟨#[], #[.slice none 0 0, .slice none 0 0], []⟩ 8 (by kernel_rfl) (by kernel_rfl) (by kernel_rfl) (by kernel_rfl)) ?_
  intro W base args ds gs before hval0 hW hcnd hsz0 hsh _
  have hsz : (DataW.weightsEach Try.prog (Try.f3.params.toList ++ Rows.capsLowestSpec.plain.varTypes Try.prog) (ds ++ gs)).all (· ≤ reachBytes) = true := hsz0
  have hval : ∀ (j : Nat) t v, Try.f3.params[j]? = some t → args[j]? = some v → Value.okWide Try.prog W .any base t v := hval0
  have hW' := hW
  obtain ⟨p, q, hA0, hV, rfl, hfz, hnd⟩ := hW
  have hA : DataW.TrodAll enc Try.prog W 0 (fun _ => true) true Try.f3.params.toList args.toList ds p := hA0
  rw [Try.params3] at hA hval hsz
  obtain ⟨v0, vs0, d0, ds0, p0, q0, hargs, rfl, rfl, h0, r0z⟩ := trodAll_cons hA
  obtain ⟨v1, vs1, d1, ds1, p1, q1, rfl, rfl, rfl, h1, r1z⟩ := trodAll_cons r0z
  obtain ⟨rfl, rfl, rfl⟩ := trodAll_nil r1z
  obtain rfl : args = #[v0, v1] := by cases args; simp_all
  obtain ⟨rfl, rfl⟩ := trodVars_none hV
  obtain ⟨hz0, hsz⟩ := weights_cons hsz
  obtain ⟨hz1, hsz⟩ := weights_cons hsz
  obtain ⟨s0, len0, cap0, rfl⟩ := okWide_slice Try.underlying22 (hval 0 22 v0 rfl rfl)
  have hb0 : len0 * 8 ≤ reachBytes := by
    obtain ⟨fuel, hf⟩ := h0
    have := slice_reach Try.underlying22 hf hz0
    rwa [show Try.prog.bytesOf 3 = 8 from by kernel_rfl] at this
  have k0 := h0
  have lt0 : ∀ x ∈ p0, x.block < W.heap.size := by obtain ⟨m, hm⟩ := k0; exact DataW.trod_lt m _ _ _ hm
  obtain ⟨fuel0, hf0⟩ := h0
  obtain ⟨f0, w0, hl0⟩ := ints_open Try.underlying22 Try.underlying3 (by kernel_rfl) hf0
  obtain ⟨s1, len1, cap1, rfl⟩ := okWide_slice Try.underlying22 (hval 1 22 v1 rfl rfl)
  have hb1 : len1 * 8 ≤ reachBytes := by
    obtain ⟨fuel, hf⟩ := h1
    have := slice_reach Try.underlying22 hf hz1
    rwa [show Try.prog.bytesOf 3 = 8 from by kernel_rfl] at this
  have k1 := h1
  have lt1 : ∀ x ∈ p1, x.block < W.heap.size := by obtain ⟨m, hm⟩ := k1; exact DataW.trod_lt m _ _ _ hm
  obtain ⟨fuel1, hf1⟩ := h1
  obtain ⟨f1, w1, hl1⟩ := ints_open Try.underlying22 Try.underlying3 (by kernel_rfl) hf1
  clear hA0 hval0
  refine (call_of (args := [.slice s0 len0 cap0, .slice s1 len1 cap1]) (law3 w0 (by have := hb0; unfold reachBytes at this; omega) w1 (by have := hb1; unfold reachBytes at this; omega) fun h' hs => ⟨rfl, fun b o hb => hs b o hb⟩)).mono fun e W' ⟨he, bel⟩ => ?_
  subst he
  exact ⟨_, rfl, _, _, _, [], _, [], hW', trodAll_mk1 (shut_bool Try.underlying4 _), (trodAll_cons_mk (Below.trod laidOut (by kernel_rfl) (of_decide_eq_true (by kernel_rfl)) k0 bel lt0) (trodAll_cons_mk (Below.trod laidOut (by kernel_rfl) (of_decide_eq_true (by kernel_rfl)) k1 bel lt1) trodAll_mk0)), rfl, bel.frame _, fun h => by cases h⟩

theorem over : Rows.capsLowestRow.holds Try.pinned (OpenSpec.ofChange Rows.capsLowestSpec) :=
  OpenClaim.holds_of_wide 3 Try.f3 rfl rfl rfl rfl rfl rfl rfl ⟨rfl, rfl, rfl, rfl, rfl⟩ rfl rfl rfl rfl rfl (by kernel_rfl) Try.func3 (by kernel_rfl)
    (of_decide_eq_true (by kernel_rfl)) (by unfold Func.isWrapper; first | (rw [if_pos (by decide +kernel)]; kernel_rfl) | (rw [if_neg (by decide +kernel)]; exact ⟨rfl, rfl⟩))
    (fun os started H enc _ => lifted os started H enc)

/-- The statement. -/
theorem proved : Rows.CapsLowestSaid := over
#print axioms proved
end Go.Proofs.Ythpkgkoojhgedaa.capsLowest
