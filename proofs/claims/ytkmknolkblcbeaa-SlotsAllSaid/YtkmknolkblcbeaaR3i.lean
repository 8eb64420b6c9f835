/- SlotsAll returns true for every bound and every two slices of steps, and leaves what came in as it was. -/
import Derived.Test.YtkmknolkblcbeaaRows
import Derived.Test.YtkmknolkblcbeaaB31
import Derived.WalkKit
import Derived.ProofKit
import Derived.OpenShut
import Derived.ShutString
import Derived.ChangeOld
import Derived.Below
import Derived.HandedShaped
namespace Go.Proofs.Ytkmknolkblcbeaa.slotsAll
open Go Go.ChangeShapes Go.WideShapes Go.ChangeAt Go.RowKit
open Go.Proofs.Ytkmknolkblcbeaa.V
set_option linter.unusedVariables false
set_option linter.unusedSimpArgs false
set_option linter.unusedSectionVars false

theorem own : ownKnob Try.prog.godebug = none := by kernel_rfl
theorem laidOut : laidOutB Try.prog = true := by kernel_rfl

theorem walk (w : World) (a0 : Int) (w0 : (Lit.int .i64 a0).wf = true) (a1 : Option Addr) (len1 cap1 : Nat) (f1 : Nat → Nat → Int) (w1 : RowsN 4 (allH w) a1 len1 f1) (hl1 : len1 ≤ maxLen) (hb1 : len1 * 32 ≤ reachBytes) (a2 : Option Addr) (len2 cap2 : Nat) (f2 : Nat → Nat → Int) (w2 : RowsN 4 (allH w) a2 len2 f2) (hl2 : len2 ≤ maxLen) (hb2 : len2 * 32 ≤ reachBytes) :
    Calls Try.prog 8 #[.int .i64 a0, .slice a1 len1 cap1, .slice a2 len2 cap2] w fun e w' => e = .returned (.bool true) ∧ Below w.heap.size w w' :=
  call_of (args := [.int .i64 a0, .slice a1 len1 cap1, .slice a2 len2 cap2]) (law8 a0 w1 (by have := hb1; unfold reachBytes at this; omega) w2 (by have := hb2; unfold reachBytes at this; omega) fun h' hs => ⟨rfl, fun b o hb => hs b o hb⟩)

set_option maxRecDepth 100000 in
theorem lifted (os : Os) (started : os.Started) (H : Type) (enc : TypeId × Value → H) :
    ReturnsInHanded {} Try.checked os 8 .any (Rows.slotsAllSpec.pre6 enc Try.prog Try.f8 Rows.slotsAllRow.domain false) (Rows.slotsAllSpec.post enc Try.prog Try.f8 false true false false) := by
  refine returnsInHanded_of_change_shaped (C := Try.checked) own started (by kernel_rfl) Try.func8
    (ChangeSpec.witness6 (enc := enc) (C := Try.checked) false ⟨#[], #[.int .i64 0, .slice none 0 0, .slice none 0 0], []⟩ 8 (by kernel_rfl) (by kernel_rfl) (by kernel_rfl) (by kernel_rfl)) ?_
  intro W base args ds gs before hval0 hW hcnd hsz0 hsh _
  have hsz : (DataW.weightsEach Try.prog (Try.f8.params.toList ++ Rows.slotsAllSpec.plain.varTypes Try.prog) (ds ++ gs)).all (· ≤ reachBytes) = true := hsz0
  have hval : ∀ (j : Nat) t v, Try.f8.params[j]? = some t → args[j]? = some v → Value.okWide Try.prog W .any base t v := hval0
  have hW' := hW
  obtain ⟨p, q, hA0, hV, rfl, hfz, hnd⟩ := hW
  have hA : DataW.TrodAll enc Try.prog W 0 (fun _ => true) true Try.f8.params.toList args.toList ds p := hA0
  rw [Try.params8] at hA hval hsz
  obtain ⟨v0, vs0, d0, ds0, p0, q0, hargs, rfl, rfl, h0, r0⟩ := trodAll_cons hA
  obtain ⟨v1, vs1, d1, ds1, p1, q1, rfl, rfl, rfl, h1, r1⟩ := trodAll_cons r0
  obtain ⟨v2, vs2, d2, ds2, p2, q2, rfl, rfl, rfl, h2, r2⟩ := trodAll_cons r1
  obtain ⟨rfl, rfl, rfl⟩ := trodAll_nil r2
  obtain rfl : args = #[v0, v1, v2] := by cases args; simp_all
  obtain ⟨rfl, rfl⟩ := trodVars_none hV
  obtain ⟨hz0, hsz⟩ := weights_cons hsz
  obtain ⟨hz1, hsz⟩ := weights_cons hsz
  obtain ⟨hz2, hsz⟩ := weights_cons hsz
  obtain ⟨a0, rfl, rfl, rfl, w0⟩ := open_int Try.underlying3 (hval 0 3 v0 rfl rfl) h0
  obtain ⟨a1, len1, cap1, rfl⟩ := okWide_slice Try.underlying66 (hval 1 66 v1 rfl rfl)
  have hb1 : len1 * 32 ≤ reachBytes := by
    obtain ⟨fuel, hf⟩ := h1
    have := slice_reach Try.underlying66 hf hz1
    rwa [show Try.prog.bytesOf 69 = 32 from by kernel_rfl] at this
  have k1 := h1
  have lt1 : ∀ x ∈ p1, x.block < W.heap.size := by obtain ⟨m, hm⟩ := k1; exact DataW.trod_lt m _ _ _ hm
  obtain ⟨f1, w1, hl1⟩ : ∃ f, RowsN 4 (allH W) a1 len1 f ∧ len1 ≤ maxLen := by
    obtain ⟨fuel, hf⟩ := h1
    exact rows_open Try.underlying66 (by kernel_rfl) hf
  obtain ⟨a2, len2, cap2, rfl⟩ := okWide_slice Try.underlying72 (hval 2 72 v2 rfl rfl)
  have hb2 : len2 * 32 ≤ reachBytes := by
    obtain ⟨fuel, hf⟩ := h2
    have := slice_reach Try.underlying72 hf hz2
    rwa [show Try.prog.bytesOf 140 = 32 from by kernel_rfl] at this
  have k2 := h2
  have lt2 : ∀ x ∈ p2, x.block < W.heap.size := by obtain ⟨m, hm⟩ := k2; exact DataW.trod_lt m _ _ _ hm
  obtain ⟨f2, w2, hl2⟩ : ∃ f, RowsN 4 (allH W) a2 len2 f ∧ len2 ≤ maxLen := by
    obtain ⟨fuel, hf⟩ := h2
    exact rows_open Try.underlying72 (by kernel_rfl) hf
  clear hA0 hval0
  refine (walk W a0 w0 a1 len1 cap1 f1 w1 hl1 hb1 a2 len2 cap2 f2 w2 hl2 hb2).mono fun e W' ⟨he, bel⟩ => ?_
  subst he
  exact ⟨_, rfl, _, _, _, [], _, [], hW', trodAll_mk1 (shut_bool Try.underlying4 _), (trodAll_cons_mk (shut_int Try.underlying3 w0) (trodAll_cons_mk (Below.trod laidOut (by kernel_rfl) (of_decide_eq_true (by kernel_rfl)) k1 bel lt1) (trodAll_cons_mk (Below.trod laidOut (by kernel_rfl) (of_decide_eq_true (by kernel_rfl)) k2 bel lt2) trodAll_mk0))), rfl, bel.frame _, fun h => by cases h⟩

theorem over : Rows.slotsAllRow.holds Try.pinned (OpenSpec.ofChange Rows.slotsAllSpec) :=
  OpenClaim.holds_of_wide 8 Try.f8 rfl rfl rfl rfl rfl rfl rfl ⟨rfl, rfl, rfl, rfl, rfl⟩ rfl rfl rfl rfl rfl (by kernel_rfl) Try.func8 (by kernel_rfl)
    (of_decide_eq_true (by kernel_rfl)) (by unfold Func.isWrapper; first | (rw [if_pos (by decide +kernel)]; kernel_rfl) | (rw [if_neg (by decide +kernel)]; exact ⟨rfl, rfl⟩))
    (fun os started H enc _ => lifted os started H enc)

/-- The statement. -/
theorem proved : Rows.SlotsAllSaid := over
#print axioms proved
end Go.Proofs.Ytkmknolkblcbeaa.slotsAll
