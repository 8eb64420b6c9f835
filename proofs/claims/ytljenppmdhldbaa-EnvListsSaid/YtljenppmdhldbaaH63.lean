/- Seat 09: one list more; all the lists that are asked. -/
import Derived.Test.YtljenppmdhldbaaH62
import Derived.Test.YtljenppmdhldbaaH48
namespace Go.Proofs.Ytljenppmdhldbaa.V
set_option linter.unusedVariables false
set_option linter.unusedSimpArgs false
set_option linter.unusedSectionVars false
set_option linter.unusedSectionVars false
open Go

section
variable {h : Hp} {Q : Value → Hp → Prop} {L : List As} {A : Rs} {last : Int} {t : Nat}

/-- One list more behind the outer slice, which lies at the place i. -/
theorem out1 {b1 i : Nat} {so s : Value} {xs : Ls} {l : List Int} {ty ty1 : TypeId} {K : Ent → Hp → Prop} (hh : Has (Pt b1 (.cells #[s] ty1 (0, 0)) :: L) h) (hi : L[i]? = some (OutP so xs)) (hs : one s = true) (hb : xs.length < 1099511627776)
    (hK : ∀ s' h', Has (L.set i (OutP s' (xs ++ [(s, l)]))) h' → K (.v s') h') : appK [.slice none 0 0] ty 24 h (.v so) (.v (.slice (some ⟨b1, 0, none⟩) 1 1)) K := by
  have hv : Vw 1 h (.slice (some ⟨b1, 0, none⟩) 1 1) 1 [s] := (pt_wn (e := 1) (n := 1) (cap := 1) (cs := [s]) rfl (Nat.le_refl _) rfl (hh.pt 0 rfl)).vw
  refine app_hasW (z := [.slice none 0 0]) hh (i + 1) hi hv (by simp [hs]) (by omega) fun s' h' hh' => hK s' h' ?_
  have h2 := hh'.tail
  unfold OutP
  rw [List.length_append, List.map_append]
  exact h2

/-- What one round asks. -/
def askL (A : Rs) (k : Int) : List (List Int) := [(mTree A k).1, (mKids A k).1]
def roundL (A : Rs) : List (List Int) := askL A 0 ++ ((kids A 0).take 3).flatMap (askL A) ++ [liveL A]
theorem roundL_len (A : Rs) : (roundL A).length = 3 + 2 * min 3 (kids A 0).length := by
  unfold roundL
  rw [List.length_append, List.length_append]
  have : ∀ l : List Int, (l.flatMap (askL A)).length = 2 * l.length := fun l => by
    induction l with
    | nil => rfl
    | cons a l ih => rw [List.flatMap_cons, List.length_append, ih, List.length_cons]; show 2 + _ = _; omega
  rw [this, List.length_take]
  show 2 + _ + 1 = _
  omega
theorem roundL_0 (A : Rs) : (roundL A)[0]? = some (mTree A 0).1 := rfl
theorem roundL_1 (A : Rs) : (roundL A)[1]? = some (mKids A 0).1 := rfl
theorem roundL_last (A : Rs) : (roundL A)[(roundL A).length - 1]? = some (liveL A) := by
  unfold roundL
  rw [List.length_append, List.length_singleton, Nat.add_sub_cancel, List.getElem?_append_right (Nat.le_refl _), Nat.sub_self]; rfl
theorem live_le (A : Rs) : (liveL A).length ≤ 16 := by
  unfold liveL
  rw [List.length_map]
  have := List.length_filter_le (fun k : Nat => (fnd A (k : Int)).isSome) (List.range 16)
  rwa [List.length_range] at this
theorem kids_le (hw : WF A last) (e : Int) : (kids A e).length ≤ 16 := by
  have := hw.len
  have : (kids A e).length ≤ A.length := by unfold kids kidsR; rw [List.length_map]; exact List.length_filter_le _ _
  omega
theorem ask_le (hw : WF A last) (e : Int) : ∀ l ∈ askL A e, l.length ≤ 16 := by
  intro l hl
  rcases List.mem_cons.1 hl with rfl | hl
  · unfold mTree
    cases hr : fnd A e with
    | none => exact Nat.zero_le _
    | some r => exact walk_len hw hr
  · rw [List.mem_singleton.1 hl]
    unfold mKids
    cases hr : fnd A e with
    | none => exact Nat.zero_le _
    | some r => exact kids_le hw e
theorem roundL_le (hw : WF A last) : ∀ l ∈ roundL A, l.length ≤ 16 := by
  intro l hl
  unfold roundL at hl
  rcases List.mem_append.1 hl with hl | hl
  · rcases List.mem_append.1 hl with hl | hl
    · exact ask_le hw 0 l hl
    · obtain ⟨k, _, hk⟩ := List.mem_flatMap.1 hl
      exact ask_le hw k l hk
  · rw [List.mem_singleton.1 hl]; exact live_le A
end
end Go.Proofs.Ytljenppmdhldbaa.V
