/- Seat 09: a tree pays no more than its root has, in plain words. -/
import Derived.Test.YtljenppmdhldbaaH32
namespace Go.Proofs.Ytljenppmdhldbaa.V
set_option linter.unusedVariables false
set_option linter.unusedSimpArgs false
set_option linter.unusedSectionVars false
set_option linter.unusedSectionVars false
open Go

def paidOf (A : Rs) (k : Int) : Q3 := match fnd A k with
  | none => qz
  | some r => r.paid
def psum (A : Rs) : List Int → Q3
  | [] => qz
  | k :: l => qadd (paidOf A k) (psum A l)

section
variable {A : Rs} {last : Int}

theorem psum_append (l m : List Int) : psum A (l ++ m) = qadd (psum A l) (psum A m) := by
  induction l with
  | nil => simp only [List.nil_append, psum]; exact (Prod.ext (show (psum A m).1 = 0 + (psum A m).1 by omega) (Prod.ext (show (psum A m).2.1 = 0 + (psum A m).2.1 by omega) (show (psum A m).2.2 = 0 + (psum A m).2.2 by omega)))
  | cons k l ih =>
    simp only [List.cons_append, psum, ih]
    simp only [qadd]
    exact Prod.ext (by simp only; omega) (Prod.ext (by simp only; omega) (by simp only; omega))

theorem paid_ge (hw : WF A last) (k : Int) : qge (paidOf A k) := by
  unfold paidOf
  cases h : fnd A k with
  | none => exact ⟨Int.le_refl _, Int.le_refl _, Int.le_refl _⟩
  | some r => exact hw.qp r (fnd_mem h).1

theorem psum_ge (hw : WF A last) : ∀ l, qge (psum A l)
  | [] => ⟨Int.le_refl _, Int.le_refl _, Int.le_refl _⟩
  | k :: l => by
    obtain ⟨a1, a2, a3⟩ := paid_ge hw k
    obtain ⟨b1, b2, b3⟩ := psum_ge hw l
    simp only [psum, qadd]
    exact ⟨by simp only; omega, by simp only; omega, by simp only; omega⟩

theorem kids_sum (hw : WF A last) : ∀ (R : List Row), (∀ x ∈ R, qle (qadd (psum A (walk A x.num)) (0, ((walk A x.num).length : Int) - 1, 0)) x.whole) →
    qle (qadd (psum A ((R.map fun x => (x.num : Int)).flatMap (walk A))) (0, (((R.map fun x => (x.num : Int)).flatMap (walk A)).length : Int), 0)) (qsum (R.map fun x => x.whole))
  | [], _ => ⟨Int.le_refl _, Int.le_refl _, Int.le_refl _⟩
  | x :: R, h => by
    obtain ⟨a1, a2, a3⟩ := h x (List.mem_cons_self ..)
    obtain ⟨b1, b2, b3⟩ := kids_sum hw R fun y hy => h y (List.mem_cons_of_mem _ hy)
    rw [List.map_cons, List.flatMap_cons, psum_append, List.length_append, List.map_cons]
    simp only [qsum, qadd, qchild, qle] at *
    refine ⟨?_, ?_, ?_⟩ <;> omega

theorem whole_tree (hw : WF A last) {e : Int} {r : Row} (hr : fnd A e = some r) : qle (qadd (psum A (walk A e)) (0, ((walk A e).length : Int) - 1, 0)) r.whole := by
  have := tree_ind hw (P := fun e => ∀ r, fnd A e = some r → qle (qadd (psum A (walk A e)) (0, ((walk A e).length : Int) - 1, 0)) r.whole) (fun e r hr ih r' hr' => ?_)
  · exact this e r hr r hr
  · rw [hr] at hr'; cases hr'
    have hm := fnd_mem hr
    have h1 := kids_sum hw (kidsR A e) fun x hx => by
      have h2 := mem_kidsR.1 hx
      exact ih x.num (mem_kids.2 ⟨x, h2.1, h2.2, rfl⟩) x (fnd_of hw.nd h2.1)
    have h2 := hw.ql r hm.1
    have e1 : paidOf A e = r.paid := by unfold paidOf; rw [hr]
    rw [walk_eq hw hr]
    rw [show (kids A e) = (kidsR A e).map fun x => (x.num : Int) from rfl]
    unfold left carve at h2
    rw [hm.2] at h2
    obtain ⟨a1, a2, a3⟩ := h1
    obtain ⟨b1, b2, b3⟩ := h2
    simp only [psum, qadd, qsub, e1, List.length_cons, qle] at *
    refine ⟨?_, ?_, ?_⟩ <;> omega

theorem psum_part (hw : WF A last) (l : List Int) (i : Nat) : qle (psum A (l.take i)) (psum A l) := by
  have h := psum_append (A := A) (l.take i) (l.drop i)
  rw [List.take_append_drop] at h
  rw [h]
  obtain ⟨a1, a2, a3⟩ := psum_ge hw (l.drop i)
  simp only [qadd, qle]
  exact ⟨by omega, by omega, by omega⟩

end
end Go.Proofs.Ytljenppmdhldbaa.V
