/- A small table of cells, tied and looked up. -/
import Derived.Test.YtkmknolkblcbeaaB4
namespace Go.Proofs.Ytkmknolkblcbeaa.V
set_option linter.unusedSectionVars false
set_option linter.unusedVariables false
set_option linter.unusedSimpArgs false
open Go

theorem tied12 {h : Hp} {Q : Value → Hp → Prop} (hq : ∀ h', SubH h h' → Q (.bool true) h') : Ok PR 12 [] h Q := by
  refine e12 rfl ?_
  conv => whnf
  refine new20 fun p m1 m2 h1 hB hs np n1 n2 => ?_
  conv => whnf
  refine cell28 2 ?_
  conv => whnf
  refine tie27 hB 1 2 (fun _ _ h2 hB2 hs2 => ?_) (fun x hx => by cases hx) (fun _ x hx => by cases hx)
  conv => whnf
  refine cell28 2 ?_
  conv => whnf
  refine tie27 hB2 3 2 (fun hx hy => by cases hy) (fun x hx => by cases hx) (fun _ x hx => ?_)
  conv => whnf
  refine to34 hB2 1 (fun b hb => ?_) (fun hx => by cases hx)
  cases hb
  conv => whnf
  refine ⟨h2, _, SubH.refl _, SubB.refl _, ?_⟩
  conv => whnf
  refine cell28 2 ?_
  conv => whnf
  refine ⟨⟨SubH.refl _, SubB.refl _⟩, ?_⟩
  conv => whnf
  refine len32 hB2 ?_
  conv => whnf
  refine hq _ fun x o hx => ?_
  have e1 : x ≠ p := fun e => by subst e; rw [np] at hx; cases hx
  have e2 : x ≠ m1 := fun e => by subst e; rw [n1] at hx; cases hx
  have e3 : x ≠ m2 := fun e => by subst e; rw [n2] at hx; cases hx
  rw [hs2 x e2 e3, hs x e1 e2 e3]; exact hx

end Go.Proofs.Ytkmknolkblcbeaa.V
