/- Seat 09: lists of lists; asked. -/
import Derived.Test.YtljenppmdhldbaaH58
import Derived.Test.YtljenppmdhldbaaH23
namespace Go.Proofs.Ytljenppmdhldbaa.V
set_option linter.unusedVariables false
set_option linter.unusedSimpArgs false
set_option linter.unusedSectionVars false
set_option linter.unusedSectionVars false
open Go

abbrev Ls := List (Value × List Int)
/-- Each of these slices has these ints for its own. -/
def Its (xs : Ls) : List As := xs.map fun x => IntsP x.1 x.2
/-- The outer slice of these slices. -/
def OutP (so : Value) (xs : Ls) : As := WnP 1 so xs.length (xs.map (·.1))

section
variable {h : Hp} {Q : Value → Hp → Prop} {L : List As} {A : Rs} {last : Int} {t : Nat}

theorem its_get {xs : Ls} {i : Nat} {x : Value × List Int} (hx : xs[i]? = some x) (L : List As) : (Its xs ++ L)[i]? = some (IntsP x.1 x.2) := by
  have hi := (List.getElem?_eq_some_iff.1 hx).1
  rw [List.getElem?_append_left (by simp [Its]; exact hi)]
  unfold Its
  rw [List.getElem?_map, hx]; rfl

theorem its_set {xs : Ls} {i : Nat} (hi : i < xs.length) (x : Value × List Int) (L : List As) : (Its xs ++ L).set i (IntsP x.1 x.2) = Its (xs.set i x) ++ L := by
  rw [List.set_append_left _ _ (by simp [Its]; exact hi)]
  unfold Its
  rw [List.map_set]

theorem its_snoc (xs : Ls) (x : Value × List Int) (L : List As) : (Its (xs ++ [x]) ++ L).Perm (IntsP x.1 x.2 :: (Its xs ++ L)) := by
  unfold Its
  rw [List.map_append, List.append_assoc]
  exact List.perm_middle

theorem its_snoc2 (xs : Ls) (x y : Value × List Int) (L : List As) : (Its (xs ++ [x, y]) ++ L).Perm (IntsP x.1 x.2 :: IntsP y.1 y.2 :: (Its xs ++ L)) := by
  unfold Its
  rw [List.map_append, List.append_assoc]
  exact List.perm_middle.trans (List.Perm.cons _ List.perm_middle)

/-- Two lists more. -/
theorem asked41 (hw : WF A last) (e : Int) {so : Value} {xs : Ls} (hl : xs.length < 1099511627776) (hh : Has (OutP so xs :: EnvA t A last :: (Its xs ++ L)) h)
    (hq : ∀ so' a b h', Has (OutP so' (xs ++ [(a, (mTree A e).1), (b, (mKids A e).1)]) :: EnvA t A last :: (Its (xs ++ [(a, (mTree A e).1), (b, (mKids A e).1)]) ++ L)) h' → Q so' h') : Ok PR 41 [ptr t, so, iv e] h Q := by
  refine e41 rfl (seq_step fun K hK => ?_)
  repeat (first | ((with_reducible refine hK _ _ _ ?_); clear hK) | (with_reducible refine seq_step fun K hK => ?_) | (with_reducible refine block_step ?_) | ((with_reducible refine cond_t ?_ ?_); focus rfl) | ((with_reducible refine cond_f ?_ ?_); focus rfl) | ((with_reducible refine code_id ?_); conv => whnf) | (clear hK; (with_reducible refine hK _ _ _ ?_); clear hK) | (clear hK; clear hK; (with_reducible refine hK _ _ _ ?_); clear hK) | (clear hK; clear hK; clear hK; (with_reducible refine hK _ _ _ ?_); clear hK) | (clear hK; clear hK; clear hK; clear hK; (with_reducible refine hK _ _ _ ?_); clear hK) | (clear hK; clear hK; clear hK; clear hK; clear hK; (with_reducible refine hK _ _ _ ?_); clear hK) | (clear hK; clear hK; clear hK; clear hK; clear hK; clear hK; (with_reducible refine hK _ _ _ ?_); clear hK) | (clear hK; clear hK; clear hK; clear hK; clear hK; clear hK; clear hK; (with_reducible refine hK _ _ _ ?_); clear hK))
  refine tree27A hw e hh.swap fun a h1 hh1 => ?_
  obtain ⟨ba, ca, hs⟩ := hh1.slv 0 rfl
  subst hs
  conv => whnf
  repeat (first | ((with_reducible refine hK _ _ _ ?_); clear hK) | (with_reducible refine seq_step fun K hK => ?_) | (with_reducible refine block_step ?_) | ((with_reducible refine cond_t ?_ ?_); focus rfl) | ((with_reducible refine cond_f ?_ ?_); focus rfl) | ((with_reducible refine code_id ?_); conv => whnf) | (clear hK; (with_reducible refine hK _ _ _ ?_); clear hK) | (clear hK; clear hK; (with_reducible refine hK _ _ _ ?_); clear hK) | (clear hK; clear hK; clear hK; (with_reducible refine hK _ _ _ ?_); clear hK) | (clear hK; clear hK; clear hK; clear hK; (with_reducible refine hK _ _ _ ?_); clear hK) | (clear hK; clear hK; clear hK; clear hK; clear hK; (with_reducible refine hK _ _ _ ?_); clear hK) | (clear hK; clear hK; clear hK; clear hK; clear hK; clear hK; (with_reducible refine hK _ _ _ ?_); clear hK) | (clear hK; clear hK; clear hK; clear hK; clear hK; clear hK; clear hK; (with_reducible refine hK _ _ _ ?_); clear hK))
  refine kids39A hw e hh1.swap fun b h2 hh2 => ?_
  obtain ⟨bb, cb, hs⟩ := hh2.slv 0 rfl
  subst hs
  conv => whnf
  repeat (first | ((with_reducible refine hK _ _ _ ?_); clear hK) | (with_reducible refine seq_step fun K hK => ?_) | (with_reducible refine block_step ?_) | ((with_reducible refine cond_t ?_ ?_); focus rfl) | ((with_reducible refine cond_f ?_ ?_); focus rfl) | ((with_reducible refine code_id ?_); conv => whnf) | (clear hK; (with_reducible refine hK _ _ _ ?_); clear hK) | (clear hK; clear hK; (with_reducible refine hK _ _ _ ?_); clear hK) | (clear hK; clear hK; clear hK; (with_reducible refine hK _ _ _ ?_); clear hK) | (clear hK; clear hK; clear hK; clear hK; (with_reducible refine hK _ _ _ ?_); clear hK) | (clear hK; clear hK; clear hK; clear hK; clear hK; (with_reducible refine hK _ _ _ ?_); clear hK) | (clear hK; clear hK; clear hK; clear hK; clear hK; clear hK; (with_reducible refine hK _ _ _ ?_); clear hK) | (clear hK; clear hK; clear hK; clear hK; clear hK; clear hK; clear hK; (with_reducible refine hK _ _ _ ?_); clear hK))
  refine fresh_has hh2 fun b1 h3 _ _ _ hh3 => ?_
  conv => whnf
  have hv : Vw 1 h3 (.slice (some ⟨b1, 0, none⟩) 2 2) 2 [.slice ba (mTree A e).1.length ca, .slice bb (mKids A e).1.length cb] := (pt_wn (e := 1) (n := 2) (cap := 2) (cs := [.slice ba (mTree A e).1.length ca, .slice bb (mKids A e).1.length cb]) rfl (Nat.le_refl _) rfl (hh3.pt 0 rfl)).vw
  refine app_hasW (z := [.slice none 0 0]) hh3 4 rfl hv rfl (by omega) fun s' h' hh' => ?_
  have h6 : Has (OutP s' (xs ++ [(.slice ba (mTree A e).1.length ca, (mTree A e).1), (.slice bb (mKids A e).1.length cb, (mKids A e).1)]) :: EnvA t A last :: IntsP (.slice ba (mTree A e).1.length ca) (mTree A e).1 :: IntsP (.slice bb (mKids A e).1.length cb) (mKids A e).1 :: (Its xs ++ L)) h' := by
    have h5 := hh'.tail
    have h5 : Has (IntsP (.slice bb (mKids A e).1.length cb) (mKids A e).1 :: EnvA t A last :: IntsP (.slice ba (mTree A e).1.length ca) (mTree A e).1 :: OutP s' (xs ++ [(.slice ba (mTree A e).1.length ca, (mTree A e).1), (.slice bb (mKids A e).1.length cb, (mKids A e).1)]) :: (Its xs ++ L)) h' := by
      unfold OutP
      rw [List.length_append, List.map_append]
      exact h5
    exact (h5.pull 3 rfl).map_tail fun g hg => (hg.pull 1 rfl).map_tail fun g hg => hg.swap
  conv => whnf
  repeat (first | ((with_reducible refine hK _ _ _ ?_); clear hK) | (with_reducible refine seq_step fun K hK => ?_) | (with_reducible refine block_step ?_) | ((with_reducible refine cond_t ?_ ?_); focus rfl) | ((with_reducible refine cond_f ?_ ?_); focus rfl) | ((with_reducible refine code_id ?_); conv => whnf) | (clear hK; (with_reducible refine hK _ _ _ ?_); clear hK) | (clear hK; clear hK; (with_reducible refine hK _ _ _ ?_); clear hK) | (clear hK; clear hK; clear hK; (with_reducible refine hK _ _ _ ?_); clear hK) | (clear hK; clear hK; clear hK; clear hK; (with_reducible refine hK _ _ _ ?_); clear hK) | (clear hK; clear hK; clear hK; clear hK; clear hK; (with_reducible refine hK _ _ _ ?_); clear hK) | (clear hK; clear hK; clear hK; clear hK; clear hK; clear hK; (with_reducible refine hK _ _ _ ?_); clear hK) | (clear hK; clear hK; clear hK; clear hK; clear hK; clear hK; clear hK; (with_reducible refine hK _ _ _ ?_); clear hK))
  exact hq _ _ _ _ (h6.perm (List.Perm.cons _ (List.Perm.cons _ (its_snoc2 xs _ _ L).symm)))
end
end Go.Proofs.Ytljenppmdhldbaa.V
