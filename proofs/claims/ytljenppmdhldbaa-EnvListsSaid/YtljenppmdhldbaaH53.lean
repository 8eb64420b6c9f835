/- Seat 09: nothing else is told anew. -/
import Derived.Test.YtljenppmdhldbaaH30
import Derived.Test.YtljenppmdhldbaaH32
namespace Go.Proofs.Ytljenppmdhldbaa.V
set_option linter.unusedVariables false
set_option linter.unusedSimpArgs false
set_option linter.unusedSectionVars false
set_option linter.unusedSectionVars false
open Go

section
variable {h : Hp} {Q : Value → Hp → Prop} {L : List As} {A B : Rs} {l1 l2 : Int}

theorem told_rdX (hw : WF A l1) {n : Nat} (hn : n < 16) : rd (told A).toArray (n * 21) 21 true = some (.agg (infC (mInfo A (n : Int)).1).toArray) := by
  have ok : ∀ x ∈ tellX A, InfOk x := fun x hx => by obtain ⟨n, _, rfl⟩ := List.mem_map.1 hx; exact info_ok hw n
  have hg : (tellX A)[n]? = some (mInfo A (n : Int)).1 := by simp [tellX, hn]
  refine agg_rd (infC_len (info_ok hw n)) (by rw [List.size_toArray, told_l hw]; omega) fun j v hj => ?_
  have hj2 : j < 21 := by have := (List.getElem?_eq_some_iff.1 hj).1; rwa [infC_len (info_ok hw n)] at this
  rw [List.getElem?_toArray, told, toldC, List.getElem?_append_left (by rw [flat_inf ok]; simp [tellX]; omega), flat_inf_get ok hg hj2, hj]

theorem told_rdE (hw : WF A l1) {n : Nat} (hn : n < 16) : rd (told A).toArray (336 + n) 1 false = some (iv (mInfo A (n : Int)).2) := by
  have ok : ∀ x ∈ tellX A, InfOk x := fun x hx => by obtain ⟨n, _, rfl⟩ := List.mem_map.1 hx; exact info_ok hw n
  have hl : ((tellX A).flatMap infC).length = 336 := by rw [flat_inf ok]; simp [tellX]
  show (told A).toArray[336 + n]? = _
  rw [List.getElem?_toArray, told, toldC, List.getElem?_append_right (by omega), hl, show 336 + n - 336 = n by omega, List.getElem?_map]
  simp [tellE, hn]

theorem only25 (hA : WF A l1) (hB : WF B l2) (e : Int) (hsame : ∀ n : Nat, n < 16 → (n : Int) ≠ e → mInfo A (n : Int) = mInfo B (n : Int)) (hq : Q (.bool true) h) : Ok PR 25 [.agg (told A).toArray, .agg (told B).toArray, iv e, iv e] h Q := by
  refine e25 rfl (seq_step fun K hK => ?_)
  repeat (first | ((with_reducible refine hK _ _ _ ?_); clear hK) | (with_reducible refine seq_step fun K hK => ?_) | (with_reducible refine block_step ?_) | ((with_reducible refine cond_t ?_ ?_); focus rfl) | ((with_reducible refine cond_f ?_ ?_); focus rfl) | ((with_reducible refine code_id ?_); conv => whnf) | (clear hK; (with_reducible refine hK _ _ _ ?_); clear hK) | (clear hK; clear hK; (with_reducible refine hK _ _ _ ?_); clear hK) | (clear hK; clear hK; clear hK; (with_reducible refine hK _ _ _ ?_); clear hK) | (clear hK; clear hK; clear hK; clear hK; (with_reducible refine hK _ _ _ ?_); clear hK) | (clear hK; clear hK; clear hK; clear hK; clear hK; (with_reducible refine hK _ _ _ ?_); clear hK) | (clear hK; clear hK; clear hK; clear hK; clear hK; clear hK; (with_reducible refine hK _ _ _ ?_); clear hK) | (clear hK; clear hK; clear hK; clear hK; clear hK; clear hK; clear hK; (with_reducible refine hK _ _ _ ?_); clear hK))
  refine loop_intro (σ := Nat) (fun s => [(2, .v (iv e)), (3, .v (iv e)), (4, .l 4 0), (5, .l 5 0), (9, .v (iv s))]) (fun _ => [(4, told A), (5, told B)]) (fun _ => h) (fun s => s ≤ 16) (fun s => 16 - s) 0 (Nat.zero_le _)
    (subE_cons rfl (subE_cons rfl (subE_cons rfl (subE_cons rfl (subE_cons rfl subE_nil))))) (subB_cons rfl (subB_cons rfl subB_nil)) rfl ?_
  intro i hi
  have hnext : IntKind.i64.wrap ((i : Int) + 1) = ((i + 1 : Nat) : Int) := wrap_nat (by omega)
  repeat (first | ((with_reducible refine hK _ _ _ ?_); clear hK) | (with_reducible refine seq_step fun K hK => ?_) | (with_reducible refine block_step ?_) | ((with_reducible refine cond_t ?_ ?_); focus rfl) | ((with_reducible refine cond_f ?_ ?_); focus rfl) | ((with_reducible refine code_id ?_); conv => whnf) | (clear hK; (with_reducible refine hK _ _ _ ?_); clear hK) | (clear hK; clear hK; (with_reducible refine hK _ _ _ ?_); clear hK) | (clear hK; clear hK; clear hK; (with_reducible refine hK _ _ _ ?_); clear hK) | (clear hK; clear hK; clear hK; clear hK; (with_reducible refine hK _ _ _ ?_); clear hK) | (clear hK; clear hK; clear hK; clear hK; clear hK; (with_reducible refine hK _ _ _ ?_); clear hK) | (clear hK; clear hK; clear hK; clear hK; clear hK; clear hK; (with_reducible refine hK _ _ _ ?_); clear hK) | (clear hK; clear hK; clear hK; clear hK; clear hK; clear hK; clear hK; (with_reducible refine hK _ _ _ ?_); clear hK))
  refine cond_dec (fun hlt => ?_) (fun hge => ?_)
  · have hi16 : i < 16 := by omega
    by_cases hie : (i : Int) = e
    · repeat (first | ((with_reducible refine hK _ _ _ ?_); clear hK) | (with_reducible refine seq_step fun K hK => ?_) | (with_reducible refine block_step ?_) | ((with_reducible refine cond_t ?_ ?_); focus rfl) | ((with_reducible refine cond_f ?_ ?_); focus rfl) | ((with_reducible refine code_id ?_); conv => whnf) | (clear hK; (with_reducible refine hK _ _ _ ?_); clear hK) | (clear hK; clear hK; (with_reducible refine hK _ _ _ ?_); clear hK) | (clear hK; clear hK; clear hK; (with_reducible refine hK _ _ _ ?_); clear hK) | (clear hK; clear hK; clear hK; clear hK; (with_reducible refine hK _ _ _ ?_); clear hK) | (clear hK; clear hK; clear hK; clear hK; clear hK; (with_reducible refine hK _ _ _ ?_); clear hK) | (clear hK; clear hK; clear hK; clear hK; clear hK; clear hK; (with_reducible refine hK _ _ _ ?_); clear hK) | (clear hK; clear hK; clear hK; clear hK; clear hK; clear hK; clear hK; (with_reducible refine hK _ _ _ ?_); clear hK) | (refine ⟨_, _, SubH.refl _, SubB.refl _, ?_⟩; conv => whnf) | (refine ⟨⟨SubH.refl _, SubB.refl _⟩, ?_⟩; conv => whnf) | (refine ⟨_, _, ⟨SubH.refl _, SubB.refl _⟩, SubH.refl _, SubB.refl _, ?_⟩; conv => whnf))
      rw [show ((i : Int) != e) = false by rw [hie]; exact bne_self_eq_false _]
      conv => whnf
      repeat (first | ((with_reducible refine hK _ _ _ ?_); clear hK) | (with_reducible refine seq_step fun K hK => ?_) | (with_reducible refine block_step ?_) | ((with_reducible refine cond_t ?_ ?_); focus rfl) | ((with_reducible refine cond_f ?_ ?_); focus rfl) | ((with_reducible refine code_id ?_); conv => whnf) | (clear hK; (with_reducible refine hK _ _ _ ?_); clear hK) | (clear hK; clear hK; (with_reducible refine hK _ _ _ ?_); clear hK) | (clear hK; clear hK; clear hK; (with_reducible refine hK _ _ _ ?_); clear hK) | (clear hK; clear hK; clear hK; clear hK; (with_reducible refine hK _ _ _ ?_); clear hK) | (clear hK; clear hK; clear hK; clear hK; clear hK; (with_reducible refine hK _ _ _ ?_); clear hK) | (clear hK; clear hK; clear hK; clear hK; clear hK; clear hK; (with_reducible refine hK _ _ _ ?_); clear hK) | (clear hK; clear hK; clear hK; clear hK; clear hK; clear hK; clear hK; (with_reducible refine hK _ _ _ ?_); clear hK) | (refine ⟨_, _, SubH.refl _, SubB.refl _, ?_⟩; conv => whnf) | (refine ⟨⟨SubH.refl _, SubB.refl _⟩, ?_⟩; conv => whnf) | (refine ⟨_, _, ⟨SubH.refl _, SubB.refl _⟩, SubH.refl _, SubB.refl _, ?_⟩; conv => whnf))
      exact ⟨i + 1, hi16, by omega, subE_cons rfl (subE_cons rfl (subE_cons rfl (subE_cons rfl (subE_cons (int_eq hnext rfl) subE_nil)))), subB_cons rfl (subB_cons rfl subB_nil), rfl⟩
    · have hs := hsame i hi16 hie
      repeat (first | ((with_reducible refine hK _ _ _ ?_); clear hK) | (with_reducible refine seq_step fun K hK => ?_) | (with_reducible refine block_step ?_) | ((with_reducible refine cond_t ?_ ?_); focus rfl) | ((with_reducible refine cond_f ?_ ?_); focus rfl) | ((with_reducible refine code_id ?_); conv => whnf) | (clear hK; (with_reducible refine hK _ _ _ ?_); clear hK) | (clear hK; clear hK; (with_reducible refine hK _ _ _ ?_); clear hK) | (clear hK; clear hK; clear hK; (with_reducible refine hK _ _ _ ?_); clear hK) | (clear hK; clear hK; clear hK; clear hK; (with_reducible refine hK _ _ _ ?_); clear hK) | (clear hK; clear hK; clear hK; clear hK; clear hK; (with_reducible refine hK _ _ _ ?_); clear hK) | (clear hK; clear hK; clear hK; clear hK; clear hK; clear hK; (with_reducible refine hK _ _ _ ?_); clear hK) | (clear hK; clear hK; clear hK; clear hK; clear hK; clear hK; clear hK; (with_reducible refine hK _ _ _ ?_); clear hK) | (refine ⟨_, _, SubH.refl _, SubB.refl _, ?_⟩; conv => whnf) | (refine ⟨⟨SubH.refl _, SubB.refl _⟩, ?_⟩; conv => whnf) | (refine ⟨_, _, ⟨SubH.refl _, SubB.refl _⟩, SubH.refl _, SubB.refl _, ?_⟩; conv => whnf))
      rw [show ((i : Int) != e) = true from bne_iff_ne.2 hie]
      conv => whnf
      rw [show ((i : Int) != e) = true from bne_iff_ne.2 hie]
      conv => whnf
      refine opt_if ⟨by omega, by omega⟩ ?_
      conv => whnf
      refine opt_ldLo (v := .agg (infC (mInfo A (i : Int)).1).toArray) rfl (by rw [show 0 + 0 + (i : Int).toNat * 21 = i * 21 by omega]; exact told_rdX hA hi16) ?_
      conv => whnf
      refine opt_if ⟨by omega, by omega⟩ ?_
      conv => whnf
      refine opt_ldLo (v := .agg (infC (mInfo B (i : Int)).1).toArray) rfl (by rw [show 0 + 0 + (i : Int).toNat * 21 = i * 21 by omega]; exact told_rdX hB hi16) ?_
      conv => whnf
      refine opt_eqkd (X := infC (mInfo A (i : Int)).1) (Y := infC (mInfo B (i : Int)).1) (b := true) K21 rfl rfl (infC_kd (info_ok hA i)) (infC_kd (info_ok hB i)) (by rw [hs]; simp) ?_
      conv => whnf
      refine opt_if ⟨by omega, by omega⟩ ?_
      conv => whnf
      refine opt_ldLo (v := iv (mInfo A (i : Int)).2) rfl (by rw [show 0 + 336 + (i : Int).toNat * 1 = 336 + i by omega]; exact told_rdE hA hi16) ?_
      conv => whnf
      refine opt_if ⟨by omega, by omega⟩ ?_
      conv => whnf
      refine opt_ldLo (v := iv (mInfo B (i : Int)).2) rfl (by rw [show 0 + 336 + (i : Int).toNat * 1 = 336 + i by omega]; exact told_rdE hB hi16) ?_
      conv => whnf
      rw [show ((mInfo A (i : Int)).2 != (mInfo B (i : Int)).2) = false by rw [hs]; exact bne_self_eq_false _]
      conv => whnf
      repeat (first | ((with_reducible refine hK _ _ _ ?_); clear hK) | (with_reducible refine seq_step fun K hK => ?_) | (with_reducible refine block_step ?_) | ((with_reducible refine cond_t ?_ ?_); focus rfl) | ((with_reducible refine cond_f ?_ ?_); focus rfl) | ((with_reducible refine code_id ?_); conv => whnf) | (clear hK; (with_reducible refine hK _ _ _ ?_); clear hK) | (clear hK; clear hK; (with_reducible refine hK _ _ _ ?_); clear hK) | (clear hK; clear hK; clear hK; (with_reducible refine hK _ _ _ ?_); clear hK) | (clear hK; clear hK; clear hK; clear hK; (with_reducible refine hK _ _ _ ?_); clear hK) | (clear hK; clear hK; clear hK; clear hK; clear hK; (with_reducible refine hK _ _ _ ?_); clear hK) | (clear hK; clear hK; clear hK; clear hK; clear hK; clear hK; (with_reducible refine hK _ _ _ ?_); clear hK) | (clear hK; clear hK; clear hK; clear hK; clear hK; clear hK; clear hK; (with_reducible refine hK _ _ _ ?_); clear hK) | (refine ⟨_, _, SubH.refl _, SubB.refl _, ?_⟩; conv => whnf) | (refine ⟨⟨SubH.refl _, SubB.refl _⟩, ?_⟩; conv => whnf) | (refine ⟨_, _, ⟨SubH.refl _, SubB.refl _⟩, SubH.refl _, SubB.refl _, ?_⟩; conv => whnf))
      exact ⟨i + 1, hi16, by omega, subE_cons rfl (subE_cons rfl (subE_cons rfl (subE_cons rfl (subE_cons (int_eq hnext rfl) subE_nil)))), subB_cons rfl (subB_cons rfl subB_nil), rfl⟩
  · repeat (first | ((with_reducible refine hK _ _ _ ?_); clear hK) | (with_reducible refine seq_step fun K hK => ?_) | (with_reducible refine block_step ?_) | ((with_reducible refine cond_t ?_ ?_); focus rfl) | ((with_reducible refine cond_f ?_ ?_); focus rfl) | ((with_reducible refine code_id ?_); conv => whnf) | (clear hK; (with_reducible refine hK _ _ _ ?_); clear hK) | (clear hK; clear hK; (with_reducible refine hK _ _ _ ?_); clear hK) | (clear hK; clear hK; clear hK; (with_reducible refine hK _ _ _ ?_); clear hK) | (clear hK; clear hK; clear hK; clear hK; (with_reducible refine hK _ _ _ ?_); clear hK) | (clear hK; clear hK; clear hK; clear hK; clear hK; (with_reducible refine hK _ _ _ ?_); clear hK) | (clear hK; clear hK; clear hK; clear hK; clear hK; clear hK; (with_reducible refine hK _ _ _ ?_); clear hK) | (clear hK; clear hK; clear hK; clear hK; clear hK; clear hK; clear hK; (with_reducible refine hK _ _ _ ?_); clear hK))
    exact hq

/-- What a setting step says of its environment. -/
def SetOk (o : OpE) (x y : Inf) : Prop :=
  if o.kind = 5 then y = { x with regs := o.regs, pc := o.pc }
  else if o.kind = 6 then y = (if (0 ≤ o.n ∧ o.n ≤ 4) ∧ isW o.m then { x with state := o.n, code := o.m } else x)
  else if o.kind = 7 then y = (if isW o.n then { x with bits := o.n } else x)
  else if o.kind = 10 then y = { x with frozen := o.on }
  else if o.kind = 11 ∨ o.kind = 12 then y = { x with left := y.left }
  else if o.kind = 8 ∨ o.kind = 9 then y = { x with state := y.state, bits := y.bits, regs := (x.regs.set 0 (y.regs.getD 0 0)).set 1 (y.regs.getD 1 0) }
  else y = x

end
end Go.Proofs.Ytljenppmdhldbaa.V
