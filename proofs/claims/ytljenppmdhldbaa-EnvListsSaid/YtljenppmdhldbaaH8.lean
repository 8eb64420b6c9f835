/- Seat 09: what the calls on a book do. -/
import Derived.Test.YtljenppmdhldbaaH7
namespace Go.Proofs.Ytljenppmdhldbaa.V
set_option linter.unusedVariables false
set_option linter.unusedSimpArgs false
set_option linter.unusedSectionVars false
set_option linter.unusedSectionVars false
open Go

section
variable {h : Hp} {Q : Value → Hp → Prop} {L : List As} {b : Nat} {r : Rec} {s : Value}

theorem recC_carve (hr : r.regs.length = 8) (q : Q3) : wrL (recC r s) 27 (q3 q) = recC { r with carved := q } s := by
  obtain ⟨_, _, _, _, _, _, regs, _, _, _, _, _⟩ := r
  match regs, hr with
  | [_, _, _, _, _, _, _, _], _ => rfl
theorem recC_paid (hr : r.regs.length = 8) (q : Q3) : wrL (recC r s) 24 (q3 q) = recC { r with paid := q } s := by
  obtain ⟨_, _, _, _, _, _, regs, _, _, _, _, _⟩ := r
  match regs, hr with
  | [_, _, _, _, _, _, _, _], _ => rfl

theorem carve64 (q : Q3) (hr : r.regs.length = 8) (h1 : in64 (q.2.1 + 1)) (h2 : qin (qadd r.carved (qchild q))) (hh : Has (Pt b (.cells (recC r s).toArray 103 (0, 0)) :: L) h)
    (hq : ∀ h', Has (Pt b (.cells (recC { r with carved := qadd r.carved (qchild q) } s).toArray 103 (0, 0)) :: L) h' → Q (.tuple #[]) h') : Ok PR 64 [.pointer (some ⟨b, 0 + 21, none⟩), aq q] h Q := by
  refine e64 rfl (seq_step fun K hK => ?_)
  repeat (first | ((with_reducible refine hK _ _ _ ?_); clear hK) | (with_reducible refine seq_step fun K hK => ?_) | ((with_reducible refine code_id ?_); conv => whnf) | (clear hK; (with_reducible refine hK _ _ _ ?_); clear hK) | (clear hK; clear hK; (with_reducible refine hK _ _ _ ?_); clear hK) | (clear hK; clear hK; clear hK; (with_reducible refine hK _ _ _ ?_); clear hK))
  refine ⟨_, _, SubH.refl _, SubB.refl _, ?_⟩
  conv => whnf
  refine opt_ld (hh.pt 0 rfl) (rd_carved hr) ?_
  conv => whnf
  refine child62 q h1 ?_
  conv => whnf
  refine ⟨⟨SubH.refl _, SubB.refl _⟩, ?_⟩
  conv => whnf
  refine plus95 _ _ h2 ?_
  conv => whnf
  refine rc_stM hh 27 3 (q3 (qadd r.carved (qchild q))) rfl rfl hr (by omega) { r with carved := qadd r.carved (qchild q) } s rfl (recC_carve hr _) rfl fun h' hh' => ?_
  conv => whnf
  repeat (first | ((with_reducible refine hK _ _ _ ?_); clear hK) | (with_reducible refine seq_step fun K hK => ?_) | ((with_reducible refine code_id ?_); conv => whnf) | (clear hK; (with_reducible refine hK _ _ _ ?_); clear hK) | (clear hK; clear hK; (with_reducible refine hK _ _ _ ?_); clear hK) | (clear hK; clear hK; clear hK; (with_reducible refine hK _ _ _ ?_); clear hK))
  exact hq _ hh'

theorem uncarve66 (q : Q3) (hr : r.regs.length = 8) (h1 : in64 (q.2.1 + 1)) (h2 : qin (qsub r.carved (qchild q))) (hh : Has (Pt b (.cells (recC r s).toArray 103 (0, 0)) :: L) h)
    (hq : ∀ h', Has (Pt b (.cells (recC { r with carved := qsub r.carved (qchild q) } s).toArray 103 (0, 0)) :: L) h' → Q (.tuple #[]) h') : Ok PR 66 [.pointer (some ⟨b, 0 + 21, none⟩), aq q] h Q := by
  refine e66 rfl (seq_step fun K hK => ?_)
  repeat (first | ((with_reducible refine hK _ _ _ ?_); clear hK) | (with_reducible refine seq_step fun K hK => ?_) | ((with_reducible refine code_id ?_); conv => whnf) | (clear hK; (with_reducible refine hK _ _ _ ?_); clear hK) | (clear hK; clear hK; (with_reducible refine hK _ _ _ ?_); clear hK) | (clear hK; clear hK; clear hK; (with_reducible refine hK _ _ _ ?_); clear hK))
  refine ⟨_, _, SubH.refl _, SubB.refl _, ?_⟩
  conv => whnf
  refine opt_ld (hh.pt 0 rfl) (rd_carved hr) ?_
  conv => whnf
  refine child62 q h1 ?_
  conv => whnf
  refine ⟨⟨SubH.refl _, SubB.refl _⟩, ?_⟩
  conv => whnf
  refine minus93 _ _ h2 ?_
  conv => whnf
  refine rc_stM hh 27 3 (q3 (qsub r.carved (qchild q))) rfl rfl hr (by omega) { r with carved := qsub r.carved (qchild q) } s rfl (recC_carve hr _) rfl fun h' hh' => ?_
  conv => whnf
  repeat (first | ((with_reducible refine hK _ _ _ ?_); clear hK) | (with_reducible refine seq_step fun K hK => ?_) | ((with_reducible refine code_id ?_); conv => whnf) | (clear hK; (with_reducible refine hK _ _ _ ?_); clear hK) | (clear hK; clear hK; (with_reducible refine hK _ _ _ ?_); clear hK) | (clear hK; clear hK; clear hK; (with_reducible refine hK _ _ _ ?_); clear hK))
  exact hq _ hh'

theorem pay68 (q : Q3) (hb : Bk r) (hh : Has (Pt b (.cells (recC r s).toArray 103 (0, 0)) :: L) h) (h1 : ¬ qgood q → Q (iv 1) h) (h2 : qgood q → ¬ qle q r.lft → Q (iv 2) h)
    (h3 : qgood q → qle q r.lft → ∀ h', Has (Pt b (.cells (recC { r with paid := qadd r.paid q } s).toArray 103 (0, 0)) :: L) h' → Q (iv 0) h') : Ok PR 68 [.pointer (some ⟨b, 0 + 21, none⟩), aq q] h Q := by
  refine e68 rfl (seq_step fun K hK => ?_)
  repeat (first | ((with_reducible refine hK _ _ _ ?_); clear hK) | (with_reducible refine seq_step fun K hK => ?_) | ((with_reducible refine code_id ?_); conv => whnf) | (clear hK; (with_reducible refine hK _ _ _ ?_); clear hK) | (clear hK; clear hK; (with_reducible refine hK _ _ _ ?_); clear hK) | (clear hK; clear hK; clear hK; (with_reducible refine hK _ _ _ ?_); clear hK))
  refine good60 q ?_
  by_cases g1 : qgood q
  · rw [decide_eq_true g1]
    conv => whnf
    repeat (first | ((with_reducible refine hK _ _ _ ?_); clear hK) | (with_reducible refine seq_step fun K hK => ?_) | ((with_reducible refine code_id ?_); conv => whnf) | (clear hK; (with_reducible refine hK _ _ _ ?_); clear hK) | (clear hK; clear hK; (with_reducible refine hK _ _ _ ?_); clear hK) | (clear hK; clear hK; clear hK; (with_reducible refine hK _ _ _ ?_); clear hK))
    refine ⟨_, _, SubH.refl _, SubB.refl _, ?_⟩
    conv => whnf
    refine left58 hb (hh.pt 0 rfl) ?_
    conv => whnf
    refine ⟨⟨SubH.refl _, SubB.refl _⟩, ?_⟩
    conv => whnf
    refine fits61 q _ ?_
    by_cases g2 : qle q r.lft
    · rw [decide_eq_true g2]
      conv => whnf
      repeat (first | ((with_reducible refine hK _ _ _ ?_); clear hK) | (with_reducible refine seq_step fun K hK => ?_) | ((with_reducible refine code_id ?_); conv => whnf) | (clear hK; (with_reducible refine hK _ _ _ ?_); clear hK) | (clear hK; clear hK; (with_reducible refine hK _ _ _ ?_); clear hK) | (clear hK; clear hK; clear hK; (with_reducible refine hK _ _ _ ?_); clear hK))
      refine opt_ld (hh.pt 0 rfl) (rd_paid hb.rg) ?_
      conv => whnf
      refine plus95 _ _ ?_ ?_
      · obtain ⟨_, ⟨⟨w1, w2, w3⟩, w4, w5, w6⟩, ⟨p1, p2, p3⟩, ⟨c1, c2, c3⟩, ⟨l1, l2, l3⟩⟩ := hb
        obtain ⟨⟨q1, q2, q3⟩, q4, q5, q6⟩ := g1
        obtain ⟨k1, k2, k3⟩ := g2
        simp only [Rec.lft, qsub] at *
        refine ⟨⟨?_, ?_⟩, ⟨?_, ?_⟩, ⟨?_, ?_⟩⟩ <;> simp only [qadd] <;> omega
      conv => whnf
      refine rc_stM hh 24 3 (q3 (qadd r.paid q)) rfl rfl hb.rg (by omega) { r with paid := qadd r.paid q } s rfl (recC_paid hb.rg _) rfl fun h' hh' => ?_
      conv => whnf
      repeat (first | ((with_reducible refine hK _ _ _ ?_); clear hK) | (with_reducible refine seq_step fun K hK => ?_) | ((with_reducible refine code_id ?_); conv => whnf) | (clear hK; (with_reducible refine hK _ _ _ ?_); clear hK) | (clear hK; clear hK; (with_reducible refine hK _ _ _ ?_); clear hK) | (clear hK; clear hK; clear hK; (with_reducible refine hK _ _ _ ?_); clear hK))
      exact h3 g1 g2 _ hh'
    · rw [decide_eq_false g2]
      conv => whnf
      repeat (first | ((with_reducible refine hK _ _ _ ?_); clear hK) | (with_reducible refine seq_step fun K hK => ?_) | ((with_reducible refine code_id ?_); conv => whnf) | (clear hK; (with_reducible refine hK _ _ _ ?_); clear hK) | (clear hK; clear hK; (with_reducible refine hK _ _ _ ?_); clear hK) | (clear hK; clear hK; clear hK; (with_reducible refine hK _ _ _ ?_); clear hK))
      exact h2 g1 g2
  · rw [decide_eq_false g1]
    conv => whnf
    repeat (first | ((with_reducible refine hK _ _ _ ?_); clear hK) | (with_reducible refine seq_step fun K hK => ?_) | ((with_reducible refine code_id ?_); conv => whnf) | (clear hK; (with_reducible refine hK _ _ _ ?_); clear hK) | (clear hK; clear hK; (with_reducible refine hK _ _ _ ?_); clear hK) | (clear hK; clear hK; clear hK; (with_reducible refine hK _ _ _ ?_); clear hK))
    exact h1 g1

theorem refund69 (q : Q3) (hb : Bk r) (hh : Has (Pt b (.cells (recC r s).toArray 103 (0, 0)) :: L) h) (h1 : ¬ (qgood q ∧ qle q r.paid) → Q (iv 1) h)
    (h3 : qgood q → qle q r.paid → ∀ h', Has (Pt b (.cells (recC { r with paid := qsub r.paid q } s).toArray 103 (0, 0)) :: L) h' → Q (iv 0) h') : Ok PR 69 [.pointer (some ⟨b, 0 + 21, none⟩), aq q] h Q := by
  refine e69 rfl (seq_step fun K hK => ?_)
  repeat (first | ((with_reducible refine hK _ _ _ ?_); clear hK) | (with_reducible refine seq_step fun K hK => ?_) | ((with_reducible refine code_id ?_); conv => whnf) | (clear hK; (with_reducible refine hK _ _ _ ?_); clear hK) | (clear hK; clear hK; (with_reducible refine hK _ _ _ ?_); clear hK) | (clear hK; clear hK; clear hK; (with_reducible refine hK _ _ _ ?_); clear hK))
  refine good60 q ?_
  by_cases g1 : qgood q
  · rw [decide_eq_true g1]
    conv => whnf
    refine opt_ld (hh.pt 0 rfl) (rd_paid hb.rg) ?_
    conv => whnf
    refine fits61 q _ ?_
    by_cases g2 : qle q r.paid
    · rw [decide_eq_true g2]
      conv => whnf
      repeat (first | ((with_reducible refine hK _ _ _ ?_); clear hK) | (with_reducible refine seq_step fun K hK => ?_) | ((with_reducible refine code_id ?_); conv => whnf) | (clear hK; (with_reducible refine hK _ _ _ ?_); clear hK) | (clear hK; clear hK; (with_reducible refine hK _ _ _ ?_); clear hK) | (clear hK; clear hK; clear hK; (with_reducible refine hK _ _ _ ?_); clear hK))
      refine opt_ld (hh.pt 0 rfl) (rd_paid hb.rg) ?_
      conv => whnf
      refine minus93 _ _ ?_ ?_
      · obtain ⟨_, ⟨⟨w1, w2, w3⟩, w4, w5, w6⟩, ⟨p1, p2, p3⟩, ⟨c1, c2, c3⟩, ⟨l1, l2, l3⟩⟩ := hb
        obtain ⟨⟨q1, q2, q3⟩, q4, q5, q6⟩ := g1
        obtain ⟨k1, k2, k3⟩ := g2
        simp only [Rec.lft, qsub] at *
        refine ⟨⟨?_, ?_⟩, ⟨?_, ?_⟩, ⟨?_, ?_⟩⟩ <;> simp only [qsub] <;> omega
      conv => whnf
      refine rc_stM hh 24 3 (q3 (qsub r.paid q)) rfl rfl hb.rg (by omega) { r with paid := qsub r.paid q } s rfl (recC_paid hb.rg _) rfl fun h' hh' => ?_
      conv => whnf
      repeat (first | ((with_reducible refine hK _ _ _ ?_); clear hK) | (with_reducible refine seq_step fun K hK => ?_) | ((with_reducible refine code_id ?_); conv => whnf) | (clear hK; (with_reducible refine hK _ _ _ ?_); clear hK) | (clear hK; clear hK; (with_reducible refine hK _ _ _ ?_); clear hK) | (clear hK; clear hK; clear hK; (with_reducible refine hK _ _ _ ?_); clear hK))
      exact h3 g1 g2 _ hh'
    · rw [decide_eq_false g2]
      conv => whnf
      repeat (first | ((with_reducible refine hK _ _ _ ?_); clear hK) | (with_reducible refine seq_step fun K hK => ?_) | ((with_reducible refine code_id ?_); conv => whnf) | (clear hK; (with_reducible refine hK _ _ _ ?_); clear hK) | (clear hK; clear hK; (with_reducible refine hK _ _ _ ?_); clear hK) | (clear hK; clear hK; clear hK; (with_reducible refine hK _ _ _ ?_); clear hK))
      exact h1 fun x => g2 x.2
  · rw [decide_eq_false g1]
    conv => whnf
    repeat (first | ((with_reducible refine hK _ _ _ ?_); clear hK) | (with_reducible refine seq_step fun K hK => ?_) | ((with_reducible refine code_id ?_); conv => whnf) | (clear hK; (with_reducible refine hK _ _ _ ?_); clear hK) | (clear hK; clear hK; (with_reducible refine hK _ _ _ ?_); clear hK) | (clear hK; clear hK; clear hK; (with_reducible refine hK _ _ _ ?_); clear hK))
    exact h1 fun x => g1 x.1

end
end Go.Proofs.Ytljenppmdhldbaa.V
