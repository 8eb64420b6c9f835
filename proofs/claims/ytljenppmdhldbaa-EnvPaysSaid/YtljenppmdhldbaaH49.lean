/- Seat 09: EnvPays. -/
import Derived.Test.YtljenppmdhldbaaH48
import Derived.Test.YtljenppmdhldbaaH26
import Derived.Test.YtljenppmdhldbaaH32
import Derived.Test.YtljenppmdhldbaaH42
namespace Go.Proofs.Ytljenppmdhldbaa.V
set_option linter.unusedVariables false
set_option linter.unusedSimpArgs false
set_option linter.unusedSectionVars false
set_option linter.unusedSectionVars false
open Go

theorem live_full {A : Rs} : (liveL A).length = 16 ↔ free A = none := by
  have e : ∀ (l : List Nat) (p : Nat → Bool), (l.filter p).length = l.length ↔ ∀ x ∈ l, p x = true := by
    intro l p
    constructor
    · intro h x hx
      have h1 : l.filter p = l := List.Sublist.eq_of_length List.filter_sublist h
      rw [← h1] at hx
      exact (List.mem_filter.1 hx).2
    · intro h; rw [List.filter_eq_self.2 h]
  have := e (List.range 16) fun k : Nat => (fnd A (k : Int)).isSome
  rw [List.length_range] at this
  unfold liveL free
  rw [List.length_map, this, List.find?_eq_none]
  constructor
  · intro h x hx hn
    have := h x hx
    cases hf : fnd A (x : Int) with
    | none => rw [hf] at this; cases this
    | some r => rw [hf] at hn; cases hn
  · intro h x hx
    have := h x hx
    cases hf : fnd A (x : Int) with
    | none => rw [hf] at this; exact absurd rfl this
    | some r => rfl

section
variable {h : Hp} {Q : Value → Hp → Prop} {L : List As}

theorem tail9 {A : Rs} {last : Int} (hw : WF A last) {g : Hp} {t : Nat} {e : Int} {q : Q3} {r : Row} (hr : fnd A e = some r) {g0 g1 g2 g3 g4 g5 g6 g7 : Int} (hL : infC (infOf A r) = infL (infOf A r) g0 g1 g2 g3 g4 g5 g6 g7)
    (hg : Has (EnvA t A last :: Is h :: []) g) (hq : ∀ h', SubH h h' → Q (.bool true) h') {ke : Nat → Kont} :
    codeK PR none c9_2 (retK Q [RV.t 6]) ke (retK Q [RV.t 6]) [(1, .v (iv e)), (5, .l 5 0), (7, .v (ptr t)), (10, .l 10 0), (14, .v (.bool (decide (qgood q)))), (15, .v (.bool (decide (qgood q ∧ qle q (left A r)))))] [(5, q3 q), (10, infL (infOf A r) g0 g1 g2 g3 g4 g5 g6 g7)] g := by
  have hrm := fnd_mem hr
  refine (seq_step fun K hK => ?_)
  repeat (first | ((with_reducible refine hK _ _ _ ?_); clear hK) | (with_reducible refine seq_step fun K hK => ?_) | (with_reducible refine block_step ?_) | ((with_reducible refine cond_t ?_ ?_); focus rfl) | ((with_reducible refine cond_f ?_ ?_); focus rfl) | ((with_reducible refine code_id ?_); conv => whnf) | (clear hK; (with_reducible refine hK _ _ _ ?_); clear hK) | (clear hK; clear hK; (with_reducible refine hK _ _ _ ?_); clear hK) | (clear hK; clear hK; clear hK; (with_reducible refine hK _ _ _ ?_); clear hK))
  refine pay36A hw e q hg fun g2 hg2 => ?_
  by_cases hgood : qgood q
  · by_cases hfit : qle q (left A r)
    · have hwp := hw.mPay e q
      have hpay : mPay A e q = (0, upR A e (fPay q)) := mSet_ok hr (by simp only [if_pos hgood]; exact if_pos hfit)
      rw [hpay] at hg2 hwp ⊢
      dsimp only at hg2 hwp ⊢
      have hr' : fnd (upR A e (fPay q)) e = some (fPay q r) := by rw [fnd_up (kPay q), hr]; simp only [Option.map_some]; rw [if_pos hrm.2]
      have hlf : left (upR A e (fPay q)) (fPay q r) = qsub (left A r) q := by
        unfold left
        rw [carve_up (kPay q)]
        exact Prod.ext (show r.whole.1 - (r.paid.1 + q.1) - (carve A r.num).1 = r.whole.1 - r.paid.1 - (carve A r.num).1 - q.1 by omega) (Prod.ext (show r.whole.2.1 - (r.paid.2.1 + q.2.1) - (carve A r.num).2.1 = r.whole.2.1 - r.paid.2.1 - (carve A r.num).2.1 - q.2.1 by omega) (show r.whole.2.2 - (r.paid.2.2 + q.2.2) - (carve A r.num).2.2 = r.whole.2.2 - r.paid.2.2 - (carve A r.num).2.2 - q.2.2 by omega))
      obtain ⟨k0, k1, k2, k3, k4, k5, k6, k7, _, hL2⟩ := infC_L (x := infOf (upR A e (fPay q)) (fPay q r)) (hw.rg r hrm.1)
      have hL3 : infL (infOf (upR A e (fPay q)) (fPay q r)) k0 k1 k2 k3 k4 k5 k6 k7 = [iv r.serial, iv r.parent, iv r.state, iv r.code, iv r.bits, .bool r.frozen, u32v k0, u32v k1, u32v k2, u32v k3, u32v k4, u32v k5, u32v k6, u32v k7, u32v r.pc, iv r.whole.1, iv r.whole.2.1, iv r.whole.2.2, iv (qsub (left A r) q).1, iv (qsub (left A r) q).2.1, iv (qsub (left A r) q).2.2] := by rw [← hlf]; rfl
      rw [decide_eq_true hgood, show decide (qgood q ∧ qle q (left A r)) = true from decide_eq_true ⟨hgood, hfit⟩]
      conv => whnf
      repeat (first | ((with_reducible refine hK _ _ _ ?_); clear hK) | (with_reducible refine seq_step fun K hK => ?_) | (with_reducible refine block_step ?_) | ((with_reducible refine cond_t ?_ ?_); focus rfl) | ((with_reducible refine cond_f ?_ ?_); focus rfl) | ((with_reducible refine code_id ?_); conv => whnf) | (clear hK; (with_reducible refine hK _ _ _ ?_); clear hK) | (clear hK; clear hK; (with_reducible refine hK _ _ _ ?_); clear hK) | (clear hK; clear hK; clear hK; (with_reducible refine hK _ _ _ ?_); clear hK))
      refine info19A hwp e hg2 ?_
      rw [show mInfo (upR A e (fPay q)) e = (infOf (upR A e (fPay q)) (fPay q r), 0) by unfold mInfo; rw [hr'], hL2, hL3]
      conv => whnf
      repeat (first | ((with_reducible refine hK _ _ _ ?_); clear hK) | (with_reducible refine seq_step fun K hK => ?_) | (with_reducible refine block_step ?_) | ((with_reducible refine cond_t ?_ ?_); focus rfl) | ((with_reducible refine cond_f ?_ ?_); focus rfl) | ((with_reducible refine code_id ?_); conv => whnf) | (clear hK; (with_reducible refine hK _ _ _ ?_); clear hK) | (clear hK; clear hK; (with_reducible refine hK _ _ _ ?_); clear hK) | (clear hK; clear hK; clear hK; (with_reducible refine hK _ _ _ ?_); clear hK) | (refine ⟨_, _, SubH.refl _, SubB.refl _, ?_⟩; conv => whnf) | (refine ⟨⟨SubH.refl _, SubB.refl _⟩, ?_⟩; conv => whnf) | (refine ⟨_, _, ⟨SubH.refl _, SubB.refl _⟩, SubH.refl _, SubB.refl _, ?_⟩; conv => whnf))
      refine add29m (left A r) q (sm_le hw hrm.1).1 (qgood_sm hgood) ?_
      conv => whnf
      repeat (first | ((with_reducible refine hK _ _ _ ?_); clear hK) | (with_reducible refine seq_step fun K hK => ?_) | (with_reducible refine block_step ?_) | ((with_reducible refine cond_t ?_ ?_); focus rfl) | ((with_reducible refine cond_f ?_ ?_); focus rfl) | ((with_reducible refine code_id ?_); conv => whnf) | (clear hK; (with_reducible refine hK _ _ _ ?_); clear hK) | (clear hK; clear hK; (with_reducible refine hK _ _ _ ?_); clear hK) | (clear hK; clear hK; clear hK; (with_reducible refine hK _ _ _ ?_); clear hK) | (refine ⟨_, _, SubH.refl _, SubB.refl _, ?_⟩; conv => whnf) | (refine ⟨⟨SubH.refl _, SubB.refl _⟩, ?_⟩; conv => whnf) | (refine ⟨_, _, ⟨SubH.refl _, SubB.refl _⟩, SubH.refl _, SubB.refl _, ?_⟩; conv => whnf))
      have eqq : (((qsub (left A r) q).1 == (qsub (left A r) q).1) && (((qsub (left A r) q).2.1 == (qsub (left A r) q).2.1) && (((qsub (left A r) q).2.2 == (qsub (left A r) q).2.2) && true))) = true := by simp
      rw [eqq]
      conv => whnf
      refine refund37A hwp e q hg2 fun g3 hg3 => ?_
      rw [show mRefund (upR A e (fPay q)) e q = (0, upR (upR A e (fPay q)) e (fRefund q)) from mSet_ok hr' (if_pos ⟨hgood, by
        obtain ⟨p1, p2, p3⟩ := hw.qp r hrm.1
        exact ⟨show q.1 ≤ r.paid.1 + q.1 by omega, show q.2.1 ≤ r.paid.2.1 + q.2.1 by omega, show q.2.2 ≤ r.paid.2.2 + q.2.2 by omega⟩⟩)] at hg3 ⊢
      conv => whnf
      repeat (first | ((with_reducible refine hK _ _ _ ?_); clear hK) | (with_reducible refine seq_step fun K hK => ?_) | (with_reducible refine block_step ?_) | ((with_reducible refine cond_t ?_ ?_); focus rfl) | ((with_reducible refine cond_f ?_ ?_); focus rfl) | ((with_reducible refine code_id ?_); conv => whnf) | (clear hK; (with_reducible refine hK _ _ _ ?_); clear hK) | (clear hK; clear hK; (with_reducible refine hK _ _ _ ?_); clear hK) | (clear hK; clear hK; clear hK; (with_reducible refine hK _ _ _ ?_); clear hK) | (refine ⟨_, _, SubH.refl _, SubB.refl _, ?_⟩; conv => whnf) | (refine ⟨⟨SubH.refl _, SubB.refl _⟩, ?_⟩; conv => whnf) | (refine ⟨_, _, ⟨SubH.refl _, SubB.refl _⟩, SubH.refl _, SubB.refl _, ?_⟩; conv => whnf))
      exact hq _ (hg3.is 1 rfl)
    · rw [show mPay A e q = (2, A) from mSet_no hr (by simp only [if_pos hgood]; exact if_neg hfit) (by decide)] at hg2 ⊢
      dsimp only at hg2 ⊢
      rw [show decide (qgood q) = true from decide_eq_true hgood, show decide (qgood q ∧ qle q (left A r)) = false from decide_eq_false fun x => hfit x.2]
      conv => whnf
      repeat (first | ((with_reducible refine hK _ _ _ ?_); clear hK) | (with_reducible refine seq_step fun K hK => ?_) | (with_reducible refine block_step ?_) | ((with_reducible refine cond_t ?_ ?_); focus rfl) | ((with_reducible refine cond_f ?_ ?_); focus rfl) | ((with_reducible refine code_id ?_); conv => whnf) | (clear hK; (with_reducible refine hK _ _ _ ?_); clear hK) | (clear hK; clear hK; (with_reducible refine hK _ _ _ ?_); clear hK) | (clear hK; clear hK; clear hK; (with_reducible refine hK _ _ _ ?_); clear hK))
      refine info19A hw e hg2 ?_
      rw [show mInfo A e = (infOf A r, 0) by unfold mInfo; rw [hr], hL]
      conv => whnf
      repeat (first | ((with_reducible refine hK _ _ _ ?_); clear hK) | (with_reducible refine seq_step fun K hK => ?_) | (with_reducible refine block_step ?_) | ((with_reducible refine cond_t ?_ ?_); focus rfl) | ((with_reducible refine cond_f ?_ ?_); focus rfl) | ((with_reducible refine code_id ?_); conv => whnf) | (clear hK; (with_reducible refine hK _ _ _ ?_); clear hK) | (clear hK; clear hK; (with_reducible refine hK _ _ _ ?_); clear hK) | (clear hK; clear hK; clear hK; (with_reducible refine hK _ _ _ ?_); clear hK))
      simp only [beq_self_eq_true, Bool.and_self, Bool.false_eq_true, if_false]
      exact hq _ (hg2.is 1 rfl)
  · rw [show mPay A e q = (1, A) from mSet_no hr (if_neg hgood) (by decide)] at hg2 ⊢
    dsimp only at hg2 ⊢
    rw [show decide (qgood q) = false from decide_eq_false hgood, show decide (qgood q ∧ qle q (left A r)) = false from decide_eq_false fun x => hgood x.1]
    conv => whnf
    repeat (first | ((with_reducible refine hK _ _ _ ?_); clear hK) | (with_reducible refine seq_step fun K hK => ?_) | (with_reducible refine block_step ?_) | ((with_reducible refine cond_t ?_ ?_); focus rfl) | ((with_reducible refine cond_f ?_ ?_); focus rfl) | ((with_reducible refine code_id ?_); conv => whnf) | (clear hK; (with_reducible refine hK _ _ _ ?_); clear hK) | (clear hK; clear hK; (with_reducible refine hK _ _ _ ?_); clear hK) | (clear hK; clear hK; clear hK; (with_reducible refine hK _ _ _ ?_); clear hK))
    refine info19A hw e hg2 ?_
    rw [show mInfo A e = (infOf A r, 0) by unfold mInfo; rw [hr], hL]
    conv => whnf
    repeat (first | ((with_reducible refine hK _ _ _ ?_); clear hK) | (with_reducible refine seq_step fun K hK => ?_) | (with_reducible refine block_step ?_) | ((with_reducible refine cond_t ?_ ?_); focus rfl) | ((with_reducible refine cond_f ?_ ?_); focus rfl) | ((with_reducible refine code_id ?_); conv => whnf) | (clear hK; (with_reducible refine hK _ _ _ ?_); clear hK) | (clear hK; clear hK; (with_reducible refine hK _ _ _ ?_); clear hK) | (clear hK; clear hK; clear hK; (with_reducible refine hK _ _ _ ?_); clear hK))
    simp only [beq_self_eq_true, Bool.and_self, Bool.false_eq_true, if_false]
    exact hq _ (hg2.is 1 rfl)

set_option maxHeartbeats 1000000 in
theorem mid9 {A : Rs} {last : Int} (hw : WF A last) (hl3 : 3 ≤ last) (hlm : last ≤ 4611686018427387903) {g : Hp} {t b : Nat} {e : Int} {q : Q3} {r : Row} (hr : fnd A e = some r) {g0 g1 g2 g3 g4 g5 g6 g7 : Int} (hL : infC (infOf A r) = infL (infOf A r) g0 g1 g2 g3 g4 g5 g6 g7)
    (hg : Has (EnvA t A last :: BkP b A last :: Is h :: []) g) (hq : ∀ h', SubH h h' → Q (.bool true) h') {ke : Nat → Kont} :
    codeK PR none c9_1 (retK Q [RV.t 6]) ke (retK Q [RV.t 6]) [(1, .v (iv e)), (5, .l 5 0), (7, .v (ptr t)), (8, .v (ptr b)), (10, .l 10 0), (14, .v (.bool (decide (qgood q)))), (15, .v (.bool (decide (qgood q ∧ qle q (left A r)))))] [(5, q3 q), (10, infL (infOf A r) g0 g1 g2 g3 g4 g5 g6 g7)] g := by
  have hrm := fnd_mem hr
  refine (seq_step fun K hK => ?_)
  repeat (first | ((with_reducible refine hK _ _ _ ?_); clear hK) | (with_reducible refine seq_step fun K hK => ?_) | (with_reducible refine block_step ?_) | ((with_reducible refine cond_t ?_ ?_); focus rfl) | ((with_reducible refine cond_f ?_ ?_); focus rfl) | ((with_reducible refine code_id ?_); conv => whnf) | (clear hK; (with_reducible refine hK _ _ _ ?_); clear hK) | (clear hK; clear hK; (with_reducible refine hK _ _ _ ?_); clear hK) | (clear hK; clear hK; clear hK; (with_reducible refine hK _ _ _ ?_); clear hK))
  refine live38A hw hg fun s h3 hg3 => ?_
  obtain ⟨base, cap2, es⟩ := hg3.slv 0 rfl
  subst es
  obtain ⟨pd, hpd, hg4⟩ := BkP.opn (hg3.pull 2 rfl)
  have hg4 : Has (EnvA t A last :: Pt b (.cells (bookC (lvG (livesF A)) pd last).toArray 58 (0, 0)) :: Is h :: []) h3 := (hg4.erase 1).swap
  conv => whnf
  repeat (first | ((with_reducible refine hK _ _ _ ?_); clear hK) | (with_reducible refine seq_step fun K hK => ?_) | (with_reducible refine block_step ?_) | ((with_reducible refine cond_t ?_ ?_); focus rfl) | ((with_reducible refine cond_f ?_ ?_); focus rfl) | ((with_reducible refine code_id ?_); conv => whnf) | (clear hK; (with_reducible refine hK _ _ _ ?_); clear hK) | (clear hK; clear hK; (with_reducible refine hK _ _ _ ?_); clear hK) | (clear hK; clear hK; clear hK; (with_reducible refine hK _ _ _ ?_); clear hK))
  refine create22A hw e 4611686018427387903 q hg4 fun h5 hg5 => ?_
  have hbl : rd (bookC (lvG (livesF A)) pd last).toArray 64 1 false = some (iv last) := bk_last (lvG_len _) hpd.1
  by_cases hA : last ≥ 4611686018427387903 ∨ ¬ qgood q
  · rw [show mCreate A last e 4611686018427387903 q = ((-1, 1), A, last) by unfold mCreate; rw [hr]; simp only; rw [if_neg fun x => hA.elim (fun y => by have := x.2.1; omega) fun y => y x.1]] at hg5 ⊢
    dsimp only at hg5 ⊢
    conv => whnf
    repeat (first | ((with_reducible refine hK _ _ _ ?_); clear hK) | (with_reducible refine seq_step fun K hK => ?_) | (with_reducible refine block_step ?_) | ((with_reducible refine cond_t ?_ ?_); focus rfl) | ((with_reducible refine cond_f ?_ ?_); focus rfl) | ((with_reducible refine code_id ?_); conv => whnf) | (clear hK; (with_reducible refine hK _ _ _ ?_); clear hK) | (clear hK; clear hK; (with_reducible refine hK _ _ _ ?_); clear hK) | (clear hK; clear hK; clear hK; (with_reducible refine hK _ _ _ ?_); clear hK))
    refine cut_intro (σ := Unit) (fun _ => [(1, .v (iv e)), (5, .l 5 0), (7, .v (ptr t)), (10, .l 10 0), (14, .v (.bool (decide (qgood q)))), (15, .v (.bool (decide (qgood q ∧ qle q (left A r)))))]) (fun _ => [(5, q3 q), (10, infL (infOf A r) g0 g1 g2 g3 g4 g5 g6 g7)]) (fun _ => h5) (fun _ => True) ?_ (fun _ _ => tail9 hw hr hL (hg5.erase 1) hq)
    repeat (first | ((with_reducible refine hK _ _ _ ?_); clear hK) | (with_reducible refine seq_step fun K hK => ?_) | (with_reducible refine block_step ?_) | ((with_reducible refine cond_t ?_ ?_); focus rfl) | ((with_reducible refine cond_f ?_ ?_); focus rfl) | ((with_reducible refine code_id ?_); conv => whnf) | (clear hK; (with_reducible refine hK _ _ _ ?_); clear hK) | (clear hK; clear hK; (with_reducible refine hK _ _ _ ?_); clear hK) | (clear hK; clear hK; clear hK; (with_reducible refine hK _ _ _ ?_); clear hK))
    refine opt_ld (hg5.pt 1 rfl) (v := iv last) hbl ?_
    conv => whnf
    by_cases hB : last ≥ 4611686018427387903
    · rw [decide_eq_true hB]
      conv => whnf
      repeat (first | ((with_reducible refine hK _ _ _ ?_); clear hK) | (with_reducible refine seq_step fun K hK => ?_) | (with_reducible refine block_step ?_) | ((with_reducible refine cond_t ?_ ?_); focus rfl) | ((with_reducible refine cond_f ?_ ?_); focus rfl) | ((with_reducible refine code_id ?_); conv => whnf) | (clear hK; (with_reducible refine hK _ _ _ ?_); clear hK) | (clear hK; clear hK; (with_reducible refine hK _ _ _ ?_); clear hK) | (clear hK; clear hK; clear hK; (with_reducible refine hK _ _ _ ?_); clear hK))
      exact ⟨(), trivial, subE_cons rfl (subE_cons rfl (subE_cons rfl (subE_cons rfl (subE_cons rfl (subE_cons rfl subE_nil))))), subB_cons rfl (subB_cons rfl subB_nil), rfl⟩
    · rw [decide_eq_false hB]
      have hng : ¬ qgood q := hA.resolve_left hB
      rw [show decide (qgood q) = false from decide_eq_false hng]
      conv => whnf
      repeat (first | ((with_reducible refine hK _ _ _ ?_); clear hK) | (with_reducible refine seq_step fun K hK => ?_) | (with_reducible refine block_step ?_) | ((with_reducible refine cond_t ?_ ?_); focus rfl) | ((with_reducible refine cond_f ?_ ?_); focus rfl) | ((with_reducible refine code_id ?_); conv => whnf) | (clear hK; (with_reducible refine hK _ _ _ ?_); clear hK) | (clear hK; clear hK; (with_reducible refine hK _ _ _ ?_); clear hK) | (clear hK; clear hK; clear hK; (with_reducible refine hK _ _ _ ?_); clear hK))
      rw [show decide (qgood q) = false from decide_eq_false hng]
      exact ⟨(), trivial, subE_cons rfl (subE_cons rfl (subE_cons rfl (subE_cons rfl (subE_cons rfl (subE_cons rfl subE_nil))))), subB_cons rfl (subB_cons rfl subB_nil), rfl⟩
  · have hlt : last < 4611686018427387903 := Decidable.byContradiction fun x => hA (.inl (by omega))
    have hgood : qgood q := Decidable.byContradiction fun x => hA (.inr x)
    have hcond : qgood q ∧ last < 4611686018427387903 ∧ (4611686018427387903 : Int) ≤ 4611686018427387903 := ⟨hgood, hlt, Int.le_refl _⟩
    by_cases hC : qle (qchild q) (left A r) ∧ free A ≠ none
    · obtain ⟨hC1, hC2⟩ := hC
      cases hf : free A with
      | none => exact absurd hf hC2
      | some k =>
        obtain ⟨hk16, hk1, hk2⟩ := free_some hf
        have hfit : qle q (left A r) := by
          obtain ⟨a1, a2, a3⟩ := hC1
          exact ⟨a1, show q.2.1 ≤ (left A r).2.1 by have : q.2.1 + 1 ≤ (left A r).2.1 := a2; omega, a3⟩
        have hne : (q.2.1 == (infOf A r).left.2.1) = false := beq_eq_false_iff_ne.2 fun x => by have : q.2.1 + 1 ≤ (left A r).2.1 := hC1.2.1; have x : q.2.1 = (left A r).2.1 := x; omega
        have hn16 : (((liveL A).length : Int) == 16) = false := beq_eq_false_iff_ne.2 fun x => hC2 (live_full.1 (by omega))
        have hek : e ≠ k := fun x => by rw [x, hk1] at hr; cases hr
        have hw1 := hw.create hr hk1 hk16 hgood hlt hC1
        obtain ⟨hwk, hcut⟩ := cut_one hw hk1 hek hw1
        rw [show mCreate A last e 4611686018427387903 q = (((k : Int), 0), A ++ [mkRow k 4611686018427387903 e q], 4611686018427387903) by
          unfold mCreate; rw [hr]; simp only; rw [if_pos hcond, if_pos hC1, hf]] at hg5 ⊢
        dsimp only at hg5 ⊢
        conv => whnf
        repeat (first | ((with_reducible refine hK _ _ _ ?_); clear hK) | (with_reducible refine seq_step fun K hK => ?_) | (with_reducible refine block_step ?_) | ((with_reducible refine cond_t ?_ ?_); focus rfl) | ((with_reducible refine cond_f ?_ ?_); focus rfl) | ((with_reducible refine code_id ?_); conv => whnf) | (clear hK; (with_reducible refine hK _ _ _ ?_); clear hK) | (clear hK; clear hK; (with_reducible refine hK _ _ _ ?_); clear hK) | (clear hK; clear hK; clear hK; (with_reducible refine hK _ _ _ ?_); clear hK))
        refine cut_intro (σ := Hp) (fun _ => [(1, .v (iv e)), (5, .l 5 0), (7, .v (ptr t)), (10, .l 10 0), (14, .v (.bool (decide (qgood q)))), (15, .v (.bool (decide (qgood q ∧ qle q (left A r)))))]) (fun _ => [(5, q3 q), (10, infL (infOf A r) g0 g1 g2 g3 g4 g5 g6 g7)]) (fun g => g) (fun g => Has (EnvA t A 4611686018427387903 :: Is h :: []) g) ?_ (fun g6 hg6 => tail9 (hw.later (by omega)) hr hL hg6 hq)
        repeat (first | ((with_reducible refine hK _ _ _ ?_); clear hK) | (with_reducible refine seq_step fun K hK => ?_) | (with_reducible refine block_step ?_) | ((with_reducible refine cond_t ?_ ?_); focus rfl) | ((with_reducible refine cond_f ?_ ?_); focus rfl) | ((with_reducible refine code_id ?_); conv => whnf) | (clear hK; (with_reducible refine hK _ _ _ ?_); clear hK) | (clear hK; clear hK; (with_reducible refine hK _ _ _ ?_); clear hK) | (clear hK; clear hK; clear hK; (with_reducible refine hK _ _ _ ?_); clear hK))
        refine opt_ld (hg5.pt 1 rfl) (v := iv last) hbl ?_
        conv => whnf
        rw [show decide (last ≥ 4611686018427387903) = false from decide_eq_false (by omega), decide_eq_true hgood, show decide (qgood q ∧ qle q (left A r)) = true from decide_eq_true ⟨hgood, hfit⟩]
        conv => whnf
        repeat (first | ((with_reducible refine hK _ _ _ ?_); clear hK) | (with_reducible refine seq_step fun K hK => ?_) | (with_reducible refine block_step ?_) | ((with_reducible refine cond_t ?_ ?_); focus rfl) | ((with_reducible refine cond_f ?_ ?_); focus rfl) | ((with_reducible refine code_id ?_); conv => whnf) | (clear hK; (with_reducible refine hK _ _ _ ?_); clear hK) | (clear hK; clear hK; (with_reducible refine hK _ _ _ ?_); clear hK) | (clear hK; clear hK; clear hK; (with_reducible refine hK _ _ _ ?_); clear hK))
        rw [hne]
        conv => whnf
        rw [hn16]
        conv => whnf
        repeat (first | ((with_reducible refine hK _ _ _ ?_); clear hK) | (with_reducible refine seq_step fun K hK => ?_) | (with_reducible refine block_step ?_) | ((with_reducible refine cond_t ?_ ?_); focus rfl) | ((with_reducible refine cond_f ?_ ?_); focus rfl) | ((with_reducible refine code_id ?_); conv => whnf) | (clear hK; (with_reducible refine hK _ _ _ ?_); clear hK) | (clear hK; clear hK; (with_reducible refine hK _ _ _ ?_); clear hK) | (clear hK; clear hK; clear hK; (with_reducible refine hK _ _ _ ?_); clear hK))
        refine destroy23A hw1 k hg5 fun sl g6 hg6 => ?_
        rw [show mDestroy (A ++ [mkRow k 4611686018427387903 e q]) k = (([(k : Int)], 0), A) by
          have hf2 : fnd (A ++ [mkRow k 4611686018427387903 e q]) (k : Int) = some (mkRow k 4611686018427387903 e q) := by rw [fnd_app, hk1, if_pos (show (((mkRow k 4611686018427387903 e q).num : Nat) : Int) = k from rfl)]; rfl
          have hk0 := hw.free_root hk1
          unfold mDestroy; rw [hf2]; simp only; rw [if_neg (by omega), hwk, hcut]] at hg6 ⊢
        dsimp only at hg6 ⊢
        conv => whnf
        repeat (first | ((with_reducible refine hK _ _ _ ?_); clear hK) | (with_reducible refine seq_step fun K hK => ?_) | (with_reducible refine block_step ?_) | ((with_reducible refine cond_t ?_ ?_); focus rfl) | ((with_reducible refine cond_f ?_ ?_); focus rfl) | ((with_reducible refine code_id ?_); conv => whnf) | (clear hK; (with_reducible refine hK _ _ _ ?_); clear hK) | (clear hK; clear hK; (with_reducible refine hK _ _ _ ?_); clear hK) | (clear hK; clear hK; clear hK; (with_reducible refine hK _ _ _ ?_); clear hK))
        rw [decide_eq_true hgood, show decide (qgood q ∧ qle q (left A r)) = true from decide_eq_true ⟨hgood, hfit⟩]
        exact ⟨g6, (hg6.erase 0).erase 1, subE_cons rfl (subE_cons rfl (subE_cons rfl (subE_cons rfl (subE_cons rfl (subE_cons rfl subE_nil))))), subB_cons rfl (subB_cons rfl subB_nil), rfl⟩
    · rw [show mCreate A last e 4611686018427387903 q = ((-1, 2), A, last) by
        unfold mCreate; rw [hr]; simp only; rw [if_pos hcond]
        by_cases h1 : qle (qchild q) (left A r)
        · rw [if_pos h1]
          have : free A = none := Decidable.byContradiction fun x => hC ⟨h1, x⟩
          rw [this]
        · rw [if_neg h1]] at hg5 ⊢
      dsimp only at hg5 ⊢
      conv => whnf
      repeat (first | ((with_reducible refine hK _ _ _ ?_); clear hK) | (with_reducible refine seq_step fun K hK => ?_) | (with_reducible refine block_step ?_) | ((with_reducible refine cond_t ?_ ?_); focus rfl) | ((with_reducible refine cond_f ?_ ?_); focus rfl) | ((with_reducible refine code_id ?_); conv => whnf) | (clear hK; (with_reducible refine hK _ _ _ ?_); clear hK) | (clear hK; clear hK; (with_reducible refine hK _ _ _ ?_); clear hK) | (clear hK; clear hK; clear hK; (with_reducible refine hK _ _ _ ?_); clear hK))
      refine cut_intro (σ := Unit) (fun _ => [(1, .v (iv e)), (5, .l 5 0), (7, .v (ptr t)), (10, .l 10 0), (14, .v (.bool (decide (qgood q)))), (15, .v (.bool (decide (qgood q ∧ qle q (left A r)))))]) (fun _ => [(5, q3 q), (10, infL (infOf A r) g0 g1 g2 g3 g4 g5 g6 g7)]) (fun _ => h5) (fun _ => True) ?_ (fun _ _ => tail9 hw hr hL (hg5.erase 1) hq)
      repeat (first | ((with_reducible refine hK _ _ _ ?_); clear hK) | (with_reducible refine seq_step fun K hK => ?_) | (with_reducible refine block_step ?_) | ((with_reducible refine cond_t ?_ ?_); focus rfl) | ((with_reducible refine cond_f ?_ ?_); focus rfl) | ((with_reducible refine code_id ?_); conv => whnf) | (clear hK; (with_reducible refine hK _ _ _ ?_); clear hK) | (clear hK; clear hK; (with_reducible refine hK _ _ _ ?_); clear hK) | (clear hK; clear hK; clear hK; (with_reducible refine hK _ _ _ ?_); clear hK))
      refine opt_ld (hg5.pt 1 rfl) (v := iv last) hbl ?_
      conv => whnf
      rw [show decide (last ≥ 4611686018427387903) = false from decide_eq_false (by omega), decide_eq_true hgood]
      by_cases hfit : qle q (left A r)
      · rw [show decide (qgood q ∧ qle q (left A r)) = true from decide_eq_true ⟨hgood, hfit⟩]
        conv => whnf
        repeat (first | ((with_reducible refine hK _ _ _ ?_); clear hK) | (with_reducible refine seq_step fun K hK => ?_) | (with_reducible refine block_step ?_) | ((with_reducible refine cond_t ?_ ?_); focus rfl) | ((with_reducible refine cond_f ?_ ?_); focus rfl) | ((with_reducible refine code_id ?_); conv => whnf) | (clear hK; (with_reducible refine hK _ _ _ ?_); clear hK) | (clear hK; clear hK; (with_reducible refine hK _ _ _ ?_); clear hK) | (clear hK; clear hK; clear hK; (with_reducible refine hK _ _ _ ?_); clear hK))
        by_cases heq : q.2.1 = (left A r).2.1
        · rw [show (q.2.1 == (infOf A r).left.2.1) = true from beq_iff_eq.2 heq]
          conv => whnf
          repeat (first | ((with_reducible refine hK _ _ _ ?_); clear hK) | (with_reducible refine seq_step fun K hK => ?_) | (with_reducible refine block_step ?_) | ((with_reducible refine cond_t ?_ ?_); focus rfl) | ((with_reducible refine cond_f ?_ ?_); focus rfl) | ((with_reducible refine code_id ?_); conv => whnf) | (clear hK; (with_reducible refine hK _ _ _ ?_); clear hK) | (clear hK; clear hK; (with_reducible refine hK _ _ _ ?_); clear hK) | (clear hK; clear hK; clear hK; (with_reducible refine hK _ _ _ ?_); clear hK))
          rw [decide_eq_true hgood, show decide (qgood q ∧ qle q (left A r)) = true from decide_eq_true ⟨hgood, hfit⟩]
          exact ⟨(), trivial, subE_cons rfl (subE_cons rfl (subE_cons rfl (subE_cons rfl (subE_cons rfl (subE_cons rfl subE_nil))))), subB_cons rfl (subB_cons rfl subB_nil), rfl⟩
        · have hch : qle (qchild q) (left A r) := ⟨hfit.1, show q.2.1 + 1 ≤ (left A r).2.1 by have := hfit.2.1; omega, hfit.2.2⟩
          have hfn : free A = none := Decidable.byContradiction fun x => hC ⟨hch, x⟩
          rw [show (q.2.1 == (infOf A r).left.2.1) = false from beq_eq_false_iff_ne.2 heq]
          conv => whnf
          rw [show (((liveL A).length : Int) == 16) = true by rw [live_full.2 hfn]; rfl]
          conv => whnf
          repeat (first | ((with_reducible refine hK _ _ _ ?_); clear hK) | (with_reducible refine seq_step fun K hK => ?_) | (with_reducible refine block_step ?_) | ((with_reducible refine cond_t ?_ ?_); focus rfl) | ((with_reducible refine cond_f ?_ ?_); focus rfl) | ((with_reducible refine code_id ?_); conv => whnf) | (clear hK; (with_reducible refine hK _ _ _ ?_); clear hK) | (clear hK; clear hK; (with_reducible refine hK _ _ _ ?_); clear hK) | (clear hK; clear hK; clear hK; (with_reducible refine hK _ _ _ ?_); clear hK))
          rw [decide_eq_true hgood, show decide (qgood q ∧ qle q (left A r)) = true from decide_eq_true ⟨hgood, hfit⟩]
          exact ⟨(), trivial, subE_cons rfl (subE_cons rfl (subE_cons rfl (subE_cons rfl (subE_cons rfl (subE_cons rfl subE_nil))))), subB_cons rfl (subB_cons rfl subB_nil), rfl⟩
      · rw [show decide (qgood q ∧ qle q (left A r)) = false from decide_eq_false fun x => hfit x.2]
        conv => whnf
        repeat (first | ((with_reducible refine hK _ _ _ ?_); clear hK) | (with_reducible refine seq_step fun K hK => ?_) | (with_reducible refine block_step ?_) | ((with_reducible refine cond_t ?_ ?_); focus rfl) | ((with_reducible refine cond_f ?_ ?_); focus rfl) | ((with_reducible refine code_id ?_); conv => whnf) | (clear hK; (with_reducible refine hK _ _ _ ?_); clear hK) | (clear hK; clear hK; (with_reducible refine hK _ _ _ ?_); clear hK) | (clear hK; clear hK; clear hK; (with_reducible refine hK _ _ _ ?_); clear hK))
        rw [decide_eq_true hgood, show decide (qgood q ∧ qle q (left A r)) = false from decide_eq_false fun x => hfit x.2]
        exact ⟨(), trivial, subE_cons rfl (subE_cons rfl (subE_cons rfl (subE_cons rfl (subE_cons rfl (subE_cons rfl subE_nil))))), subB_cons rfl (subB_cons rfl subB_nil), rfl⟩

set_option maxHeartbeats 1000000 in
theorem law9 {a : Option Addr} {len cap : Nat} {l : List OpE} (hR : Scr h a len l) (hlen : len < 2 ^ 46) (e : Int) (q : Q3) (hq : ∀ h', SubH h h' → Q (.bool true) h') : Ok PR 9 [.slice a len cap, iv e, aq q] h Q := by
  refine e9 rfl (seq_step fun K hK => ?_)
  repeat (first | ((with_reducible refine hK _ _ _ ?_); clear hK) | (with_reducible refine seq_step fun K hK => ?_) | (with_reducible refine block_step ?_) | ((with_reducible refine cond_t ?_ ?_); focus rfl) | ((with_reducible refine cond_f ?_ ?_); focus rfl) | ((with_reducible refine code_id ?_); conv => whnf) | (clear hK; (with_reducible refine hK _ _ _ ?_); clear hK) | (clear hK; clear hK; (with_reducible refine hK _ _ _ ?_); clear hK) | (clear hK; clear hK; clear hK; (with_reducible refine hK _ _ _ ?_); clear hK))
  refine first13 (Has.start h) fun t b h1 hh1 => ?_
  have hh1 : Has (EnvA t A0 3 :: BkP b A0 3 :: Is h :: []) h1 := hh1.map_tail fun g hg => hg.mono1 fun g' hg' => bkp0 hg'
  conv => whnf
  repeat (first | ((with_reducible refine hK _ _ _ ?_); clear hK) | (with_reducible refine seq_step fun K hK => ?_) | (with_reducible refine block_step ?_) | ((with_reducible refine cond_t ?_ ?_); focus rfl) | ((with_reducible refine cond_f ?_ ?_); focus rfl) | ((with_reducible refine code_id ?_); conv => whnf) | (clear hK; (with_reducible refine hK _ _ _ ?_); clear hK) | (clear hK; clear hK; (with_reducible refine hK _ _ _ ?_); clear hK) | (clear hK; clear hK; clear hK; (with_reducible refine hK _ _ _ ?_); clear hK))
  refine loop_intro (σ := (Nat × Rs × Int) × Hp) (fun s => [(0, .v (.slice a len cap)), (1, .v (iv e)), (5, .l 5 0), (7, .v (ptr t)), (8, .v (ptr b)), (9, .v (iv s.1.1))]) (fun _ => [(5, q3 q)]) (fun s => s.2)
    (fun s => s.1.1 ≤ len ∧ WF s.1.2.1 s.1.2.2 ∧ 3 ≤ s.1.2.2 ∧ s.1.2.2 ≤ 4611686018427387903 ∧ Has (EnvA t s.1.2.1 s.1.2.2 :: BkP b s.1.2.1 s.1.2.2 :: Is h :: []) s.2)
    (fun s => len - s.1.1) ((0, A0, 3), h1) ⟨Nat.zero_le _, wf0, Int.le_refl _, by show (3 : Int) ≤ 4611686018427387903; decide, hh1⟩ (subE_cons rfl (subE_cons rfl (subE_cons rfl (subE_cons rfl (subE_cons rfl (subE_cons rfl subE_nil)))))) (subB_cons rfl subB_nil) rfl ?_
  rintro ⟨⟨i, A, last⟩, g⟩ ⟨hi, hw, hl3, hlm, hg⟩
  dsimp only at hi hw hl3 hlm hg ⊢
  repeat (first | ((with_reducible refine hK _ _ _ ?_); clear hK) | (with_reducible refine seq_step fun K hK => ?_) | (with_reducible refine block_step ?_) | ((with_reducible refine cond_t ?_ ?_); focus rfl) | ((with_reducible refine cond_f ?_ ?_); focus rfl) | ((with_reducible refine code_id ?_); conv => whnf) | (clear hK; (with_reducible refine hK _ _ _ ?_); clear hK) | (clear hK; clear hK; (with_reducible refine hK _ _ _ ?_); clear hK) | (clear hK; clear hK; clear hK; (with_reducible refine hK _ _ _ ?_); clear hK))
  refine cond_dec (fun hlt => ?_) (fun hge => ?_)
  · have hil : i < len := by omega
    obtain ⟨o, bk, off, c, ty, z, ho, hregs, rfl, hb0, hrd, hkd, hnn⟩ := hR.at hil
    have hb : g bk = some (.cells c ty z) := hg.is 2 rfl bk _ hb0
    have ei : ((i : Int)).toNat = i := Int.toNat_natCast i
    have hst : 3 ≤ (step A last o).2 ∧ (step A last o).2 ≤ 4611686018427387903 := by
      rcases step_last A last o with e | ⟨e, hk, h1, h2⟩
      · rw [e]; exact ⟨hl3, hlm⟩
      · rw [e]; exact ⟨by omega, h2⟩
    repeat (first | ((with_reducible refine hK _ _ _ ?_); clear hK) | (with_reducible refine seq_step fun K hK => ?_) | (with_reducible refine block_step ?_) | ((with_reducible refine cond_t ?_ ?_); focus rfl) | ((with_reducible refine cond_f ?_ ?_); focus rfl) | ((with_reducible refine code_id ?_); conv => whnf) | (clear hK; (with_reducible refine hK _ _ _ ?_); clear hK) | (clear hK; clear hK; (with_reducible refine hK _ _ _ ?_); clear hK) | (clear hK; clear hK; clear hK; (with_reducible refine hK _ _ _ ?_); clear hK))
    refine opt_if ⟨by omega, by omega⟩ ?_
    conv => whnf
    refine opt_ld hb (v := .agg (opC o).toArray) (by rw [ei]; exact hrd) ?_
    conv => whnf
    refine noted20 hw o hregs hg fun g1 hg1 => ?_
    have hw1 := hw.step o hregs
    conv => whnf
    repeat (first | ((with_reducible refine hK _ _ _ ?_); clear hK) | (with_reducible refine seq_step fun K hK => ?_) | (with_reducible refine block_step ?_) | ((with_reducible refine cond_t ?_ ?_); focus rfl) | ((with_reducible refine cond_f ?_ ?_); focus rfl) | ((with_reducible refine code_id ?_); conv => whnf) | (clear hK; (with_reducible refine hK _ _ _ ?_); clear hK) | (clear hK; clear hK; (with_reducible refine hK _ _ _ ?_); clear hK) | (clear hK; clear hK; clear hK; (with_reducible refine hK _ _ _ ?_); clear hK))
    exact ⟨((i + 1, _, _), g1), ⟨show i + 1 ≤ len by omega, hw1, hst.1, hst.2, hg1⟩, show len - (i + 1) < len - i by omega, subE_cons rfl (subE_cons rfl (subE_cons rfl (subE_cons rfl (subE_cons rfl (subE_cons (int_eq (wrap_nat (by omega)) rfl) subE_nil))))), subB_cons rfl subB_nil, rfl⟩
  · repeat (first | ((with_reducible refine hK _ _ _ ?_); clear hK) | (with_reducible refine seq_step fun K hK => ?_) | (with_reducible refine block_step ?_) | ((with_reducible refine cond_t ?_ ?_); focus rfl) | ((with_reducible refine cond_f ?_ ?_); focus rfl) | ((with_reducible refine code_id ?_); conv => whnf) | (clear hK; (with_reducible refine hK _ _ _ ?_); clear hK) | (clear hK; clear hK; (with_reducible refine hK _ _ _ ?_); clear hK) | (clear hK; clear hK; clear hK; (with_reducible refine hK _ _ _ ?_); clear hK))
    refine info19A hw e hg ?_
    cases hr : fnd A e with
    | none =>
      rw [show mInfo A e = (infZ, 90) by unfold mInfo; rw [hr]]
      conv => whnf
      repeat (first | ((with_reducible refine hK _ _ _ ?_); clear hK) | (with_reducible refine seq_step fun K hK => ?_) | (with_reducible refine block_step ?_) | ((with_reducible refine cond_t ?_ ?_); focus rfl) | ((with_reducible refine cond_f ?_ ?_); focus rfl) | ((with_reducible refine code_id ?_); conv => whnf) | (clear hK; (with_reducible refine hK _ _ _ ?_); clear hK) | (clear hK; clear hK; (with_reducible refine hK _ _ _ ?_); clear hK) | (clear hK; clear hK; clear hK; (with_reducible refine hK _ _ _ ?_); clear hK))
      refine lives28 hw.lt e (Has.get hg 1 rfl fun g g' ⟨pd, a, b⟩ hs => ⟨pd, a, hs _ _ b⟩) ?_
      rw [hr]
      obtain ⟨pd, hpd, hg1⟩ := BkP.opn hg.swap
      conv => whnf
      repeat (first | ((with_reducible refine hK _ _ _ ?_); clear hK) | (with_reducible refine seq_step fun K hK => ?_) | (with_reducible refine block_step ?_) | ((with_reducible refine cond_t ?_ ?_); focus rfl) | ((with_reducible refine cond_f ?_ ?_); focus rfl) | ((with_reducible refine code_id ?_); conv => whnf) | (clear hK; (with_reducible refine hK _ _ _ ?_); clear hK) | (clear hK; clear hK; (with_reducible refine hK _ _ _ ?_); clear hK) | (clear hK; clear hK; clear hK; (with_reducible refine hK _ _ _ ?_); clear hK) | (refine ⟨_, _, SubH.refl _, SubB.refl _, ?_⟩; conv => whnf) | (refine ⟨⟨SubH.refl _, SubB.refl _⟩, ?_⟩; conv => whnf) | (refine ⟨_, _, ⟨SubH.refl _, SubB.refl _⟩, SubH.refl _, SubB.refl _, ?_⟩; conv => whnf))
      refine opt_ld (hg1.pt 0 rfl) (v := iv last) (bk_last (lvG_len _) hpd.1) ?_
      conv => whnf
      refine create22A hw e _ q hg fun g2 hg2 => ?_
      rw [show mCreate A last e (IntKind.i64.wrap (last + 1)) q = ((-1, 90), A, last) by unfold mCreate; rw [hr]] at hg2 ⊢
      conv => whnf
      repeat (first | ((with_reducible refine hK _ _ _ ?_); clear hK) | (with_reducible refine seq_step fun K hK => ?_) | (with_reducible refine block_step ?_) | ((with_reducible refine cond_t ?_ ?_); focus rfl) | ((with_reducible refine cond_f ?_ ?_); focus rfl) | ((with_reducible refine code_id ?_); conv => whnf) | (clear hK; (with_reducible refine hK _ _ _ ?_); clear hK) | (clear hK; clear hK; (with_reducible refine hK _ _ _ ?_); clear hK) | (clear hK; clear hK; clear hK; (with_reducible refine hK _ _ _ ?_); clear hK) | (refine ⟨_, _, SubH.refl _, SubB.refl _, ?_⟩; conv => whnf) | (refine ⟨⟨SubH.refl _, SubB.refl _⟩, ?_⟩; conv => whnf) | (refine ⟨_, _, ⟨SubH.refl _, SubB.refl _⟩, SubH.refl _, SubB.refl _, ?_⟩; conv => whnf))
      refine pay36A hw e q hg2 fun g3 hg3 => ?_
      rw [show mPay A e q = (90, A) from mSet_none hr] at hg3 ⊢
      conv => whnf
      refine refund37A hw e q hg3 fun g4 hg4 => ?_
      rw [show mRefund A e q = (90, A) from mSet_none hr] at hg4 ⊢
      conv => whnf
      repeat (first | ((with_reducible refine hK _ _ _ ?_); clear hK) | (with_reducible refine seq_step fun K hK => ?_) | (with_reducible refine block_step ?_) | ((with_reducible refine cond_t ?_ ?_); focus rfl) | ((with_reducible refine cond_f ?_ ?_); focus rfl) | ((with_reducible refine code_id ?_); conv => whnf) | (clear hK; (with_reducible refine hK _ _ _ ?_); clear hK) | (clear hK; clear hK; (with_reducible refine hK _ _ _ ?_); clear hK) | (clear hK; clear hK; clear hK; (with_reducible refine hK _ _ _ ?_); clear hK) | (refine ⟨_, _, SubH.refl _, SubB.refl _, ?_⟩; conv => whnf) | (refine ⟨⟨SubH.refl _, SubB.refl _⟩, ?_⟩; conv => whnf) | (refine ⟨_, _, ⟨SubH.refl _, SubB.refl _⟩, SubH.refl _, SubB.refl _, ?_⟩; conv => whnf))
      exact hq _ (hg4.is 2 rfl)
    | some r =>
      have hrm := fnd_mem hr
      obtain ⟨g0, g1, g2, g3, g4, g5, g6, g7, _, hL⟩ := infC_L (x := infOf A r) (hw.rg r hrm.1)
      rw [show mInfo A e = (infOf A r, 0) by unfold mInfo; rw [hr]]
      rw [hL, show infL (infOf A r) g0 g1 g2 g3 g4 g5 g6 g7 = [iv r.serial, iv r.parent, iv r.state, iv r.code, iv r.bits, .bool r.frozen, u32v g0, u32v g1, u32v g2, u32v g3, u32v g4, u32v g5, u32v g6, u32v g7, u32v r.pc, iv r.whole.1, iv r.whole.2.1, iv r.whole.2.2, iv (left A r).1, iv (left A r).2.1, iv (left A r).2.2] from rfl]
      conv => whnf
      repeat (first | ((with_reducible refine hK _ _ _ ?_); clear hK) | (with_reducible refine seq_step fun K hK => ?_) | (with_reducible refine block_step ?_) | ((with_reducible refine cond_t ?_ ?_); focus rfl) | ((with_reducible refine cond_f ?_ ?_); focus rfl) | ((with_reducible refine code_id ?_); conv => whnf) | (clear hK; (with_reducible refine hK _ _ _ ?_); clear hK) | (clear hK; clear hK; (with_reducible refine hK _ _ _ ?_); clear hK) | (clear hK; clear hK; clear hK; (with_reducible refine hK _ _ _ ?_); clear hK))
      refine lives28 hw.lt e (Has.get hg 1 rfl fun g g' ⟨pd, a, b⟩ hs => ⟨pd, a, hs _ _ b⟩) ?_
      rw [hr]
      conv => whnf
      repeat (first | ((with_reducible refine hK _ _ _ ?_); clear hK) | (with_reducible refine seq_step fun K hK => ?_) | (with_reducible refine block_step ?_) | ((with_reducible refine cond_t ?_ ?_); focus rfl) | ((with_reducible refine cond_f ?_ ?_); focus rfl) | ((with_reducible refine code_id ?_); conv => whnf) | (clear hK; (with_reducible refine hK _ _ _ ?_); clear hK) | (clear hK; clear hK; (with_reducible refine hK _ _ _ ?_); clear hK) | (clear hK; clear hK; clear hK; (with_reducible refine hK _ _ _ ?_); clear hK))
      refine below30 q ?_
      by_cases hgood : qgood q
      · rw [show decide (¬ qge q) = false from decide_eq_false fun x => x hgood.1]
        conv => whnf
        rw [show decide (q.1 ≤ 4611686018427387903) = true from decide_eq_true hgood.2.1]
        conv => whnf
        rw [show decide (q.2.1 ≤ 4611686018427387903) = true from decide_eq_true hgood.2.2.1]
        conv => whnf
        rw [show decide (q.2.2 ≤ 4611686018427387903) = true from decide_eq_true hgood.2.2.2]
        conv => whnf
        repeat (first | ((with_reducible refine hK _ _ _ ?_); clear hK) | (with_reducible refine seq_step fun K hK => ?_) | (with_reducible refine block_step ?_) | ((with_reducible refine cond_t ?_ ?_); focus rfl) | ((with_reducible refine cond_f ?_ ?_); focus rfl) | ((with_reducible refine code_id ?_); conv => whnf) | (clear hK; (with_reducible refine hK _ _ _ ?_); clear hK) | (clear hK; clear hK; (with_reducible refine hK _ _ _ ?_); clear hK) | (clear hK; clear hK; clear hK; (with_reducible refine hK _ _ _ ?_); clear hK))
        refine cut_intro (σ := Unit) (fun _ => [(1, .v (iv e)), (5, .l 5 0), (7, .v (ptr t)), (8, .v (ptr b)), (10, .l 10 0), (14, .v (.bool (decide (qgood q)))), (15, .v (.bool (decide (qgood q ∧ qle q (left A r)))))]) (fun _ => [(5, q3 q), (10, infL (infOf A r) g0 g1 g2 g3 g4 g5 g6 g7)]) (fun _ => g) (fun _ => True) ?_ (fun _ _ => mid9 hw hl3 hlm hr hL hg hq)
        repeat (first | ((with_reducible refine hK _ _ _ ?_); clear hK) | (with_reducible refine seq_step fun K hK => ?_) | (with_reducible refine block_step ?_) | ((with_reducible refine cond_t ?_ ?_); focus rfl) | ((with_reducible refine cond_f ?_ ?_); focus rfl) | ((with_reducible refine code_id ?_); conv => whnf) | (clear hK; (with_reducible refine hK _ _ _ ?_); clear hK) | (clear hK; clear hK; (with_reducible refine hK _ _ _ ?_); clear hK) | (clear hK; clear hK; clear hK; (with_reducible refine hK _ _ _ ?_); clear hK))
        refine add29m (left A r) q (sm_le hw hrm.1).1 (qgood_sm hgood) ?_
        conv => whnf
        refine below30 _ ?_
        have hle : qge (qsub (left A r) q) ↔ qle q (left A r) := by
          simp only [qge, qsub, qle]; omega
        rw [decide_eq_true hgood]
        by_cases hfit : qle q (left A r)
        · rw [show decide (¬ qge (qsub (left A r) q)) = false from decide_eq_false fun x => x (hle.2 hfit), show decide (qgood q ∧ qle q (left A r)) = true from decide_eq_true ⟨hgood, hfit⟩]
          conv => whnf
          repeat (first | ((with_reducible refine hK _ _ _ ?_); clear hK) | (with_reducible refine seq_step fun K hK => ?_) | (with_reducible refine block_step ?_) | ((with_reducible refine cond_t ?_ ?_); focus rfl) | ((with_reducible refine cond_f ?_ ?_); focus rfl) | ((with_reducible refine code_id ?_); conv => whnf) | (clear hK; (with_reducible refine hK _ _ _ ?_); clear hK) | (clear hK; clear hK; (with_reducible refine hK _ _ _ ?_); clear hK) | (clear hK; clear hK; clear hK; (with_reducible refine hK _ _ _ ?_); clear hK))
          exact ⟨(), trivial, subE_cons rfl (subE_cons rfl (subE_cons rfl (subE_cons rfl (subE_cons rfl (subE_cons rfl (subE_cons rfl subE_nil)))))), subB_cons rfl (subB_cons rfl subB_nil), rfl⟩
        · rw [show decide (¬ qge (qsub (left A r) q)) = true from decide_eq_true fun x => hfit (hle.1 x), show decide (qgood q ∧ qle q (left A r)) = false from decide_eq_false fun x => hfit x.2]
          conv => whnf
          repeat (first | ((with_reducible refine hK _ _ _ ?_); clear hK) | (with_reducible refine seq_step fun K hK => ?_) | (with_reducible refine block_step ?_) | ((with_reducible refine cond_t ?_ ?_); focus rfl) | ((with_reducible refine cond_f ?_ ?_); focus rfl) | ((with_reducible refine code_id ?_); conv => whnf) | (clear hK; (with_reducible refine hK _ _ _ ?_); clear hK) | (clear hK; clear hK; (with_reducible refine hK _ _ _ ?_); clear hK) | (clear hK; clear hK; clear hK; (with_reducible refine hK _ _ _ ?_); clear hK))
          exact ⟨(), trivial, subE_cons rfl (subE_cons rfl (subE_cons rfl (subE_cons rfl (subE_cons rfl (subE_cons rfl (subE_cons rfl subE_nil)))))), subB_cons rfl (subB_cons rfl subB_nil), rfl⟩
      · have e14 : decide (qgood q) = false := decide_eq_false hgood
        have e15 : decide (qgood q ∧ qle q (left A r)) = false := decide_eq_false fun x => hgood x.1
        by_cases b0 : qge q
        · rw [show decide (¬ qge q) = false from decide_eq_false fun x => x b0]
          conv => whnf
          by_cases b1 : q.1 ≤ 4611686018427387903
          · rw [decide_eq_true b1]
            conv => whnf
            by_cases b2 : q.2.1 ≤ 4611686018427387903
            · rw [decide_eq_true b2]
              conv => whnf
              have b3 : ¬ q.2.2 ≤ 4611686018427387903 := fun x => hgood ⟨b0, b1, b2, x⟩
              rw [decide_eq_false b3]
              conv => whnf
              repeat (first | ((with_reducible refine hK _ _ _ ?_); clear hK) | (with_reducible refine seq_step fun K hK => ?_) | (with_reducible refine block_step ?_) | ((with_reducible refine cond_t ?_ ?_); focus rfl) | ((with_reducible refine cond_f ?_ ?_); focus rfl) | ((with_reducible refine code_id ?_); conv => whnf) | (clear hK; (with_reducible refine hK _ _ _ ?_); clear hK) | (clear hK; clear hK; (with_reducible refine hK _ _ _ ?_); clear hK) | (clear hK; clear hK; clear hK; (with_reducible refine hK _ _ _ ?_); clear hK))
              refine cut_intro (σ := Unit) (fun _ => [(1, .v (iv e)), (5, .l 5 0), (7, .v (ptr t)), (8, .v (ptr b)), (10, .l 10 0), (14, .v (.bool (decide (qgood q)))), (15, .v (.bool (decide (qgood q ∧ qle q (left A r)))))]) (fun _ => [(5, q3 q), (10, infL (infOf A r) g0 g1 g2 g3 g4 g5 g6 g7)]) (fun _ => g) (fun _ => True) ?_ (fun _ _ => mid9 hw hl3 hlm hr hL hg hq)
              rw [e14, e15]
              repeat (first | ((with_reducible refine hK _ _ _ ?_); clear hK) | (with_reducible refine seq_step fun K hK => ?_) | (with_reducible refine block_step ?_) | ((with_reducible refine cond_t ?_ ?_); focus rfl) | ((with_reducible refine cond_f ?_ ?_); focus rfl) | ((with_reducible refine code_id ?_); conv => whnf) | (clear hK; (with_reducible refine hK _ _ _ ?_); clear hK) | (clear hK; clear hK; (with_reducible refine hK _ _ _ ?_); clear hK) | (clear hK; clear hK; clear hK; (with_reducible refine hK _ _ _ ?_); clear hK))
              exact ⟨(), trivial, subE_cons rfl (subE_cons rfl (subE_cons rfl (subE_cons rfl (subE_cons rfl (subE_cons rfl (subE_cons rfl subE_nil)))))), subB_cons rfl (subB_cons rfl subB_nil), rfl⟩
            · rw [decide_eq_false b2]
              conv => whnf
              repeat (first | ((with_reducible refine hK _ _ _ ?_); clear hK) | (with_reducible refine seq_step fun K hK => ?_) | (with_reducible refine block_step ?_) | ((with_reducible refine cond_t ?_ ?_); focus rfl) | ((with_reducible refine cond_f ?_ ?_); focus rfl) | ((with_reducible refine code_id ?_); conv => whnf) | (clear hK; (with_reducible refine hK _ _ _ ?_); clear hK) | (clear hK; clear hK; (with_reducible refine hK _ _ _ ?_); clear hK) | (clear hK; clear hK; clear hK; (with_reducible refine hK _ _ _ ?_); clear hK))
              refine cut_intro (σ := Unit) (fun _ => [(1, .v (iv e)), (5, .l 5 0), (7, .v (ptr t)), (8, .v (ptr b)), (10, .l 10 0), (14, .v (.bool (decide (qgood q)))), (15, .v (.bool (decide (qgood q ∧ qle q (left A r)))))]) (fun _ => [(5, q3 q), (10, infL (infOf A r) g0 g1 g2 g3 g4 g5 g6 g7)]) (fun _ => g) (fun _ => True) ?_ (fun _ _ => mid9 hw hl3 hlm hr hL hg hq)
              rw [e14, e15]
              repeat (first | ((with_reducible refine hK _ _ _ ?_); clear hK) | (with_reducible refine seq_step fun K hK => ?_) | (with_reducible refine block_step ?_) | ((with_reducible refine cond_t ?_ ?_); focus rfl) | ((with_reducible refine cond_f ?_ ?_); focus rfl) | ((with_reducible refine code_id ?_); conv => whnf) | (clear hK; (with_reducible refine hK _ _ _ ?_); clear hK) | (clear hK; clear hK; (with_reducible refine hK _ _ _ ?_); clear hK) | (clear hK; clear hK; clear hK; (with_reducible refine hK _ _ _ ?_); clear hK))
              exact ⟨(), trivial, subE_cons rfl (subE_cons rfl (subE_cons rfl (subE_cons rfl (subE_cons rfl (subE_cons rfl (subE_cons rfl subE_nil)))))), subB_cons rfl (subB_cons rfl subB_nil), rfl⟩
          · rw [decide_eq_false b1]
            conv => whnf
            repeat (first | ((with_reducible refine hK _ _ _ ?_); clear hK) | (with_reducible refine seq_step fun K hK => ?_) | (with_reducible refine block_step ?_) | ((with_reducible refine cond_t ?_ ?_); focus rfl) | ((with_reducible refine cond_f ?_ ?_); focus rfl) | ((with_reducible refine code_id ?_); conv => whnf) | (clear hK; (with_reducible refine hK _ _ _ ?_); clear hK) | (clear hK; clear hK; (with_reducible refine hK _ _ _ ?_); clear hK) | (clear hK; clear hK; clear hK; (with_reducible refine hK _ _ _ ?_); clear hK))
            refine cut_intro (σ := Unit) (fun _ => [(1, .v (iv e)), (5, .l 5 0), (7, .v (ptr t)), (8, .v (ptr b)), (10, .l 10 0), (14, .v (.bool (decide (qgood q)))), (15, .v (.bool (decide (qgood q ∧ qle q (left A r)))))]) (fun _ => [(5, q3 q), (10, infL (infOf A r) g0 g1 g2 g3 g4 g5 g6 g7)]) (fun _ => g) (fun _ => True) ?_ (fun _ _ => mid9 hw hl3 hlm hr hL hg hq)
            rw [e14, e15]
            repeat (first | ((with_reducible refine hK _ _ _ ?_); clear hK) | (with_reducible refine seq_step fun K hK => ?_) | (with_reducible refine block_step ?_) | ((with_reducible refine cond_t ?_ ?_); focus rfl) | ((with_reducible refine cond_f ?_ ?_); focus rfl) | ((with_reducible refine code_id ?_); conv => whnf) | (clear hK; (with_reducible refine hK _ _ _ ?_); clear hK) | (clear hK; clear hK; (with_reducible refine hK _ _ _ ?_); clear hK) | (clear hK; clear hK; clear hK; (with_reducible refine hK _ _ _ ?_); clear hK))
            exact ⟨(), trivial, subE_cons rfl (subE_cons rfl (subE_cons rfl (subE_cons rfl (subE_cons rfl (subE_cons rfl (subE_cons rfl subE_nil)))))), subB_cons rfl (subB_cons rfl subB_nil), rfl⟩
        · rw [show decide (¬ qge q) = true from decide_eq_true b0]
          conv => whnf
          repeat (first | ((with_reducible refine hK _ _ _ ?_); clear hK) | (with_reducible refine seq_step fun K hK => ?_) | (with_reducible refine block_step ?_) | ((with_reducible refine cond_t ?_ ?_); focus rfl) | ((with_reducible refine cond_f ?_ ?_); focus rfl) | ((with_reducible refine code_id ?_); conv => whnf) | (clear hK; (with_reducible refine hK _ _ _ ?_); clear hK) | (clear hK; clear hK; (with_reducible refine hK _ _ _ ?_); clear hK) | (clear hK; clear hK; clear hK; (with_reducible refine hK _ _ _ ?_); clear hK))
          refine cut_intro (σ := Unit) (fun _ => [(1, .v (iv e)), (5, .l 5 0), (7, .v (ptr t)), (8, .v (ptr b)), (10, .l 10 0), (14, .v (.bool (decide (qgood q)))), (15, .v (.bool (decide (qgood q ∧ qle q (left A r)))))]) (fun _ => [(5, q3 q), (10, infL (infOf A r) g0 g1 g2 g3 g4 g5 g6 g7)]) (fun _ => g) (fun _ => True) ?_ (fun _ _ => mid9 hw hl3 hlm hr hL hg hq)
          rw [e14, e15]
          repeat (first | ((with_reducible refine hK _ _ _ ?_); clear hK) | (with_reducible refine seq_step fun K hK => ?_) | (with_reducible refine block_step ?_) | ((with_reducible refine cond_t ?_ ?_); focus rfl) | ((with_reducible refine cond_f ?_ ?_); focus rfl) | ((with_reducible refine code_id ?_); conv => whnf) | (clear hK; (with_reducible refine hK _ _ _ ?_); clear hK) | (clear hK; clear hK; (with_reducible refine hK _ _ _ ?_); clear hK) | (clear hK; clear hK; clear hK; (with_reducible refine hK _ _ _ ?_); clear hK))
          exact ⟨(), trivial, subE_cons rfl (subE_cons rfl (subE_cons rfl (subE_cons rfl (subE_cons rfl (subE_cons rfl (subE_cons rfl subE_nil)))))), subB_cons rfl (subB_cons rfl subB_nil), rfl⟩

end
end Go.Proofs.Ytljenppmdhldbaa.V
