/- Seat 09: do the sums add up? -/
import Derived.Test.YtljenppmdhldbaaH30
import Derived.Test.YtljenppmdhldbaaH26
namespace Go.Proofs.Ytljenppmdhldbaa.V
set_option linter.unusedVariables false
set_option linter.unusedSimpArgs false
set_option linter.unusedSectionVars false
set_option linter.unusedSectionVars false
open Go

def infL (x : Inf) (g0 g1 g2 g3 g4 g5 g6 g7 : Int) : List Value := [iv x.serial, iv x.parent, iv x.state, iv x.code, iv x.bits, .bool x.frozen, u32v g0, u32v g1, u32v g2, u32v g3, u32v g4, u32v g5, u32v g6, u32v g7, u32v x.pc, iv x.quota.1, iv x.quota.2.1, iv x.quota.2.2, iv x.left.1, iv x.left.2.1, iv x.left.2.2]
theorem infC_L {x : Inf} (h : InfOk x) : ∃ g0 g1 g2 g3 g4 g5 g6 g7, x.regs = [g0, g1, g2, g3, g4, g5, g6, g7] ∧ infC x = infL x g0 g1 g2 g3 g4 g5 g6 g7 := by
  obtain ⟨g0, g1, g2, g3, g4, g5, g6, g7, hg⟩ := eight h
  exact ⟨g0, g1, g2, g3, g4, g5, g6, g7, hg, by simp [infC, infL, hg, q3]⟩

theorem qsum_take {l : List Q3} (h : ∀ q ∈ l, qge q) (i : Nat) : qle (qsum (l.take i)) (qsum l) := by
  induction l generalizing i with
  | nil => simp; exact ⟨Int.le_refl _, Int.le_refl _, Int.le_refl _⟩
  | cons q l ih =>
    cases i with
    | zero =>
      have := qsum_ge h
      exact this
    | succ i =>
      obtain ⟨a1, a2, a3⟩ := ih (fun x hx => h x (List.mem_cons_of_mem _ hx)) i
      rw [List.take_succ_cons]
      simp only [qsum, qadd]
      exact ⟨by simp only; omega, by simp only; omega, by simp only; omega⟩

theorem kids_at {A : Rs} {n : Int} {i : Nat} (hi : i < (kids A n).length) : ∃ s, (kidsR A n)[i]? = some s ∧ (kids A n)[i]? = some (s.num : Int) ∧ s ∈ A ∧ s.parent = n := by
  have hi' : i < (kidsR A n).length := by simpa [kids] using hi
  have hm := mem_kidsR.1 (List.getElem_mem hi')
  refine ⟨(kidsR A n)[i], List.getElem?_eq_getElem hi', ?_, hm.1, hm.2⟩
  unfold kids; rw [List.getElem?_map, List.getElem?_eq_getElem hi']; rfl

section
variable {h : Hp} {Q : Value → Hp → Prop} {L : List As} {t b : Nat} {A : Rs} {last : Int}

theorem WF.sums (hw : WF A last) {r : Row} (hr : r ∈ A) (i : Nat) : qge (qsum (((kidsR A r.num).map (·.whole)).take i)) ∧ qle (qadd (qadd (left A r) r.paid) (qsum (((kidsR A r.num).map (·.whole)).take i))) r.whole := by
  have hk : ∀ q ∈ (kidsR A r.num).map (·.whole), qge q := fun q hq => by
    obtain ⟨x, hx, rfl⟩ := List.mem_map.1 hq
    exact (hw.qw x (mem_kidsR.1 hx).1).1
  refine ⟨qsum_ge fun q hq => hk q (List.mem_of_mem_take hq), ?_⟩
  obtain ⟨a1, a2, a3⟩ := qsum_take hk i
  simp only [left, carve, qsub, qadd, qle] at *
  omega

theorem sm_le (hw : WF A last) {r : Row} (hr : r ∈ A) : qsm (left A r) ∧ qsm r.paid := by
  refine ⟨?_, hw.sm_paid hr⟩
  obtain ⟨l1, l2, l3⟩ := hw.ql r hr
  obtain ⟨⟨w1, w2, w3⟩, w4, w5, w6⟩ := hw.qw r hr
  obtain ⟨p1, p2, p3⟩ := hw.qp r hr
  obtain ⟨c1, c2, c3⟩ : qge (carve A r.num) := (hw.bk hr).c
  simp only [left, qsub] at l1 l2 l3
  simp only [left, qsub]
  refine ⟨⟨?_, ?_⟩, ⟨?_, ?_⟩, ⟨?_, ?_⟩⟩ <;> simp only [] <;> omega

theorem adds31 (hw : WF A last) {n : Nat} {r : Row} (hr : fnd A (n : Int) = some r) (hh : Has (EnvA t A last :: BkP b A last :: L) h) (hq : ∀ h', Has (EnvA t A last :: BkP b A last :: L) h' → Q (.bool true) h') : Ok PR 31 [ptr b, ptr t, iv n] h Q := by
  have hrm := fnd_mem hr
  have hn16 : n < 16 := by have := hw.lt r hrm.1; omega
  have hrn : r.num = n := by omega
  refine e31 rfl (seq_step fun K hK => ?_)
  repeat (first | ((with_reducible refine hK _ _ _ ?_); clear hK) | (with_reducible refine seq_step fun K hK => ?_) | ((with_reducible refine code_id ?_); conv => whnf) | (clear hK; (with_reducible refine hK _ _ _ ?_); clear hK) | (clear hK; clear hK; (with_reducible refine hK _ _ _ ?_); clear hK) | (clear hK; clear hK; clear hK; (with_reducible refine hK _ _ _ ?_); clear hK))
  refine info19A hw n hh ?_
  rw [show mInfo A (n : Int) = (infOf A r, 0) by unfold mInfo; rw [hr]]
  obtain ⟨g0, g1, g2, g3, g4, g5, g6, g7, _, hL⟩ := infC_L (x := infOf A r) (hw.rg r hrm.1)
  rw [hL, show infL (infOf A r) g0 g1 g2 g3 g4 g5 g6 g7 = [iv r.serial, iv r.parent, iv r.state, iv r.code, iv r.bits, .bool r.frozen, u32v g0, u32v g1, u32v g2, u32v g3, u32v g4, u32v g5, u32v g6, u32v g7, u32v r.pc, iv r.whole.1, iv r.whole.2.1, iv r.whole.2.2, iv (left A r).1, iv (left A r).2.1, iv (left A r).2.2] from rfl]
  conv => whnf
  repeat (first | ((with_reducible refine hK _ _ _ ?_); clear hK) | (with_reducible refine seq_step fun K hK => ?_) | ((with_reducible refine code_id ?_); conv => whnf) | (clear hK; (with_reducible refine hK _ _ _ ?_); clear hK) | (clear hK; clear hK; (with_reducible refine hK _ _ _ ?_); clear hK) | (clear hK; clear hK; clear hK; (with_reducible refine hK _ _ _ ?_); clear hK))
  refine kids39A hw n hh fun s h1 hh1 => ?_
  rw [show mKids A (n : Int) = (kids A n, 0) by unfold mKids; rw [hr]] at hh1 ⊢
  dsimp only at hh1 ⊢
  conv => whnf
  repeat (first | ((with_reducible refine hK _ _ _ ?_); clear hK) | (with_reducible refine seq_step fun K hK => ?_) | ((with_reducible refine code_id ?_); conv => whnf) | (clear hK; (with_reducible refine hK _ _ _ ?_); clear hK) | (clear hK; clear hK; (with_reducible refine hK _ _ _ ?_); clear hK) | (clear hK; clear hK; clear hK; (with_reducible refine hK _ _ _ ?_); clear hK))
  refine below30 (left A r) ?_
  rw [show decide (¬ qge (left A r)) = false from decide_eq_false fun x => x (hw.ql r hrm.1)]
  obtain ⟨pd, hpd, hh2⟩ := BkP.opn (hh1.pull 2 rfl)
  have hpl := hpd.1
  have hpr := hpd.2 r hrm.1
  rw [hrn] at hpr
  conv => whnf
  refine opt_if ⟨by omega, by omega⟩ ?_
  conv => whnf
  refine opt_ld (hh2.pt 0 rfl) (v := aq r.paid) ?_ ?_
  · show rd (bookC (lvG (livesF A)) pd last).toArray (0 + 16 + (n : Int).toNat * 3) 3 true = _
    rw [show 0 + 16 + (n : Int).toNat * 3 = 16 + n * 3 by omega]
    exact bk_pd (lvG_len _) hpl hpr
  conv => whnf
  refine below30 r.paid ?_
  rw [show decide (¬ qge r.paid) = false from decide_eq_false fun x => x (hw.qp r hrm.1)]
  conv => whnf
  repeat (first | ((with_reducible refine hK _ _ _ ?_); clear hK) | (with_reducible refine seq_step fun K hK => ?_) | ((with_reducible refine code_id ?_); conv => whnf) | (clear hK; (with_reducible refine hK _ _ _ ?_); clear hK) | (clear hK; clear hK; (with_reducible refine hK _ _ _ ?_); clear hK) | (clear hK; clear hK; clear hK; (with_reducible refine hK _ _ _ ?_); clear hK) | (refine ⟨_, _, SubH.refl _, SubB.refl _, ?_⟩; conv => whnf) | (refine ⟨⟨SubH.refl _, SubB.refl _⟩, ?_⟩; conv => whnf) | (refine ⟨_, _, ⟨SubH.refl _, SubB.refl _⟩, SubH.refl _, SubB.refl _, ?_⟩; conv => whnf))
  refine opt_if ⟨by omega, by omega⟩ ?_
  conv => whnf
  refine opt_ld (hh2.pt 0 rfl) (v := aq r.paid) ?_ ?_
  · show rd (bookC (lvG (livesF A)) pd last).toArray (0 + 16 + (n : Int).toNat * 3) 3 true = _
    rw [show 0 + 16 + (n : Int).toNat * 3 = 16 + n * 3 by omega]
    exact bk_pd (lvG_len _) hpl hpr
  conv => whnf
  refine ⟨?_, ?_⟩
  · conv => whnf
    refine add29p (left A r) r.paid (sm_le hw hrm.1).1 (sm_le hw hrm.1).2 ?_
    conv => whnf
    refine ⟨_, _, SubH.refl _, SubB.refl _, ?_⟩
    conv => whnf
    refine ⟨rfl, ?_⟩
    conv => whnf
    refine ⟨⟨SubH.refl _, SubB.new rfl⟩, ?_⟩
    conv => whnf
    repeat (first | ((with_reducible refine hK _ _ _ ?_); clear hK) | (with_reducible refine seq_step fun K hK => ?_) | ((with_reducible refine code_id ?_); conv => whnf) | (clear hK; (with_reducible refine hK _ _ _ ?_); clear hK) | (clear hK; clear hK; (with_reducible refine hK _ _ _ ?_); clear hK) | (clear hK; clear hK; clear hK; (with_reducible refine hK _ _ _ ?_); clear hK) | (refine ⟨_, _, SubH.refl _, SubB.refl _, ?_⟩; conv => whnf) | (refine ⟨⟨SubH.refl _, SubB.refl _⟩, ?_⟩; conv => whnf) | (refine ⟨_, _, ⟨SubH.refl _, SubB.refl _⟩, SubH.refl _, SubB.refl _, ?_⟩; conv => whnf))
    obtain ⟨base, cap, es⟩ := hh2.slv 1 rfl
    subst es
    have hrs : kidsR A r.num = kidsR A (n : Int) := by rw [hrn]
    have hsum := fun i => hw.sums hrm.1 i
    rw [hrs] at hsum
    refine loop_intro (σ := Nat) (fun s => [(0, .v (ptr b)), (1, .v (ptr t)), (2, .v (iv n)), (7, .l 7 0), (9, .v (.slice base (kids A (n : Int)).length cap)), (11, .l 11 0), (12, .v (iv s))])
      (fun s => [(7, [iv r.serial, iv r.parent, iv r.state, iv r.code, iv r.bits, .bool r.frozen, u32v g0, u32v g1, u32v g2, u32v g3, u32v g4, u32v g5, u32v g6, u32v g7, u32v r.pc, iv r.whole.1, iv r.whole.2.1, iv r.whole.2.2, iv (left A r).1, iv (left A r).2.1, iv (left A r).2.2]), (11, q3 (qadd (qadd (left A r) r.paid) (qsum (((kidsR A (n : Int)).map (·.whole)).take s))))])
      (fun _ => h1) (fun s => s ≤ (kids A (n : Int)).length) (fun s => (kids A (n : Int)).length - s) 0 (Nat.zero_le _)
      (subE_cons rfl (subE_cons rfl (subE_cons rfl (subE_cons rfl (subE_cons rfl (subE_cons rfl (subE_cons rfl subE_nil))))))) (subB_cons rfl (subB_cons (by rw [List.take_zero]; show some _ = some _; congr 1; simp [q3, qsum, qadd, qz, aq]; rfl) subB_nil)) rfl ?_
    intro i hi
    have hkl : (kids A (n : Int)).length ≤ 16 := by
      have := hw.len
      have : (kids A (n : Int)).length ≤ A.length := by unfold kids kidsR; rw [List.length_map]; exact List.length_filter_le _ _
      omega
    repeat (first | ((with_reducible refine hK _ _ _ ?_); clear hK) | (with_reducible refine seq_step fun K hK => ?_) | ((with_reducible refine code_id ?_); conv => whnf) | (clear hK; (with_reducible refine hK _ _ _ ?_); clear hK) | (clear hK; clear hK; (with_reducible refine hK _ _ _ ?_); clear hK) | (clear hK; clear hK; clear hK; (with_reducible refine hK _ _ _ ?_); clear hK))
    refine cond_dec (fun hlt => ?_) (fun hge => ?_)
    · have hil : i < (kids A (n : Int)).length := by omega
      obtain ⟨x, hx1, hx2, hxA, hxp⟩ := kids_at hil
      obtain ⟨bb, o, cap', c, ty, z, he, hbb2, hc⟩ := hh2.rdw 1 rfl (k := i) (v := iv x.num) hil (by rw [List.getElem?_map, hx2]; rfl)
      cases he
      have hfx : fnd A (x.num : Int) = some x := fnd_of hw.nd hxA
      obtain ⟨k0, k1, k2, k3, k4, k5, k6, k7, _, hL2⟩ := infC_L (x := infOf A x) (hw.rg x hxA)
      have htk : ((kidsR A (n : Int)).map (·.whole)).take (i + 1) = ((kidsR A (n : Int)).map (·.whole)).take i ++ [x.whole] := by
        rw [List.take_add_one, List.getElem?_map, hx1]; rfl
      have hs1 := hsum (i + 1)
      have hs0 := hsum i
      have hgx := hw.qw x hxA
      have hgr := hw.qw r hrm.1
      have hsl := (sm_le hw hrm.1).1
      rw [htk, qsum_snoc] at hs1
      generalize hS : qsum (((kidsR A (n : Int)).map (·.whole)).take i) = S at hs0 hs1 ⊢
      obtain ⟨s1, s2, s3⟩ := S
      have hql := hw.ql r hrm.1
      have hqp := hw.qp r hrm.1
      repeat (first | ((with_reducible refine hK _ _ _ ?_); clear hK) | (with_reducible refine seq_step fun K hK => ?_) | ((with_reducible refine code_id ?_); conv => whnf) | (clear hK; (with_reducible refine hK _ _ _ ?_); clear hK) | (clear hK; clear hK; (with_reducible refine hK _ _ _ ?_); clear hK) | (clear hK; clear hK; clear hK; (with_reducible refine hK _ _ _ ?_); clear hK))
      refine opt_if ⟨by omega, by omega⟩ ?_
      conv => whnf
      refine opt_ld hbb2 (v := iv x.num) (by rw [Int.toNat_natCast, Nat.mul_one]; exact hc) ?_
      conv => whnf
      refine info19A hw x.num (hh2.pull 2 rfl) ?_
      rw [show mInfo A (x.num : Int) = (infOf A x, 0) by unfold mInfo; rw [hfx], hL2, show infL (infOf A x) k0 k1 k2 k3 k4 k5 k6 k7 = [iv x.serial, iv n, iv x.state, iv x.code, iv x.bits, .bool x.frozen, u32v k0, u32v k1, u32v k2, u32v k3, u32v k4, u32v k5, u32v k6, u32v k7, u32v x.pc, iv x.whole.1, iv x.whole.2.1, iv x.whole.2.2, iv (left A x).1, iv (left A x).2.1, iv (left A x).2.2] by rw [← hxp]; rfl]
      conv => whnf
      repeat (first | ((with_reducible refine hK _ _ _ ?_); clear hK) | (with_reducible refine seq_step fun K hK => ?_) | ((with_reducible refine code_id ?_); conv => whnf) | (clear hK; (with_reducible refine hK _ _ _ ?_); clear hK) | (clear hK; clear hK; (with_reducible refine hK _ _ _ ?_); clear hK) | (clear hK; clear hK; clear hK; (with_reducible refine hK _ _ _ ?_); clear hK))
      rw [show (((n : Nat) : Int) != n) = false from bne_self_eq_false _]
      conv => whnf
      repeat (first | ((with_reducible refine hK _ _ _ ?_); clear hK) | (with_reducible refine seq_step fun K hK => ?_) | ((with_reducible refine code_id ?_); conv => whnf) | (clear hK; (with_reducible refine hK _ _ _ ?_); clear hK) | (clear hK; clear hK; (with_reducible refine hK _ _ _ ?_); clear hK) | (clear hK; clear hK; clear hK; (with_reducible refine hK _ _ _ ?_); clear hK))
      refine add29p (qadd (qadd (left A r) r.paid) (s1, s2, s3)) x.whole ?_ (qgood_sm hgx) ?_
      · obtain ⟨⟨a1, a2, a3⟩, b1, b2, b3⟩ := hs0
        obtain ⟨⟨w1, w2, w3⟩, w4, w5, w6⟩ := hgr
        obtain ⟨l1, l2, l3⟩ := hql
        obtain ⟨m1, m2, m3⟩ := hqp
        simp only [qadd] at a1 a2 a3 b1 b2 b3
        refine ⟨⟨?_, ?_⟩, ⟨?_, ?_⟩, ⟨?_, ?_⟩⟩ <;> simp only [qadd] <;> omega
      conv => whnf
      repeat (first | ((with_reducible refine hK _ _ _ ?_); clear hK) | (with_reducible refine seq_step fun K hK => ?_) | ((with_reducible refine code_id ?_); conv => whnf) | (clear hK; (with_reducible refine hK _ _ _ ?_); clear hK) | (clear hK; clear hK; (with_reducible refine hK _ _ _ ?_); clear hK) | (clear hK; clear hK; clear hK; (with_reducible refine hK _ _ _ ?_); clear hK))
      have hfin : q3 (qadd (qadd (left A r) r.paid) (qsum (((kidsR A (n : Int)).map (·.whole)).take (i + 1)))) = [iv ((left A r).1 + r.paid.1 + s1 + x.whole.1), iv (IntKind.i64.wrap ((left A r).2.1 + r.paid.2.1 + s2 + x.whole.2.1 + 1)), iv ((left A r).2.2 + r.paid.2.2 + s3 + x.whole.2.2)] := by
        rw [htk, qsum_snoc, hS]
        obtain ⟨⟨a1, a2, a3⟩, b1, b2, b3⟩ := hs1
        obtain ⟨⟨w1, w2, w3⟩, w4, w5, w6⟩ := hgr
        obtain ⟨l1, l2, l3⟩ := hql
        obtain ⟨m1, m2, m3⟩ := hqp
        simp only [qadd, qchild] at a1 a2 a3 b1 b2 b3
        show [iv ((left A r).1 + r.paid.1 + (s1 + x.whole.1)), iv ((left A r).2.1 + r.paid.2.1 + (s2 + (x.whole.2.1 + 1))), iv ((left A r).2.2 + r.paid.2.2 + (s3 + x.whole.2.2))] = _
        rw [wrap_i64 (by omega) (by omega), show (left A r).1 + r.paid.1 + (s1 + x.whole.1) = (left A r).1 + r.paid.1 + s1 + x.whole.1 by omega,
          show (left A r).2.1 + r.paid.2.1 + (s2 + (x.whole.2.1 + 1)) = (left A r).2.1 + r.paid.2.1 + s2 + x.whole.2.1 + 1 by omega, show (left A r).2.2 + r.paid.2.2 + (s3 + x.whole.2.2) = (left A r).2.2 + r.paid.2.2 + s3 + x.whole.2.2 by omega]
      refine ⟨i + 1, hil, by omega, subE_cons rfl (subE_cons rfl (subE_cons rfl (subE_cons rfl (subE_cons rfl (subE_cons rfl (subE_cons (int_eq (wrap_nat (by omega)) rfl) subE_nil)))))), subB_cons rfl (subB_cons ?_ subB_nil), rfl⟩
      rw [hfin]
      rfl
    · have hie : i = (kids A (n : Int)).length := by omega
      have hlk : (kids A (n : Int)).length = ((kidsR A (n : Int)).map (·.whole)).length := by simp [kids]
      have hwh : qadd (qadd (left A r) r.paid) (qsum (((kidsR A (n : Int)).map (·.whole)).take i)) = r.whole := by
        rw [hie, hlk, List.take_length, ← hrs]
        exact Prod.ext (show r.whole.1 - r.paid.1 - (carve A r.num).1 + r.paid.1 + (carve A r.num).1 = r.whole.1 by omega) (Prod.ext (show r.whole.2.1 - r.paid.2.1 - (carve A r.num).2.1 + r.paid.2.1 + (carve A r.num).2.1 = r.whole.2.1 by omega) (show r.whole.2.2 - r.paid.2.2 - (carve A r.num).2.2 + r.paid.2.2 + (carve A r.num).2.2 = r.whole.2.2 by omega))
      rw [hwh]
      have eqq : ((r.whole.1 == r.whole.1) && ((r.whole.2.1 == r.whole.2.1) && ((r.whole.2.2 == r.whole.2.2) && true))) = true := by simp
      repeat (first | ((with_reducible refine hK _ _ _ ?_); clear hK) | (with_reducible refine seq_step fun K hK => ?_) | ((with_reducible refine code_id ?_); conv => whnf) | (clear hK; (with_reducible refine hK _ _ _ ?_); clear hK) | (clear hK; clear hK; (with_reducible refine hK _ _ _ ?_); clear hK) | (clear hK; clear hK; clear hK; (with_reducible refine hK _ _ _ ?_); clear hK))
      rw [eqq]
      exact hq _ ((BkP.cls hpd hh2).erase 1).swap
  · refine ⟨rfl, ?_⟩
    conv => whnf
    refine ⟨⟨SubH.refl _, SubB.new rfl⟩, ?_⟩
    conv => whnf
    refine add29p (left A r) r.paid (sm_le hw hrm.1).1 (sm_le hw hrm.1).2 ?_
    conv => whnf
    repeat (first | ((with_reducible refine hK _ _ _ ?_); clear hK) | (with_reducible refine seq_step fun K hK => ?_) | ((with_reducible refine code_id ?_); conv => whnf) | (clear hK; (with_reducible refine hK _ _ _ ?_); clear hK) | (clear hK; clear hK; (with_reducible refine hK _ _ _ ?_); clear hK) | (clear hK; clear hK; clear hK; (with_reducible refine hK _ _ _ ?_); clear hK) | (refine ⟨_, _, SubH.refl _, SubB.refl _, ?_⟩; conv => whnf) | (refine ⟨⟨SubH.refl _, SubB.refl _⟩, ?_⟩; conv => whnf) | (refine ⟨_, _, ⟨SubH.refl _, SubB.refl _⟩, SubH.refl _, SubB.refl _, ?_⟩; conv => whnf))
    obtain ⟨base, cap, es⟩ := hh2.slv 1 rfl
    subst es
    have hrs : kidsR A r.num = kidsR A (n : Int) := by rw [hrn]
    have hsum := fun i => hw.sums hrm.1 i
    rw [hrs] at hsum
    refine loop_intro (σ := Nat) (fun s => [(0, .v (ptr b)), (1, .v (ptr t)), (2, .v (iv n)), (7, .l 7 0), (9, .v (.slice base (kids A (n : Int)).length cap)), (11, .l 11 0), (12, .v (iv s))])
      (fun s => [(7, [iv r.serial, iv r.parent, iv r.state, iv r.code, iv r.bits, .bool r.frozen, u32v g0, u32v g1, u32v g2, u32v g3, u32v g4, u32v g5, u32v g6, u32v g7, u32v r.pc, iv r.whole.1, iv r.whole.2.1, iv r.whole.2.2, iv (left A r).1, iv (left A r).2.1, iv (left A r).2.2]), (11, q3 (qadd (qadd (left A r) r.paid) (qsum (((kidsR A (n : Int)).map (·.whole)).take s))))])
      (fun _ => h1) (fun s => s ≤ (kids A (n : Int)).length) (fun s => (kids A (n : Int)).length - s) 0 (Nat.zero_le _)
      (subE_cons rfl (subE_cons rfl (subE_cons rfl (subE_cons rfl (subE_cons rfl (subE_cons rfl (subE_cons rfl subE_nil))))))) (subB_cons rfl (subB_cons (by rw [List.take_zero]; show some _ = some _; congr 1; simp [q3, qsum, qadd, qz, aq]; rfl) subB_nil)) rfl ?_
    intro i hi
    have hkl : (kids A (n : Int)).length ≤ 16 := by
      have := hw.len
      have : (kids A (n : Int)).length ≤ A.length := by unfold kids kidsR; rw [List.length_map]; exact List.length_filter_le _ _
      omega
    repeat (first | ((with_reducible refine hK _ _ _ ?_); clear hK) | (with_reducible refine seq_step fun K hK => ?_) | ((with_reducible refine code_id ?_); conv => whnf) | (clear hK; (with_reducible refine hK _ _ _ ?_); clear hK) | (clear hK; clear hK; (with_reducible refine hK _ _ _ ?_); clear hK) | (clear hK; clear hK; clear hK; (with_reducible refine hK _ _ _ ?_); clear hK))
    refine cond_dec (fun hlt => ?_) (fun hge => ?_)
    · have hil : i < (kids A (n : Int)).length := by omega
      obtain ⟨x, hx1, hx2, hxA, hxp⟩ := kids_at hil
      obtain ⟨bb, o, cap', c, ty, z, he, hbb2, hc⟩ := hh2.rdw 1 rfl (k := i) (v := iv x.num) hil (by rw [List.getElem?_map, hx2]; rfl)
      cases he
      have hfx : fnd A (x.num : Int) = some x := fnd_of hw.nd hxA
      obtain ⟨k0, k1, k2, k3, k4, k5, k6, k7, _, hL2⟩ := infC_L (x := infOf A x) (hw.rg x hxA)
      have htk : ((kidsR A (n : Int)).map (·.whole)).take (i + 1) = ((kidsR A (n : Int)).map (·.whole)).take i ++ [x.whole] := by
        rw [List.take_add_one, List.getElem?_map, hx1]; rfl
      have hs1 := hsum (i + 1)
      have hs0 := hsum i
      have hgx := hw.qw x hxA
      have hgr := hw.qw r hrm.1
      have hsl := (sm_le hw hrm.1).1
      rw [htk, qsum_snoc] at hs1
      generalize hS : qsum (((kidsR A (n : Int)).map (·.whole)).take i) = S at hs0 hs1 ⊢
      obtain ⟨s1, s2, s3⟩ := S
      have hql := hw.ql r hrm.1
      have hqp := hw.qp r hrm.1
      repeat (first | ((with_reducible refine hK _ _ _ ?_); clear hK) | (with_reducible refine seq_step fun K hK => ?_) | ((with_reducible refine code_id ?_); conv => whnf) | (clear hK; (with_reducible refine hK _ _ _ ?_); clear hK) | (clear hK; clear hK; (with_reducible refine hK _ _ _ ?_); clear hK) | (clear hK; clear hK; clear hK; (with_reducible refine hK _ _ _ ?_); clear hK))
      refine opt_if ⟨by omega, by omega⟩ ?_
      conv => whnf
      refine opt_ld hbb2 (v := iv x.num) (by rw [Int.toNat_natCast, Nat.mul_one]; exact hc) ?_
      conv => whnf
      refine info19A hw x.num (hh2.pull 2 rfl) ?_
      rw [show mInfo A (x.num : Int) = (infOf A x, 0) by unfold mInfo; rw [hfx], hL2, show infL (infOf A x) k0 k1 k2 k3 k4 k5 k6 k7 = [iv x.serial, iv n, iv x.state, iv x.code, iv x.bits, .bool x.frozen, u32v k0, u32v k1, u32v k2, u32v k3, u32v k4, u32v k5, u32v k6, u32v k7, u32v x.pc, iv x.whole.1, iv x.whole.2.1, iv x.whole.2.2, iv (left A x).1, iv (left A x).2.1, iv (left A x).2.2] by rw [← hxp]; rfl]
      conv => whnf
      repeat (first | ((with_reducible refine hK _ _ _ ?_); clear hK) | (with_reducible refine seq_step fun K hK => ?_) | ((with_reducible refine code_id ?_); conv => whnf) | (clear hK; (with_reducible refine hK _ _ _ ?_); clear hK) | (clear hK; clear hK; (with_reducible refine hK _ _ _ ?_); clear hK) | (clear hK; clear hK; clear hK; (with_reducible refine hK _ _ _ ?_); clear hK))
      rw [show (((n : Nat) : Int) != n) = false from bne_self_eq_false _]
      conv => whnf
      repeat (first | ((with_reducible refine hK _ _ _ ?_); clear hK) | (with_reducible refine seq_step fun K hK => ?_) | ((with_reducible refine code_id ?_); conv => whnf) | (clear hK; (with_reducible refine hK _ _ _ ?_); clear hK) | (clear hK; clear hK; (with_reducible refine hK _ _ _ ?_); clear hK) | (clear hK; clear hK; clear hK; (with_reducible refine hK _ _ _ ?_); clear hK))
      refine add29p (qadd (qadd (left A r) r.paid) (s1, s2, s3)) x.whole ?_ (qgood_sm hgx) ?_
      · obtain ⟨⟨a1, a2, a3⟩, b1, b2, b3⟩ := hs0
        obtain ⟨⟨w1, w2, w3⟩, w4, w5, w6⟩ := hgr
        obtain ⟨l1, l2, l3⟩ := hql
        obtain ⟨m1, m2, m3⟩ := hqp
        simp only [qadd] at a1 a2 a3 b1 b2 b3
        refine ⟨⟨?_, ?_⟩, ⟨?_, ?_⟩, ⟨?_, ?_⟩⟩ <;> simp only [qadd] <;> omega
      conv => whnf
      repeat (first | ((with_reducible refine hK _ _ _ ?_); clear hK) | (with_reducible refine seq_step fun K hK => ?_) | ((with_reducible refine code_id ?_); conv => whnf) | (clear hK; (with_reducible refine hK _ _ _ ?_); clear hK) | (clear hK; clear hK; (with_reducible refine hK _ _ _ ?_); clear hK) | (clear hK; clear hK; clear hK; (with_reducible refine hK _ _ _ ?_); clear hK))
      have hfin : q3 (qadd (qadd (left A r) r.paid) (qsum (((kidsR A (n : Int)).map (·.whole)).take (i + 1)))) = [iv ((left A r).1 + r.paid.1 + s1 + x.whole.1), iv (IntKind.i64.wrap ((left A r).2.1 + r.paid.2.1 + s2 + x.whole.2.1 + 1)), iv ((left A r).2.2 + r.paid.2.2 + s3 + x.whole.2.2)] := by
        rw [htk, qsum_snoc, hS]
        obtain ⟨⟨a1, a2, a3⟩, b1, b2, b3⟩ := hs1
        obtain ⟨⟨w1, w2, w3⟩, w4, w5, w6⟩ := hgr
        obtain ⟨l1, l2, l3⟩ := hql
        obtain ⟨m1, m2, m3⟩ := hqp
        simp only [qadd, qchild] at a1 a2 a3 b1 b2 b3
        show [iv ((left A r).1 + r.paid.1 + (s1 + x.whole.1)), iv ((left A r).2.1 + r.paid.2.1 + (s2 + (x.whole.2.1 + 1))), iv ((left A r).2.2 + r.paid.2.2 + (s3 + x.whole.2.2))] = _
        rw [wrap_i64 (by omega) (by omega), show (left A r).1 + r.paid.1 + (s1 + x.whole.1) = (left A r).1 + r.paid.1 + s1 + x.whole.1 by omega,
          show (left A r).2.1 + r.paid.2.1 + (s2 + (x.whole.2.1 + 1)) = (left A r).2.1 + r.paid.2.1 + s2 + x.whole.2.1 + 1 by omega, show (left A r).2.2 + r.paid.2.2 + (s3 + x.whole.2.2) = (left A r).2.2 + r.paid.2.2 + s3 + x.whole.2.2 by omega]
      refine ⟨i + 1, hil, by omega, subE_cons rfl (subE_cons rfl (subE_cons rfl (subE_cons rfl (subE_cons rfl (subE_cons rfl (subE_cons (int_eq (wrap_nat (by omega)) rfl) subE_nil)))))), subB_cons rfl (subB_cons ?_ subB_nil), rfl⟩
      rw [hfin]
      rfl
    · have hie : i = (kids A (n : Int)).length := by omega
      have hlk : (kids A (n : Int)).length = ((kidsR A (n : Int)).map (·.whole)).length := by simp [kids]
      have hwh : qadd (qadd (left A r) r.paid) (qsum (((kidsR A (n : Int)).map (·.whole)).take i)) = r.whole := by
        rw [hie, hlk, List.take_length, ← hrs]
        exact Prod.ext (show r.whole.1 - r.paid.1 - (carve A r.num).1 + r.paid.1 + (carve A r.num).1 = r.whole.1 by omega) (Prod.ext (show r.whole.2.1 - r.paid.2.1 - (carve A r.num).2.1 + r.paid.2.1 + (carve A r.num).2.1 = r.whole.2.1 by omega) (show r.whole.2.2 - r.paid.2.2 - (carve A r.num).2.2 + r.paid.2.2 + (carve A r.num).2.2 = r.whole.2.2 by omega))
      rw [hwh]
      have eqq : ((r.whole.1 == r.whole.1) && ((r.whole.2.1 == r.whole.2.1) && ((r.whole.2.2 == r.whole.2.2) && true))) = true := by simp
      repeat (first | ((with_reducible refine hK _ _ _ ?_); clear hK) | (with_reducible refine seq_step fun K hK => ?_) | ((with_reducible refine code_id ?_); conv => whnf) | (clear hK; (with_reducible refine hK _ _ _ ?_); clear hK) | (clear hK; clear hK; (with_reducible refine hK _ _ _ ?_); clear hK) | (clear hK; clear hK; clear hK; (with_reducible refine hK _ _ _ ?_); clear hK))
      rw [eqq]
      exact hq _ ((BkP.cls hpd hh2).erase 1).swap

end
end Go.Proofs.Ytljenppmdhldbaa.V
