/- Seat 09: EnvWhole. -/
import Derived.Test.YtljenppmdhldbaaH34
import Derived.Test.YtljenppmdhldbaaH40
namespace Go.Proofs.Ytljenppmdhldbaa.V
set_option linter.unusedVariables false
set_option linter.unusedSimpArgs false
set_option linter.unusedSectionVars false
set_option linter.unusedSectionVars false
open Go

section
variable {h : Hp} {Q : Value → Hp → Prop} {L : List As}

set_option maxHeartbeats 1000000 in
theorem law6 {a : Option Addr} {len cap : Nat} {l : List OpE} (hR : Scr h a len l) (hlen : len < 2 ^ 46) (hq : ∀ h', SubH h h' → Q (.bool true) h') : Ok PR 6 [.slice a len cap] h Q := by
  refine e6 rfl (seq_step fun K hK => ?_)
  repeat (first | ((with_reducible refine hK _ _ _ ?_); clear hK) | (with_reducible refine seq_step fun K hK => ?_) | (with_reducible refine block_step ?_) | ((with_reducible refine cond_t ?_ ?_); focus rfl) | ((with_reducible refine cond_f ?_ ?_); focus rfl) | ((with_reducible refine code_id ?_); conv => whnf) | (clear hK; (with_reducible refine hK _ _ _ ?_); clear hK) | (clear hK; clear hK; (with_reducible refine hK _ _ _ ?_); clear hK) | (clear hK; clear hK; clear hK; (with_reducible refine hK _ _ _ ?_); clear hK))
  refine first13 (Has.start h) fun t b h1 hh1 => ?_
  have hh1 : Has (EnvA t A0 3 :: BkP b A0 3 :: Is h :: []) h1 := hh1.map_tail fun g hg => hg.mono1 fun g' hg' => bkp0 hg'
  conv => whnf
  repeat (first | ((with_reducible refine hK _ _ _ ?_); clear hK) | (with_reducible refine seq_step fun K hK => ?_) | (with_reducible refine block_step ?_) | ((with_reducible refine cond_t ?_ ?_); focus rfl) | ((with_reducible refine cond_f ?_ ?_); focus rfl) | ((with_reducible refine code_id ?_); conv => whnf) | (clear hK; (with_reducible refine hK _ _ _ ?_); clear hK) | (clear hK; clear hK; (with_reducible refine hK _ _ _ ?_); clear hK) | (clear hK; clear hK; clear hK; (with_reducible refine hK _ _ _ ?_); clear hK))
  refine loop_intro (σ := (Nat × Rs × Int) × Hp) (fun s => [(0, .v (.slice a len cap)), (3, .v (ptr t)), (4, .v (ptr b)), (5, .v (iv s.1.1))]) (fun _ => []) (fun s => s.2)
    (fun s => s.1.1 ≤ len ∧ WF s.1.2.1 s.1.2.2 ∧ Has (EnvA t s.1.2.1 s.1.2.2 :: BkP b s.1.2.1 s.1.2.2 :: Is h :: []) s.2)
    (fun s => len - s.1.1) ((0, A0, 3), h1) ⟨Nat.zero_le _, wf0, hh1⟩ (subE_cons rfl (subE_cons rfl (subE_cons rfl (subE_cons rfl subE_nil)))) subB_nil rfl ?_
  rintro ⟨⟨i, A, last⟩, g⟩ ⟨hi, hw, hg⟩
  dsimp only at hi hw hg ⊢
  repeat (first | ((with_reducible refine hK _ _ _ ?_); clear hK) | (with_reducible refine seq_step fun K hK => ?_) | (with_reducible refine block_step ?_) | ((with_reducible refine cond_t ?_ ?_); focus rfl) | ((with_reducible refine cond_f ?_ ?_); focus rfl) | ((with_reducible refine code_id ?_); conv => whnf) | (clear hK; (with_reducible refine hK _ _ _ ?_); clear hK) | (clear hK; clear hK; (with_reducible refine hK _ _ _ ?_); clear hK) | (clear hK; clear hK; clear hK; (with_reducible refine hK _ _ _ ?_); clear hK))
  refine cond_dec (fun hlt => ?_) (fun hge => ?_)
  · have hil : i < len := by omega
    obtain ⟨o, bk, off, c, ty, z, ho, hregs, rfl, hb0, hrd, hkd, hnn⟩ := hR.at hil
    have hb : g bk = some (.cells c ty z) := hg.is 2 rfl bk _ hb0
    have ei : ((i : Int)).toNat = i := Int.toNat_natCast i
    repeat (first | ((with_reducible refine hK _ _ _ ?_); clear hK) | (with_reducible refine seq_step fun K hK => ?_) | (with_reducible refine block_step ?_) | ((with_reducible refine cond_t ?_ ?_); focus rfl) | ((with_reducible refine cond_f ?_ ?_); focus rfl) | ((with_reducible refine code_id ?_); conv => whnf) | (clear hK; (with_reducible refine hK _ _ _ ?_); clear hK) | (clear hK; clear hK; (with_reducible refine hK _ _ _ ?_); clear hK) | (clear hK; clear hK; clear hK; (with_reducible refine hK _ _ _ ?_); clear hK))
    refine opt_if ⟨by omega, by omega⟩ ?_
    conv => whnf
    refine opt_ld hb (v := .agg (opC o).toArray) (by rw [ei]; exact hrd) ?_
    conv => whnf
    refine noted20 hw o hregs hg fun g1 hg1 => ?_
    have hw1 := hw.step o hregs
    conv => whnf
    repeat (first | ((with_reducible refine hK _ _ _ ?_); clear hK) | (with_reducible refine seq_step fun K hK => ?_) | (with_reducible refine block_step ?_) | ((with_reducible refine cond_t ?_ ?_); focus rfl) | ((with_reducible refine cond_f ?_ ?_); focus rfl) | ((with_reducible refine code_id ?_); conv => whnf) | (clear hK; (with_reducible refine hK _ _ _ ?_); clear hK) | (clear hK; clear hK; (with_reducible refine hK _ _ _ ?_); clear hK) | (clear hK; clear hK; clear hK; (with_reducible refine hK _ _ _ ?_); clear hK))
    exact ⟨((i + 1, _, _), g1), ⟨show i + 1 ≤ len by omega, hw1, hg1⟩, show len - (i + 1) < len - i by omega, subE_cons rfl (subE_cons rfl (subE_cons rfl (subE_cons (int_eq (wrap_nat (by omega)) rfl) subE_nil))), subB_nil, rfl⟩
  · repeat (first | ((with_reducible refine hK _ _ _ ?_); clear hK) | (with_reducible refine seq_step fun K hK => ?_) | (with_reducible refine block_step ?_) | ((with_reducible refine cond_t ?_ ?_); focus rfl) | ((with_reducible refine cond_f ?_ ?_); focus rfl) | ((with_reducible refine code_id ?_); conv => whnf) | (clear hK; (with_reducible refine hK _ _ _ ?_); clear hK) | (clear hK; clear hK; (with_reducible refine hK _ _ _ ?_); clear hK) | (clear hK; clear hK; clear hK; (with_reducible refine hK _ _ _ ?_); clear hK))
    refine loop_intro (σ := Nat × Hp) (fun s => [(0, .v (.slice a len cap)), (3, .v (ptr t)), (4, .v (ptr b)), (7, .v (iv s.1))]) (fun _ => []) (fun s => s.2)
      (fun s => s.1 ≤ 16 ∧ Has (EnvA t A last :: BkP b A last :: Is h :: []) s.2) (fun s => 16 - s.1) (0, g) ⟨Nat.zero_le _, hg⟩ (subE_cons rfl (subE_cons rfl (subE_cons rfl (subE_cons rfl subE_nil)))) subB_nil rfl ?_
    rintro ⟨e, g2⟩ ⟨he, hg2⟩
    dsimp only at he hg2 ⊢
    repeat (first | ((with_reducible refine hK _ _ _ ?_); clear hK) | (with_reducible refine seq_step fun K hK => ?_) | (with_reducible refine block_step ?_) | ((with_reducible refine cond_t ?_ ?_); focus rfl) | ((with_reducible refine cond_f ?_ ?_); focus rfl) | ((with_reducible refine code_id ?_); conv => whnf) | (clear hK; (with_reducible refine hK _ _ _ ?_); clear hK) | (clear hK; clear hK; (with_reducible refine hK _ _ _ ?_); clear hK) | (clear hK; clear hK; clear hK; (with_reducible refine hK _ _ _ ?_); clear hK))
    refine cond_dec (fun hlt2 => ?_) (fun hge2 => ?_)
    · have he16 : e < 16 := by omega
      obtain ⟨pd, hpd, hg3⟩ := BkP.opn hg2.swap
      have hpl := hpd.1
      repeat (first | ((with_reducible refine hK _ _ _ ?_); clear hK) | (with_reducible refine seq_step fun K hK => ?_) | (with_reducible refine block_step ?_) | ((with_reducible refine cond_t ?_ ?_); focus rfl) | ((with_reducible refine cond_f ?_ ?_); focus rfl) | ((with_reducible refine code_id ?_); conv => whnf) | (clear hK; (with_reducible refine hK _ _ _ ?_); clear hK) | (clear hK; clear hK; (with_reducible refine hK _ _ _ ?_); clear hK) | (clear hK; clear hK; clear hK; (with_reducible refine hK _ _ _ ?_); clear hK))
      refine opt_if ⟨by omega, by omega⟩ ?_
      conv => whnf
      refine opt_ld (hg3.pt 0 rfl) (v := .bool (livesF A e)) ?_ ?_
      · show (bookC (lvG (livesF A)) pd last).toArray[0 + 0 + (e : Int).toNat * 1]? = _
        rw [show 0 + 0 + (e : Int).toNat * 1 = e by omega]
        exact bk_lv (lvG_len _) he16 (lvG_get _ he16)
      cases hl : livesF A e with
      | false =>
        conv => whnf
        repeat (first | ((with_reducible refine hK _ _ _ ?_); clear hK) | (with_reducible refine seq_step fun K hK => ?_) | (with_reducible refine block_step ?_) | ((with_reducible refine cond_t ?_ ?_); focus rfl) | ((with_reducible refine cond_f ?_ ?_); focus rfl) | ((with_reducible refine code_id ?_); conv => whnf) | (clear hK; (with_reducible refine hK _ _ _ ?_); clear hK) | (clear hK; clear hK; (with_reducible refine hK _ _ _ ?_); clear hK) | (clear hK; clear hK; clear hK; (with_reducible refine hK _ _ _ ?_); clear hK))
        exact ⟨(e + 1, g2), ⟨by show e + 1 ≤ 16; omega, hg2⟩, by show 16 - (e + 1) < 16 - e; omega, subE_cons rfl (subE_cons rfl (subE_cons rfl (subE_cons (int_eq (wrap_nat (by omega)) rfl) subE_nil))), subB_nil, rfl⟩
      | true =>
        obtain ⟨r, hr⟩ := Option.isSome_iff_exists.1 hl
        have hrm := fnd_mem hr
        obtain ⟨g0, g1, g2', g3, g4, g5, g6, g7, _, hL⟩ := infC_L (x := infOf A r) (hw.rg r hrm.1)
        have hwl := walk_len hw hr
        have hnd := whole_tree hw hr
        have hwe : 1 ≤ (walk A (e : Int)).length := by rw [walk_eq hw hr]; simp
        have hwm : ∀ k ∈ walk A (e : Int), ∃ x, fnd A k = some x := fun k hk => let ⟨x, hx, _⟩ := mem_walk hw hr k hk; ⟨x, hx⟩
        have hgr := hw.qw r hrm.1
        conv => whnf
        repeat (first | ((with_reducible refine hK _ _ _ ?_); clear hK) | (with_reducible refine seq_step fun K hK => ?_) | (with_reducible refine block_step ?_) | ((with_reducible refine cond_t ?_ ?_); focus rfl) | ((with_reducible refine cond_f ?_ ?_); focus rfl) | ((with_reducible refine code_id ?_); conv => whnf) | (clear hK; (with_reducible refine hK _ _ _ ?_); clear hK) | (clear hK; clear hK; (with_reducible refine hK _ _ _ ?_); clear hK) | (clear hK; clear hK; clear hK; (with_reducible refine hK _ _ _ ?_); clear hK))
        refine info19A hw e hg2 ?_
        rw [show mInfo A (e : Int) = (infOf A r, 0) by unfold mInfo; rw [hr]]
        rw [hL, show infL (infOf A r) g0 g1 g2' g3 g4 g5 g6 g7 = [iv r.serial, iv r.parent, iv r.state, iv r.code, iv r.bits, .bool r.frozen, u32v g0, u32v g1, u32v g2', u32v g3, u32v g4, u32v g5, u32v g6, u32v g7, u32v r.pc, iv r.whole.1, iv r.whole.2.1, iv r.whole.2.2, iv (left A r).1, iv (left A r).2.1, iv (left A r).2.2] from rfl]
        conv => whnf
        repeat (first | ((with_reducible refine hK _ _ _ ?_); clear hK) | (with_reducible refine seq_step fun K hK => ?_) | (with_reducible refine block_step ?_) | ((with_reducible refine cond_t ?_ ?_); focus rfl) | ((with_reducible refine cond_f ?_ ?_); focus rfl) | ((with_reducible refine code_id ?_); conv => whnf) | (clear hK; (with_reducible refine hK _ _ _ ?_); clear hK) | (clear hK; clear hK; (with_reducible refine hK _ _ _ ?_); clear hK) | (clear hK; clear hK; clear hK; (with_reducible refine hK _ _ _ ?_); clear hK))
        refine tree27A hw e hg2 fun s h3 hh3 => ?_
        rw [show mTree A (e : Int) = (walk A e, 0) by unfold mTree; rw [hr]] at hh3 ⊢
        dsimp only at hh3 ⊢
        obtain ⟨base, cap2, es⟩ := hh3.slv 0 rfl
        subst es
        obtain ⟨pd2, hpd2, hg4⟩ := BkP.opn (hh3.pull 2 rfl)
        have hpl2 := hpd2.1
        obtain ⟨ws, hws⟩ : ∃ ws, ws = walk A (e : Int) := ⟨_, rfl⟩
        rw [← hws] at hwl hnd hwe hwm hh3 hg4 ⊢
        obtain ⟨d1, d2, d3⟩ := hnd
        simp only [qadd] at d1 d2 d3
        have hps := psum_ge hw ws
        conv => whnf
        repeat (first | ((with_reducible refine hK _ _ _ ?_); clear hK) | (with_reducible refine seq_step fun K hK => ?_) | (with_reducible refine block_step ?_) | ((with_reducible refine cond_t ?_ ?_); focus rfl) | ((with_reducible refine cond_f ?_ ?_); focus rfl) | ((with_reducible refine code_id ?_); conv => whnf) | (clear hK; (with_reducible refine hK _ _ _ ?_); clear hK) | (clear hK; clear hK; (with_reducible refine hK _ _ _ ?_); clear hK) | (clear hK; clear hK; clear hK; (with_reducible refine hK _ _ _ ?_); clear hK))
        rw [show (((ws.length : Nat) : Int) == 0) = false from beq_eq_false_iff_ne.2 (by omega)]
        conv => whnf
        rw [wrap_i64 (x := (ws.length : Int) - 1) (by omega) (by omega), show decide ((ws.length : Int) - 1 > r.whole.2.1) = false from decide_eq_false (by have := hps.2.1; omega)]
        conv => whnf
        rw [show decide ((ws.length : Int) > 16) = false from decide_eq_false (by omega)]
        conv => whnf
        repeat (first | ((with_reducible refine hK _ _ _ ?_); clear hK) | (with_reducible refine seq_step fun K hK => ?_) | (with_reducible refine block_step ?_) | ((with_reducible refine cond_t ?_ ?_); focus rfl) | ((with_reducible refine cond_f ?_ ?_); focus rfl) | ((with_reducible refine code_id ?_); conv => whnf) | (clear hK; (with_reducible refine hK _ _ _ ?_); clear hK) | (clear hK; clear hK; (with_reducible refine hK _ _ _ ?_); clear hK) | (clear hK; clear hK; clear hK; (with_reducible refine hK _ _ _ ?_); clear hK))
        refine loop_intro (σ := Nat) (fun s => [(0, .v (.slice a len cap)), (3, .v (ptr t)), (4, .v (ptr b)), (7, .v (iv e)), (10, .v (.slice base ws.length cap2)), (12, .l 12 0), (13, .v (iv s))])
          (fun s => [(12, q3 (qsub r.whole (psum A (ws.take s))))]) (fun _ => h3) (fun s => s ≤ ws.length) (fun s => ws.length - s) 0 (Nat.zero_le _)
          (subE_cons rfl (subE_cons rfl (subE_cons rfl (subE_cons rfl (subE_cons rfl (subE_cons rfl (subE_cons rfl subE_nil))))))) (subB_cons (by rw [List.take_zero]; show some _ = some _; congr 1; simp [q3, qsub, psum, qz]; rfl) subB_nil) rfl ?_
        intro j hj
        have hpart := psum_part hw ws j
        have hpj := psum_ge hw (ws.take j)
        repeat (first | ((with_reducible refine hK _ _ _ ?_); clear hK) | (with_reducible refine seq_step fun K hK => ?_) | (with_reducible refine block_step ?_) | ((with_reducible refine cond_t ?_ ?_); focus rfl) | ((with_reducible refine cond_f ?_ ?_); focus rfl) | ((with_reducible refine code_id ?_); conv => whnf) | (clear hK; (with_reducible refine hK _ _ _ ?_); clear hK) | (clear hK; clear hK; (with_reducible refine hK _ _ _ ?_); clear hK) | (clear hK; clear hK; clear hK; (with_reducible refine hK _ _ _ ?_); clear hK))
        refine cond_dec (fun hlt3 => ?_) (fun hge3 => ?_)
        · have hjl : j < ws.length := by omega
          obtain ⟨bb, o2, cap', c, ty, z, hee, hbb2, hc⟩ := hg4.rdw 1 rfl (k := j) (v := iv ws[j]) hjl (by simp [hjl])
          cases hee
          obtain ⟨x, hx⟩ := hwm ws[j] (List.getElem_mem hjl)
          have hxm := fnd_mem hx
          have hx16 := hw.lt x hxm.1
          have hld : c[o2 + (j : Int).toNat * 1]? = some (iv x.num) := by rw [Int.toNat_natCast, Nat.mul_one, hxm.2]; exact hc
          have htk : ws.take (j + 1) = ws.take j ++ [ws[j]] := (List.take_append_getElem hjl).symm
          have hpx : paidOf A ws[j] = x.paid := by unfold paidOf; rw [hx]
          repeat (first | ((with_reducible refine hK _ _ _ ?_); clear hK) | (with_reducible refine seq_step fun K hK => ?_) | (with_reducible refine block_step ?_) | ((with_reducible refine cond_t ?_ ?_); focus rfl) | ((with_reducible refine cond_f ?_ ?_); focus rfl) | ((with_reducible refine code_id ?_); conv => whnf) | (clear hK; (with_reducible refine hK _ _ _ ?_); clear hK) | (clear hK; clear hK; (with_reducible refine hK _ _ _ ?_); clear hK) | (clear hK; clear hK; clear hK; (with_reducible refine hK _ _ _ ?_); clear hK))
          refine opt_if ⟨by omega, by omega⟩ ?_
          conv => whnf
          refine opt_ld hbb2 (v := iv x.num) hld ?_
          conv => whnf
          refine lives28G (p := livesF A) (hg4.pt 0 rfl) hx16 ?_
          rw [show livesF A x.num = true by unfold livesF; rw [fnd_of hw.nd hxm.1]; rfl]
          conv => whnf
          repeat (first | ((with_reducible refine hK _ _ _ ?_); clear hK) | (with_reducible refine seq_step fun K hK => ?_) | (with_reducible refine block_step ?_) | ((with_reducible refine cond_t ?_ ?_); focus rfl) | ((with_reducible refine cond_f ?_ ?_); focus rfl) | ((with_reducible refine code_id ?_); conv => whnf) | (clear hK; (with_reducible refine hK _ _ _ ?_); clear hK) | (clear hK; clear hK; (with_reducible refine hK _ _ _ ?_); clear hK) | (clear hK; clear hK; clear hK; (with_reducible refine hK _ _ _ ?_); clear hK) | (refine ⟨_, _, SubH.refl _, SubB.refl _, ?_⟩; conv => whnf) | (refine ⟨⟨SubH.refl _, SubB.refl _⟩, ?_⟩; conv => whnf) | (refine ⟨_, _, ⟨SubH.refl _, SubB.refl _⟩, SubH.refl _, SubB.refl _, ?_⟩; conv => whnf))
          refine opt_if ⟨by omega, by omega⟩ ?_
          conv => whnf
          refine opt_ld hbb2 (v := iv x.num) hld ?_
          conv => whnf
          refine opt_if ⟨by omega, by omega⟩ ?_
          conv => whnf
          refine opt_ld (hg4.pt 0 rfl) (v := aq x.paid) ?_ ?_
          · show rd (bookC (lvG (livesF A)) pd2 last).toArray (0 + 16 + (x.num : Int).toNat * 3) 3 true = _
            rw [show 0 + 16 + (x.num : Int).toNat * 3 = 16 + x.num * 3 by omega]
            exact bk_pd (lvG_len _) hpl2 (hpd2.2 x hxm.1)
          conv => whnf
          refine add29m (qsub r.whole (psum A (ws.take j))) x.paid ?_ (hw.sm_paid hxm.1) ?_
          · obtain ⟨a1, a2, a3⟩ := hpart
            obtain ⟨b1, b2, b3⟩ := hpj
            obtain ⟨⟨w1, w2, w3⟩, w4, w5, w6⟩ := hgr
            refine ⟨⟨?_, ?_⟩, ⟨?_, ?_⟩, ⟨?_, ?_⟩⟩ <;> simp only [qsub] <;> omega
          conv => whnf
          repeat (first | ((with_reducible refine hK _ _ _ ?_); clear hK) | (with_reducible refine seq_step fun K hK => ?_) | (with_reducible refine block_step ?_) | ((with_reducible refine cond_t ?_ ?_); focus rfl) | ((with_reducible refine cond_f ?_ ?_); focus rfl) | ((with_reducible refine code_id ?_); conv => whnf) | (clear hK; (with_reducible refine hK _ _ _ ?_); clear hK) | (clear hK; clear hK; (with_reducible refine hK _ _ _ ?_); clear hK) | (clear hK; clear hK; clear hK; (with_reducible refine hK _ _ _ ?_); clear hK) | (refine ⟨_, _, SubH.refl _, SubB.refl _, ?_⟩; conv => whnf) | (refine ⟨⟨SubH.refl _, SubB.refl _⟩, ?_⟩; conv => whnf) | (refine ⟨_, _, ⟨SubH.refl _, SubB.refl _⟩, SubH.refl _, SubB.refl _, ?_⟩; conv => whnf))
          refine ⟨j + 1, hjl, by omega, subE_cons rfl (subE_cons rfl (subE_cons rfl (subE_cons rfl (subE_cons rfl (subE_cons rfl (subE_cons (int_eq (wrap_nat (by omega)) rfl) subE_nil)))))), subB_cons ?_ subB_nil, rfl⟩
          rw [htk, psum_append]
          have e3 : qsub r.whole (qadd (psum A (ws.take j)) (psum A [ws[j]])) = qsub (qsub r.whole (psum A (ws.take j))) x.paid := by
            simp only [psum, hpx]
            exact Prod.ext (show r.whole.1 - ((psum A (ws.take j)).1 + (x.paid.1 + 0)) = r.whole.1 - (psum A (ws.take j)).1 - x.paid.1 by omega) (Prod.ext (show r.whole.2.1 - ((psum A (ws.take j)).2.1 + (x.paid.2.1 + 0)) = r.whole.2.1 - (psum A (ws.take j)).2.1 - x.paid.2.1 by omega) (show r.whole.2.2 - ((psum A (ws.take j)).2.2 + (x.paid.2.2 + 0)) = r.whole.2.2 - (psum A (ws.take j)).2.2 - x.paid.2.2 by omega))
          rw [e3]
          rfl
        · repeat (first | ((with_reducible refine hK _ _ _ ?_); clear hK) | (with_reducible refine seq_step fun K hK => ?_) | (with_reducible refine block_step ?_) | ((with_reducible refine cond_t ?_ ?_); focus rfl) | ((with_reducible refine cond_f ?_ ?_); focus rfl) | ((with_reducible refine code_id ?_); conv => whnf) | (clear hK; (with_reducible refine hK _ _ _ ?_); clear hK) | (clear hK; clear hK; (with_reducible refine hK _ _ _ ?_); clear hK) | (clear hK; clear hK; clear hK; (with_reducible refine hK _ _ _ ?_); clear hK))
          refine below30 (qsub r.whole (psum A (ws.take j))) ?_
          rw [show decide (¬ qge (qsub r.whole (psum A (ws.take j)))) = false from decide_eq_false fun hx => hx (by
            obtain ⟨a1, a2, a3⟩ := hpart
            exact ⟨by simp only [qsub]; omega, by simp only [qsub]; omega, by simp only [qsub]; omega⟩)]
          conv => whnf
          repeat (first | ((with_reducible refine hK _ _ _ ?_); clear hK) | (with_reducible refine seq_step fun K hK => ?_) | (with_reducible refine block_step ?_) | ((with_reducible refine cond_t ?_ ?_); focus rfl) | ((with_reducible refine cond_f ?_ ?_); focus rfl) | ((with_reducible refine code_id ?_); conv => whnf) | (clear hK; (with_reducible refine hK _ _ _ ?_); clear hK) | (clear hK; clear hK; (with_reducible refine hK _ _ _ ?_); clear hK) | (clear hK; clear hK; clear hK; (with_reducible refine hK _ _ _ ?_); clear hK))
          exact ⟨(e + 1, h3), ⟨by show e + 1 ≤ 16; omega, ((BkP.cls hpd2 hg4).erase 1).swap⟩, by show 16 - (e + 1) < 16 - e; omega, subE_cons rfl (subE_cons rfl (subE_cons rfl (subE_cons (int_eq (wrap_nat (by omega)) rfl) subE_nil))), subB_nil, rfl⟩
    · repeat (first | ((with_reducible refine hK _ _ _ ?_); clear hK) | (with_reducible refine seq_step fun K hK => ?_) | (with_reducible refine block_step ?_) | ((with_reducible refine cond_t ?_ ?_); focus rfl) | ((with_reducible refine cond_f ?_ ?_); focus rfl) | ((with_reducible refine code_id ?_); conv => whnf) | (clear hK; (with_reducible refine hK _ _ _ ?_); clear hK) | (clear hK; clear hK; (with_reducible refine hK _ _ _ ?_); clear hK) | (clear hK; clear hK; clear hK; (with_reducible refine hK _ _ _ ?_); clear hK))
      exact hq _ (hg2.is 2 rfl)

end
end Go.Proofs.Ytljenppmdhldbaa.V
