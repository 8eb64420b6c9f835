/- Seat 09: EnvRoom. -/
import Derived.Test.YtljenppmdhldbaaH30
import Derived.Test.YtljenppmdhldbaaH28
import Derived.Test.YtljenppmdhldbaaH26
namespace Go.Proofs.Ytljenppmdhldbaa.V
set_option linter.unusedVariables false
set_option linter.unusedSimpArgs false
set_option linter.unusedSectionVars false
set_option linter.unusedSectionVars false
open Go

section
variable {h : Hp} {Q : Value → Hp → Prop} {L : List As}

set_option maxRecDepth 100000 in
set_option maxHeartbeats 1600000 in
theorem law4 {a : Option Addr} {len cap : Nat} {l : List OpE} (hR : Scr h a len l) (hlen : len < 2 ^ 46) (parent : Int) (q r : Q3) (hq : ∀ h', SubH h h' → Q (.bool true) h') : Ok PR 4 [.slice a len cap, iv parent, aq q, aq r] h Q := by
  refine e4 rfl (seq_step fun K hK => ?_)
  repeat (first | ((with_reducible refine hK _ _ _ ?_); clear hK) | (with_reducible refine seq_step fun K hK => ?_) | ((with_reducible refine code_id ?_); conv => whnf) | (clear hK; (with_reducible refine hK _ _ _ ?_); clear hK) | (clear hK; clear hK; (with_reducible refine hK _ _ _ ?_); clear hK) | (clear hK; clear hK; clear hK; (with_reducible refine hK _ _ _ ?_); clear hK))
  refine first13 (Has.start h) fun t b h1 hh1 => ?_
  have hh1 : Has (EnvA t A0 3 :: BkP b A0 3 :: Is h :: []) h1 := hh1.map_tail fun g hg => hg.mono1 fun g' hg' => bkp0 hg'
  conv => whnf
  repeat (first | ((with_reducible refine hK _ _ _ ?_); clear hK) | (with_reducible refine seq_step fun K hK => ?_) | ((with_reducible refine code_id ?_); conv => whnf) | (clear hK; (with_reducible refine hK _ _ _ ?_); clear hK) | (clear hK; clear hK; (with_reducible refine hK _ _ _ ?_); clear hK) | (clear hK; clear hK; clear hK; (with_reducible refine hK _ _ _ ?_); clear hK))
  refine loop_intro (σ := (Nat × Rs × Int) × Hp) (fun s => [(0, .v (.slice a len cap)), (1, .v (iv parent)), (6, .l 6 0), (7, .l 7 0), (9, .v (ptr t)), (10, .v (ptr b)), (11, .v (iv s.1.1))]) (fun _ => [(6, q3 q), (7, q3 r)]) (fun s => s.2)
    (fun s => s.1.1 ≤ len ∧ WF s.1.2.1 s.1.2.2 ∧ 3 ≤ s.1.2.2 ∧ s.1.2.2 ≤ 4611686018427387898 ∧ Has (EnvA t s.1.2.1 s.1.2.2 :: BkP b s.1.2.1 s.1.2.2 :: Is h :: []) s.2)
    (fun s => len - s.1.1) ((0, A0, 3), h1) ⟨Nat.zero_le _, wf0, Int.le_refl _, by show (3 : Int) ≤ 4611686018427387898; decide, hh1⟩ (subE_cons rfl (subE_cons rfl (subE_cons rfl (subE_cons rfl (subE_cons rfl (subE_cons rfl (subE_cons rfl subE_nil))))))) (subB_cons rfl (subB_cons rfl subB_nil)) rfl ?_
  rintro ⟨⟨i, A, last⟩, g⟩ ⟨hi, hw, hl3, hlm, hg⟩
  dsimp only at hi hw hl3 hlm hg ⊢
  repeat (first | ((with_reducible refine hK _ _ _ ?_); clear hK) | (with_reducible refine seq_step fun K hK => ?_) | ((with_reducible refine code_id ?_); conv => whnf) | (clear hK; (with_reducible refine hK _ _ _ ?_); clear hK) | (clear hK; clear hK; (with_reducible refine hK _ _ _ ?_); clear hK) | (clear hK; clear hK; clear hK; (with_reducible refine hK _ _ _ ?_); clear hK))
  refine cond_dec (fun hlt => ?_) (fun hge => ?_)
  · have hil : i < len := by omega
    obtain ⟨o, bk, off, c, ty, z, ho, hregs, rfl, hb0, hrd, hkd, hnn⟩ := hR.at hil
    have hb : g bk = some (.cells c ty z) := hg.is 2 rfl bk _ hb0
    have ei : ((i : Int)).toNat = i := Int.toNat_natCast i
    have fin : ∀ g' A' last', WF A' last' → 3 ≤ last' → last' ≤ 4611686018427387898 → Has (EnvA t A' last' :: BkP b A' last' :: Is h :: []) g' → ∃ s' : (Nat × Rs × Int) × Hp, (s'.1.1 ≤ len ∧ WF s'.1.2.1 s'.1.2.2 ∧ 3 ≤ s'.1.2.2 ∧ s'.1.2.2 ≤ 4611686018427387898 ∧ Has (EnvA t s'.1.2.1 s'.1.2.2 :: BkP b s'.1.2.1 s'.1.2.2 :: Is h :: []) s'.2) ∧ len - s'.1.1 < len - i ∧ s'.1.1 = i + 1 ∧ s'.2 = g' :=
      fun g' A' last' a1 a2 a3 a4 => ⟨((i + 1, A', last'), g'), ⟨by show i + 1 ≤ len; omega, a1, a2, a3, a4⟩, by show len - (i + 1) < len - i; omega, rfl, rfl⟩
    have hst : (o.n < 4611686018427387899 ∨ o.kind ≠ 2) → (3 ≤ (step A last o).2 ∧ (step A last o).2 ≤ 4611686018427387898) := fun hc => by
      rcases step_last A last o with e | ⟨e, hk, h1, h2⟩
      · rw [e]; exact ⟨hl3, hlm⟩
      · rw [e]
        rcases hc with hc | hc
        · exact ⟨by omega, by omega⟩
        · exact absurd hk hc
    have hcall : (o.n < 4611686018427387899 ∨ o.kind ≠ 2) → ∀ (Q2 : Value → Hp → Prop), (∀ g', (WF (step A last o).1 (step A last o).2 ∧ 3 ≤ (step A last o).2 ∧ (step A last o).2 ≤ 4611686018427387898 ∧ Has (EnvA t (step A last o).1 (step A last o).2 :: BkP b (step A last o).1 (step A last o).2 :: Is h :: []) g') → Q2 (.bool true) g') → Ok PR 20 [ptr b, ptr t, .agg (opC o).toArray] g Q2 :=
      fun hc Q2 hk => noted20 hw o hregs hg fun g' hg' => hk g' ⟨hw.step o hregs, (hst hc).1, (hst hc).2, hg'⟩
    repeat (first | ((with_reducible refine hK _ _ _ ?_); clear hK) | (with_reducible refine seq_step fun K hK => ?_) | ((with_reducible refine code_id ?_); conv => whnf) | (clear hK; (with_reducible refine hK _ _ _ ?_); clear hK) | (clear hK; clear hK; (with_reducible refine hK _ _ _ ?_); clear hK) | (clear hK; clear hK; clear hK; (with_reducible refine hK _ _ _ ?_); clear hK))
    refine opt_if ⟨by omega, by omega⟩ ?_
    conv => whnf
    refine opt_ld hb (v := iv o.n) (by rw [ei]; exact hnn) ?_
    conv => whnf
    by_cases h9 : o.n < 4611686018427387899
    · rw [decide_eq_true h9]
      conv => whnf
      repeat (first | ((with_reducible refine hK _ _ _ ?_); clear hK) | (with_reducible refine seq_step fun K hK => ?_) | ((with_reducible refine code_id ?_); conv => whnf) | (clear hK; (with_reducible refine hK _ _ _ ?_); clear hK) | (clear hK; clear hK; (with_reducible refine hK _ _ _ ?_); clear hK) | (clear hK; clear hK; clear hK; (with_reducible refine hK _ _ _ ?_); clear hK))
      refine opt_if ⟨by omega, by omega⟩ ?_
      conv => whnf
      refine opt_ld hb (v := .agg (opC o).toArray) (by rw [ei]; exact hrd) ?_
      conv => whnf
      refine hcall (.inl h9) _ fun g' ⟨a1, a2, a3, a4⟩ => ?_
      conv => whnf
      repeat (first | ((with_reducible refine hK _ _ _ ?_); clear hK) | (with_reducible refine seq_step fun K hK => ?_) | ((with_reducible refine code_id ?_); conv => whnf) | (clear hK; (with_reducible refine hK _ _ _ ?_); clear hK) | (clear hK; clear hK; (with_reducible refine hK _ _ _ ?_); clear hK) | (clear hK; clear hK; clear hK; (with_reducible refine hK _ _ _ ?_); clear hK))
      exact ⟨((i + 1, _, _), g'), ⟨show i + 1 ≤ len by omega, a1, a2, a3, a4⟩, show len - (i + 1) < len - i by omega, subE_cons rfl (subE_cons rfl (subE_cons rfl (subE_cons rfl (subE_cons rfl (subE_cons rfl (subE_cons (int_eq (wrap_nat (by omega)) rfl) subE_nil)))))), subB_cons rfl (subB_cons rfl subB_nil), rfl⟩
    · rw [decide_eq_false h9]
      conv => whnf
      refine opt_if ⟨by omega, by omega⟩ ?_
      conv => whnf
      refine opt_ld hb (v := iv o.kind) (by rw [ei]; exact hkd) ?_
      conv => whnf
      repeat (first | ((with_reducible refine hK _ _ _ ?_); clear hK) | (with_reducible refine seq_step fun K hK => ?_) | ((with_reducible refine code_id ?_); conv => whnf) | (clear hK; (with_reducible refine hK _ _ _ ?_); clear hK) | (clear hK; clear hK; (with_reducible refine hK _ _ _ ?_); clear hK) | (clear hK; clear hK; clear hK; (with_reducible refine hK _ _ _ ?_); clear hK))
      refine cond_bne (fun hk2 => ?_) (fun hk2 => ?_)
      · repeat (first | ((with_reducible refine hK _ _ _ ?_); clear hK) | (with_reducible refine seq_step fun K hK => ?_) | ((with_reducible refine code_id ?_); conv => whnf) | (clear hK; (with_reducible refine hK _ _ _ ?_); clear hK) | (clear hK; clear hK; (with_reducible refine hK _ _ _ ?_); clear hK) | (clear hK; clear hK; clear hK; (with_reducible refine hK _ _ _ ?_); clear hK))
        refine opt_if ⟨by omega, by omega⟩ ?_
        conv => whnf
        refine opt_ld hb (v := .agg (opC o).toArray) (by rw [ei]; exact hrd) ?_
        conv => whnf
        refine hcall (.inr hk2) _ fun g' ⟨a1, a2, a3, a4⟩ => ?_
        conv => whnf
        repeat (first | ((with_reducible refine hK _ _ _ ?_); clear hK) | (with_reducible refine seq_step fun K hK => ?_) | ((with_reducible refine code_id ?_); conv => whnf) | (clear hK; (with_reducible refine hK _ _ _ ?_); clear hK) | (clear hK; clear hK; (with_reducible refine hK _ _ _ ?_); clear hK) | (clear hK; clear hK; clear hK; (with_reducible refine hK _ _ _ ?_); clear hK))
        exact ⟨((i + 1, _, _), g'), ⟨show i + 1 ≤ len by omega, a1, a2, a3, a4⟩, show len - (i + 1) < len - i by omega, subE_cons rfl (subE_cons rfl (subE_cons rfl (subE_cons rfl (subE_cons rfl (subE_cons rfl (subE_cons (int_eq (wrap_nat (by omega)) rfl) subE_nil)))))), subB_cons rfl (subB_cons rfl subB_nil), rfl⟩
      · repeat (first | ((with_reducible refine hK _ _ _ ?_); clear hK) | (with_reducible refine seq_step fun K hK => ?_) | ((with_reducible refine code_id ?_); conv => whnf) | (clear hK; (with_reducible refine hK _ _ _ ?_); clear hK) | (clear hK; clear hK; (with_reducible refine hK _ _ _ ?_); clear hK) | (clear hK; clear hK; clear hK; (with_reducible refine hK _ _ _ ?_); clear hK))
        exact ⟨((i + 1, A, last), g), ⟨show i + 1 ≤ len by omega, hw, hl3, hlm, hg⟩, show len - (i + 1) < len - i by omega, subE_cons rfl (subE_cons rfl (subE_cons rfl (subE_cons rfl (subE_cons rfl (subE_cons rfl (subE_cons (int_eq (wrap_nat (by omega)) rfl) subE_nil)))))), subB_cons rfl (subB_cons rfl subB_nil), rfl⟩
  · repeat (first | ((with_reducible refine hK _ _ _ ?_); clear hK) | (with_reducible refine seq_step fun K hK => ?_) | ((with_reducible refine code_id ?_); conv => whnf) | (clear hK; (with_reducible refine hK _ _ _ ?_); clear hK) | (clear hK; clear hK; (with_reducible refine hK _ _ _ ?_); clear hK) | (clear hK; clear hK; clear hK; (with_reducible refine hK _ _ _ ?_); clear hK))
    refine told21 hw (Has.get hg 0 rfl fun _ _ => EnvP.sub) ?_
    conv => whnf
    refine opt_stL rfl ?_ rfl ?_ ?_
    · show (told A).toArray.size = 352
      rw [List.size_toArray, told_l hw]
    · exact told_one _ _
    conv => whnf
    obtain ⟨pd, hpd, hg1⟩ := BkP.opn hg.swap
    have hpl := hpd.1
    repeat (first | ((with_reducible refine hK _ _ _ ?_); clear hK) | (with_reducible refine seq_step fun K hK => ?_) | ((with_reducible refine code_id ?_); conv => whnf) | (clear hK; (with_reducible refine hK _ _ _ ?_); clear hK) | (clear hK; clear hK; (with_reducible refine hK _ _ _ ?_); clear hK) | (clear hK; clear hK; clear hK; (with_reducible refine hK _ _ _ ?_); clear hK) | (refine ⟨_, _, SubH.refl _, SubB.refl _, ?_⟩; conv => whnf) | (refine ⟨⟨SubH.refl _, SubB.refl _⟩, ?_⟩; conv => whnf) | (refine ⟨_, _, ⟨SubH.refl _, SubB.refl _⟩, SubH.refl _, SubB.refl _, ?_⟩; conv => whnf))
    refine opt_ld (hg1.pt 0 rfl) (v := iv last) (bk_last (lvG_len _) hpl) ?_
    conv => whnf
    rw [wrap_i64 (x := last + 1) (by omega) (by omega)]
    have hg2 := hg1.swap
    have hlt := told_l hw
    refine create22A hw parent (last + 1) q hg2 fun g2 hg3 => ?_
    rcases mCreate_cases A last parent (last + 1) q with ⟨c, hc, he⟩ | ⟨k, p, hk, hk1, hkm, hp, gq, hl1, hl2, hle, he⟩
    · rw [he] at hg3 ⊢
      conv => whnf
      repeat (first | ((with_reducible refine hK _ _ _ ?_); clear hK) | (with_reducible refine seq_step fun K hK => ?_) | ((with_reducible refine code_id ?_); conv => whnf) | (clear hK; (with_reducible refine hK _ _ _ ?_); clear hK) | (clear hK; clear hK; (with_reducible refine hK _ _ _ ?_); clear hK) | (clear hK; clear hK; clear hK; (with_reducible refine hK _ _ _ ?_); clear hK) | (refine ⟨_, _, SubH.refl _, SubB.refl _, ?_⟩; conv => whnf) | (refine ⟨⟨SubH.refl _, SubB.refl _⟩, ?_⟩; conv => whnf) | (refine ⟨_, _, ⟨SubH.refl _, SubB.refl _⟩, SubH.refl _, SubB.refl _, ?_⟩; conv => whnf))
      refine cond_bne (fun _ => ?_) (fun hc2 => absurd hc2 hc)
      repeat (first | ((with_reducible refine hK _ _ _ ?_); clear hK) | (with_reducible refine seq_step fun K hK => ?_) | ((with_reducible refine code_id ?_); conv => whnf) | (clear hK; (with_reducible refine hK _ _ _ ?_); clear hK) | (clear hK; clear hK; (with_reducible refine hK _ _ _ ?_); clear hK) | (clear hK; clear hK; clear hK; (with_reducible refine hK _ _ _ ?_); clear hK) | (refine ⟨_, _, SubH.refl _, SubB.refl _, ?_⟩; conv => whnf) | (refine ⟨⟨SubH.refl _, SubB.refl _⟩, ?_⟩; conv => whnf) | (refine ⟨_, _, ⟨SubH.refl _, SubB.refl _⟩, SubH.refl _, SubB.refl _, ?_⟩; conv => whnf))
      refine opt_ldL (cs := told A) rfl hlt ?_
      conv => whnf
      refine told21 hw (Has.get hg3 0 rfl fun _ _ => EnvP.sub) ?_
      conv => whnf
      refine ⟨⟨SubH.refl _, SubB.refl _⟩, ?_⟩
      conv => whnf
      refine opt_eqkd (X := told A) (Y := told A) (b := true) KTold rfl rfl (told_kd hw) (told_kd hw) (by simp) ?_
      conv => whnf
      repeat (first | ((with_reducible refine hK _ _ _ ?_); clear hK) | (with_reducible refine seq_step fun K hK => ?_) | ((with_reducible refine code_id ?_); conv => whnf) | (clear hK; (with_reducible refine hK _ _ _ ?_); clear hK) | (clear hK; clear hK; (with_reducible refine hK _ _ _ ?_); clear hK) | (clear hK; clear hK; clear hK; (with_reducible refine hK _ _ _ ?_); clear hK))
      exact hq _ (hg3.is 2 rfl)
    · rw [he] at hg3 ⊢
      dsimp only at hg3 ⊢
      have hw1 := hw.create hp hk1 hk gq hl1 hle
      have hpk : parent ≠ k := fun e => by rw [e, hk1] at hp; cases hp
      conv => whnf
      repeat (first | ((with_reducible refine hK _ _ _ ?_); clear hK) | (with_reducible refine seq_step fun K hK => ?_) | ((with_reducible refine code_id ?_); conv => whnf) | (clear hK; (with_reducible refine hK _ _ _ ?_); clear hK) | (clear hK; clear hK; (with_reducible refine hK _ _ _ ?_); clear hK) | (clear hK; clear hK; clear hK; (with_reducible refine hK _ _ _ ?_); clear hK) | (refine ⟨_, _, SubH.refl _, SubB.refl _, ?_⟩; conv => whnf) | (refine ⟨⟨SubH.refl _, SubB.refl _⟩, ?_⟩; conv => whnf) | (refine ⟨_, _, ⟨SubH.refl _, SubB.refl _⟩, SubH.refl _, SubB.refl _, ?_⟩; conv => whnf))
      refine info19A hw1 k hg3 ?_
      rw [new_info hw hk1 (last + 1) parent q hpk, show infC (⟨last + 1, parent, 0, 0, 0, false, [0, 0, 0, 0, 0, 0, 0, 0], 0, q, q⟩ : Inf) = [iv (last + 1), iv parent, iv 0, iv 0, iv 0, .bool false, u32v 0, u32v 0, u32v 0, u32v 0, u32v 0, u32v 0, u32v 0, u32v 0, u32v 0, iv q.1, iv q.2.1, iv q.2.2, iv q.1, iv q.2.1, iv q.2.2] from rfl]
      dsimp only
      have eqq : ((q.1 == q.1) && ((q.2.1 == q.2.1) && ((q.2.2 == q.2.2) && true))) = true := by simp
      have epp : (parent != parent) = false := bne_self_eq_false _
      conv => whnf
      repeat (first | ((with_reducible refine hK _ _ _ ?_); clear hK) | (with_reducible refine seq_step fun K hK => ?_) | ((with_reducible refine code_id ?_); conv => whnf) | (clear hK; (with_reducible refine hK _ _ _ ?_); clear hK) | (clear hK; clear hK; (with_reducible refine hK _ _ _ ?_); clear hK) | (clear hK; clear hK; clear hK; (with_reducible refine hK _ _ _ ?_); clear hK) | (refine ⟨_, _, SubH.refl _, SubB.refl _, ?_⟩; conv => whnf) | (refine ⟨⟨SubH.refl _, SubB.refl _⟩, ?_⟩; conv => whnf) | (refine ⟨_, _, ⟨SubH.refl _, SubB.refl _⟩, SubH.refl _, SubB.refl _, ?_⟩; conv => whnf))
      rw [eqq]
      conv => whnf
      rw [eqq]
      conv => whnf
      rw [epp]
      conv => whnf
      have hlast : rd (bookC (lvG (livesF A)) pd last).toArray 64 1 false = some (iv last) := bk_last (lvG_len _) hpl
      refine opt_ld (hg3.pt 1 rfl) (v := iv last) hlast ?_
      conv => whnf
      rw [wrap_i64 (x := last + 1) (by omega) (by omega), bne_self_eq_false]
      conv => whnf
      repeat (first | ((with_reducible refine hK _ _ _ ?_); clear hK) | (with_reducible refine seq_step fun K hK => ?_) | ((with_reducible refine code_id ?_); conv => whnf) | (clear hK; (with_reducible refine hK _ _ _ ?_); clear hK) | (clear hK; clear hK; (with_reducible refine hK _ _ _ ?_); clear hK) | (clear hK; clear hK; clear hK; (with_reducible refine hK _ _ _ ?_); clear hK) | (refine ⟨_, _, SubH.refl _, SubB.refl _, ?_⟩; conv => whnf) | (refine ⟨⟨SubH.refl _, SubB.refl _⟩, ?_⟩; conv => whnf) | (refine ⟨_, _, ⟨SubH.refl _, SubB.refl _⟩, SubH.refl _, SubB.refl _, ?_⟩; conv => whnf))
      refine opt_ld (hg3.pt 1 rfl) (v := iv last) hlast ?_
      conv => whnf
      rw [wrap_i64 (x := last + 2) (by omega) (by omega)]
      refine create22A hw1 k (last + 2) r hg3 fun g4 hg4 => ?_
      rcases mCreate_cases (A ++ [mkRow k (last + 1) parent q]) (last + 1) k (last + 2) r with ⟨c, hc, he⟩ | ⟨m, pm, hm, hm1, hmm, hpm, gr, hn1, hn2, hner, he⟩
      · rw [he] at hg4 ⊢
        dsimp only at hg4 ⊢
        obtain ⟨hwk, hcut⟩ := cut_one hw hk1 hpk hw1
        conv => whnf
        repeat (first | ((with_reducible refine hK _ _ _ ?_); clear hK) | (with_reducible refine seq_step fun K hK => ?_) | ((with_reducible refine code_id ?_); conv => whnf) | (clear hK; (with_reducible refine hK _ _ _ ?_); clear hK) | (clear hK; clear hK; (with_reducible refine hK _ _ _ ?_); clear hK) | (clear hK; clear hK; clear hK; (with_reducible refine hK _ _ _ ?_); clear hK) | (refine ⟨_, _, SubH.refl _, SubB.refl _, ?_⟩; conv => whnf) | (refine ⟨⟨SubH.refl _, SubB.refl _⟩, ?_⟩; conv => whnf) | (refine ⟨_, _, ⟨SubH.refl _, SubB.refl _⟩, SubH.refl _, SubB.refl _, ?_⟩; conv => whnf))
        refine destroy23A hw1 k hg4 fun sl g5 hg5 => ?_
        rw [show mDestroy (A ++ [mkRow k (last + 1) parent q]) k = (([(k : Int)], 0), A) by
          have hf : fnd (A ++ [mkRow k (last + 1) parent q]) (k : Int) = some (mkRow k (last + 1) parent q) := by rw [fnd_app, hk1, if_pos (show (((mkRow k (last + 1) parent q).num : Nat) : Int) = k from rfl)]; rfl
          have hk0 := hw.free_root hk1
          unfold mDestroy; rw [hf]; simp only; rw [if_neg (by omega), hwk, hcut]] at hg5 ⊢
        dsimp only at hg5 ⊢
        obtain ⟨bs, cp, es⟩ := hg5.slv 0 rfl
        subst es
        obtain ⟨bb, o0, cap', c0, ty0, z0, he0, hbb0, hc0⟩ := hg5.rdw 0 rfl (k := 0) (v := iv k) (Nat.zero_lt_one) rfl
        cases he0
        conv => whnf
        repeat (first | ((with_reducible refine hK _ _ _ ?_); clear hK) | (with_reducible refine seq_step fun K hK => ?_) | ((with_reducible refine code_id ?_); conv => whnf) | (clear hK; (with_reducible refine hK _ _ _ ?_); clear hK) | (clear hK; clear hK; (with_reducible refine hK _ _ _ ?_); clear hK) | (clear hK; clear hK; clear hK; (with_reducible refine hK _ _ _ ?_); clear hK) | (refine ⟨_, _, SubH.refl _, SubB.refl _, ?_⟩; conv => whnf) | (refine ⟨⟨SubH.refl _, SubB.refl _⟩, ?_⟩; conv => whnf) | (refine ⟨_, _, ⟨SubH.refl _, SubB.refl _⟩, SubH.refl _, SubB.refl _, ?_⟩; conv => whnf))
        refine cond_beq (fun hc2 => absurd hc2 hc) (fun _ => ?_)
        repeat (first | ((with_reducible refine hK _ _ _ ?_); clear hK) | (with_reducible refine seq_step fun K hK => ?_) | ((with_reducible refine code_id ?_); conv => whnf) | (clear hK; (with_reducible refine hK _ _ _ ?_); clear hK) | (clear hK; clear hK; (with_reducible refine hK _ _ _ ?_); clear hK) | (clear hK; clear hK; clear hK; (with_reducible refine hK _ _ _ ?_); clear hK) | (refine ⟨_, _, SubH.refl _, SubB.refl _, ?_⟩; conv => whnf) | (refine ⟨⟨SubH.refl _, SubB.refl _⟩, ?_⟩; conv => whnf) | (refine ⟨_, _, ⟨SubH.refl _, SubB.refl _⟩, SubH.refl _, SubB.refl _, ?_⟩; conv => whnf))
        refine opt_ld hbb0 (v := iv k) hc0 ?_
        conv => whnf
        rw [bne_self_eq_false]
        conv => whnf
        refine opt_ldL (cs := told A) rfl hlt ?_
        conv => whnf
        refine told21 (hw.later (l := last + 1) (by omega)) (Has.get hg5 1 rfl fun _ _ => EnvP.sub) ?_
        conv => whnf
        refine ⟨⟨SubH.refl _, SubB.refl _⟩, ?_⟩
        conv => whnf
        refine opt_eqkd (X := told A) (Y := told A) (b := true) KTold rfl rfl (told_kd hw) (told_kd hw) (by simp) ?_
        conv => whnf
        repeat (first | ((with_reducible refine hK _ _ _ ?_); clear hK) | (with_reducible refine seq_step fun K hK => ?_) | ((with_reducible refine code_id ?_); conv => whnf) | (clear hK; (with_reducible refine hK _ _ _ ?_); clear hK) | (clear hK; clear hK; (with_reducible refine hK _ _ _ ?_); clear hK) | (clear hK; clear hK; clear hK; (with_reducible refine hK _ _ _ ?_); clear hK) | (refine ⟨_, _, SubH.refl _, SubB.refl _, ?_⟩; conv => whnf) | (refine ⟨⟨SubH.refl _, SubB.refl _⟩, ?_⟩; conv => whnf) | (refine ⟨_, _, ⟨SubH.refl _, SubB.refl _⟩, SubH.refl _, SubB.refl _, ?_⟩; conv => whnf))
        refine opt_ld (hg5.pt 2 rfl) (v := iv last) hlast ?_
        conv => whnf
        rw [wrap_i64 (x := last + 3) (by omega) (by omega)]
        refine create22A (hw.later (by omega)) parent (last + 3) q (hg5.pull 1 rfl) fun g6 hg6 => ?_
        rw [create_again (l := last + 1) hp hk hk1 hkm gq (by omega) (by omega) hle] at hg6 ⊢
        conv => whnf
        repeat (first | ((with_reducible refine hK _ _ _ ?_); clear hK) | (with_reducible refine seq_step fun K hK => ?_) | ((with_reducible refine code_id ?_); conv => whnf) | (clear hK; (with_reducible refine hK _ _ _ ?_); clear hK) | (clear hK; clear hK; (with_reducible refine hK _ _ _ ?_); clear hK) | (clear hK; clear hK; clear hK; (with_reducible refine hK _ _ _ ?_); clear hK) | (refine ⟨_, _, SubH.refl _, SubB.refl _, ?_⟩; conv => whnf) | (refine ⟨⟨SubH.refl _, SubB.refl _⟩, ?_⟩; conv => whnf) | (refine ⟨_, _, ⟨SubH.refl _, SubB.refl _⟩, SubH.refl _, SubB.refl _, ?_⟩; conv => whnf))
        rw [beq_self_eq_true]
        conv => whnf
        repeat (first | ((with_reducible refine hK _ _ _ ?_); clear hK) | (with_reducible refine seq_step fun K hK => ?_) | ((with_reducible refine code_id ?_); conv => whnf) | (clear hK; (with_reducible refine hK _ _ _ ?_); clear hK) | (clear hK; clear hK; (with_reducible refine hK _ _ _ ?_); clear hK) | (clear hK; clear hK; clear hK; (with_reducible refine hK _ _ _ ?_); clear hK) | (refine ⟨_, _, SubH.refl _, SubB.refl _, ?_⟩; conv => whnf) | (refine ⟨⟨SubH.refl _, SubB.refl _⟩, ?_⟩; conv => whnf) | (refine ⟨_, _, ⟨SubH.refl _, SubB.refl _⟩, SubH.refl _, SubB.refl _, ?_⟩; conv => whnf))
        exact hq _ (hg6.is 3 rfl)
      · rw [he] at hg4 ⊢
        dsimp only at hg4 ⊢
        have hw2 := hw1.create hpm hm1 hm gr hn1 hner
        obtain ⟨hwk, hcut⟩ := cut_two hw hk1 hpk hw1 hm1 hw2
        conv => whnf
        repeat (first | ((with_reducible refine hK _ _ _ ?_); clear hK) | (with_reducible refine seq_step fun K hK => ?_) | ((with_reducible refine code_id ?_); conv => whnf) | (clear hK; (with_reducible refine hK _ _ _ ?_); clear hK) | (clear hK; clear hK; (with_reducible refine hK _ _ _ ?_); clear hK) | (clear hK; clear hK; clear hK; (with_reducible refine hK _ _ _ ?_); clear hK) | (refine ⟨_, _, SubH.refl _, SubB.refl _, ?_⟩; conv => whnf) | (refine ⟨⟨SubH.refl _, SubB.refl _⟩, ?_⟩; conv => whnf) | (refine ⟨_, _, ⟨SubH.refl _, SubB.refl _⟩, SubH.refl _, SubB.refl _, ?_⟩; conv => whnf))
        refine destroy23A hw2 k hg4 fun sl g5 hg5 => ?_
        rw [show mDestroy (A ++ [mkRow k (last + 1) parent q] ++ [mkRow m (last + 2) k r]) k = (([(k : Int), (m : Int)], 0), A) by
          have hf : fnd (A ++ [mkRow k (last + 1) parent q] ++ [mkRow m (last + 2) k r]) (k : Int) = some (mkRow k (last + 1) parent q) := by rw [fnd_app, fnd_app, hk1, if_pos (show (((mkRow k (last + 1) parent q).num : Nat) : Int) = k from rfl)]; rfl
          have hk0 := hw.free_root hk1
          unfold mDestroy; rw [hf]; simp only; rw [if_neg (by omega), hwk, hcut]] at hg5 ⊢
        dsimp only at hg5 ⊢
        obtain ⟨bs, cp, es⟩ := hg5.slv 0 rfl
        subst es
        obtain ⟨bb, o0, cap', c0, ty0, z0, he0, hbb0, hc0⟩ := hg5.rdw 0 rfl (k := 0) (v := iv k) (show 0 < 2 by decide) rfl
        cases he0
        obtain ⟨_, _, _, c1, ty1, z1, he1, hbb1, hc1⟩ := hg5.rdw 0 rfl (k := 1) (v := iv m) (show 1 < 2 by decide) rfl
        cases he1
        conv => whnf
        repeat (first | ((with_reducible refine hK _ _ _ ?_); clear hK) | (with_reducible refine seq_step fun K hK => ?_) | ((with_reducible refine code_id ?_); conv => whnf) | (clear hK; (with_reducible refine hK _ _ _ ?_); clear hK) | (clear hK; clear hK; (with_reducible refine hK _ _ _ ?_); clear hK) | (clear hK; clear hK; clear hK; (with_reducible refine hK _ _ _ ?_); clear hK) | (refine ⟨_, _, SubH.refl _, SubB.refl _, ?_⟩; conv => whnf) | (refine ⟨⟨SubH.refl _, SubB.refl _⟩, ?_⟩; conv => whnf) | (refine ⟨_, _, ⟨SubH.refl _, SubB.refl _⟩, SubH.refl _, SubB.refl _, ?_⟩; conv => whnf))
        refine opt_ld hbb0 (v := iv k) hc0 ?_
        conv => whnf
        rw [bne_self_eq_false]
        conv => whnf
        refine opt_ld hbb1 (v := iv m) hc1 ?_
        conv => whnf
        rw [bne_self_eq_false]
        conv => whnf
        refine opt_ldL (cs := told A) rfl hlt ?_
        conv => whnf
        refine told21 (hw.later (l := last + 2) (by omega)) (Has.get hg5 1 rfl fun _ _ => EnvP.sub) ?_
        conv => whnf
        refine ⟨⟨SubH.refl _, SubB.refl _⟩, ?_⟩
        conv => whnf
        refine opt_eqkd (X := told A) (Y := told A) (b := true) KTold rfl rfl (told_kd hw) (told_kd hw) (by simp) ?_
        conv => whnf
        repeat (first | ((with_reducible refine hK _ _ _ ?_); clear hK) | (with_reducible refine seq_step fun K hK => ?_) | ((with_reducible refine code_id ?_); conv => whnf) | (clear hK; (with_reducible refine hK _ _ _ ?_); clear hK) | (clear hK; clear hK; (with_reducible refine hK _ _ _ ?_); clear hK) | (clear hK; clear hK; clear hK; (with_reducible refine hK _ _ _ ?_); clear hK) | (refine ⟨_, _, SubH.refl _, SubB.refl _, ?_⟩; conv => whnf) | (refine ⟨⟨SubH.refl _, SubB.refl _⟩, ?_⟩; conv => whnf) | (refine ⟨_, _, ⟨SubH.refl _, SubB.refl _⟩, SubH.refl _, SubB.refl _, ?_⟩; conv => whnf))
        refine opt_ld (hg5.pt 2 rfl) (v := iv last) hlast ?_
        conv => whnf
        rw [wrap_i64 (x := last + 3) (by omega) (by omega)]
        refine create22A (hw.later (by omega)) parent (last + 3) q (hg5.pull 1 rfl) fun g6 hg6 => ?_
        rw [create_again (l := last + 2) hp hk hk1 hkm gq (by omega) (by omega) hle] at hg6 ⊢
        conv => whnf
        repeat (first | ((with_reducible refine hK _ _ _ ?_); clear hK) | (with_reducible refine seq_step fun K hK => ?_) | ((with_reducible refine code_id ?_); conv => whnf) | (clear hK; (with_reducible refine hK _ _ _ ?_); clear hK) | (clear hK; clear hK; (with_reducible refine hK _ _ _ ?_); clear hK) | (clear hK; clear hK; clear hK; (with_reducible refine hK _ _ _ ?_); clear hK) | (refine ⟨_, _, SubH.refl _, SubB.refl _, ?_⟩; conv => whnf) | (refine ⟨⟨SubH.refl _, SubB.refl _⟩, ?_⟩; conv => whnf) | (refine ⟨_, _, ⟨SubH.refl _, SubB.refl _⟩, SubH.refl _, SubB.refl _, ?_⟩; conv => whnf))
        rw [beq_self_eq_true]
        conv => whnf
        repeat (first | ((with_reducible refine hK _ _ _ ?_); clear hK) | (with_reducible refine seq_step fun K hK => ?_) | ((with_reducible refine code_id ?_); conv => whnf) | (clear hK; (with_reducible refine hK _ _ _ ?_); clear hK) | (clear hK; clear hK; (with_reducible refine hK _ _ _ ?_); clear hK) | (clear hK; clear hK; clear hK; (with_reducible refine hK _ _ _ ?_); clear hK) | (refine ⟨_, _, SubH.refl _, SubB.refl _, ?_⟩; conv => whnf) | (refine ⟨⟨SubH.refl _, SubB.refl _⟩, ?_⟩; conv => whnf) | (refine ⟨_, _, ⟨SubH.refl _, SubB.refl _⟩, SubH.refl _, SubB.refl _, ?_⟩; conv => whnf))
        exact hq _ (hg6.is 3 rfl)

end
end Go.Proofs.Ytljenppmdhldbaa.V
