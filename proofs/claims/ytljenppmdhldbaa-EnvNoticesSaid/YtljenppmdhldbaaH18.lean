/- Seat 09: EnvNotices. -/
import Derived.Test.YtljenppmdhldbaaH17
import Derived.Test.YtljenppmdhldbaaH16
namespace Go.Proofs.Ytljenppmdhldbaa.V
set_option linter.unusedVariables false
set_option linter.unusedSimpArgs false
set_option linter.unusedSectionVars false
set_option linter.unusedSectionVars false
open Go

def AN (st bits r0 r1 : Int) : Rs := [mkRow 0 1 (-1) (40, 24, 8), { mkRow 1 2 0 (20, 7, 3) with state := st, bits := bits, regs := [r0, r1, 9, 9, 9, 9, 9, 9], pc := 77 }, mkRow 2 3 1 (6, 2, 1)]

theorem an_wait (st b r0 r1 : Int) : mWait (AN st b r0 r1) 1 = ((b, 0), AN (if b = 0 then 2 else st) 0 r0 r1) := by
  by_cases h : b = 0
  · subst h; rfl
  · rw [if_neg h]
    show ((b, 0), [mkRow 0 1 (-1) (40, 24, 8), fWait _, mkRow 2 3 1 (6, 2, 1)]) = _
    unfold fWait
    rw [if_neg (show ¬ b = 0 from h)]; rfl

theorem an_runs (st b r0 r1 : Int) : mRuns (AN st b r0 r1) 1 = decide (st = 1) := by
  show (decide (st = 1) && true) = _
  rw [Bool.and_true]

theorem an_notify {n : Int} (hn : isW n) (st b r0 r1 : Int) : mNotify (AN st b r0 r1) 1 n = (0, if st = 2 ∧ orW b n ≠ 0 then AN 1 0 0 (IntKind.u32.wrap (orW b n)) else AN st (orW b n) r0 r1) := by
  unfold mNotify
  rw [mSet_ok (r := { mkRow 1 2 0 (20, 7, 3) with state := st, bits := b, regs := [r0, r1, 9, 9, 9, 9, 9, 9], pc := 77 }) rfl (if_pos hn)]
  show (0, [mkRow 0 1 (-1) (40, 24, 8), fNotify n _, mkRow 2 3 1 (6, 2, 1)]) = _
  unfold fNotify
  by_cases h : st = 2 ∧ orW b n ≠ 0
  · rw [if_pos h, if_pos h]; rfl
  · rw [if_neg h, if_neg h]; rfl

theorem an_notify_no {n : Int} (hn : ¬ isW n) (st b r0 r1 : Int) : mNotify (AN st b r0 r1) 1 n = (1, AN st b r0 r1) := by
  unfold mNotify
  rw [mSet_no (n := 1) (r := { mkRow 1 2 0 (20, 7, 3) with state := st, bits := b, regs := [r0, r1, 9, 9, 9, 9, 9, 9], pc := 77 }) rfl (if_neg hn) (by decide)]

theorem an_info (st b r0 r1 : Int) : mInfo (AN st b r0 r1) 1 = (⟨2, 0, st, 0, b, false, [r0, r1, 9, 9, 9, 9, 9, 9], 77, (20, 7, 3), (14, 4, 2)⟩, 0) := rfl

section
variable {h : Hp} {Q : Value → Hp → Prop} {L : List As}

theorem law3 {a : Option Addr} {len cap : Nat} {f : Nat → Int} (hR : IntsAt .i64 h a len f) (hlen : len < 2 ^ 62) (hq : ∀ h', SubH h h' → Q (.bool true) h') : Ok PR 3 [.slice a len cap] h Q := by
  refine e3 rfl (seq_step fun K hK => ?_)
  repeat (first | ((with_reducible refine hK _ _ _ ?_); clear hK) | (with_reducible refine seq_step fun K hK => ?_) | ((with_reducible refine code_id ?_); conv => whnf) | (clear hK; (with_reducible refine hK _ _ _ ?_); clear hK) | (clear hK; clear hK; (with_reducible refine hK _ _ _ ?_); clear hK) | (clear hK; clear hK; clear hK; (with_reducible refine hK _ _ _ ?_); clear hK))
  refine first13 (Has.start h) fun t b h1 hh1 => ?_
  conv => whnf
  repeat (first | ((with_reducible refine hK _ _ _ ?_); clear hK) | (with_reducible refine seq_step fun K hK => ?_) | ((with_reducible refine code_id ?_); conv => whnf) | (clear hK; (with_reducible refine hK _ _ _ ?_); clear hK) | (clear hK; clear hK; (with_reducible refine hK _ _ _ ?_); clear hK) | (clear hK; clear hK; clear hK; (with_reducible refine hK _ _ _ ?_); clear hK))
  refine state14A wf0 1 1 0 hh1 fun h2 hh2 => ?_
  conv => whnf
  repeat (first | ((with_reducible refine hK _ _ _ ?_); clear hK) | (with_reducible refine seq_step fun K hK => ?_) | ((with_reducible refine code_id ?_); conv => whnf) | (clear hK; (with_reducible refine hK _ _ _ ?_); clear hK) | (clear hK; clear hK; (with_reducible refine hK _ _ _ ?_); clear hK) | (clear hK; clear hK; clear hK; (with_reducible refine hK _ _ _ ?_); clear hK))
  refine regs15A (wf0.mState 1 1 0) 1 [9, 9, 9, 9, 9, 9, 9, 9] 77 rfl hh2 fun h3 hh3 => ?_
  have hh3 : Has (EnvA t (AN 1 0 9 9) 3 :: BookP b lv0 pd0 3 :: Is h :: []) h3 := hh3
  have hw3 : WF (AN 1 0 9 9) 3 := (wf0.mState 1 1 0).mRegs 1 77 rfl
  conv => whnf
  repeat (first | ((with_reducible refine hK _ _ _ ?_); clear hK) | (with_reducible refine seq_step fun K hK => ?_) | ((with_reducible refine code_id ?_); conv => whnf) | (clear hK; (with_reducible refine hK _ _ _ ?_); clear hK) | (clear hK; clear hK; (with_reducible refine hK _ _ _ ?_); clear hK) | (clear hK; clear hK; clear hK; (with_reducible refine hK _ _ _ ?_); clear hK))
  refine loop_intro (σ := (Nat × Int × Bool) × (Int × Int) × Hp) (fun s => [(0, .v (.slice a len cap)), (3, .v (ptr t)), (5, .v (iv s.1.2.1)), (6, .v (.bool s.1.2.2)), (7, .v (iv s.1.1))]) (fun _ => []) (fun s => s.2.2)
    (fun s => s.1.1 ≤ len ∧ isW s.1.2.1 ∧ WF (AN (if s.1.2.2 = true then 2 else 1) s.1.2.1 s.2.1.1 s.2.1.2) 3 ∧ Has (EnvA t (AN (if s.1.2.2 = true then 2 else 1) s.1.2.1 s.2.1.1 s.2.1.2) 3 :: Is h :: []) s.2.2)
    (fun s => len - s.1.1) ((0, 0, false), (9, 9), h3) ⟨Nat.zero_le _, ⟨Int.le_refl _, by show (0 : Int) ≤ 4294967295; decide⟩, hw3, hh3.swap.tail⟩ (subE_cons rfl (subE_cons rfl (subE_cons rfl (subE_cons rfl (subE_cons rfl subE_nil))))) subB_nil rfl ?_
  rintro ⟨⟨i, hv, st⟩, ⟨r0, r1⟩, g⟩ ⟨hi, hvw, hw, hg⟩
  dsimp only at hi hvw hw hg ⊢
  repeat (first | ((with_reducible refine hK _ _ _ ?_); clear hK) | (with_reducible refine seq_step fun K hK => ?_) | ((with_reducible refine code_id ?_); conv => whnf) | (clear hK; (with_reducible refine hK _ _ _ ?_); clear hK) | (clear hK; clear hK; (with_reducible refine hK _ _ _ ?_); clear hK) | (clear hK; clear hK; clear hK; (with_reducible refine hK _ _ _ ?_); clear hK))
  refine cond_dec (fun hlt => ?_) (fun hge => ?_)
  · have hil : i < len := by omega
    obtain ⟨bk, off, c, ty, z, rfl, hb0, hc, hwf⟩ := hR i hil
    have hb : g bk = some (.cells c ty z) := hg.is 1 rfl bk _ hb0
    generalize f i = n at hc hwf
    repeat (first | ((with_reducible refine hK _ _ _ ?_); clear hK) | (with_reducible refine seq_step fun K hK => ?_) | ((with_reducible refine code_id ?_); conv => whnf) | (clear hK; (with_reducible refine hK _ _ _ ?_); clear hK) | (clear hK; clear hK; (with_reducible refine hK _ _ _ ?_); clear hK) | (clear hK; clear hK; clear hK; (with_reducible refine hK _ _ _ ?_); clear hK))
    refine opt_if ⟨by omega, by omega⟩ ?_
    conv => whnf
    refine opt_ld hb (v := iv n) hc ?_
    conv => whnf
    repeat (first | ((with_reducible refine hK _ _ _ ?_); clear hK) | (with_reducible refine seq_step fun K hK => ?_) | ((with_reducible refine code_id ?_); conv => whnf) | (clear hK; (with_reducible refine hK _ _ _ ?_); clear hK) | (clear hK; clear hK; (with_reducible refine hK _ _ _ ?_); clear hK) | (clear hK; clear hK; clear hK; (with_reducible refine hK _ _ _ ?_); clear hK))
    refine cond_dec (fun hn => ?_) (fun hn => ?_)
    · repeat (first | ((with_reducible refine hK _ _ _ ?_); clear hK) | (with_reducible refine seq_step fun K hK => ?_) | ((with_reducible refine code_id ?_); conv => whnf) | (clear hK; (with_reducible refine hK _ _ _ ?_); clear hK) | (clear hK; clear hK; (with_reducible refine hK _ _ _ ?_); clear hK) | (clear hK; clear hK; clear hK; (with_reducible refine hK _ _ _ ?_); clear hK))
      refine wait16A hw 1 hg fun g1 hg1 => ?_
      have hw1 := hw.mWait 1
      rw [an_wait] at hg1 hw1 ⊢
      dsimp only at hg1 hw1 ⊢
      conv => whnf
      repeat (first | ((with_reducible refine hK _ _ _ ?_); clear hK) | (with_reducible refine seq_step fun K hK => ?_) | ((with_reducible refine code_id ?_); conv => whnf) | (clear hK; (with_reducible refine hK _ _ _ ?_); clear hK) | (clear hK; clear hK; (with_reducible refine hK _ _ _ ?_); clear hK) | (clear hK; clear hK; clear hK; (with_reducible refine hK _ _ _ ?_); clear hK))
      rw [show (hv != hv) = false from bne_self_eq_false _]
      conv => whnf
      refine runs17A hw1 1 hg1 ?_
      rw [an_runs]
      have hi1 : ((i + 1 : Nat) : Int) = IntKind.i64.wrap ((i : Int) + 1) := (wrap_nat (by omega)).symm
      by_cases hz : hv = 0
      · rw [if_pos hz] at hg1 hw1 ⊢
        subst hz
        conv => whnf
        cases st with
        | true =>
          conv => whnf
          repeat (first | ((with_reducible refine hK _ _ _ ?_); clear hK) | (with_reducible refine seq_step fun K hK => ?_) | ((with_reducible refine code_id ?_); conv => whnf) | (clear hK; (with_reducible refine hK _ _ _ ?_); clear hK) | (clear hK; clear hK; (with_reducible refine hK _ _ _ ?_); clear hK) | (clear hK; clear hK; clear hK; (with_reducible refine hK _ _ _ ?_); clear hK))
          exact ⟨((i + 1, 0, true), (r0, r1), g1), ⟨show i + 1 ≤ len by omega, hvw, hw1, hg1⟩, show len - (i + 1) < len - i by omega, subE_cons rfl (subE_cons rfl (subE_cons rfl (subE_cons rfl (subE_cons (int_eq (wrap_nat (by omega)) rfl) subE_nil)))), subB_nil, rfl⟩
        | false =>
          conv => whnf
          repeat (first | ((with_reducible refine hK _ _ _ ?_); clear hK) | (with_reducible refine seq_step fun K hK => ?_) | ((with_reducible refine code_id ?_); conv => whnf) | (clear hK; (with_reducible refine hK _ _ _ ?_); clear hK) | (clear hK; clear hK; (with_reducible refine hK _ _ _ ?_); clear hK) | (clear hK; clear hK; clear hK; (with_reducible refine hK _ _ _ ?_); clear hK))
          exact ⟨((i + 1, 0, true), (r0, r1), g1), ⟨show i + 1 ≤ len by omega, hvw, hw1, hg1⟩, show len - (i + 1) < len - i by omega, subE_cons rfl (subE_cons rfl (subE_cons rfl (subE_cons rfl (subE_cons (int_eq (wrap_nat (by omega)) rfl) subE_nil)))), subB_nil, rfl⟩
      · rw [if_neg hz] at hg1 hw1 ⊢
        cases st with
        | true =>
          conv => whnf
          repeat (first | ((with_reducible refine hK _ _ _ ?_); clear hK) | (with_reducible refine seq_step fun K hK => ?_) | ((with_reducible refine code_id ?_); conv => whnf) | (clear hK; (with_reducible refine hK _ _ _ ?_); clear hK) | (clear hK; clear hK; (with_reducible refine hK _ _ _ ?_); clear hK) | (clear hK; clear hK; clear hK; (with_reducible refine hK _ _ _ ?_); clear hK))
          exact ⟨((i + 1, 0, true), (r0, r1), g1), ⟨show i + 1 ≤ len by omega, ⟨Int.le_refl _, by show (0 : Int) ≤ 4294967295; decide⟩, hw1, hg1⟩, show len - (i + 1) < len - i by omega, subE_cons rfl (subE_cons rfl (subE_cons rfl (subE_cons rfl (subE_cons (int_eq (wrap_nat (by omega)) rfl) subE_nil)))), subB_nil, rfl⟩
        | false =>
          conv => whnf
          have hzb : (hv == 0) = false := beq_eq_false_iff_ne.2 hz
          rw [hzb]
          conv => whnf
          repeat (first | ((with_reducible refine hK _ _ _ ?_); clear hK) | (with_reducible refine seq_step fun K hK => ?_) | ((with_reducible refine code_id ?_); conv => whnf) | (clear hK; (with_reducible refine hK _ _ _ ?_); clear hK) | (clear hK; clear hK; (with_reducible refine hK _ _ _ ?_); clear hK) | (clear hK; clear hK; clear hK; (with_reducible refine hK _ _ _ ?_); clear hK))
          rw [hzb]
          exact ⟨((i + 1, 0, false), (r0, r1), g1), ⟨show i + 1 ≤ len by omega, ⟨Int.le_refl _, by show (0 : Int) ≤ 4294967295; decide⟩, hw1, hg1⟩, show len - (i + 1) < len - i by omega, subE_cons rfl (subE_cons rfl (subE_cons rfl (subE_cons rfl (subE_cons (int_eq (wrap_nat (by omega)) rfl) subE_nil)))), subB_nil, rfl⟩
    · repeat (first | ((with_reducible refine hK _ _ _ ?_); clear hK) | (with_reducible refine seq_step fun K hK => ?_) | ((with_reducible refine code_id ?_); conv => whnf) | (clear hK; (with_reducible refine hK _ _ _ ?_); clear hK) | (clear hK; clear hK; (with_reducible refine hK _ _ _ ?_); clear hK) | (clear hK; clear hK; clear hK; (with_reducible refine hK _ _ _ ?_); clear hK))
      refine notify18A hw 1 n hg fun g1 hg1 => ?_
      have hw1 := hw.mNotify 1 n
      by_cases hnw : isW n
      · rw [an_notify hnw] at hg1 hw1 ⊢
        dsimp only at hg1 hw1 ⊢
        conv => whnf
        repeat (first | ((with_reducible refine hK _ _ _ ?_); clear hK) | (with_reducible refine seq_step fun K hK => ?_) | ((with_reducible refine code_id ?_); conv => whnf) | (clear hK; (with_reducible refine hK _ _ _ ?_); clear hK) | (clear hK; clear hK; (with_reducible refine hK _ _ _ ?_); clear hK) | (clear hK; clear hK; clear hK; (with_reducible refine hK _ _ _ ?_); clear hK))
        rw [show decide (n > 4294967295) = false from decide_eq_false (by have := hnw.2; omega)]
        conv => whnf
        repeat (first | ((with_reducible refine hK _ _ _ ?_); clear hK) | (with_reducible refine seq_step fun K hK => ?_) | ((with_reducible refine code_id ?_); conv => whnf) | (clear hK; (with_reducible refine hK _ _ _ ?_); clear hK) | (clear hK; clear hK; (with_reducible refine hK _ _ _ ?_); clear hK) | (clear hK; clear hK; clear hK; (with_reducible refine hK _ _ _ ?_); clear hK))
        rw [show IntKind.i64.wrap (((BitVec.ofInt IntKind.i64.bits hv ||| BitVec.ofInt IntKind.i64.bits n).toNat : Nat) : Int) = orW hv n from rfl]
        have hm := orW_isW hvw hnw
        generalize orW hv n = m at hg1 hw1 hm ⊢
        by_cases hc : (if st = true then (2 : Int) else 1) = 2 ∧ m ≠ 0
        · rw [if_pos hc] at hg1 hw1
          obtain rfl : st = true := by
            cases st with
            | true => rfl
            | false => exact absurd hc.1 (by decide)
          refine info19A hw1 1 hg1 ?_
          rw [an_info]
          conv => whnf
          repeat (first | ((with_reducible refine hK _ _ _ ?_); clear hK) | (with_reducible refine seq_step fun K hK => ?_) | ((with_reducible refine code_id ?_); conv => whnf) | (clear hK; (with_reducible refine hK _ _ _ ?_); clear hK) | (clear hK; clear hK; (with_reducible refine hK _ _ _ ?_); clear hK) | (clear hK; clear hK; clear hK; (with_reducible refine hK _ _ _ ?_); clear hK))
          rw [show (m != 0) = true from bne_iff_ne.2 hc.2]
          conv => whnf
          repeat (first | ((with_reducible refine hK _ _ _ ?_); clear hK) | (with_reducible refine seq_step fun K hK => ?_) | ((with_reducible refine code_id ?_); conv => whnf) | (clear hK; (with_reducible refine hK _ _ _ ?_); clear hK) | (clear hK; clear hK; (with_reducible refine hK _ _ _ ?_); clear hK) | (clear hK; clear hK; clear hK; (with_reducible refine hK _ _ _ ?_); clear hK))
          have hmw : IntKind.i64.wrap (IntKind.u32.wrap m) = m := by
            have h1 := hm.1; have h2 := hm.2
            have e1 : IntKind.u32.wrap m = m := by unfold IntKind.wrap; simp [IntKind.bits, IntKind.signed]; omega
            rw [e1, wrap_i64 (by omega) (by omega)]
          rw [show (IntKind.i64.wrap (IntKind.u32.wrap m) != m) = false by rw [hmw]; exact bne_self_eq_false _]
          conv => whnf
          repeat (first | ((with_reducible refine hK _ _ _ ?_); clear hK) | (with_reducible refine seq_step fun K hK => ?_) | ((with_reducible refine code_id ?_); conv => whnf) | (clear hK; (with_reducible refine hK _ _ _ ?_); clear hK) | (clear hK; clear hK; (with_reducible refine hK _ _ _ ?_); clear hK) | (clear hK; clear hK; clear hK; (with_reducible refine hK _ _ _ ?_); clear hK))
          exact ⟨((i + 1, 0, false), (0, IntKind.u32.wrap m), g1), ⟨show i + 1 ≤ len by omega, ⟨Int.le_refl _, by show (0 : Int) ≤ 4294967295; decide⟩, hw1, hg1⟩, show len - (i + 1) < len - i by omega, subE_cons rfl (subE_cons rfl (subE_cons rfl (subE_cons rfl (subE_cons (int_eq (wrap_nat (by omega)) rfl) subE_nil)))), subB_nil, rfl⟩
        · rw [if_neg hc] at hg1 hw1
          refine info19A hw1 1 hg1 ?_
          rw [an_info]
          cases st with
          | true =>
            have hm0 : m = 0 := Decidable.byContradiction fun x => hc ⟨rfl, x⟩
            subst hm0
            conv => whnf
            repeat (first | ((with_reducible refine hK _ _ _ ?_); clear hK) | (with_reducible refine seq_step fun K hK => ?_) | ((with_reducible refine code_id ?_); conv => whnf) | (clear hK; (with_reducible refine hK _ _ _ ?_); clear hK) | (clear hK; clear hK; (with_reducible refine hK _ _ _ ?_); clear hK) | (clear hK; clear hK; clear hK; (with_reducible refine hK _ _ _ ?_); clear hK))
            exact ⟨((i + 1, 0, true), (r0, r1), g1), ⟨show i + 1 ≤ len by omega, hm, hw1, hg1⟩, show len - (i + 1) < len - i by omega, subE_cons rfl (subE_cons rfl (subE_cons rfl (subE_cons rfl (subE_cons (int_eq (wrap_nat (by omega)) rfl) subE_nil)))), subB_nil, rfl⟩
          | false =>
            conv => whnf
            repeat (first | ((with_reducible refine hK _ _ _ ?_); clear hK) | (with_reducible refine seq_step fun K hK => ?_) | ((with_reducible refine code_id ?_); conv => whnf) | (clear hK; (with_reducible refine hK _ _ _ ?_); clear hK) | (clear hK; clear hK; (with_reducible refine hK _ _ _ ?_); clear hK) | (clear hK; clear hK; clear hK; (with_reducible refine hK _ _ _ ?_); clear hK))
            rw [show (m != m) = false from bne_self_eq_false _]
            conv => whnf
            repeat (first | ((with_reducible refine hK _ _ _ ?_); clear hK) | (with_reducible refine seq_step fun K hK => ?_) | ((with_reducible refine code_id ?_); conv => whnf) | (clear hK; (with_reducible refine hK _ _ _ ?_); clear hK) | (clear hK; clear hK; (with_reducible refine hK _ _ _ ?_); clear hK) | (clear hK; clear hK; clear hK; (with_reducible refine hK _ _ _ ?_); clear hK))
            exact ⟨((i + 1, m, false), (r0, r1), g1), ⟨show i + 1 ≤ len by omega, hm, hw1, hg1⟩, show len - (i + 1) < len - i by omega, subE_cons rfl (subE_cons rfl (subE_cons rfl (subE_cons rfl (subE_cons (int_eq (wrap_nat (by omega)) rfl) subE_nil)))), subB_nil, rfl⟩
      · rw [an_notify_no hnw] at hg1 hw1 ⊢
        dsimp only at hg1 hw1 ⊢
        conv => whnf
        repeat (first | ((with_reducible refine hK _ _ _ ?_); clear hK) | (with_reducible refine seq_step fun K hK => ?_) | ((with_reducible refine code_id ?_); conv => whnf) | (clear hK; (with_reducible refine hK _ _ _ ?_); clear hK) | (clear hK; clear hK; (with_reducible refine hK _ _ _ ?_); clear hK) | (clear hK; clear hK; clear hK; (with_reducible refine hK _ _ _ ?_); clear hK))
        refine cond_dec (fun _ => ?_) (fun hx => absurd (show n > 4294967295 by unfold isW at hnw; omega) hx)
        repeat (first | ((with_reducible refine hK _ _ _ ?_); clear hK) | (with_reducible refine seq_step fun K hK => ?_) | ((with_reducible refine code_id ?_); conv => whnf) | (clear hK; (with_reducible refine hK _ _ _ ?_); clear hK) | (clear hK; clear hK; (with_reducible refine hK _ _ _ ?_); clear hK) | (clear hK; clear hK; clear hK; (with_reducible refine hK _ _ _ ?_); clear hK))
        exact ⟨((i + 1, hv, st), (r0, r1), g1), ⟨show i + 1 ≤ len by omega, hvw, hw1, hg1⟩, show len - (i + 1) < len - i by omega, subE_cons rfl (subE_cons rfl (subE_cons rfl (subE_cons rfl (subE_cons (int_eq (wrap_nat (by omega)) rfl) subE_nil)))), subB_nil, rfl⟩
  · repeat (first | ((with_reducible refine hK _ _ _ ?_); clear hK) | (with_reducible refine seq_step fun K hK => ?_) | ((with_reducible refine code_id ?_); conv => whnf) | (clear hK; (with_reducible refine hK _ _ _ ?_); clear hK) | (clear hK; clear hK; (with_reducible refine hK _ _ _ ?_); clear hK) | (clear hK; clear hK; clear hK; (with_reducible refine hK _ _ _ ?_); clear hK))
    exact hq _ (hg.is 1 rfl)

end
end Go.Proofs.Ytljenppmdhldbaa.V
