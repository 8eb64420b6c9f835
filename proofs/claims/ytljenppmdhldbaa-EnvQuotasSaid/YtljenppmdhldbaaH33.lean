/- Seat 09: EnvQuotas. -/
import Derived.Test.YtljenppmdhldbaaH32
import Derived.Test.YtljenppmdhldbaaH38
namespace Go.Proofs.Ytljenppmdhldbaa.V
set_option linter.unusedVariables false
set_option linter.unusedSimpArgs false
set_option linter.unusedSectionVars false
set_option linter.unusedSectionVars false
open Go

section
variable {h : Hp} {Q : Value → Hp → Prop} {L : List As}

set_option maxHeartbeats 1000000 in
theorem law7 {a : Option Addr} {len cap : Nat} {l : List OpE} (hR : Scr h a len l) (hlen : len < 2 ^ 46) (hq : ∀ h', SubH h h' → Q (.bool true) h') : Ok PR 7 [.slice a len cap] h Q := by
  refine e7 rfl (seq_step fun K hK => ?_)
  repeat (first | ((with_reducible refine hK _ _ _ ?_); clear hK) | (with_reducible refine seq_step fun K hK => ?_) | ((with_reducible refine code_id ?_); conv => whnf) | (clear hK; (with_reducible refine hK _ _ _ ?_); clear hK) | (clear hK; clear hK; (with_reducible refine hK _ _ _ ?_); clear hK) | (clear hK; clear hK; clear hK; (with_reducible refine hK _ _ _ ?_); clear hK))
  refine first13 (Has.start h) fun t b h1 hh1 => ?_
  have hh1 : Has (EnvA t A0 3 :: BkP b A0 3 :: Is h :: []) h1 := hh1.map_tail fun g hg => hg.mono1 fun g' hg' => bkp0 hg'
  conv => whnf
  repeat (first | ((with_reducible refine hK _ _ _ ?_); clear hK) | (with_reducible refine seq_step fun K hK => ?_) | ((with_reducible refine code_id ?_); conv => whnf) | (clear hK; (with_reducible refine hK _ _ _ ?_); clear hK) | (clear hK; clear hK; (with_reducible refine hK _ _ _ ?_); clear hK) | (clear hK; clear hK; clear hK; (with_reducible refine hK _ _ _ ?_); clear hK))
  refine loop_intro (σ := (Nat × Rs × Int) × Hp) (fun s => [(0, .v (.slice a len cap)), (3, .v (ptr t)), (4, .v (ptr b)), (5, .v (iv s.1.1))]) (fun _ => []) (fun s => s.2)
    (fun s => s.1.1 ≤ len ∧ WF s.1.2.1 s.1.2.2 ∧ Has (EnvA t s.1.2.1 s.1.2.2 :: BkP b s.1.2.1 s.1.2.2 :: Is h :: []) s.2)
    (fun s => len - s.1.1) ((0, A0, 3), h1) ⟨Nat.zero_le _, wf0, hh1⟩ (subE_cons rfl (subE_cons rfl (subE_cons rfl (subE_cons rfl subE_nil)))) subB_nil rfl ?_
  rintro ⟨⟨i, A, last⟩, g⟩ ⟨hi, hw, hg⟩
  dsimp only at hi hw hg ⊢
  repeat (first | ((with_reducible refine hK _ _ _ ?_); clear hK) | (with_reducible refine seq_step fun K hK => ?_) | ((with_reducible refine code_id ?_); conv => whnf) | (clear hK; (with_reducible refine hK _ _ _ ?_); clear hK) | (clear hK; clear hK; (with_reducible refine hK _ _ _ ?_); clear hK) | (clear hK; clear hK; clear hK; (with_reducible refine hK _ _ _ ?_); clear hK))
  refine cond_dec (fun hlt => ?_) (fun hge => ?_)
  · have hil : i < len := by omega
    obtain ⟨o, bk, off, c, ty, z, ho, hregs, rfl, hb0, hrd, hkd, hnn⟩ := hR.at hil
    have hb : g bk = some (.cells c ty z) := hg.is 2 rfl bk _ hb0
    have ei : ((i : Int)).toNat = i := Int.toNat_natCast i
    repeat (first | ((with_reducible refine hK _ _ _ ?_); clear hK) | (with_reducible refine seq_step fun K hK => ?_) | ((with_reducible refine code_id ?_); conv => whnf) | (clear hK; (with_reducible refine hK _ _ _ ?_); clear hK) | (clear hK; clear hK; (with_reducible refine hK _ _ _ ?_); clear hK) | (clear hK; clear hK; clear hK; (with_reducible refine hK _ _ _ ?_); clear hK))
    refine opt_if ⟨by omega, by omega⟩ ?_
    conv => whnf
    refine opt_ld hb (v := .agg (opC o).toArray) (by rw [ei]; exact hrd) ?_
    conv => whnf
    refine noted20 hw o hregs hg fun g1 hg1 => ?_
    have hw1 := hw.step o hregs
    generalize (step A last o).1 = A1 at hg1 hw1
    generalize (step A last o).2 = l1 at hg1 hw1
    conv => whnf
    repeat (first | ((with_reducible refine hK _ _ _ ?_); clear hK) | (with_reducible refine seq_step fun K hK => ?_) | ((with_reducible refine code_id ?_); conv => whnf) | (clear hK; (with_reducible refine hK _ _ _ ?_); clear hK) | (clear hK; clear hK; (with_reducible refine hK _ _ _ ?_); clear hK) | (clear hK; clear hK; clear hK; (with_reducible refine hK _ _ _ ?_); clear hK))
    refine loop_intro (σ := Nat × Hp) (fun s => [(0, .v (.slice (some ⟨bk, off, none⟩) len cap)), (3, .v (ptr t)), (4, .v (ptr b)), (5, .v (iv i)), (7, .v (iv s.1))]) (fun _ => []) (fun s => s.2)
      (fun s => s.1 ≤ 16 ∧ Has (EnvA t A1 l1 :: BkP b A1 l1 :: Is h :: []) s.2) (fun s => 16 - s.1) (0, g1) ⟨Nat.zero_le _, hg1⟩ (subE_cons rfl (subE_cons rfl (subE_cons rfl (subE_cons rfl (subE_cons rfl subE_nil))))) subB_nil rfl ?_
    rintro ⟨e, g2⟩ ⟨he, hg2⟩
    dsimp only at he hg2 ⊢
    repeat (first | ((with_reducible refine hK _ _ _ ?_); clear hK) | (with_reducible refine seq_step fun K hK => ?_) | ((with_reducible refine code_id ?_); conv => whnf) | (clear hK; (with_reducible refine hK _ _ _ ?_); clear hK) | (clear hK; clear hK; (with_reducible refine hK _ _ _ ?_); clear hK) | (clear hK; clear hK; clear hK; (with_reducible refine hK _ _ _ ?_); clear hK))
    refine cond_dec (fun hlt2 => ?_) (fun hge2 => ?_)
    · have he16 : e < 16 := by omega
      obtain ⟨pd, hpd, hg3⟩ := BkP.opn hg2.swap
      repeat (first | ((with_reducible refine hK _ _ _ ?_); clear hK) | (with_reducible refine seq_step fun K hK => ?_) | ((with_reducible refine code_id ?_); conv => whnf) | (clear hK; (with_reducible refine hK _ _ _ ?_); clear hK) | (clear hK; clear hK; (with_reducible refine hK _ _ _ ?_); clear hK) | (clear hK; clear hK; clear hK; (with_reducible refine hK _ _ _ ?_); clear hK))
      refine opt_if ⟨by omega, by omega⟩ ?_
      conv => whnf
      refine opt_ld (hg3.pt 0 rfl) (v := .bool (livesF A1 e)) ?_ ?_
      · show (bookC (lvG (livesF A1)) pd l1).toArray[0 + 0 + (e : Int).toNat * 1]? = _
        rw [show 0 + 0 + (e : Int).toNat * 1 = e by omega]
        exact bk_lv (lvG_len _) he16 (lvG_get _ he16)
      cases hl : livesF A1 e with
      | false =>
        conv => whnf
        repeat (first | ((with_reducible refine hK _ _ _ ?_); clear hK) | (with_reducible refine seq_step fun K hK => ?_) | ((with_reducible refine code_id ?_); conv => whnf) | (clear hK; (with_reducible refine hK _ _ _ ?_); clear hK) | (clear hK; clear hK; (with_reducible refine hK _ _ _ ?_); clear hK) | (clear hK; clear hK; clear hK; (with_reducible refine hK _ _ _ ?_); clear hK))
        exact ⟨(e + 1, g2), ⟨by show e + 1 ≤ 16; omega, hg2⟩, by show 16 - (e + 1) < 16 - e; omega, subE_cons rfl (subE_cons rfl (subE_cons rfl (subE_cons rfl (subE_cons (int_eq (wrap_nat (by omega)) rfl) subE_nil)))), subB_nil, rfl⟩
      | true =>
        obtain ⟨r, hr⟩ := Option.isSome_iff_exists.1 hl
        conv => whnf
        repeat (first | ((with_reducible refine hK _ _ _ ?_); clear hK) | (with_reducible refine seq_step fun K hK => ?_) | ((with_reducible refine code_id ?_); conv => whnf) | (clear hK; (with_reducible refine hK _ _ _ ?_); clear hK) | (clear hK; clear hK; (with_reducible refine hK _ _ _ ?_); clear hK) | (clear hK; clear hK; clear hK; (with_reducible refine hK _ _ _ ?_); clear hK))
        refine adds31 hw1 hr hg2 fun g4 hg4 => ?_
        conv => whnf
        repeat (first | ((with_reducible refine hK _ _ _ ?_); clear hK) | (with_reducible refine seq_step fun K hK => ?_) | ((with_reducible refine code_id ?_); conv => whnf) | (clear hK; (with_reducible refine hK _ _ _ ?_); clear hK) | (clear hK; clear hK; (with_reducible refine hK _ _ _ ?_); clear hK) | (clear hK; clear hK; clear hK; (with_reducible refine hK _ _ _ ?_); clear hK))
        exact ⟨(e + 1, g4), ⟨by show e + 1 ≤ 16; omega, hg4⟩, by show 16 - (e + 1) < 16 - e; omega, subE_cons rfl (subE_cons rfl (subE_cons rfl (subE_cons rfl (subE_cons (int_eq (wrap_nat (by omega)) rfl) subE_nil)))), subB_nil, rfl⟩
    · repeat (first | ((with_reducible refine hK _ _ _ ?_); clear hK) | (with_reducible refine seq_step fun K hK => ?_) | ((with_reducible refine code_id ?_); conv => whnf) | (clear hK; (with_reducible refine hK _ _ _ ?_); clear hK) | (clear hK; clear hK; (with_reducible refine hK _ _ _ ?_); clear hK) | (clear hK; clear hK; clear hK; (with_reducible refine hK _ _ _ ?_); clear hK))
      exact ⟨((i + 1, A1, l1), g2), ⟨show i + 1 ≤ len by omega, hw1, hg2⟩, show len - (i + 1) < len - i by omega, subE_cons rfl (subE_cons rfl (subE_cons rfl (subE_cons (int_eq (wrap_nat (by omega)) rfl) subE_nil))), subB_nil, rfl⟩
  · repeat (first | ((with_reducible refine hK _ _ _ ?_); clear hK) | (with_reducible refine seq_step fun K hK => ?_) | ((with_reducible refine code_id ?_); conv => whnf) | (clear hK; (with_reducible refine hK _ _ _ ?_); clear hK) | (clear hK; clear hK; (with_reducible refine hK _ _ _ ?_); clear hK) | (clear hK; clear hK; clear hK; (with_reducible refine hK _ _ _ ?_); clear hK))
    exact hq _ (hg.is 2 rfl)

end
end Go.Proofs.Ytljenppmdhldbaa.V
