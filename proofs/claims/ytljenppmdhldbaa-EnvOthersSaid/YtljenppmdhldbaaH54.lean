/- Seat 09: plain law of what a step tells anew. -/
import Derived.Test.YtljenppmdhldbaaH53
import Derived.Test.YtljenppmdhldbaaH26
import Derived.Test.YtljenppmdhldbaaH46
namespace Go.Proofs.Ytljenppmdhldbaa.V
set_option linter.unusedVariables false
set_option linter.unusedSimpArgs false
set_option linter.unusedSectionVars false
set_option linter.unusedSectionVars false
open Go

section
variable {A : Rs} {last : Int}

theorem info_up {f : Row → Row} (hf : Keep f) (e n : Int) : mInfo (upR A e f) n = match fnd A n with | none => (infZ, 90) | some r => (infOf A (if (r.num : Int) = e then f r else r), 0) := by
  have hl : ∀ r, infOf (upR A e f) r = infOf A r := fun r => by unfold infOf left; rw [carve_up hf]
  unfold mInfo
  rw [fnd_up hf]
  cases fnd A n with
  | none => rfl
  | some r => simp only [Option.map_some]; rw [hl]

/-- What a setting step leaves. -/
def SetTo (A B : Rs) (o : OpE) : Prop :=
  (∀ n : Int, n ≠ o.e → mInfo B n = mInfo A n) ∧ ((mInfo B o.e).2 ≠ 0 → B = A) ∧ ((mInfo B o.e).2 = 0 → (∃ r, fnd A o.e = some r) ∧ SetOk o (mInfo A o.e).1 (mInfo B o.e).1)

theorem info_lives (A : Rs) (n : Int) : ((mInfo A n).2 = 0) ↔ (fnd A n).isSome = true := by
  unfold mInfo
  cases fnd A n <;> simp

theorem set_to {o : OpE} {c : Row → Int} {f : Row → Row} (hf : Keep f) (h1 : ∀ r, fnd A o.e = some r → c r = 0 → SetOk o (infOf A r) (infOf A (f r)))
    (h0 : ∀ r, fnd A o.e = some r → c r ≠ 0 → SetOk o (infOf A r) (infOf A r)) : SetTo A (mSet A o.e c f).2 o := by
  unfold mSet
  cases hr : fnd A o.e with
  | none =>
    refine ⟨fun _ _ => rfl, fun _ => rfl, fun h => ?_⟩
    rw [info_lives] at h
    simp only at h
    rw [hr] at h; cases h
  | some r =>
    simp only
    have hrm := fnd_mem hr
    by_cases hc : c r = 0
    · rw [if_pos hc]
      refine ⟨fun n hn => ?_, fun h => ?_, fun _ => ⟨⟨r, hr⟩, ?_⟩⟩
      · show mInfo (upR A o.e f) n = _
        rw [info_up hf]
        unfold mInfo
        cases hx : fnd A n with
        | none => rfl
        | some x =>
          have := (fnd_mem hx).2
          simp only
          rw [if_neg (by omega)]
      · refine absurd ?_ h
        show (mInfo (upR A o.e f) o.e).2 = 0
        rw [info_up hf, hr]
      · show SetOk o (mInfo A o.e).1 (mInfo (upR A o.e f) o.e).1
        rw [info_up hf, show mInfo A o.e = (infOf A r, 0) by unfold mInfo; rw [hr], hr]
        simp only
        rw [if_pos hrm.2]
        exact h1 r hr hc
    · rw [if_neg hc]
      refine ⟨fun _ _ => rfl, fun _ => rfl, fun _ => ⟨⟨r, hr⟩, ?_⟩⟩
      show SetOk o (mInfo A o.e).1 (mInfo A o.e).1
      rw [show mInfo A o.e = (infOf A r, 0) by unfold mInfo; rw [hr]]
      exact h0 r hr hc

theorem step_to (hw : WF A last) (o : OpE) (h2 : o.kind ≠ 2) (h3 : o.kind ≠ 3) : SetTo A (step A last o).1 o := by
  have h8 : ∀ r, fnd A o.e = some r → r.regs.length = 8 := fun r hr => by
    have := info_ok hw o.e
    unfold mInfo at this; rw [hr] at this; exact this
  have hset : ∀ r, fnd A o.e = some r → r.regs = (r.regs.set 0 (r.regs.getD 0 0)).set 1 (r.regs.getD 1 0) := fun r hr => by
    obtain ⟨g0, g1, g2, g3, g4, g5, g6, g7, hg⟩ := eight (h8 r hr)
    rw [hg]; rfl
  unfold V.step
  rw [if_neg h2, if_neg h3]
  by_cases k11 : o.kind = 11
  · rw [if_pos k11]
    refine set_to (kPay o.q) (fun r _ _ => ?_) (fun r _ _ => ?_)
    · unfold SetOk; rw [if_neg (show ¬ o.kind = 5 by omega), if_neg (show ¬ o.kind = 6 by omega), if_neg (show ¬ o.kind = 7 by omega), if_neg (show ¬ o.kind = 10 by omega), if_pos (.inl k11)]; rfl
    · unfold SetOk; rw [if_neg (show ¬ o.kind = 5 by omega), if_neg (show ¬ o.kind = 6 by omega), if_neg (show ¬ o.kind = 7 by omega), if_neg (show ¬ o.kind = 10 by omega), if_pos (.inl k11)]
  rw [if_neg k11]
  by_cases k12 : o.kind = 12
  · rw [if_pos k12]
    refine set_to (kRefund o.q) (fun r _ _ => ?_) (fun r _ _ => ?_)
    · unfold SetOk; rw [if_neg (show ¬ o.kind = 5 by omega), if_neg (show ¬ o.kind = 6 by omega), if_neg (show ¬ o.kind = 7 by omega), if_neg (show ¬ o.kind = 10 by omega), if_pos (.inr k12)]; rfl
    · unfold SetOk; rw [if_neg (show ¬ o.kind = 5 by omega), if_neg (show ¬ o.kind = 6 by omega), if_neg (show ¬ o.kind = 7 by omega), if_neg (show ¬ o.kind = 10 by omega), if_pos (.inr k12)]
  rw [if_neg k12]
  by_cases k5 : o.kind = 5
  · rw [if_pos k5]
    refine set_to (kRegs o.regs o.pc) (fun r _ _ => ?_) (fun r _ h => absurd rfl h)
    unfold SetOk; rw [if_pos k5]; rfl
  rw [if_neg k5]
  by_cases k6 : o.kind = 6
  · rw [if_pos k6]
    refine set_to (kState o.n o.m) (fun r _ hc => ?_) (fun r _ hc => ?_)
    · have hc' : (0 ≤ o.n ∧ o.n ≤ 4) ∧ isW o.m := by
        split at hc
        · assumption
        · cases hc
      unfold SetOk; rw [if_neg k5, if_pos k6, if_pos hc']; rfl
    · have hc' : ¬ ((0 ≤ o.n ∧ o.n ≤ 4) ∧ isW o.m) := by
        intro h; rw [if_pos h] at hc; exact hc rfl
      unfold SetOk; rw [if_neg k5, if_pos k6, if_neg hc']
  rw [if_neg k6]
  by_cases k7 : o.kind = 7
  · rw [if_pos k7]
    refine set_to (kBits o.n) (fun r _ hc => ?_) (fun r _ hc => ?_)
    · have hc' : isW o.n := by
        unfold cW at hc
        split at hc
        · assumption
        · cases hc
      unfold SetOk; rw [if_neg k5, if_neg k6, if_pos k7, if_pos hc']; rfl
    · have hc' : ¬ isW o.n := by
        intro h; unfold cW at hc; rw [if_pos h] at hc; exact hc rfl
      unfold SetOk; rw [if_neg k5, if_neg k6, if_pos k7, if_neg hc']
  rw [if_neg k7]
  by_cases k8 : o.kind = 8
  · rw [if_pos k8]
    refine set_to (kNotify o.n) (fun r hr _ => ?_) (fun r hr _ => ?_)
    · have h := hset r hr
      obtain ⟨g0, g1, g2, g3, g4, g5, g6, g7, hg⟩ := eight (h8 r hr)
      unfold SetOk; rw [if_neg (show ¬ o.kind = 5 by omega), if_neg (show ¬ o.kind = 6 by omega), if_neg (show ¬ o.kind = 7 by omega), if_neg (show ¬ o.kind = 10 by omega), if_neg (show ¬ (o.kind = 11 ∨ o.kind = 12) by omega), if_pos (.inl k8)]
      unfold fNotify
      split
      · unfold infOf left; simp [hg]
      · unfold infOf left; simp [hg]
    · have h := hset r hr
      obtain ⟨g0, g1, g2, g3, g4, g5, g6, g7, hg⟩ := eight (h8 r hr)
      unfold SetOk; rw [if_neg (show ¬ o.kind = 5 by omega), if_neg (show ¬ o.kind = 6 by omega), if_neg (show ¬ o.kind = 7 by omega), if_neg (show ¬ o.kind = 10 by omega), if_neg (show ¬ (o.kind = 11 ∨ o.kind = 12) by omega), if_pos (.inl k8)]
      unfold infOf left; simp [hg]
  rw [if_neg k8]
  by_cases k9 : o.kind = 9
  · rw [if_pos k9]
    unfold mWait
    refine set_to kWait (fun r hr _ => ?_) (fun r hr h => absurd rfl h)
    obtain ⟨g0, g1, g2, g3, g4, g5, g6, g7, hg⟩ := eight (h8 r hr)
    unfold SetOk; rw [if_neg (show ¬ o.kind = 5 by omega), if_neg (show ¬ o.kind = 6 by omega), if_neg (show ¬ o.kind = 7 by omega), if_neg (show ¬ o.kind = 10 by omega), if_neg (show ¬ (o.kind = 11 ∨ o.kind = 12) by omega), if_pos (.inr k9)]
    unfold fWait
    split
    · unfold infOf left; simp [hg]
    · unfold infOf left; simp [hg]
  rw [if_neg k9]
  by_cases k10 : o.kind = 10
  · rw [if_pos k10]
    refine set_to (kFreeze o.on) (fun r _ _ => ?_) (fun r _ h => absurd rfl h)
    unfold SetOk; rw [if_neg (show ¬ o.kind = 5 by omega), if_neg (show ¬ o.kind = 6 by omega), if_neg (show ¬ o.kind = 7 by omega), if_pos k10]; rfl
  rw [if_neg k10]
  refine ⟨fun _ _ => rfl, fun _ => rfl, fun h => ⟨Option.isSome_iff_exists.1 ((info_lives _ _).1 h), ?_⟩⟩
  unfold SetOk
  rw [if_neg k5, if_neg k6, if_neg k7, if_neg k10, if_neg (by omega), if_neg (by omega)]

/-- What Create and Destroy leave. -/
def ComeTo (A B : Rs) (P : Int) : Prop :=
  (∀ n : Nat, n < 16 → livesF A n = livesF B n → (mInfo A (n : Int)).2 = (mInfo B (n : Int)).2 ∧ (mInfo B (n : Int)).1 = (if (n : Int) = P then { (mInfo A (n : Int)).1 with left := (mInfo B (n : Int)).1.left } else (mInfo A (n : Int)).1)) ∧
  ((∀ n : Nat, n < 16 → livesF A n = livesF B n) → B = A)

theorem come_same (A : Rs) (P : Int) : ComeTo A A P := ⟨fun n _ _ => ⟨rfl, by split <;> rfl⟩, fun _ => rfl⟩

theorem carve_of {B : Rs} {n : Int} (h : kidsR B n = kidsR A n) (r : Row) (hr : (r.num : Int) = n) : infOf B r = infOf A r := by
  unfold infOf left carve; rw [hr, h]

theorem come_to (hw : WF A last) (o : OpE) (h2 : o.kind = 2 ∨ o.kind = 3) {P : Int} (hP2 : o.kind = 2 → P = o.e) (hP3 : o.kind = 3 → ∀ r, fnd A o.e = some r → P = r.parent) : ComeTo A (step A last o).1 P := by
  unfold V.step
  rcases h2 with hk | hk
  · rw [if_pos hk, hP2 hk]
    rcases mCreate_cases A last o.e o.n o.q with ⟨c, hc, he⟩ | ⟨k, p, hk1, hk2, _, hp, hg, hl1, hl2, hle, he⟩
    · rw [he]; exact come_same A _
    · rw [he]
      show ComeTo A (A ++ [mkRow k o.n o.e o.q]) o.e
      refine ⟨fun n hn hs => ?_, fun hall => ?_⟩
      · unfold livesF at hs
        have hnk : n ≠ k := fun e => by
          subst e
          rw [fnd_app, hk2, if_pos (show (((mkRow n o.n o.e o.q).num : Nat) : Int) = n from rfl)] at hs
          cases hs
        have hf : fnd (A ++ [mkRow k o.n o.e o.q]) (n : Int) = fnd A n := by
          rw [fnd_app, if_neg (show ¬ (((mkRow k o.n o.e o.q).num : Nat) : Int) = n by show ¬ ((k : Nat) : Int) = n; omega), Option.or_none]
        unfold mInfo
        rw [hf]
        cases hx : fnd A (n : Int) with
        | none => exact ⟨rfl, by simp only; split <;> rfl⟩
        | some x =>
          refine ⟨rfl, ?_⟩
          simp only
          split
          · rfl
          · next hne =>
            refine carve_of (n := n) ?_ x (fnd_mem hx).2
            rw [kidsR_app, if_neg (show ¬ (mkRow k o.n o.e o.q).parent = n from fun h => hne h.symm), List.append_nil]
      · have := hall k hk1
        unfold livesF at this
        rw [fnd_app, hk2, if_pos (show (((mkRow k o.n o.e o.q).num : Nat) : Int) = k from rfl)] at this
        cases this
  · rw [if_neg (show ¬ o.kind = 2 by omega), if_pos hk]
    rcases mDestroy_cases A o.e with ⟨c, hc, he⟩ | ⟨r, hr, h0, he⟩
    · rw [he]; exact come_same A _
    · rw [he]
      have hrm := fnd_mem hr
      rw [hP3 hk r hr]
      show ComeTo A (cut A o.e) r.parent
      refine ⟨fun n hn hs => ?_, fun hall => ?_⟩
      · unfold livesF at hs
        rw [fnd_cut A hw.nd] at hs
        have hf : fnd (cut A o.e) (n : Int) = fnd A n := by
          rw [fnd_cut A hw.nd]
          by_cases hm : (n : Int) ∈ walk A o.e
          · rw [if_pos hm] at hs ⊢
            cases hx : fnd A (n : Int) with
            | none => rfl
            | some x => rw [hx] at hs; cases hs
          · rw [if_neg hm]
        unfold mInfo
        rw [hf]
        cases hx : fnd A (n : Int) with
        | none => exact ⟨rfl, by simp only; split <;> rfl⟩
        | some x =>
          refine ⟨rfl, ?_⟩
          simp only
          split
          · rfl
          · next hne =>
            refine carve_of (n := n) (kidsR_same hw hr (fun hm => ?_) hne) x (fnd_mem hx).2
            rw [if_pos hm, hx] at hs; cases hs
      · have hlt := hw.lt r hrm.1
        have := hall r.num hlt
        unfold livesF at this
        rw [fnd_cut A hw.nd, hrm.2, if_pos (self_walk A o.e), hr] at this
        cases this
end
end Go.Proofs.Ytljenppmdhldbaa.V
