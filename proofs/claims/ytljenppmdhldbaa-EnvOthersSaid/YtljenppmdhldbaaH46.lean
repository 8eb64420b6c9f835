/- Seat 09: who runs. -/
import Derived.Test.YtljenppmdhldbaaH32
namespace Go.Proofs.Ytljenppmdhldbaa.V
set_option linter.unusedVariables false
set_option linter.unusedSimpArgs false
set_option linter.unusedSectionVars false
set_option linter.unusedSectionVars false
open Go

section
variable {A : Rs} {last : Int}

theorem ups_up {f : Row → Row} (hf : Keep f) (e : Int) : ∀ (n : Nat) (k : Int), ups (upR A e f) n k = ups A n k
  | 0, k => rfl
  | n + 1, k => by
    simp only [ups, fnd_up hf]
    cases h : fnd A k with
    | none => rfl
    | some r =>
      simp only [Option.map_some]
      have : (if (r.num : Int) = e then f r else r).parent = r.parent := by split; exact (hf r).2.1; rfl
      rw [this, ups_up hf e n]

theorem chain_set {f : Row → Row} (hf : Keep f) {e : Int} {c : Row → Int} (k : Int) : chain (mSet A e c f).2 k = chain A k := by
  unfold mSet
  cases h : fnd A e with
  | none => rfl
  | some r =>
    simp only
    split
    · exact ups_up hf e 16 k
    · rfl

theorem fnd_freeze (A : Rs) (e : Int) (on : Bool) (k : Int) : fnd (mFreeze A e on).2 k = (fnd A k).map fun r => if (r.num : Int) = e then fFreeze on r else r := by
  unfold mFreeze mSet
  cases h : fnd A e with
  | none =>
    simp only
    cases hk : fnd A k with
    | none => rfl
    | some r =>
      have h1 := fnd_mem hk
      simp only [Option.map_some]
      rw [if_neg (fnd_none.1 h r h1.1)]
  | some r => simp only [if_true]; exact fnd_up (kFreeze on) k

theorem frzn_freeze (A : Rs) (e : Int) (on : Bool) (k : Int) : frzn (mFreeze A e on).2 k = if k = e ∧ (fnd A e).isSome then on else frzn A k := by
  unfold frzn
  rw [fnd_freeze]
  cases hk : fnd A k with
  | none =>
    by_cases h : k = e ∧ (fnd A e).isSome
    · rw [← h.1, hk] at h; exact absurd h.2 (by simp)
    · rw [if_neg h]; rfl
  | some r =>
    have h1 := fnd_mem hk
    simp only [Option.map_some, Option.any_some]
    by_cases h : k = e
    · rw [if_pos (by omega), if_pos ⟨h, by rw [← h, hk]; rfl⟩]; rfl
    · rw [if_neg (by omega), if_neg fun x => h x.1]

theorem state_freeze (A : Rs) (e : Int) (on : Bool) (k : Int) : (fnd (mFreeze A e on).2 k).any (fun r => decide (r.state = 1)) = (fnd A k).any (fun r => decide (r.state = 1)) := by
  rw [fnd_freeze]
  cases fnd A k with
  | none => rfl
  | some r => simp only [Option.map_some, Option.any_some]; split <;> rfl

theorem any_eq {α : Type} {p q : α → Bool} : ∀ {l : List α}, (∀ x ∈ l, p x = q x) → l.any p = l.any q
  | [], _ => rfl
  | x :: l, h => by rw [List.any_cons, List.any_cons, h x (List.mem_cons_self ..), any_eq fun y hy => h y (List.mem_cons_of_mem _ hy)]

theorem runs_freeze (hw : WF A last) (e k : Int) : mRuns (mFreeze (mFreeze A e false).2 e true).2 k = (mRuns (mFreeze A e false).2 k && !mInside (mFreeze (mFreeze A e false).2 e true).2 e k) := by
  unfold mRuns mInside
  have hc : ∀ (B : Rs) (on : Bool), chain (mFreeze B e on).2 k = chain B k := fun B on => chain_set (kFreeze on) k
  rw [hc, hc, state_freeze, state_freeze]
  have hs : (fnd (mFreeze (mFreeze A e false).2 e true).2 e).isSome = (fnd A e).isSome := by rw [fnd_freeze, fnd_freeze]; cases fnd A e <;> rfl
  rw [hs]
  by_cases he : (fnd A e).isSome = true ∧ e ∈ chain A k
  · have h1 : (chain A k).any (frzn (mFreeze (mFreeze A e false).2 e true).2) = true := by
      rw [List.any_eq_true]
      refine ⟨e, he.2, ?_⟩
      rw [frzn_freeze, if_pos ⟨rfl, by rw [fnd_freeze]; cases h : fnd A e with | none => rw [h] at he; exact absurd he.1 (by simp) | some r => rfl⟩]
    rw [h1]
    simp [he.1, he.2]
  · have h1 : (chain A k).any (frzn (mFreeze (mFreeze A e false).2 e true).2) = (chain A k).any (frzn (mFreeze A e false).2) := any_eq fun x hx => by
      rw [frzn_freeze, if_neg]
      rintro ⟨rfl, h2⟩
      refine he ⟨?_, hx⟩
      rw [fnd_freeze] at h2
      cases h : fnd A x with
      | none => rw [h] at h2; cases h2
      | some r => rfl
    rw [h1]
    have h2 : ((fnd A e).isSome && (chain A k).contains e) = false := by
      cases h : (fnd A e).isSome with
      | false => rfl
      | true =>
        have : e ∉ chain A k := fun x => he ⟨h, x⟩
        simp [this]
    rw [h2]; simp

theorem runs_thaw (e k : Int) : mRuns (mFreeze (mFreeze (mFreeze A e false).2 e true).2 e false).2 k = mRuns (mFreeze A e false).2 k := by
  unfold mRuns
  have hc : ∀ (B : Rs) (on : Bool), chain (mFreeze B e on).2 k = chain B k := fun B on => chain_set (kFreeze on) k
  rw [hc, hc, hc, state_freeze, state_freeze, state_freeze]
  have hs : ∀ (B : Rs) (on : Bool), (fnd (mFreeze B e on).2 e).isSome = (fnd B e).isSome := fun B on => by rw [fnd_freeze]; cases fnd B e <;> rfl
  congr 2
  refine any_eq fun x _ => ?_
  rw [frzn_freeze, frzn_freeze, frzn_freeze, hs, hs]
  by_cases h : x = e ∧ (fnd A e).isSome = true
  · rw [if_pos h, if_pos h]
  · rw [if_neg h, if_neg h, if_neg h]

def runsL (A : Rs) : List Value := (List.range 16).map fun k : Nat => Value.bool (mRuns A (k : Int))
theorem runsL_len (A : Rs) : (runsL A).length = 16 := by simp [runsL]

end

section
variable {h : Hp} {Q : Value → Hp → Prop} {L : List As} {t : Nat} {A : Rs} {last : Int}

theorem chain_16 (hw : WF A last) (e : Int) : (chain A e).length ≤ 16 := by
  have : ∀ (n : Nat) (k : Int), (ups A n k).length ≤ n := by
    intro n
    induction n with
    | zero => intro k; exact Nat.le_refl _
    | succ n ih =>
      intro k
      unfold ups
      cases fnd A k with
      | none => exact Nat.zero_le _
      | some r => simp only [List.length_cons]; have := ih r.parent; omega
  exact this 16 e

theorem flagged32 (hw : WF A last) {e : Int} {r : Row} (hr : fnd A e = some r) (hh : EnvA t A last h) (hq : Q (.bool ((chain A e).any (frzn A))) h) : Ok PR 32 [ptr t, iv e] h Q := by
  have h16 := chain_16 hw e
  refine e32 rfl (seq_step fun K hK => ?_)
  repeat (first | ((with_reducible refine hK _ _ _ ?_); clear hK) | (with_reducible refine seq_step fun K hK => ?_) | ((with_reducible refine code_id ?_); conv => whnf) | (clear hK; (with_reducible refine hK _ _ _ ?_); clear hK) | (clear hK; clear hK; (with_reducible refine hK _ _ _ ?_); clear hK) | (clear hK; clear hK; clear hK; (with_reducible refine hK _ _ _ ?_); clear hK))
  refine loop_intro (σ := Nat × Int) (fun s => [(0, .v (ptr t)), (1, .v (iv s.2)), (5, .v (iv s.1))]) (fun _ => []) (fun _ => h)
    (fun s => (chain A e).any (frzn A) = (chain A s.2).any (frzn A) ∧ s.1 + (chain A s.2).length ≤ 16 ∧ (s.2 = -1 ∨ ∃ x, fnd A s.2 = some x)) (fun s => 17 - s.1) (0, e) ⟨rfl, by show 0 + (chain A e).length ≤ 16; omega, .inr ⟨r, hr⟩⟩
    (subE_cons rfl (subE_cons rfl (subE_cons rfl subE_nil))) subB_nil rfl ?_
  rintro ⟨n, k⟩ ⟨hc, hn, hk⟩
  dsimp only at hc hn hk ⊢
  repeat (first | ((with_reducible refine hK _ _ _ ?_); clear hK) | (with_reducible refine seq_step fun K hK => ?_) | ((with_reducible refine code_id ?_); conv => whnf) | (clear hK; (with_reducible refine hK _ _ _ ?_); clear hK) | (clear hK; clear hK; (with_reducible refine hK _ _ _ ?_); clear hK) | (clear hK; clear hK; clear hK; (with_reducible refine hK _ _ _ ?_); clear hK))
  rw [show decide ((n : Int) ≤ 16) = true from decide_eq_true (by omega)]
  conv => whnf
  rcases hk with rfl | ⟨x, hx⟩
  · repeat (first | ((with_reducible refine hK _ _ _ ?_); clear hK) | (with_reducible refine seq_step fun K hK => ?_) | ((with_reducible refine code_id ?_); conv => whnf) | (clear hK; (with_reducible refine hK _ _ _ ?_); clear hK) | (clear hK; clear hK; (with_reducible refine hK _ _ _ ?_); clear hK) | (clear hK; clear hK; clear hK; (with_reducible refine hK _ _ _ ?_); clear hK))
    rw [hc, chain_none (fnd_none.2 fun y hy he => by omega)] at hq
    exact hq
  · have hxm := fnd_mem hx
    obtain ⟨g0, g1, g2, g3, g4, g5, g6, g7, _, hL⟩ := infC_L (x := infOf A x) (hw.rg x hxm.1)
    rw [chain_some hw hx, List.length_cons] at hn
    rw [show decide (k ≥ 0) = true from decide_eq_true (by omega)]
    conv => whnf
    repeat (first | ((with_reducible refine hK _ _ _ ?_); clear hK) | (with_reducible refine seq_step fun K hK => ?_) | ((with_reducible refine code_id ?_); conv => whnf) | (clear hK; (with_reducible refine hK _ _ _ ?_); clear hK) | (clear hK; clear hK; (with_reducible refine hK _ _ _ ?_); clear hK) | (clear hK; clear hK; clear hK; (with_reducible refine hK _ _ _ ?_); clear hK))
    refine info19A (L := []) hw k (Has.one hh) ?_
    rw [show mInfo A k = (infOf A x, 0) by unfold mInfo; rw [hx]]
    rw [hL, show infL (infOf A x) g0 g1 g2 g3 g4 g5 g6 g7 = [iv x.serial, iv x.parent, iv x.state, iv x.code, iv x.bits, .bool x.frozen, u32v g0, u32v g1, u32v g2, u32v g3, u32v g4, u32v g5, u32v g6, u32v g7, u32v x.pc, iv x.whole.1, iv x.whole.2.1, iv x.whole.2.2, iv (left A x).1, iv (left A x).2.1, iv (left A x).2.2] from rfl]
    conv => whnf
    repeat (first | ((with_reducible refine hK _ _ _ ?_); clear hK) | (with_reducible refine seq_step fun K hK => ?_) | ((with_reducible refine code_id ?_); conv => whnf) | (clear hK; (with_reducible refine hK _ _ _ ?_); clear hK) | (clear hK; clear hK; (with_reducible refine hK _ _ _ ?_); clear hK) | (clear hK; clear hK; clear hK; (with_reducible refine hK _ _ _ ?_); clear hK))
    refine cond_split (fun hf => ?_) (fun hf => ?_)
    · repeat (first | ((with_reducible refine hK _ _ _ ?_); clear hK) | (with_reducible refine seq_step fun K hK => ?_) | ((with_reducible refine code_id ?_); conv => whnf) | (clear hK; (with_reducible refine hK _ _ _ ?_); clear hK) | (clear hK; clear hK; (with_reducible refine hK _ _ _ ?_); clear hK) | (clear hK; clear hK; clear hK; (with_reducible refine hK _ _ _ ?_); clear hK))
      rw [hc, chain_some hw hx] at hq
      simp only [List.any_cons, frzn, hx, Option.any_some, hf, Bool.true_or] at hq
      exact hq
    · repeat (first | ((with_reducible refine hK _ _ _ ?_); clear hK) | (with_reducible refine seq_step fun K hK => ?_) | ((with_reducible refine code_id ?_); conv => whnf) | (clear hK; (with_reducible refine hK _ _ _ ?_); clear hK) | (clear hK; clear hK; (with_reducible refine hK _ _ _ ?_); clear hK) | (clear hK; clear hK; clear hK; (with_reducible refine hK _ _ _ ?_); clear hK))
      refine ⟨(n + 1, x.parent), ⟨?_, by show n + 1 + (chain A x.parent).length ≤ 16; omega, ?_⟩, by show 17 - (n + 1) < 17 - n; omega, subE_cons rfl (subE_cons rfl (subE_cons (int_eq (wrap_nat (by omega)) rfl) subE_nil)), subB_nil, rfl⟩
      · show (chain A e).any (frzn A) = (chain A x.parent).any (frzn A)
        rw [hc, chain_some hw hx]
        simp only [List.any_cons, frzn, hx, Option.any_some, hf, Bool.false_or]
      · rcases hw.par x hxm.1 with ⟨_, h2⟩ | ⟨_, p, hp, h2, _⟩
        · exact .inl h2
        · exact .inr ⟨p, by show fnd A x.parent = some p; rw [h2]; exact fnd_of hw.nd hp⟩

def runsAt (A : Rs) (i : Nat) : List Value := (List.range 16).map fun k : Nat => Value.bool (if k < i then mRuns A (k : Int) else false)
theorem runsAt_get (A : Rs) (i j : Nat) : (runsAt A i)[j]? = if j < 16 then some (Value.bool (if j < i then mRuns A (j : Int) else false)) else none := by
  by_cases h : j < 16 <;> simp [runsAt, h]

theorem running34 (hw : WF A last) (hh : EnvA t A last h) (hq : Q (.agg (runsL A).toArray) h) : Ok PR 34 [ptr t] h Q := by
  refine e34 rfl (seq_step fun K hK => ?_)
  repeat (first | ((with_reducible refine hK _ _ _ ?_); clear hK) | (with_reducible refine seq_step fun K hK => ?_) | ((with_reducible refine code_id ?_); conv => whnf) | (clear hK; (with_reducible refine hK _ _ _ ?_); clear hK) | (clear hK; clear hK; (with_reducible refine hK _ _ _ ?_); clear hK) | (clear hK; clear hK; clear hK; (with_reducible refine hK _ _ _ ?_); clear hK))
  refine loop_intro (σ := Nat) (fun s => [(0, .v (ptr t)), (2, .l 2 0), (3, .l 3 0), (4, .v (iv s))]) (fun s => [(3, runsAt A s), (2, runsAt A 0)]) (fun _ => h) (fun s => s ≤ 16) (fun s => 16 - s) 0 (Nat.zero_le _)
    (subE_cons rfl (subE_cons rfl (subE_cons rfl (subE_cons rfl subE_nil)))) (subB_cons rfl (subB_cons rfl subB_nil)) rfl ?_
  intro i hi
  have hl : (runsAt A i).length = 16 := by simp [runsAt]
  repeat (first | ((with_reducible refine hK _ _ _ ?_); clear hK) | (with_reducible refine seq_step fun K hK => ?_) | ((with_reducible refine code_id ?_); conv => whnf) | (clear hK; (with_reducible refine hK _ _ _ ?_); clear hK) | (clear hK; clear hK; (with_reducible refine hK _ _ _ ?_); clear hK) | (clear hK; clear hK; clear hK; (with_reducible refine hK _ _ _ ?_); clear hK))
  refine cond_dec (fun hlt => ?_) (fun hge => ?_)
  · have hi16 : i < 16 := by omega
    repeat (first | ((with_reducible refine hK _ _ _ ?_); clear hK) | (with_reducible refine seq_step fun K hK => ?_) | ((with_reducible refine code_id ?_); conv => whnf) | (clear hK; (with_reducible refine hK _ _ _ ?_); clear hK) | (clear hK; clear hK; (with_reducible refine hK _ _ _ ?_); clear hK) | (clear hK; clear hK; clear hK; (with_reducible refine hK _ _ _ ?_); clear hK))
    refine runs17A (L := []) hw i (Has.one hh) ?_
    conv => whnf
    refine opt_if ⟨by omega, by omega⟩ ?_
    conv => whnf
    refine opt_stLo (c' := runsAt A (i + 1)) rfl rfl ?_ rfl ?_ ?_
    · rw [hl]; omega
    · rw [show 0 + (i : Int).toNat * 1 = i by omega]
      show wrL (runsAt A i) i [.bool (mRuns A i)] = _
      rw [wrL_one _ (by rw [hl]; exact hi16)]
      apply List.ext_getElem?
      intro j
      rw [List.getElem?_set, runsAt_get, runsAt_get, hl]
      by_cases hj : i = j
      · subst hj; rw [if_pos rfl, if_pos hi16, if_pos hi16, if_pos (by omega)]
      · rw [if_neg hj]; by_cases h16 : j < 16 <;> simp [h16, show (j < i) = (j < i + 1) by apply propext; omega]
    conv => whnf
    repeat (first | ((with_reducible refine hK _ _ _ ?_); clear hK) | (with_reducible refine seq_step fun K hK => ?_) | ((with_reducible refine code_id ?_); conv => whnf) | (clear hK; (with_reducible refine hK _ _ _ ?_); clear hK) | (clear hK; clear hK; (with_reducible refine hK _ _ _ ?_); clear hK) | (clear hK; clear hK; clear hK; (with_reducible refine hK _ _ _ ?_); clear hK))
    exact ⟨i + 1, by omega, by omega, subE_cons rfl (subE_cons rfl (subE_cons rfl (subE_cons (int_eq (wrap_nat (by omega)) rfl) subE_nil))), subB_cons rfl (subB_cons rfl subB_nil), rfl⟩
  · have hi16 : i = 16 := by omega
    subst hi16
    have ht : runsAt A 16 = runsL A := List.map_congr_left fun n hn => by rw [if_pos (List.mem_range.1 hn)]
    rw [ht]
    repeat (first | ((with_reducible refine hK _ _ _ ?_); clear hK) | (with_reducible refine seq_step fun K hK => ?_) | ((with_reducible refine code_id ?_); conv => whnf) | (clear hK; (with_reducible refine hK _ _ _ ?_); clear hK) | (clear hK; clear hK; (with_reducible refine hK _ _ _ ?_); clear hK) | (clear hK; clear hK; clear hK; (with_reducible refine hK _ _ _ ?_); clear hK))
    exact hq

end
end Go.Proofs.Ytljenppmdhldbaa.V
