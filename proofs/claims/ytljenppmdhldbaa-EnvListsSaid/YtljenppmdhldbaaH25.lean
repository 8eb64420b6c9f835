/- Seat 09: what the statements' own book answers. -/
import Derived.Test.YtljenppmdhldbaaH24
namespace Go.Proofs.Ytljenppmdhldbaa.V
set_option linter.unusedVariables false
set_option linter.unusedSimpArgs false
set_option linter.unusedSectionVars false
set_option linter.unusedSectionVars false
open Go

def sm (n : Int) : Prop := -4611686018427387903 ≤ n ∧ n ≤ 4611686018427387903
def qsm (q : Q3) : Prop := sm q.1 ∧ sm q.2.1 ∧ sm q.2.2

section
variable {h : Hp} {Q : Value → Hp → Prop} {L : List As} {b : Nat} {A : Rs} {last : Int}

theorem lives28 (hl : ∀ r ∈ A, r.num < 16) (e : Int) (hh : BkP b A last h) (hq : Q (.bool (fnd A e).isSome) h) : Ok PR 28 [ptr b, iv e] h Q := by
  obtain ⟨pd, ⟨hpl, hpd⟩, hp⟩ := hh
  refine e28 rfl (seq_step fun K hK => ?_)
  repeat (first | ((with_reducible refine hK _ _ _ ?_); clear hK) | (with_reducible refine seq_step fun K hK => ?_) | ((with_reducible refine code_id ?_); conv => whnf) | (clear hK; (with_reducible refine hK _ _ _ ?_); clear hK) | (clear hK; clear hK; (with_reducible refine hK _ _ _ ?_); clear hK) | (clear hK; clear hK; clear hK; (with_reducible refine hK _ _ _ ?_); clear hK))
  by_cases h0 : e ≥ 0
  · rw [decide_eq_true h0]
    conv => whnf
    by_cases h1 : e < 16
    · rw [decide_eq_true h1]
      conv => whnf
      refine opt_if ⟨by omega, by omega⟩ ?_
      conv => whnf
      obtain ⟨n, rfl⟩ := Int.eq_ofNat_of_zero_le h0
      refine opt_ld hp (v := .bool (livesF A n)) ?_ ?_
      · show (bookC (lvG (livesF A)) pd last).toArray[0 + 0 + (n : Int).toNat * 1]? = _
        rw [show 0 + 0 + (n : Int).toNat * 1 = n by omega]
        exact bk_lv (lvG_len _) (by omega) (lvG_get _ (by omega))
      conv => whnf
      repeat (first | ((with_reducible refine hK _ _ _ ?_); clear hK) | (with_reducible refine seq_step fun K hK => ?_) | ((with_reducible refine code_id ?_); conv => whnf) | (clear hK; (with_reducible refine hK _ _ _ ?_); clear hK) | (clear hK; clear hK; (with_reducible refine hK _ _ _ ?_); clear hK) | (clear hK; clear hK; clear hK; (with_reducible refine hK _ _ _ ?_); clear hK))
      exact hq
    · rw [decide_eq_false h1]
      conv => whnf
      repeat (first | ((with_reducible refine hK _ _ _ ?_); clear hK) | (with_reducible refine seq_step fun K hK => ?_) | ((with_reducible refine code_id ?_); conv => whnf) | (clear hK; (with_reducible refine hK _ _ _ ?_); clear hK) | (clear hK; clear hK; (with_reducible refine hK _ _ _ ?_); clear hK) | (clear hK; clear hK; clear hK; (with_reducible refine hK _ _ _ ?_); clear hK))
      rw [fnd_none.2 fun r hr h2 => by have := hl r hr; omega] at hq
      exact hq
  · rw [decide_eq_false h0]
    conv => whnf
    repeat (first | ((with_reducible refine hK _ _ _ ?_); clear hK) | (with_reducible refine seq_step fun K hK => ?_) | ((with_reducible refine code_id ?_); conv => whnf) | (clear hK; (with_reducible refine hK _ _ _ ?_); clear hK) | (clear hK; clear hK; (with_reducible refine hK _ _ _ ?_); clear hK) | (clear hK; clear hK; clear hK; (with_reducible refine hK _ _ _ ?_); clear hK))
    rw [fnd_none.2 fun r hr h2 => by omega] at hq
    exact hq

theorem add29p (p q : Q3) (h1 : qsm p) (h2 : qsm q) (hq : Q (aq (qadd p q)) h) : Ok PR 29 [aq p, aq q, iv 1] h Q := by
  refine e29 rfl (seq_step fun K hK => ?_)
  obtain ⟨a, b, c⟩ := p
  obtain ⟨a', b', c'⟩ := q
  obtain ⟨⟨i1, i2⟩, ⟨i3, i4⟩, ⟨i5, i6⟩⟩ := h1
  obtain ⟨⟨j1, j2⟩, ⟨j3, j4⟩, ⟨j5, j6⟩⟩ := h2
  dsimp only at i1 i2 i3 i4 i5 i6 j1 j2 j3 j4 j5 j6
  repeat (first | ((with_reducible refine hK _ _ _ ?_); clear hK) | (with_reducible refine seq_step fun K hK => ?_) | ((with_reducible refine code_id ?_); conv => whnf) | (clear hK; (with_reducible refine hK _ _ _ ?_); clear hK) | (clear hK; clear hK; (with_reducible refine hK _ _ _ ?_); clear hK) | (clear hK; clear hK; clear hK; (with_reducible refine hK _ _ _ ?_); clear hK))
  show Q (.agg #[iv (IntKind.i64.wrap (a + IntKind.i64.wrap (1 * a'))), iv (IntKind.i64.wrap (b + IntKind.i64.wrap (1 * b'))), iv (IntKind.i64.wrap (c + IntKind.i64.wrap (1 * c')))]) h
  rw [Int.one_mul, Int.one_mul, Int.one_mul, wrap_i64 (x := a') (by omega) (by omega), wrap_i64 (x := b') (by omega) (by omega), wrap_i64 (x := c') (by omega) (by omega),
    wrap_i64 (x := a + a') (by omega) (by omega), wrap_i64 (x := b + b') (by omega) (by omega), wrap_i64 (x := c + c') (by omega) (by omega)]
  exact hq

theorem add29m (p q : Q3) (h1 : qsm p) (h2 : qsm q) (hq : Q (aq (qsub p q)) h) : Ok PR 29 [aq p, aq q, iv (-1)] h Q := by
  refine e29 rfl (seq_step fun K hK => ?_)
  obtain ⟨a, b, c⟩ := p
  obtain ⟨a', b', c'⟩ := q
  obtain ⟨⟨i1, i2⟩, ⟨i3, i4⟩, ⟨i5, i6⟩⟩ := h1
  obtain ⟨⟨j1, j2⟩, ⟨j3, j4⟩, ⟨j5, j6⟩⟩ := h2
  dsimp only at i1 i2 i3 i4 i5 i6 j1 j2 j3 j4 j5 j6
  repeat (first | ((with_reducible refine hK _ _ _ ?_); clear hK) | (with_reducible refine seq_step fun K hK => ?_) | ((with_reducible refine code_id ?_); conv => whnf) | (clear hK; (with_reducible refine hK _ _ _ ?_); clear hK) | (clear hK; clear hK; (with_reducible refine hK _ _ _ ?_); clear hK) | (clear hK; clear hK; clear hK; (with_reducible refine hK _ _ _ ?_); clear hK))
  show Q (.agg #[iv (IntKind.i64.wrap (a + IntKind.i64.wrap (-1 * a'))), iv (IntKind.i64.wrap (b + IntKind.i64.wrap (-1 * b'))), iv (IntKind.i64.wrap (c + IntKind.i64.wrap (-1 * c')))]) h
  rw [wrap_i64 (x := -1 * a') (by omega) (by omega), wrap_i64 (x := -1 * b') (by omega) (by omega), wrap_i64 (x := -1 * c') (by omega) (by omega),
    wrap_i64 (x := a + -1 * a') (by omega) (by omega), wrap_i64 (x := b + -1 * b') (by omega) (by omega), wrap_i64 (x := c + -1 * c') (by omega) (by omega),
    show a + -1 * a' = a - a' by omega, show b + -1 * b' = b - b' by omega, show c + -1 * c' = c - c' by omega]
  exact hq

theorem below30 (q : Q3) (hq : Q (.bool (decide (¬ qge q))) h) : Ok PR 30 [aq q] h Q := by
  refine e30 rfl (seq_step fun K hK => ?_)
  obtain ⟨a, b, c⟩ := q
  repeat (first | ((with_reducible refine hK _ _ _ ?_); clear hK) | (with_reducible refine seq_step fun K hK => ?_) | ((with_reducible refine code_id ?_); conv => whnf) | (clear hK; (with_reducible refine hK _ _ _ ?_); clear hK) | (clear hK; clear hK; (with_reducible refine hK _ _ _ ?_); clear hK) | (clear hK; clear hK; clear hK; (with_reducible refine hK _ _ _ ?_); clear hK))
  by_cases h1 : a < 0
  · rw [show decide ((a, b, c).fst < 0) = true from decide_eq_true h1]
    conv => whnf
    rw [show decide (¬ qge (a, b, c)) = true from decide_eq_true fun x => by have : 0 ≤ a := x.1; omega] at hq
    repeat (first | ((with_reducible refine hK _ _ _ ?_); clear hK) | (with_reducible refine seq_step fun K hK => ?_) | ((with_reducible refine code_id ?_); conv => whnf) | (clear hK; (with_reducible refine hK _ _ _ ?_); clear hK) | (clear hK; clear hK; (with_reducible refine hK _ _ _ ?_); clear hK) | (clear hK; clear hK; clear hK; (with_reducible refine hK _ _ _ ?_); clear hK))
    exact hq
  · rw [show decide ((a, b, c).fst < 0) = false from decide_eq_false h1]
    conv => whnf
    by_cases h2 : b < 0
    · rw [show decide ((a, b, c).2.fst < 0) = true from decide_eq_true h2]
      conv => whnf
      rw [show decide (¬ qge (a, b, c)) = true from decide_eq_true fun x => by have : 0 ≤ b := x.2.1; omega] at hq
      repeat (first | ((with_reducible refine hK _ _ _ ?_); clear hK) | (with_reducible refine seq_step fun K hK => ?_) | ((with_reducible refine code_id ?_); conv => whnf) | (clear hK; (with_reducible refine hK _ _ _ ?_); clear hK) | (clear hK; clear hK; (with_reducible refine hK _ _ _ ?_); clear hK) | (clear hK; clear hK; clear hK; (with_reducible refine hK _ _ _ ?_); clear hK))
      exact hq
    · rw [show decide ((a, b, c).2.fst < 0) = false from decide_eq_false h2]
      conv => whnf
      repeat (first | ((with_reducible refine hK _ _ _ ?_); clear hK) | (with_reducible refine seq_step fun K hK => ?_) | ((with_reducible refine code_id ?_); conv => whnf) | (clear hK; (with_reducible refine hK _ _ _ ?_); clear hK) | (clear hK; clear hK; (with_reducible refine hK _ _ _ ?_); clear hK) | (clear hK; clear hK; clear hK; (with_reducible refine hK _ _ _ ?_); clear hK))
      have : decide (¬ qge (a, b, c)) = decide (c < 0) := decide_eq_decide.2 ⟨fun x => Decidable.byContradiction fun hc => x ⟨show 0 ≤ a by omega, show 0 ≤ b by omega, show 0 ≤ c by omega⟩, fun x y => by have : 0 ≤ c := y.2.2; omega⟩
      rw [this] at hq
      exact hq

/-- A book that still tells the same. -/
theorem BkP.same {A' : Rs} (h1 : ∀ n, (fnd A' n).isSome = (fnd A n).isSome) (h2 : ∀ r ∈ A', ∃ s ∈ A, s.num = r.num ∧ s.paid = r.paid) {g : Hp} (hb : BkP b A last g) : BkP b A' last g := by
  obtain ⟨pd, ⟨a1, a2⟩, hp⟩ := hb
  refine ⟨pd, ⟨a1, fun r hr => ?_⟩, ?_⟩
  · obtain ⟨s, hs, e1, e2⟩ := h2 r hr
    rw [← e1, ← e2]; exact a2 s hs
  · rw [lvG_congr (p := livesF A') (q := livesF A) fun n _ => h1 n]; exact hp

theorem fnd_set_some {e : Int} {c : Row → Int} {f : Row → Row} (hf : Keep f) (n : Int) : (fnd (mSet A e c f).2 n).isSome = (fnd A n).isSome := by
  unfold mSet
  cases h : fnd A e with
  | none => rfl
  | some r =>
    simp only
    split
    · rw [fnd_up hf]; cases fnd A n <;> rfl
    · rfl

theorem BkP.set {e : Int} {c : Row → Int} {f : Row → Row} (hf : Keep f) (hp : ∀ r, (f r).paid = r.paid) {g : Hp} (hb : BkP b A last g) : BkP b (mSet A e c f).2 last g := by
  refine hb.same (fnd_set_some hf) fun r hr => ?_
  unfold mSet at hr
  cases h : fnd A e with
  | none => rw [h] at hr; exact ⟨r, hr, rfl, rfl⟩
  | some x =>
    rw [h] at hr
    simp only at hr
    split at hr
    · obtain ⟨s, hs, ⟨_, rfl⟩ | ⟨_, rfl⟩⟩ := mem_up hr
      · exact ⟨s, hs, (hf s).1.symm, (hp s).symm⟩
      · exact ⟨r, hs, rfl, rfl⟩
    · exact ⟨r, hr, rfl, rfl⟩

end
end Go.Proofs.Ytljenppmdhldbaa.V
