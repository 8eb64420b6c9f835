/- Seat 09: what the calls on quotas answer. -/
import Derived.Test.YtljenppmdhldbaaH6
import Derived.Test.YtljenppmdhldbaaU7
namespace Go.Proofs.Ytljenppmdhldbaa.V
set_option linter.unusedVariables false
set_option linter.unusedSimpArgs false
set_option linter.unusedSectionVars false
set_option linter.unusedSectionVars false
open Go

def aq (q : Q3) : Value := .agg (q3 q).toArray
def in64 (n : Int) : Prop := -9223372036854775808 ≤ n ∧ n < 9223372036854775808
def qin (q : Q3) : Prop := in64 q.1 ∧ in64 q.2.1 ∧ in64 q.2.2

section
variable {h : Hp} {Q : Value → Hp → Prop} {L : List As} {t : Nat} {A : Rs} {last : Int}

theorem good60 (q : Q3) (hq : Q (.bool (decide (qgood q))) h) : Ok PR 60 [aq q] h Q := by
  refine e60 rfl (seq_step fun K hK => ?_)
  obtain ⟨a, b, c⟩ := q
  repeat (first | ((with_reducible refine hK _ _ _ ?_); clear hK) | (with_reducible refine seq_step fun K hK => ?_) | ((with_reducible refine code_id ?_); conv => whnf) | (clear hK; (with_reducible refine hK _ _ _ ?_); clear hK) | (clear hK; clear hK; (with_reducible refine hK _ _ _ ?_); clear hK) | (clear hK; clear hK; clear hK; (with_reducible refine hK _ _ _ ?_); clear hK))
  generalize hm : (if c < (if b < a then b else a) then c else (if b < a then b else a)) = m
  have hm2 : (0 ≤ m) ↔ (0 ≤ a ∧ 0 ≤ b ∧ 0 ≤ c) := by subst hm; omega
  by_cases h1 : 0 ≤ m
  · rw [show decide (m ≥ 0) = true from decide_eq_true h1]
    conv => whnf
    generalize hM : (if (if a < b then b else a) < c then c else (if a < b then b else a)) = M
    have hM2 : (M ≤ 4611686018427387903) ↔ (a ≤ 4611686018427387903 ∧ b ≤ 4611686018427387903 ∧ c ≤ 4611686018427387903) := by subst hM; omega
    repeat (first | ((with_reducible refine hK _ _ _ ?_); clear hK) | (with_reducible refine seq_step fun K hK => ?_) | ((with_reducible refine code_id ?_); conv => whnf) | (clear hK; (with_reducible refine hK _ _ _ ?_); clear hK) | (clear hK; clear hK; (with_reducible refine hK _ _ _ ?_); clear hK) | (clear hK; clear hK; clear hK; (with_reducible refine hK _ _ _ ?_); clear hK))
    have : decide (M ≤ 4611686018427387903) = decide (qgood (a, b, c)) := by
      apply decide_eq_decide.2; unfold qgood qge; dsimp only; rw [hM2, ← hm2]; exact ⟨fun x => ⟨h1, x⟩, fun x => x.2⟩
    rw [← this] at hq
    exact hq
  · rw [show decide (m ≥ 0) = false from decide_eq_false h1]
    conv => whnf
    have : decide (qgood (a, b, c)) = false := decide_eq_false fun x => h1 (hm2.2 x.1)
    rw [this] at hq
    repeat (first | ((with_reducible refine hK _ _ _ ?_); clear hK) | (with_reducible refine seq_step fun K hK => ?_) | ((with_reducible refine code_id ?_); conv => whnf) | (clear hK; (with_reducible refine hK _ _ _ ?_); clear hK) | (clear hK; clear hK; (with_reducible refine hK _ _ _ ?_); clear hK) | (clear hK; clear hK; clear hK; (with_reducible refine hK _ _ _ ?_); clear hK))
    exact hq

theorem fits61 (p q : Q3) (hq : Q (.bool (decide (qle p q))) h) : Ok PR 61 [aq p, aq q] h Q := by
  refine e61 rfl (seq_step fun K hK => ?_)
  obtain ⟨a, b, c⟩ := p
  obtain ⟨a', b', c'⟩ := q
  repeat (first | ((with_reducible refine hK _ _ _ ?_); clear hK) | (with_reducible refine seq_step fun K hK => ?_) | ((with_reducible refine code_id ?_); conv => whnf) | (clear hK; (with_reducible refine hK _ _ _ ?_); clear hK) | (clear hK; clear hK; (with_reducible refine hK _ _ _ ?_); clear hK) | (clear hK; clear hK; clear hK; (with_reducible refine hK _ _ _ ?_); clear hK))
  by_cases h1 : a ≤ a'
  · rw [show decide ((a, b, c).fst ≤ (a', b', c').fst) = true from decide_eq_true h1]
    conv => whnf
    by_cases h2 : b ≤ b'
    · rw [show decide ((a, b, c).2.fst ≤ (a', b', c').2.fst) = true from decide_eq_true h2]
      conv => whnf
      repeat (first | ((with_reducible refine hK _ _ _ ?_); clear hK) | (with_reducible refine seq_step fun K hK => ?_) | ((with_reducible refine code_id ?_); conv => whnf) | (clear hK; (with_reducible refine hK _ _ _ ?_); clear hK) | (clear hK; clear hK; (with_reducible refine hK _ _ _ ?_); clear hK) | (clear hK; clear hK; clear hK; (with_reducible refine hK _ _ _ ?_); clear hK))
      have : decide (qle (a, b, c) (a', b', c')) = decide (c ≤ c') := decide_eq_decide.2 ⟨fun x => x.2.2, fun x => ⟨h1, h2, x⟩⟩
      rw [this] at hq
      exact hq
    · rw [show decide ((a, b, c).2.fst ≤ (a', b', c').2.fst) = false from decide_eq_false h2]
      conv => whnf
      repeat (first | ((with_reducible refine hK _ _ _ ?_); clear hK) | (with_reducible refine seq_step fun K hK => ?_) | ((with_reducible refine code_id ?_); conv => whnf) | (clear hK; (with_reducible refine hK _ _ _ ?_); clear hK) | (clear hK; clear hK; (with_reducible refine hK _ _ _ ?_); clear hK) | (clear hK; clear hK; clear hK; (with_reducible refine hK _ _ _ ?_); clear hK))
      rw [show decide (qle (a, b, c) (a', b', c')) = false from decide_eq_false fun x => h2 x.2.1] at hq
      exact hq
  · rw [show decide ((a, b, c).fst ≤ (a', b', c').fst) = false from decide_eq_false h1]
    conv => whnf
    rw [show decide (qle (a, b, c) (a', b', c')) = false from decide_eq_false fun x => h1 x.1] at hq
    repeat (first | ((with_reducible refine hK _ _ _ ?_); clear hK) | (with_reducible refine seq_step fun K hK => ?_) | ((with_reducible refine code_id ?_); conv => whnf) | (clear hK; (with_reducible refine hK _ _ _ ?_); clear hK) | (clear hK; clear hK; (with_reducible refine hK _ _ _ ?_); clear hK) | (clear hK; clear hK; clear hK; (with_reducible refine hK _ _ _ ?_); clear hK))
    exact hq

theorem child62 (q : Q3) (hi : in64 (q.2.1 + 1)) (hq : Q (aq (qchild q)) h) : Ok PR 62 [aq q] h Q := by
  refine e62 rfl (seq_step fun K hK => ?_)
  obtain ⟨a, b, c⟩ := q
  repeat (first | ((with_reducible refine hK _ _ _ ?_); clear hK) | (with_reducible refine seq_step fun K hK => ?_) | ((with_reducible refine code_id ?_); conv => whnf) | (clear hK; (with_reducible refine hK _ _ _ ?_); clear hK) | (clear hK; clear hK; (with_reducible refine hK _ _ _ ?_); clear hK) | (clear hK; clear hK; clear hK; (with_reducible refine hK _ _ _ ?_); clear hK))
  show Q (.agg #[iv a, iv (IntKind.i64.wrap (b + 1)), iv c]) h
  rw [wrap_i64 hi.1 hi.2]
  exact hq

theorem minus93 (p q : Q3) (hi : qin (qsub p q)) (hq : Q (aq (qsub p q)) h) : Ok PR 93 [aq p, aq q] h Q := by
  refine e93 rfl (seq_step fun K hK => ?_)
  obtain ⟨a, b, c⟩ := p
  obtain ⟨a', b', c'⟩ := q
  obtain ⟨i1, i2, i3⟩ := hi
  repeat (first | ((with_reducible refine hK _ _ _ ?_); clear hK) | (with_reducible refine seq_step fun K hK => ?_) | ((with_reducible refine code_id ?_); conv => whnf) | (clear hK; (with_reducible refine hK _ _ _ ?_); clear hK) | (clear hK; clear hK; (with_reducible refine hK _ _ _ ?_); clear hK) | (clear hK; clear hK; clear hK; (with_reducible refine hK _ _ _ ?_); clear hK))
  show Q (.agg #[iv (IntKind.i64.wrap (a - a')), iv (IntKind.i64.wrap (b - b')), iv (IntKind.i64.wrap (c - c'))]) h
  rw [wrap_i64 (x := a - a') i1.1 i1.2, wrap_i64 (x := b - b') i2.1 i2.2, wrap_i64 (x := c - c') i3.1 i3.2]
  exact hq

theorem plus95 (p q : Q3) (hi : qin (qadd p q)) (hq : Q (aq (qadd p q)) h) : Ok PR 95 [aq p, aq q] h Q := by
  refine e95 rfl (seq_step fun K hK => ?_)
  obtain ⟨a, b, c⟩ := p
  obtain ⟨a', b', c'⟩ := q
  obtain ⟨i1, i2, i3⟩ := hi
  repeat (first | ((with_reducible refine hK _ _ _ ?_); clear hK) | (with_reducible refine seq_step fun K hK => ?_) | ((with_reducible refine code_id ?_); conv => whnf) | (clear hK; (with_reducible refine hK _ _ _ ?_); clear hK) | (clear hK; clear hK; (with_reducible refine hK _ _ _ ?_); clear hK) | (clear hK; clear hK; clear hK; (with_reducible refine hK _ _ _ ?_); clear hK))
  show Q (.agg #[iv (IntKind.i64.wrap (a + a')), iv (IntKind.i64.wrap (b + b')), iv (IntKind.i64.wrap (c + c'))]) h
  rw [wrap_i64 (x := a + a') i1.1 i1.2, wrap_i64 (x := b + b') i2.1 i2.2, wrap_i64 (x := c + c') i3.1 i3.2]
  exact hq

/-- Reading a record's cells. -/
theorem rd_env {r : Rec} {s : Value} (hr : r.regs.length = 8) : rd (recC r s).toArray 0 21 true = some (.agg ([iv r.serial, iv r.parent, iv r.state, iv r.code, iv r.bits, .bool r.frozen] ++ r.regs.map u32v ++ [u32v r.pc] ++ q3 qz ++ q3 qz).toArray) := by
  obtain ⟨_, _, _, _, _, _, regs, _, _, _, _, _⟩ := r
  match regs, hr with
  | [_, _, _, _, _, _, _, _], _ => rfl
theorem rd_whole {r : Rec} {s : Value} (hr : r.regs.length = 8) : rd (recC r s).toArray 21 3 true = some (aq r.whole) := by
  obtain ⟨_, _, _, _, _, _, regs, _, _, _, _, _⟩ := r
  match regs, hr with
  | [_, _, _, _, _, _, _, _], _ => rfl
theorem rd_paid {r : Rec} {s : Value} (hr : r.regs.length = 8) : rd (recC r s).toArray 24 3 true = some (aq r.paid) := by
  obtain ⟨_, _, _, _, _, _, regs, _, _, _, _, _⟩ := r
  match regs, hr with
  | [_, _, _, _, _, _, _, _], _ => rfl
theorem rd_carved {r : Rec} {s : Value} (hr : r.regs.length = 8) : rd (recC r s).toArray 27 3 true = some (aq r.carved) := by
  obtain ⟨_, _, _, _, _, _, regs, _, _, _, _, _⟩ := r
  match regs, hr with
  | [_, _, _, _, _, _, _, _], _ => rfl
theorem rd_kids {r : Rec} {s : Value} (hr : r.regs.length = 8) : rd (recC r s).toArray 30 1 false = some s := by
  obtain ⟨_, _, _, _, _, _, regs, _, _, _, _, _⟩ := r
  match regs, hr with
  | [_, _, _, _, _, _, _, _], _ => rfl

/-- Stores into a record. -/
theorem rc_stM {β : Bx} {b off : Nat} {r : Rec} {s : Value} {K : Hp × Bx → Prop} (hh : Has (Pt b (.cells (recC r s).toArray 103 (0, 0)) :: L) h) (k sz : Nat) (vs : List Value) {v : Value} (hv : v.cells = vs.toArray) (ho : off = k) (hr : r.regs.length = 8) (hk : k + sz ≤ 31)
    (r' : Rec) (s' : Value) (hsz : vs.length = sz) (ht : wrL (recC r s) k vs = recC r' s') (h4 : vs.all one = true) (hK : ∀ h', Has (Pt b (.cells (recC r' s').toArray 103 (0, 0)) :: L) h' → K (h', β)) :
    optK (pSt sz h β (.v (.pointer (some ⟨b, off, none⟩))) (.v v)) K := by
  subst ho
  refine st_has hh 0 rfl (by rw [hv]; exact hsz) (by rw [List.size_toArray]; simp [recC, q3, hr]; omega) (by rw [hv]; exact h4) fun h' _ _ hh' => hK h' ?_
  rw [hv] at hh'
  have e : wr (recC r s).toArray off vs = (recC r' s').toArray := by rw [wr_wrL, ht]
  have hh2 : Has (Pt b (.cells (wr (recC r s).toArray off vs) 103 (0, 0)) :: L) h' := hh'
  rw [e] at hh2
  exact hh2

def Rec.lft (r : Rec) : Q3 := qsub (qsub r.whole r.paid) r.carved
/-- A record's book adds up. -/
structure Bk (r : Rec) : Prop where
  rg : r.regs.length = 8
  w : qgood r.whole
  p : qge r.paid
  c : qge r.carved
  l : qge r.lft

theorem Bk.ins {r : Rec} (hb : Bk r) : qin (qsub r.whole r.paid) ∧ qin r.lft := by
  obtain ⟨_, ⟨⟨w1, w2, w3⟩, w4, w5, w6⟩, ⟨p1, p2, p3⟩, ⟨c1, c2, c3⟩, ⟨l1, l2, l3⟩⟩ := hb
  simp only [Rec.lft, qsub] at *
  refine ⟨⟨⟨?_, ?_⟩, ⟨?_, ?_⟩, ⟨?_, ?_⟩⟩, ⟨⟨?_, ?_⟩, ⟨?_, ?_⟩, ⟨?_, ?_⟩⟩⟩ <;> simp only [] <;> omega

theorem left58 {b : Nat} {r : Rec} {s : Value} (hb : Bk r) (hp : h b = some (.cells (recC r s).toArray 103 (0, 0))) (hq : Q (aq r.lft) h) : Ok PR 58 [.pointer (some ⟨b, 0 + 21, none⟩)] h Q := by
  have hi := hb.ins
  refine e58 rfl (seq_step fun K hK => ?_)
  repeat (first | ((with_reducible refine hK _ _ _ ?_); clear hK) | (with_reducible refine seq_step fun K hK => ?_) | ((with_reducible refine code_id ?_); conv => whnf) | (clear hK; (with_reducible refine hK _ _ _ ?_); clear hK) | (clear hK; clear hK; (with_reducible refine hK _ _ _ ?_); clear hK) | (clear hK; clear hK; clear hK; (with_reducible refine hK _ _ _ ?_); clear hK))
  refine ⟨_, _, SubH.refl _, SubB.refl _, ?_⟩
  conv => whnf
  refine opt_ld hp (rd_whole hb.rg) ?_
  conv => whnf
  refine opt_ld hp (rd_paid hb.rg) ?_
  conv => whnf
  refine opt_ld hp (rd_carved hb.rg) ?_
  conv => whnf
  refine minus93 _ _ hi.1 ?_
  conv => whnf
  refine ⟨⟨SubH.refl _, SubB.refl _⟩, ?_⟩
  conv => whnf
  refine minus93 _ _ hi.2 ?_
  conv => whnf
  repeat (first | ((with_reducible refine hK _ _ _ ?_); clear hK) | (with_reducible refine seq_step fun K hK => ?_) | ((with_reducible refine code_id ?_); conv => whnf) | (clear hK; (with_reducible refine hK _ _ _ ?_); clear hK) | (clear hK; clear hK; (with_reducible refine hK _ _ _ ?_); clear hK) | (clear hK; clear hK; clear hK; (with_reducible refine hK _ _ _ ?_); clear hK))
  exact hq

end
end Go.Proofs.Ytljenppmdhldbaa.V
