/- Seat 09: a step that the book notes. -/
import Derived.Test.YtljenppmdhldbaaH25
namespace Go.Proofs.Ytljenppmdhldbaa.V
set_option linter.unusedVariables false
set_option linter.unusedSimpArgs false
set_option linter.unusedSectionVars false
set_option linter.unusedSectionVars false
open Go

section
variable {h : Hp} {Q : Value → Hp → Prop} {L : List As} {t b : Nat} {A : Rs} {last : Int}

theorem WF.sm_paid (hw : WF A last) {r : Row} (hr : r ∈ A) : qsm r.paid := by
  obtain ⟨_, ⟨⟨w1, w2, w3⟩, w4, w5, w6⟩, ⟨p1, p2, p3⟩, ⟨c1, c2, c3⟩, ⟨l1, l2, l3⟩⟩ := hw.bk hr
  simp only [Rec.lft, qsub, rcOf] at *
  refine ⟨⟨?_, ?_⟩, ⟨?_, ?_⟩, ⟨?_, ?_⟩⟩ <;> omega

theorem qgood_sm {q : Q3} (h : qgood q) : qsm q := by
  obtain ⟨⟨w1, w2, w3⟩, w4, w5, w6⟩ := h
  exact ⟨⟨by omega, w4⟩, ⟨by omega, w5⟩, ⟨by omega, w6⟩⟩

theorem mCreate_cases (A : Rs) (last e s : Int) (q : Q3) : (∃ c, c ≠ 0 ∧ mCreate A last e s q = ((-1, c), A, last)) ∨
    (∃ (k : Nat) (p : Row), k < 16 ∧ fnd A (k : Int) = none ∧ (∀ j : Nat, j < k → fnd A (j : Int) ≠ none) ∧ fnd A e = some p ∧ qgood q ∧ last < s ∧ s ≤ 4611686018427387903 ∧ qle (qchild q) (left A p) ∧ mCreate A last e s q = (((k : Int), 0), A ++ [mkRow k s e q], s)) := by
  unfold mCreate
  cases hp : fnd A e with
  | none => exact .inl ⟨90, by decide, rfl⟩
  | some p =>
    simp only
    by_cases h1 : qgood q ∧ last < s ∧ s ≤ 4611686018427387903
    · rw [if_pos h1]
      by_cases h2 : qle (qchild q) (left A p)
      · rw [if_pos h2]
        cases hf : free A with
        | none => exact .inl ⟨2, by decide, rfl⟩
        | some n =>
          obtain ⟨a, b, c⟩ := free_some hf
          exact .inr ⟨n, p, a, b, c, rfl, h1.1, h1.2.1, h1.2.2, h2, rfl⟩
      · rw [if_neg h2]; exact .inl ⟨2, by decide, rfl⟩
    · rw [if_neg h1]; exact .inl ⟨1, by decide, rfl⟩

theorem mSet_cases (A : Rs) (e : Int) {c : Row → Int} (f : Row → Row) : (∃ n, n ≠ 0 ∧ mSet A e c f = (n, A)) ∨ (∃ (k : Nat) (r : Row), e = k ∧ fnd A (k : Int) = some r ∧ c r = 0 ∧ mSet A e c f = (0, upR A (k : Int) f)) := by
  unfold mSet
  cases h : fnd A e with
  | none => exact .inl ⟨90, by decide, rfl⟩
  | some r =>
    simp only
    by_cases h0 : c r = 0
    · rw [if_pos h0]
      have := fnd_mem h
      refine .inr ⟨r.num, r, this.2.symm, by rw [this.2]; exact h, h0, by rw [this.2]⟩
    · rw [if_neg h0]; exact .inl ⟨_, h0, rfl⟩

theorem mDestroy_cases (A : Rs) (e : Int) : (∃ c, c ≠ 0 ∧ mDestroy A e = (([], c), A)) ∨ (∃ r, fnd A e = some r ∧ e ≠ 0 ∧ mDestroy A e = ((walk A e, 0), cut A e)) := by
  unfold mDestroy
  cases hr : fnd A e with
  | none => exact .inl ⟨90, by decide, rfl⟩
  | some r =>
    simp only
    by_cases h0 : e = 0
    · rw [if_pos h0]; exact .inl ⟨92, by decide, rfl⟩
    · rw [if_neg h0]; exact .inr ⟨r, rfl, h0, rfl⟩

theorem BkP.opn (hh : Has (BkP b A last :: L) h) : ∃ pd, PdOk A pd ∧ Has (Pt b (.cells (bookC (lvG (livesF A)) pd last).toArray 58 (0, 0)) :: L) h := by
  obtain ⟨h1, h2, e, ap, ⟨pd, hpd, hd⟩, hL⟩ := hh
  exact ⟨pd, hpd, h1, h2, e, ap, hd, hL⟩
theorem BkP.cls {pd : List Q3} (hpd : PdOk A pd) (hh : Has (Pt b (.cells (bookC (lvG (livesF A)) pd last).toArray 58 (0, 0)) :: L) h) : Has (BkP b A last :: L) h := hh.mono1 fun g hg => ⟨pd, hpd, hg⟩

theorem st_lv {β : Bx} {K : Hp × Bx → Prop} {p : Nat → Bool} {pd : List Q3} (hpl : pd.length = 16) (hh : Has (Pt b (.cells (bookC (lvG p) pd last).toArray 58 (0, 0)) :: L) h) {off k : Nat} (ho : off = k) (hk : k < 16) (v : Bool)
    (hK : ∀ h', Has (Pt b (.cells (bookC (lvG fun m => if m = k then v else p m) pd last).toArray 58 (0, 0)) :: L) h' → K (h', β)) : optK (pSt 1 h β (.v (.pointer (some ⟨b, off, none⟩))) (.v (.bool v))) K := by
  subst ho
  refine st_has (x := .bool v) hh 0 rfl rfl (by rw [List.size_toArray, bookC_len (lvG_len _) hpl]; omega) rfl fun h' _ _ hh' => hK h' ?_
  have h2 : Has (Pt b (.cells (wr (bookC (lvG p) pd last).toArray off [.bool v]) 58 (0, 0)) :: L) h' := hh'
  rw [wr_lv (lvG_len _) hk, lvG_set] at h2
  exact h2

theorem st_pd {β : Bx} {K : Hp × Bx → Prop} {p : Nat → Bool} {pd : List Q3} (hpl : pd.length = 16) (hh : Has (Pt b (.cells (bookC (lvG p) pd last).toArray 58 (0, 0)) :: L) h) {off k : Nat} (ho : off = 16 + k * 3) (hk : k < 16) (q : Q3) {v : Value} (hv : v = aq q)
    (hK : ∀ h', Has (Pt b (.cells (bookC (lvG p) (pd.set k q) last).toArray 58 (0, 0)) :: L) h' → K (h', β)) : optK (pSt 3 h β (.v (.pointer (some ⟨b, off, none⟩))) (.v v)) K := by
  subst ho hv
  refine st_has (x := aq q) hh 0 rfl rfl (by rw [List.size_toArray, bookC_len (lvG_len _) hpl]; omega) rfl fun h' _ _ hh' => hK h' ?_
  have h2 : Has (Pt b (.cells (wr (bookC (lvG p) pd last).toArray (16 + k * 3) (q3 q)) 58 (0, 0)) :: L) h' := hh'
  rw [wr_pd (lvG_len _) hpl hk] at h2
  exact h2

theorem st_last {β : Bx} {K : Hp × Bx → Prop} {p : Nat → Bool} {pd : List Q3} (hpl : pd.length = 16) (hh : Has (Pt b (.cells (bookC (lvG p) pd last).toArray 58 (0, 0)) :: L) h) {off : Nat} (ho : off = 64) (x : Int)
    (hK : ∀ h', Has (Pt b (.cells (bookC (lvG p) pd x).toArray 58 (0, 0)) :: L) h' → K (h', β)) : optK (pSt 1 h β (.v (.pointer (some ⟨b, off, none⟩))) (.v (iv x))) K := by
  subst ho
  refine st_has (x := iv x) hh 0 rfl rfl (by rw [List.size_toArray, bookC_len (lvG_len _) hpl]; omega) rfl fun h' _ _ hh' => hK h' ?_
  have h2 : Has (Pt b (.cells (wr (bookC (lvG p) pd last).toArray 64 [iv x]) 58 (0, 0)) :: L) h' := hh'
  rw [wr_last (lvG_len _) hpl] at h2
  exact h2

theorem lives28G {p : Nat → Bool} {pd : List Q3} (hp : h b = some (.cells (bookC (lvG p) pd last).toArray 58 (0, 0))) {k : Nat} (hk : k < 16) (hq : Q (.bool (p k)) h) : Ok PR 28 [ptr b, iv k] h Q := by
  refine e28 rfl (seq_step fun K hK => ?_)
  repeat (first | ((with_reducible refine hK _ _ _ ?_); clear hK) | (with_reducible refine seq_step fun K hK => ?_) | ((with_reducible refine code_id ?_); conv => whnf) | (clear hK; (with_reducible refine hK _ _ _ ?_); clear hK) | (clear hK; clear hK; (with_reducible refine hK _ _ _ ?_); clear hK) | (clear hK; clear hK; clear hK; (with_reducible refine hK _ _ _ ?_); clear hK))
  rw [show decide ((k : Int) ≥ 0) = true from decide_eq_true (by omega)]
  conv => whnf
  rw [show decide ((k : Int) < 16) = true from decide_eq_true (by omega)]
  conv => whnf
  refine opt_if ⟨by omega, by omega⟩ ?_
  conv => whnf
  refine opt_ld hp (v := .bool (p k)) ?_ ?_
  · show (bookC (lvG p) pd last).toArray[0 + 0 + (k : Int).toNat * 1]? = _
    rw [show 0 + 0 + (k : Int).toNat * 1 = k by omega]
    exact bk_lv (lvG_len _) (by omega) (lvG_get _ (by omega))
  conv => whnf
  repeat (first | ((with_reducible refine hK _ _ _ ?_); clear hK) | (with_reducible refine seq_step fun K hK => ?_) | ((with_reducible refine code_id ?_); conv => whnf) | (clear hK; (with_reducible refine hK _ _ _ ?_); clear hK) | (clear hK; clear hK; (with_reducible refine hK _ _ _ ?_); clear hK) | (clear hK; clear hK; clear hK; (with_reducible refine hK _ _ _ ?_); clear hK))
  exact hq

theorem noted20 (hw : WF A last) (o : OpE) (ho : o.regs.length = 8) (hh : Has (EnvA t A last :: BkP b A last :: L) h)
    (hq : ∀ h', Has (EnvA t (step A last o).1 (step A last o).2 :: BkP b (step A last o).1 (step A last o).2 :: L) h' → Q (.bool true) h') : Ok PR 20 [ptr b, ptr t, .agg (opC o).toArray] h Q := by
  obtain ⟨g0, g1, g2, g3, g4, g5, g6, g7, hg⟩ := eight ho
  obtain ⟨kind, t', e, n, m, ⟨q1, q2, q3'⟩, regs, pc, on⟩ := o
  dsimp only at hg ho
  subst hg
  refine e20 rfl (seq_step fun K hK => ?_)
  rw [show (opC ⟨kind, t', e, n, m, (q1, q2, q3'), [g0, g1, g2, g3, g4, g5, g6, g7], pc, on⟩) = [iv kind, iv t', iv e, iv n, iv m, iv q1, iv q2, iv q3', u32v g0, u32v g1, u32v g2, u32v g3, u32v g4, u32v g5, u32v g6, u32v g7, u32v pc, .bool on] from rfl]
  repeat (first | ((with_reducible refine hK _ _ _ ?_); clear hK) | (with_reducible refine seq_step fun K hK => ?_) | ((with_reducible refine code_id ?_); conv => whnf) | (clear hK; (with_reducible refine hK _ _ _ ?_); clear hK) | (clear hK; clear hK; (with_reducible refine hK _ _ _ ?_); clear hK) | (clear hK; clear hK; clear hK; (with_reducible refine hK _ _ _ ?_); clear hK))
  refine cond_beq (fun hk => ?_) (fun hk2 => ?_)
  · subst hk
    rw [show step A last ⟨2, t', e, n, m, (q1, q2, q3'), [g0, g1, g2, g3, g4, g5, g6, g7], pc, on⟩ = (mCreate A last e n (q1, q2, q3')).2 from rfl] at hq
    repeat (first | ((with_reducible refine hK _ _ _ ?_); clear hK) | (with_reducible refine seq_step fun K hK => ?_) | ((with_reducible refine code_id ?_); conv => whnf) | (clear hK; (with_reducible refine hK _ _ _ ?_); clear hK) | (clear hK; clear hK; (with_reducible refine hK _ _ _ ?_); clear hK) | (clear hK; clear hK; clear hK; (with_reducible refine hK _ _ _ ?_); clear hK))
    refine create22A hw e n (q1, q2, q3') hh fun h1 hh1 => ?_
    rcases mCreate_cases A last e n (q1, q2, q3') with ⟨c, hc, he⟩ | ⟨k, p, hk, hk1, _, hp, g9, hl1, hl2, hle, he⟩
    · rw [he] at hq hh1 ⊢
      conv => whnf
      repeat (first | ((with_reducible refine hK _ _ _ ?_); clear hK) | (with_reducible refine seq_step fun K hK => ?_) | ((with_reducible refine code_id ?_); conv => whnf) | (clear hK; (with_reducible refine hK _ _ _ ?_); clear hK) | (clear hK; clear hK; (with_reducible refine hK _ _ _ ?_); clear hK) | (clear hK; clear hK; clear hK; (with_reducible refine hK _ _ _ ?_); clear hK))
      refine cond_bne (fun _ => ?_) (fun hc2 => absurd hc2 hc)
      repeat (first | ((with_reducible refine hK _ _ _ ?_); clear hK) | (with_reducible refine seq_step fun K hK => ?_) | ((with_reducible refine code_id ?_); conv => whnf) | (clear hK; (with_reducible refine hK _ _ _ ?_); clear hK) | (clear hK; clear hK; (with_reducible refine hK _ _ _ ?_); clear hK) | (clear hK; clear hK; clear hK; (with_reducible refine hK _ _ _ ?_); clear hK))
      exact hq _ hh1
    · rw [he] at hq hh1 ⊢
      dsimp only at hq hh1 ⊢
      obtain ⟨pd, hpd, hh2⟩ := BkP.opn hh1.swap
      have hpl := hpd.1
      conv => whnf
      repeat (first | ((with_reducible refine hK _ _ _ ?_); clear hK) | (with_reducible refine seq_step fun K hK => ?_) | ((with_reducible refine code_id ?_); conv => whnf) | (clear hK; (with_reducible refine hK _ _ _ ?_); clear hK) | (clear hK; clear hK; (with_reducible refine hK _ _ _ ?_); clear hK) | (clear hK; clear hK; clear hK; (with_reducible refine hK _ _ _ ?_); clear hK))
      rw [show decide ((k : Int) < 0) = false from decide_eq_false (by omega)]
      conv => whnf
      rw [show decide ((k : Int) ≥ 16) = false from decide_eq_false (by omega)]
      conv => whnf
      refine opt_if ⟨by omega, by omega⟩ ?_
      conv => whnf
      refine opt_ld (hh2.pt 0 rfl) (v := .bool false) ?_ ?_
      · show (bookC (lvG (livesF A)) pd last).toArray[0 + 0 + (k : Int).toNat * 1]? = _
        rw [show 0 + 0 + (k : Int).toNat * 1 = k by omega]
        refine bk_lv (lvG_len _) hk ?_
        rw [lvG_get _ hk, livesF, hk1]; rfl
      conv => whnf
      refine opt_ld (hh2.pt 0 rfl) (v := iv last) ?_ ?_
      · exact bk_last (lvG_len _) hpl
      conv => whnf
      rw [show decide (n ≤ last) = false from decide_eq_false (by omega)]
      conv => whnf
      repeat (first | ((with_reducible refine hK _ _ _ ?_); clear hK) | (with_reducible refine seq_step fun K hK => ?_) | ((with_reducible refine code_id ?_); conv => whnf) | (clear hK; (with_reducible refine hK _ _ _ ?_); clear hK) | (clear hK; clear hK; (with_reducible refine hK _ _ _ ?_); clear hK) | (clear hK; clear hK; clear hK; (with_reducible refine hK _ _ _ ?_); clear hK))
      refine opt_if ⟨by omega, by omega⟩ ?_
      conv => whnf
      refine st_lv hpl hh2 (k := k) (by omega) hk true fun h3 hh3 => ?_
      conv => whnf
      repeat (first | ((with_reducible refine hK _ _ _ ?_); clear hK) | (with_reducible refine seq_step fun K hK => ?_) | ((with_reducible refine code_id ?_); conv => whnf) | (clear hK; (with_reducible refine hK _ _ _ ?_); clear hK) | (clear hK; clear hK; (with_reducible refine hK _ _ _ ?_); clear hK) | (clear hK; clear hK; clear hK; (with_reducible refine hK _ _ _ ?_); clear hK))
      refine opt_if ⟨by omega, by omega⟩ ?_
      conv => whnf
      refine st_pd hpl hh3 (k := k) (by omega) hk qz rfl fun h4 hh4 => ?_
      conv => whnf
      repeat (first | ((with_reducible refine hK _ _ _ ?_); clear hK) | (with_reducible refine seq_step fun K hK => ?_) | ((with_reducible refine code_id ?_); conv => whnf) | (clear hK; (with_reducible refine hK _ _ _ ?_); clear hK) | (clear hK; clear hK; (with_reducible refine hK _ _ _ ?_); clear hK) | (clear hK; clear hK; clear hK; (with_reducible refine hK _ _ _ ?_); clear hK))
      refine st_last (by rw [List.length_set]; exact hpl) hh4 rfl n fun h5 hh5 => ?_
      conv => whnf
      repeat (first | ((with_reducible refine hK _ _ _ ?_); clear hK) | (with_reducible refine seq_step fun K hK => ?_) | ((with_reducible refine code_id ?_); conv => whnf) | (clear hK; (with_reducible refine hK _ _ _ ?_); clear hK) | (clear hK; clear hK; (with_reducible refine hK _ _ _ ?_); clear hK) | (clear hK; clear hK; clear hK; (with_reducible refine hK _ _ _ ?_); clear hK))
      refine hq _ ?_
      have e1 : lvG (fun m => if m = k then true else livesF A m) = lvG (livesF (A ++ [mkRow k n e (q1, q2, q3')])) := lvG_congr fun m hm => by
        unfold livesF
        rw [fnd_app]
        by_cases hmk : m = k
        · subst hmk
          rw [if_pos rfl, if_pos (show (((mkRow m n e (q1, q2, q3')).num : Nat) : Int) = m from rfl)]
          cases fnd A (m : Int) <;> rfl
        · rw [if_neg hmk, if_neg (show ¬ (((mkRow k n e (q1, q2, q3')).num : Nat) : Int) = m by show ¬ ((k : Nat) : Int) = m; omega), Option.or_none]
      rw [e1] at hh5
      refine (BkP.cls ⟨by rw [List.length_set]; exact hpl, fun r hr => ?_⟩ hh5).swap
      rcases List.mem_append.1 hr with hr | hr
      · have hrk : k ≠ r.num := fun e => by have := fnd_none.1 hk1 r hr; omega
        rw [List.getElem?_set_ne hrk]; exact hpd.2 r hr
      · rw [List.mem_singleton.1 hr]
        show (pd.set k qz)[k]? = _
        rw [List.getElem?_set_self (by omega)]; rfl
  repeat (first | ((with_reducible refine hK _ _ _ ?_); clear hK) | (with_reducible refine seq_step fun K hK => ?_) | ((with_reducible refine code_id ?_); conv => whnf) | (clear hK; (with_reducible refine hK _ _ _ ?_); clear hK) | (clear hK; clear hK; (with_reducible refine hK _ _ _ ?_); clear hK) | (clear hK; clear hK; clear hK; (with_reducible refine hK _ _ _ ?_); clear hK))
  refine cond_beq (fun hk => ?_) (fun hk3 => ?_)
  · subst hk
    rw [show step A last ⟨3, t', e, n, m, (q1, q2, q3'), [g0, g1, g2, g3, g4, g5, g6, g7], pc, on⟩ = ((mDestroy A e).2, last) from rfl] at hq
    repeat (first | ((with_reducible refine hK _ _ _ ?_); clear hK) | (with_reducible refine seq_step fun K hK => ?_) | ((with_reducible refine code_id ?_); conv => whnf) | (clear hK; (with_reducible refine hK _ _ _ ?_); clear hK) | (clear hK; clear hK; (with_reducible refine hK _ _ _ ?_); clear hK) | (clear hK; clear hK; clear hK; (with_reducible refine hK _ _ _ ?_); clear hK))
    refine destroy23A hw e hh fun s h1 hh1 => ?_
    rcases mDestroy_cases A e with ⟨c, hc, he⟩ | ⟨r, hr, h0, he⟩
    · rw [he] at hq hh1 ⊢
      dsimp only at hq hh1 ⊢
      obtain ⟨base, cap, hs⟩ := hh1.slv 0 rfl
      subst hs
      conv => whnf
      repeat (first | ((with_reducible refine hK _ _ _ ?_); clear hK) | (with_reducible refine seq_step fun K hK => ?_) | ((with_reducible refine code_id ?_); conv => whnf) | (clear hK; (with_reducible refine hK _ _ _ ?_); clear hK) | (clear hK; clear hK; (with_reducible refine hK _ _ _ ?_); clear hK) | (clear hK; clear hK; clear hK; (with_reducible refine hK _ _ _ ?_); clear hK))
      refine cond_bne (fun _ => ?_) (fun hc2 => absurd hc2 hc)
      repeat (first | ((with_reducible refine hK _ _ _ ?_); clear hK) | (with_reducible refine seq_step fun K hK => ?_) | ((with_reducible refine code_id ?_); conv => whnf) | (clear hK; (with_reducible refine hK _ _ _ ?_); clear hK) | (clear hK; clear hK; (with_reducible refine hK _ _ _ ?_); clear hK) | (clear hK; clear hK; clear hK; (with_reducible refine hK _ _ _ ?_); clear hK))
      exact hq _ hh1.tail
    · rw [he] at hq hh1 ⊢
      dsimp only at hq hh1 ⊢
      obtain ⟨base, cap, hs⟩ := hh1.slv 0 rfl
      subst hs
      obtain ⟨pd, hpd, hh2⟩ := BkP.opn (hh1.pull 2 rfl)
      have hpl := hpd.1
      have hnd := walk_nodup hw hr
      have hwl := walk_len hw hr
      have hwm : ∀ k ∈ walk A e, ∃ x, fnd A k = some x := fun k hk => let ⟨x, hx, _⟩ := mem_walk hw hr k hk; ⟨x, hx⟩
      have hw0 : ∀ k ∈ walk A e, 0 < k ∧ k < 16 := fun k hk => by
        obtain ⟨x, hx⟩ := hwm k hk
        have h1 := fnd_mem hx
        have := hw.lt x h1.1
        have : k ≠ 0 := fun h => root_out hw hr h0 (h ▸ hk)
        omega
      have hwe : ∃ ws', walk A e = e :: ws' := ⟨_, walk_eq hw hr⟩
      have hlv : lvG (livesF A) = lvG fun m => livesF A m && !(((walk A e).take 0).contains (m : Int)) := lvG_congr fun m _ => by simp
      have hend : lvG (fun m => livesF A m && !((walk A e).contains (m : Int))) = lvG (livesF (cut A e)) := lvG_congr fun m _ => by
        unfold livesF
        rw [fnd_cut A hw.nd]
        by_cases hm : (m : Int) ∈ walk A e
        · rw [if_pos hm]; simp [hm]
        · rw [if_neg hm]; simp [hm]
      rw [hlv] at hh2
      generalize hwks : walk A e = ws at *
      conv => whnf
      repeat (first | ((with_reducible refine hK _ _ _ ?_); clear hK) | (with_reducible refine seq_step fun K hK => ?_) | ((with_reducible refine code_id ?_); conv => whnf) | (clear hK; (with_reducible refine hK _ _ _ ?_); clear hK) | (clear hK; clear hK; (with_reducible refine hK _ _ _ ?_); clear hK) | (clear hK; clear hK; clear hK; (with_reducible refine hK _ _ _ ?_); clear hK))
      refine loop_intro (σ := Nat × Hp) (fun s => [(0, .v (ptr b)), (1, .v (ptr t)), (9, .v (.slice base ws.length cap)), (5, .l 5 0), (11, .v (iv s.1))])
        (fun _ => [(5, [iv 3, iv t', iv e, iv n, iv m, iv q1, iv q2, iv q3', u32v g0, u32v g1, u32v g2, u32v g3, u32v g4, u32v g5, u32v g6, u32v g7, u32v pc, .bool on])]) (fun s => s.2)
        (fun s => s.1 ≤ ws.length ∧ Has (Pt b (.cells (bookC (lvG fun m => livesF A m && !((ws.take s.1).contains (m : Int))) pd last).toArray 58 (0, 0)) :: IntsP (.slice base ws.length cap) ws :: EnvA t (cut A e) last :: L) s.2)
        (fun s => ws.length - s.1) (0, h1) ⟨Nat.zero_le _, hh2⟩
        (subE_cons rfl (subE_cons rfl (subE_cons rfl (subE_cons rfl (subE_cons rfl subE_nil))))) (subB_cons rfl subB_nil) rfl ?_
      rintro ⟨j, g6⟩ ⟨hj, hg6⟩
      dsimp only at hj hg6 ⊢
      repeat (first | ((with_reducible refine hK _ _ _ ?_); clear hK) | (with_reducible refine seq_step fun K hK => ?_) | ((with_reducible refine code_id ?_); conv => whnf) | (clear hK; (with_reducible refine hK _ _ _ ?_); clear hK) | (clear hK; clear hK; (with_reducible refine hK _ _ _ ?_); clear hK) | (clear hK; clear hK; clear hK; (with_reducible refine hK _ _ _ ?_); clear hK))
      refine cond_dec (fun hlt => ?_) (fun hge => ?_)
      · have hjl : j < ws.length := by omega
        obtain ⟨bb, o, cap', c, ty, z, he, hbb2, hc⟩ := hg6.rdw 1 rfl (k := j) (v := iv ws[j]) (by omega) (by simp [hjl])
        cases he
        have htk : ws.take (j + 1) = ws.take j ++ [ws[j]] := (List.take_append_getElem hjl).symm
        have hk := hw0 ws[j] (List.getElem_mem hjl)
        obtain ⟨k, hkk⟩ := Int.eq_ofNat_of_zero_le (Int.le_of_lt hk.1)
        obtain ⟨x, hxk⟩ := hwm ws[j] (List.getElem_mem hjl)
        have hout : ws[j] ∉ ws.take j := fun hm => by
          obtain ⟨i', hi', he⟩ := List.getElem_of_mem hm
          rw [List.getElem_take] at he
          rw [List.length_take] at hi'
          exact (List.pairwise_iff_getElem.1 hnd i' j (by omega) hjl (by omega)) he
        have hld : c[o + (j : Int).toNat * 1]? = some (iv ws[j]) := by rw [Int.toNat_natCast, Nat.mul_one]; exact hc
        have hpk : (livesF A k && !((ws.take j).contains (k : Int))) = true := by
          unfold livesF
          rw [← hkk, hxk]
          simp [hout]
        rw [hkk] at hld
        repeat (first | ((with_reducible refine hK _ _ _ ?_); clear hK) | (with_reducible refine seq_step fun K hK => ?_) | ((with_reducible refine code_id ?_); conv => whnf) | (clear hK; (with_reducible refine hK _ _ _ ?_); clear hK) | (clear hK; clear hK; (with_reducible refine hK _ _ _ ?_); clear hK) | (clear hK; clear hK; clear hK; (with_reducible refine hK _ _ _ ?_); clear hK))
        refine opt_if ⟨by omega, by omega⟩ ?_
        conv => whnf
        refine opt_ld hbb2 (v := iv k) hld ?_
        conv => whnf
        rw [show decide ((k : Int) ≤ 0) = false from decide_eq_false (by omega)]
        conv => whnf
        refine opt_if ⟨by omega, by omega⟩ ?_
        conv => whnf
        refine opt_ld hbb2 (v := iv k) hld ?_
        conv => whnf
        refine lives28G (p := fun m => livesF A m && !((ws.take j).contains (m : Int))) (hg6.pt 0 rfl) (by omega) ?_
        rw [hpk]
        conv => whnf
        repeat (first | ((with_reducible refine hK _ _ _ ?_); clear hK) | (with_reducible refine seq_step fun K hK => ?_) | ((with_reducible refine code_id ?_); conv => whnf) | (clear hK; (with_reducible refine hK _ _ _ ?_); clear hK) | (clear hK; clear hK; (with_reducible refine hK _ _ _ ?_); clear hK) | (clear hK; clear hK; clear hK; (with_reducible refine hK _ _ _ ?_); clear hK) | (refine ⟨_, _, SubH.refl _, SubB.refl _, ?_⟩; conv => whnf) | (refine ⟨⟨SubH.refl _, SubB.refl _⟩, ?_⟩; conv => whnf) | (refine ⟨_, _, ⟨SubH.refl _, SubB.refl _⟩, SubH.refl _, SubB.refl _, ?_⟩; conv => whnf))
        refine opt_if ⟨by omega, by omega⟩ ?_
        conv => whnf
        refine opt_ld hbb2 (v := iv k) hld ?_
        conv => whnf
        refine opt_if ⟨by omega, by omega⟩ ?_
        conv => whnf
        refine st_lv hpl hg6 (k := k) (by omega) (by omega) false fun g7 hg7 => ?_
        conv => whnf
        repeat (first | ((with_reducible refine hK _ _ _ ?_); clear hK) | (with_reducible refine seq_step fun K hK => ?_) | ((with_reducible refine code_id ?_); conv => whnf) | (clear hK; (with_reducible refine hK _ _ _ ?_); clear hK) | (clear hK; clear hK; (with_reducible refine hK _ _ _ ?_); clear hK) | (clear hK; clear hK; clear hK; (with_reducible refine hK _ _ _ ?_); clear hK))
        refine ⟨(j + 1, g7), ⟨show j + 1 ≤ ws.length by omega, ?_⟩, show ws.length - (j + 1) < ws.length - j by omega, (subE_cons rfl (subE_cons rfl (subE_cons rfl (subE_cons rfl (subE_cons (int_eq (wrap_nat (by omega)) rfl) subE_nil))))), (subB_cons rfl subB_nil), rfl⟩
        rw [lvG_congr (q := fun m => livesF A m && !((ws.take (j + 1)).contains (m : Int))) fun m _ => ?_] at hg7
        · exact hg7
        · simp only [htk, hkk]
          by_cases hmk : m = k
          · subst hmk; simp
          · rw [if_neg hmk]
            have : (m : Int) ≠ k := by omega
            simp [this]
      · have hje : j = ws.length := by omega
        rw [hje, List.take_length, hend] at hg6
        have hgo : Has (EnvA t (cut A e) last :: BkP b (cut A e) last :: L) g6 := by
          refine ((BkP.cls ⟨hpl, fun r hr => hpd.2 r (mem_cut.1 hr).1⟩ hg6).erase 1).swap
        obtain ⟨bb, o, cap', c, ty, z, he, hbb2, hc⟩ := hg6.rdw 1 rfl (k := 0) (v := iv e) (by obtain ⟨ws', h⟩ := hwe; rw [h]; simp) (by obtain ⟨ws', h⟩ := hwe; rw [h]; rfl)
        cases he
        have hlen : 0 < ws.length := by obtain ⟨ws', h⟩ := hwe; rw [h]; simp
        repeat (first | ((with_reducible refine hK _ _ _ ?_); clear hK) | (with_reducible refine seq_step fun K hK => ?_) | ((with_reducible refine code_id ?_); conv => whnf) | (clear hK; (with_reducible refine hK _ _ _ ?_); clear hK) | (clear hK; clear hK; (with_reducible refine hK _ _ _ ?_); clear hK) | (clear hK; clear hK; clear hK; (with_reducible refine hK _ _ _ ?_); clear hK))
        rw [show decide (((ws.length : Nat) : Int) > 0) = true from decide_eq_true (by omega)]
        conv => whnf
        refine opt_if ⟨by omega, by omega⟩ ?_
        conv => whnf
        refine opt_ld hbb2 (v := iv e) ?_ ?_
        · exact hc
        conv => whnf
        rw [show (e == e) = true from beq_self_eq_true e]
        conv => whnf
        repeat (first | ((with_reducible refine hK _ _ _ ?_); clear hK) | (with_reducible refine seq_step fun K hK => ?_) | ((with_reducible refine code_id ?_); conv => whnf) | (clear hK; (with_reducible refine hK _ _ _ ?_); clear hK) | (clear hK; clear hK; (with_reducible refine hK _ _ _ ?_); clear hK) | (clear hK; clear hK; clear hK; (with_reducible refine hK _ _ _ ?_); clear hK))
        exact hq _ hgo
  repeat (first | ((with_reducible refine hK _ _ _ ?_); clear hK) | (with_reducible refine seq_step fun K hK => ?_) | ((with_reducible refine code_id ?_); conv => whnf) | (clear hK; (with_reducible refine hK _ _ _ ?_); clear hK) | (clear hK; clear hK; (with_reducible refine hK _ _ _ ?_); clear hK) | (clear hK; clear hK; clear hK; (with_reducible refine hK _ _ _ ?_); clear hK))
  refine cond_beq (fun hk => ?_) (fun hk11 => ?_)
  · subst hk
    rw [show step A last ⟨11, t', e, n, m, (q1, q2, q3'), [g0, g1, g2, g3, g4, g5, g6, g7], pc, on⟩ = ((mPay A e (q1, q2, q3')).2, last) from rfl] at hq
    repeat (first | ((with_reducible refine hK _ _ _ ?_); clear hK) | (with_reducible refine seq_step fun K hK => ?_) | ((with_reducible refine code_id ?_); conv => whnf) | (clear hK; (with_reducible refine hK _ _ _ ?_); clear hK) | (clear hK; clear hK; (with_reducible refine hK _ _ _ ?_); clear hK) | (clear hK; clear hK; clear hK; (with_reducible refine hK _ _ _ ?_); clear hK))
    refine pay36A hw e (q1, q2, q3') hh fun h1 hh1 => ?_
    rcases mSet_cases A e (fPay (q1, q2, q3')) (c := fun r => if qgood (q1, q2, q3') then (if qle (q1, q2, q3') (left A r) then 0 else 2) else 1) with ⟨c, hc, he⟩ | ⟨k, r, rfl, hr, hc, he⟩
    · have he : mPay A e (q1, q2, q3') = (c, A) := he
      rw [he] at hq hh1 ⊢
      conv => whnf
      repeat (first | ((with_reducible refine hK _ _ _ ?_); clear hK) | (with_reducible refine seq_step fun K hK => ?_) | ((with_reducible refine code_id ?_); conv => whnf) | (clear hK; (with_reducible refine hK _ _ _ ?_); clear hK) | (clear hK; clear hK; (with_reducible refine hK _ _ _ ?_); clear hK) | (clear hK; clear hK; clear hK; (with_reducible refine hK _ _ _ ?_); clear hK))
      refine cond_beq (fun hc2 => absurd hc2 hc) (fun _ => ?_)
      repeat (first | ((with_reducible refine hK _ _ _ ?_); clear hK) | (with_reducible refine seq_step fun K hK => ?_) | ((with_reducible refine code_id ?_); conv => whnf) | (clear hK; (with_reducible refine hK _ _ _ ?_); clear hK) | (clear hK; clear hK; (with_reducible refine hK _ _ _ ?_); clear hK) | (clear hK; clear hK; clear hK; (with_reducible refine hK _ _ _ ?_); clear hK))
      exact hq _ hh1
    · have he : mPay A k (q1, q2, q3') = (0, upR A k (fPay (q1, q2, q3'))) := he
      rw [he] at hq hh1 ⊢
      dsimp only at hq hh1 ⊢
      have hrm := fnd_mem hr
      have hk : k < 16 := by have := hw.lt r hrm.1; omega
      have hrk : r.num = k := by omega
      have hgq : qgood (q1, q2, q3') := by
        have hc' := hc
        split at hc'
        · assumption
        · cases hc'
      conv => whnf
      repeat (first | ((with_reducible refine hK _ _ _ ?_); clear hK) | (with_reducible refine seq_step fun K hK => ?_) | ((with_reducible refine code_id ?_); conv => whnf) | (clear hK; (with_reducible refine hK _ _ _ ?_); clear hK) | (clear hK; clear hK; (with_reducible refine hK _ _ _ ?_); clear hK) | (clear hK; clear hK; clear hK; (with_reducible refine hK _ _ _ ?_); clear hK))
      refine lives28 hw.lt k (Has.get hh1 1 rfl fun g g' ⟨pd, a, b⟩ hs => ⟨pd, a, hs _ _ b⟩) ?_
      rw [hr]
      conv => whnf
      repeat (first | ((with_reducible refine hK _ _ _ ?_); clear hK) | (with_reducible refine seq_step fun K hK => ?_) | ((with_reducible refine code_id ?_); conv => whnf) | (clear hK; (with_reducible refine hK _ _ _ ?_); clear hK) | (clear hK; clear hK; (with_reducible refine hK _ _ _ ?_); clear hK) | (clear hK; clear hK; clear hK; (with_reducible refine hK _ _ _ ?_); clear hK))
      obtain ⟨pd, hpd, hh2⟩ := BkP.opn hh1.swap
      have hpl := hpd.1
      have hpr := hpd.2 r hrm.1
      rw [hrk] at hpr
      repeat (first | ((with_reducible refine hK _ _ _ ?_); clear hK) | (with_reducible refine seq_step fun K hK => ?_) | ((with_reducible refine code_id ?_); conv => whnf) | (clear hK; (with_reducible refine hK _ _ _ ?_); clear hK) | (clear hK; clear hK; (with_reducible refine hK _ _ _ ?_); clear hK) | (clear hK; clear hK; clear hK; (with_reducible refine hK _ _ _ ?_); clear hK) | (refine ⟨_, _, SubH.refl _, SubB.refl _, ?_⟩; conv => whnf) | (refine ⟨⟨SubH.refl _, SubB.refl _⟩, ?_⟩; conv => whnf) | (refine ⟨_, _, ⟨SubH.refl _, SubB.refl _⟩, SubH.refl _, SubB.refl _, ?_⟩; conv => whnf))
      refine opt_if ⟨by omega, by omega⟩ ?_
      conv => whnf
      refine opt_ld (hh2.pt 0 rfl) (v := aq r.paid) ?_ ?_
      · show rd (bookC (lvG (livesF A)) pd last).toArray (0 + 16 + (k : Int).toNat * 3) 3 true = _
        rw [show 0 + 16 + (k : Int).toNat * 3 = 16 + k * 3 by omega]
        exact bk_pd (lvG_len _) hpl hpr
      conv => whnf
      refine add29p r.paid (q1, q2, q3') (hw.sm_paid hrm.1) (qgood_sm hgq) ?_
      conv => whnf
      repeat (first | ((with_reducible refine hK _ _ _ ?_); clear hK) | (with_reducible refine seq_step fun K hK => ?_) | ((with_reducible refine code_id ?_); conv => whnf) | (clear hK; (with_reducible refine hK _ _ _ ?_); clear hK) | (clear hK; clear hK; (with_reducible refine hK _ _ _ ?_); clear hK) | (clear hK; clear hK; clear hK; (with_reducible refine hK _ _ _ ?_); clear hK) | (refine ⟨_, _, SubH.refl _, SubB.refl _, ?_⟩; conv => whnf) | (refine ⟨⟨SubH.refl _, SubB.refl _⟩, ?_⟩; conv => whnf) | (refine ⟨_, _, ⟨SubH.refl _, SubB.refl _⟩, SubH.refl _, SubB.refl _, ?_⟩; conv => whnf))
      refine opt_if ⟨by omega, by omega⟩ ?_
      conv => whnf
      refine st_pd hpl hh2 (k := k) (by omega) hk (qadd r.paid (q1, q2, q3')) rfl fun h4 hh4 => ?_
      conv => whnf
      repeat (first | ((with_reducible refine hK _ _ _ ?_); clear hK) | (with_reducible refine seq_step fun K hK => ?_) | ((with_reducible refine code_id ?_); conv => whnf) | (clear hK; (with_reducible refine hK _ _ _ ?_); clear hK) | (clear hK; clear hK; (with_reducible refine hK _ _ _ ?_); clear hK) | (clear hK; clear hK; clear hK; (with_reducible refine hK _ _ _ ?_); clear hK))
      refine hq _ ?_
      rw [lvG_congr (p := livesF A) (q := livesF (upR A k (fPay (q1, q2, q3')))) fun m _ => by unfold livesF; rw [fnd_up (kPay _)]; cases fnd A (m : Int) <;> rfl] at hh4
      refine (BkP.cls ⟨by rw [List.length_set]; exact hpl, fun x hx => ?_⟩ hh4).swap
      obtain ⟨s, hs, ⟨hsk, rfl⟩ | ⟨hsk, rfl⟩⟩ := mem_up hx
      · have : s = r := uniq hw.nd hs hrm.1 (by omega)
        subst this
        show (pd.set k _)[s.num]? = _
        rw [hrk, List.getElem?_set_self (by omega)]; rfl
      · rw [List.getElem?_set_ne (by omega)]; exact hpd.2 x hs
  repeat (first | ((with_reducible refine hK _ _ _ ?_); clear hK) | (with_reducible refine seq_step fun K hK => ?_) | ((with_reducible refine code_id ?_); conv => whnf) | (clear hK; (with_reducible refine hK _ _ _ ?_); clear hK) | (clear hK; clear hK; (with_reducible refine hK _ _ _ ?_); clear hK) | (clear hK; clear hK; clear hK; (with_reducible refine hK _ _ _ ?_); clear hK))
  refine cond_beq (fun hk => ?_) (fun hk12 => ?_)
  · subst hk
    rw [show step A last ⟨12, t', e, n, m, (q1, q2, q3'), [g0, g1, g2, g3, g4, g5, g6, g7], pc, on⟩ = ((mRefund A e (q1, q2, q3')).2, last) from rfl] at hq
    repeat (first | ((with_reducible refine hK _ _ _ ?_); clear hK) | (with_reducible refine seq_step fun K hK => ?_) | ((with_reducible refine code_id ?_); conv => whnf) | (clear hK; (with_reducible refine hK _ _ _ ?_); clear hK) | (clear hK; clear hK; (with_reducible refine hK _ _ _ ?_); clear hK) | (clear hK; clear hK; clear hK; (with_reducible refine hK _ _ _ ?_); clear hK))
    refine refund37A hw e (q1, q2, q3') hh fun h1 hh1 => ?_
    rcases mSet_cases A e (fRefund (q1, q2, q3')) (c := fun r => if qgood (q1, q2, q3') ∧ qle (q1, q2, q3') r.paid then 0 else 1) with ⟨c, hc, he⟩ | ⟨k, r, rfl, hr, hc, he⟩
    · have he : mRefund A e (q1, q2, q3') = (c, A) := he
      rw [he] at hq hh1 ⊢
      conv => whnf
      repeat (first | ((with_reducible refine hK _ _ _ ?_); clear hK) | (with_reducible refine seq_step fun K hK => ?_) | ((with_reducible refine code_id ?_); conv => whnf) | (clear hK; (with_reducible refine hK _ _ _ ?_); clear hK) | (clear hK; clear hK; (with_reducible refine hK _ _ _ ?_); clear hK) | (clear hK; clear hK; clear hK; (with_reducible refine hK _ _ _ ?_); clear hK))
      refine cond_beq (fun hc2 => absurd hc2 hc) (fun _ => ?_)
      repeat (first | ((with_reducible refine hK _ _ _ ?_); clear hK) | (with_reducible refine seq_step fun K hK => ?_) | ((with_reducible refine code_id ?_); conv => whnf) | (clear hK; (with_reducible refine hK _ _ _ ?_); clear hK) | (clear hK; clear hK; (with_reducible refine hK _ _ _ ?_); clear hK) | (clear hK; clear hK; clear hK; (with_reducible refine hK _ _ _ ?_); clear hK))
      exact hq _ hh1
    · have he : mRefund A k (q1, q2, q3') = (0, upR A k (fRefund (q1, q2, q3'))) := he
      rw [he] at hq hh1 ⊢
      dsimp only at hq hh1 ⊢
      have hrm := fnd_mem hr
      have hk : k < 16 := by have := hw.lt r hrm.1; omega
      have hrk : r.num = k := by omega
      have hgq : qgood (q1, q2, q3') := by
        have hc' := hc
        split at hc'
        · rename_i h; exact h.1
        · cases hc'
      conv => whnf
      repeat (first | ((with_reducible refine hK _ _ _ ?_); clear hK) | (with_reducible refine seq_step fun K hK => ?_) | ((with_reducible refine code_id ?_); conv => whnf) | (clear hK; (with_reducible refine hK _ _ _ ?_); clear hK) | (clear hK; clear hK; (with_reducible refine hK _ _ _ ?_); clear hK) | (clear hK; clear hK; clear hK; (with_reducible refine hK _ _ _ ?_); clear hK))
      refine lives28 hw.lt k (Has.get hh1 1 rfl fun g g' ⟨pd, a, b⟩ hs => ⟨pd, a, hs _ _ b⟩) ?_
      rw [hr]
      conv => whnf
      repeat (first | ((with_reducible refine hK _ _ _ ?_); clear hK) | (with_reducible refine seq_step fun K hK => ?_) | ((with_reducible refine code_id ?_); conv => whnf) | (clear hK; (with_reducible refine hK _ _ _ ?_); clear hK) | (clear hK; clear hK; (with_reducible refine hK _ _ _ ?_); clear hK) | (clear hK; clear hK; clear hK; (with_reducible refine hK _ _ _ ?_); clear hK))
      obtain ⟨pd, hpd, hh2⟩ := BkP.opn hh1.swap
      have hpl := hpd.1
      have hpr := hpd.2 r hrm.1
      rw [hrk] at hpr
      repeat (first | ((with_reducible refine hK _ _ _ ?_); clear hK) | (with_reducible refine seq_step fun K hK => ?_) | ((with_reducible refine code_id ?_); conv => whnf) | (clear hK; (with_reducible refine hK _ _ _ ?_); clear hK) | (clear hK; clear hK; (with_reducible refine hK _ _ _ ?_); clear hK) | (clear hK; clear hK; clear hK; (with_reducible refine hK _ _ _ ?_); clear hK) | (refine ⟨_, _, SubH.refl _, SubB.refl _, ?_⟩; conv => whnf) | (refine ⟨⟨SubH.refl _, SubB.refl _⟩, ?_⟩; conv => whnf) | (refine ⟨_, _, ⟨SubH.refl _, SubB.refl _⟩, SubH.refl _, SubB.refl _, ?_⟩; conv => whnf))
      refine opt_if ⟨by omega, by omega⟩ ?_
      conv => whnf
      refine opt_ld (hh2.pt 0 rfl) (v := aq r.paid) ?_ ?_
      · show rd (bookC (lvG (livesF A)) pd last).toArray (0 + 16 + (k : Int).toNat * 3) 3 true = _
        rw [show 0 + 16 + (k : Int).toNat * 3 = 16 + k * 3 by omega]
        exact bk_pd (lvG_len _) hpl hpr
      conv => whnf
      refine add29m r.paid (q1, q2, q3') (hw.sm_paid hrm.1) (qgood_sm hgq) ?_
      conv => whnf
      repeat (first | ((with_reducible refine hK _ _ _ ?_); clear hK) | (with_reducible refine seq_step fun K hK => ?_) | ((with_reducible refine code_id ?_); conv => whnf) | (clear hK; (with_reducible refine hK _ _ _ ?_); clear hK) | (clear hK; clear hK; (with_reducible refine hK _ _ _ ?_); clear hK) | (clear hK; clear hK; clear hK; (with_reducible refine hK _ _ _ ?_); clear hK) | (refine ⟨_, _, SubH.refl _, SubB.refl _, ?_⟩; conv => whnf) | (refine ⟨⟨SubH.refl _, SubB.refl _⟩, ?_⟩; conv => whnf) | (refine ⟨_, _, ⟨SubH.refl _, SubB.refl _⟩, SubH.refl _, SubB.refl _, ?_⟩; conv => whnf))
      refine opt_if ⟨by omega, by omega⟩ ?_
      conv => whnf
      refine st_pd hpl hh2 (k := k) (by omega) hk (qsub r.paid (q1, q2, q3')) rfl fun h4 hh4 => ?_
      conv => whnf
      repeat (first | ((with_reducible refine hK _ _ _ ?_); clear hK) | (with_reducible refine seq_step fun K hK => ?_) | ((with_reducible refine code_id ?_); conv => whnf) | (clear hK; (with_reducible refine hK _ _ _ ?_); clear hK) | (clear hK; clear hK; (with_reducible refine hK _ _ _ ?_); clear hK) | (clear hK; clear hK; clear hK; (with_reducible refine hK _ _ _ ?_); clear hK))
      refine hq _ ?_
      rw [lvG_congr (p := livesF A) (q := livesF (upR A k (fRefund (q1, q2, q3')))) fun m _ => by unfold livesF; rw [fnd_up (kRefund _)]; cases fnd A (m : Int) <;> rfl] at hh4
      refine (BkP.cls ⟨by rw [List.length_set]; exact hpl, fun x hx => ?_⟩ hh4).swap
      obtain ⟨s, hs, ⟨hsk, rfl⟩ | ⟨hsk, rfl⟩⟩ := mem_up hx
      · have : s = r := uniq hw.nd hs hrm.1 (by omega)
        subst this
        show (pd.set k _)[s.num]? = _
        rw [hrk, List.getElem?_set_self (by omega)]; rfl
      · rw [List.getElem?_set_ne (by omega)]; exact hpd.2 x hs
  repeat (first | ((with_reducible refine hK _ _ _ ?_); clear hK) | (with_reducible refine seq_step fun K hK => ?_) | ((with_reducible refine code_id ?_); conv => whnf) | (clear hK; (with_reducible refine hK _ _ _ ?_); clear hK) | (clear hK; clear hK; (with_reducible refine hK _ _ _ ?_); clear hK) | (clear hK; clear hK; clear hK; (with_reducible refine hK _ _ _ ?_); clear hK))
  refine cond_beq (fun hk => ?_) (fun hk5 => ?_)
  · subst hk
    rw [show step A last ⟨5, t', e, n, m, (q1, q2, q3'), [g0, g1, g2, g3, g4, g5, g6, g7], pc, on⟩ = ((mRegs A e [g0, g1, g2, g3, g4, g5, g6, g7] pc).2, last) from rfl] at hq
    repeat (first | ((with_reducible refine hK _ _ _ ?_); clear hK) | (with_reducible refine seq_step fun K hK => ?_) | ((with_reducible refine code_id ?_); conv => whnf) | (clear hK; (with_reducible refine hK _ _ _ ?_); clear hK) | (clear hK; clear hK; (with_reducible refine hK _ _ _ ?_); clear hK) | (clear hK; clear hK; clear hK; (with_reducible refine hK _ _ _ ?_); clear hK))
    refine regs15A hw e [g0, g1, g2, g3, g4, g5, g6, g7] pc rfl hh fun h1 hh1 => ?_
    conv => whnf
    repeat (first | ((with_reducible refine hK _ _ _ ?_); clear hK) | (with_reducible refine seq_step fun K hK => ?_) | ((with_reducible refine code_id ?_); conv => whnf) | (clear hK; (with_reducible refine hK _ _ _ ?_); clear hK) | (clear hK; clear hK; (with_reducible refine hK _ _ _ ?_); clear hK) | (clear hK; clear hK; clear hK; (with_reducible refine hK _ _ _ ?_); clear hK))
    exact hq _ (hh1.map_tail fun g hg => hg.mono1 fun g' hg' => BkP.set (kRegs _ _) (fun _ => rfl) hg')
  repeat (first | ((with_reducible refine hK _ _ _ ?_); clear hK) | (with_reducible refine seq_step fun K hK => ?_) | ((with_reducible refine code_id ?_); conv => whnf) | (clear hK; (with_reducible refine hK _ _ _ ?_); clear hK) | (clear hK; clear hK; (with_reducible refine hK _ _ _ ?_); clear hK) | (clear hK; clear hK; clear hK; (with_reducible refine hK _ _ _ ?_); clear hK))
  refine cond_beq (fun hk => ?_) (fun hk6 => ?_)
  · subst hk
    rw [show step A last ⟨6, t', e, n, m, (q1, q2, q3'), [g0, g1, g2, g3, g4, g5, g6, g7], pc, on⟩ = ((mState A e n m).2, last) from rfl] at hq
    repeat (first | ((with_reducible refine hK _ _ _ ?_); clear hK) | (with_reducible refine seq_step fun K hK => ?_) | ((with_reducible refine code_id ?_); conv => whnf) | (clear hK; (with_reducible refine hK _ _ _ ?_); clear hK) | (clear hK; clear hK; (with_reducible refine hK _ _ _ ?_); clear hK) | (clear hK; clear hK; clear hK; (with_reducible refine hK _ _ _ ?_); clear hK))
    refine state14A hw e n m hh fun h1 hh1 => ?_
    conv => whnf
    repeat (first | ((with_reducible refine hK _ _ _ ?_); clear hK) | (with_reducible refine seq_step fun K hK => ?_) | ((with_reducible refine code_id ?_); conv => whnf) | (clear hK; (with_reducible refine hK _ _ _ ?_); clear hK) | (clear hK; clear hK; (with_reducible refine hK _ _ _ ?_); clear hK) | (clear hK; clear hK; clear hK; (with_reducible refine hK _ _ _ ?_); clear hK))
    exact hq _ (hh1.map_tail fun g hg => hg.mono1 fun g' hg' => BkP.set (kState _ _) (fun _ => rfl) hg')
  repeat (first | ((with_reducible refine hK _ _ _ ?_); clear hK) | (with_reducible refine seq_step fun K hK => ?_) | ((with_reducible refine code_id ?_); conv => whnf) | (clear hK; (with_reducible refine hK _ _ _ ?_); clear hK) | (clear hK; clear hK; (with_reducible refine hK _ _ _ ?_); clear hK) | (clear hK; clear hK; clear hK; (with_reducible refine hK _ _ _ ?_); clear hK))
  refine cond_beq (fun hk => ?_) (fun hk7 => ?_)
  · subst hk
    rw [show step A last ⟨7, t', e, n, m, (q1, q2, q3'), [g0, g1, g2, g3, g4, g5, g6, g7], pc, on⟩ = ((mBits A e n).2, last) from rfl] at hq
    repeat (first | ((with_reducible refine hK _ _ _ ?_); clear hK) | (with_reducible refine seq_step fun K hK => ?_) | ((with_reducible refine code_id ?_); conv => whnf) | (clear hK; (with_reducible refine hK _ _ _ ?_); clear hK) | (clear hK; clear hK; (with_reducible refine hK _ _ _ ?_); clear hK) | (clear hK; clear hK; clear hK; (with_reducible refine hK _ _ _ ?_); clear hK))
    refine bits59A hw e n hh fun h1 hh1 => ?_
    conv => whnf
    repeat (first | ((with_reducible refine hK _ _ _ ?_); clear hK) | (with_reducible refine seq_step fun K hK => ?_) | ((with_reducible refine code_id ?_); conv => whnf) | (clear hK; (with_reducible refine hK _ _ _ ?_); clear hK) | (clear hK; clear hK; (with_reducible refine hK _ _ _ ?_); clear hK) | (clear hK; clear hK; clear hK; (with_reducible refine hK _ _ _ ?_); clear hK))
    exact hq _ (hh1.map_tail fun g hg => hg.mono1 fun g' hg' => BkP.set (kBits _) (fun _ => rfl) hg')
  repeat (first | ((with_reducible refine hK _ _ _ ?_); clear hK) | (with_reducible refine seq_step fun K hK => ?_) | ((with_reducible refine code_id ?_); conv => whnf) | (clear hK; (with_reducible refine hK _ _ _ ?_); clear hK) | (clear hK; clear hK; (with_reducible refine hK _ _ _ ?_); clear hK) | (clear hK; clear hK; clear hK; (with_reducible refine hK _ _ _ ?_); clear hK))
  refine cond_beq (fun hk => ?_) (fun hk8 => ?_)
  · subst hk
    rw [show step A last ⟨8, t', e, n, m, (q1, q2, q3'), [g0, g1, g2, g3, g4, g5, g6, g7], pc, on⟩ = ((mNotify A e n).2, last) from rfl] at hq
    repeat (first | ((with_reducible refine hK _ _ _ ?_); clear hK) | (with_reducible refine seq_step fun K hK => ?_) | ((with_reducible refine code_id ?_); conv => whnf) | (clear hK; (with_reducible refine hK _ _ _ ?_); clear hK) | (clear hK; clear hK; (with_reducible refine hK _ _ _ ?_); clear hK) | (clear hK; clear hK; clear hK; (with_reducible refine hK _ _ _ ?_); clear hK))
    refine notify18A hw e n hh fun h1 hh1 => ?_
    conv => whnf
    repeat (first | ((with_reducible refine hK _ _ _ ?_); clear hK) | (with_reducible refine seq_step fun K hK => ?_) | ((with_reducible refine code_id ?_); conv => whnf) | (clear hK; (with_reducible refine hK _ _ _ ?_); clear hK) | (clear hK; clear hK; (with_reducible refine hK _ _ _ ?_); clear hK) | (clear hK; clear hK; clear hK; (with_reducible refine hK _ _ _ ?_); clear hK))
    exact hq _ (hh1.map_tail fun g hg => hg.mono1 fun g' hg' => BkP.set (kNotify _) (fun r => by unfold fNotify; split <;> rfl) hg')
  repeat (first | ((with_reducible refine hK _ _ _ ?_); clear hK) | (with_reducible refine seq_step fun K hK => ?_) | ((with_reducible refine code_id ?_); conv => whnf) | (clear hK; (with_reducible refine hK _ _ _ ?_); clear hK) | (clear hK; clear hK; (with_reducible refine hK _ _ _ ?_); clear hK) | (clear hK; clear hK; clear hK; (with_reducible refine hK _ _ _ ?_); clear hK))
  refine cond_beq (fun hk => ?_) (fun hk9 => ?_)
  · subst hk
    rw [show step A last ⟨9, t', e, n, m, (q1, q2, q3'), [g0, g1, g2, g3, g4, g5, g6, g7], pc, on⟩ = ((mWait A e).2, last) from rfl] at hq
    repeat (first | ((with_reducible refine hK _ _ _ ?_); clear hK) | (with_reducible refine seq_step fun K hK => ?_) | ((with_reducible refine code_id ?_); conv => whnf) | (clear hK; (with_reducible refine hK _ _ _ ?_); clear hK) | (clear hK; clear hK; (with_reducible refine hK _ _ _ ?_); clear hK) | (clear hK; clear hK; clear hK; (with_reducible refine hK _ _ _ ?_); clear hK))
    refine wait16A hw e hh fun h1 hh1 => ?_
    conv => whnf
    repeat (first | ((with_reducible refine hK _ _ _ ?_); clear hK) | (with_reducible refine seq_step fun K hK => ?_) | ((with_reducible refine code_id ?_); conv => whnf) | (clear hK; (with_reducible refine hK _ _ _ ?_); clear hK) | (clear hK; clear hK; (with_reducible refine hK _ _ _ ?_); clear hK) | (clear hK; clear hK; clear hK; (with_reducible refine hK _ _ _ ?_); clear hK))
    exact hq _ (hh1.map_tail fun g hg => hg.mono1 fun g' hg' => BkP.set kWait (fun r => by unfold fWait; split <;> rfl) hg')
  repeat (first | ((with_reducible refine hK _ _ _ ?_); clear hK) | (with_reducible refine seq_step fun K hK => ?_) | ((with_reducible refine code_id ?_); conv => whnf) | (clear hK; (with_reducible refine hK _ _ _ ?_); clear hK) | (clear hK; clear hK; (with_reducible refine hK _ _ _ ?_); clear hK) | (clear hK; clear hK; clear hK; (with_reducible refine hK _ _ _ ?_); clear hK))
  refine cond_beq (fun hk => ?_) (fun hk10 => ?_)
  · subst hk
    rw [show step A last ⟨10, t', e, n, m, (q1, q2, q3'), [g0, g1, g2, g3, g4, g5, g6, g7], pc, on⟩ = ((mFreeze A e on).2, last) from rfl] at hq
    repeat (first | ((with_reducible refine hK _ _ _ ?_); clear hK) | (with_reducible refine seq_step fun K hK => ?_) | ((with_reducible refine code_id ?_); conv => whnf) | (clear hK; (with_reducible refine hK _ _ _ ?_); clear hK) | (clear hK; clear hK; (with_reducible refine hK _ _ _ ?_); clear hK) | (clear hK; clear hK; clear hK; (with_reducible refine hK _ _ _ ?_); clear hK))
    refine freeze33A hw e on hh fun h1 hh1 => ?_
    conv => whnf
    repeat (first | ((with_reducible refine hK _ _ _ ?_); clear hK) | (with_reducible refine seq_step fun K hK => ?_) | ((with_reducible refine code_id ?_); conv => whnf) | (clear hK; (with_reducible refine hK _ _ _ ?_); clear hK) | (clear hK; clear hK; (with_reducible refine hK _ _ _ ?_); clear hK) | (clear hK; clear hK; clear hK; (with_reducible refine hK _ _ _ ?_); clear hK))
    exact hq _ (hh1.map_tail fun g hg => hg.mono1 fun g' hg' => BkP.set (kFreeze _) (fun _ => rfl) hg')
  repeat (first | ((with_reducible refine hK _ _ _ ?_); clear hK) | (with_reducible refine seq_step fun K hK => ?_) | ((with_reducible refine code_id ?_); conv => whnf) | (clear hK; (with_reducible refine hK _ _ _ ?_); clear hK) | (clear hK; clear hK; (with_reducible refine hK _ _ _ ?_); clear hK) | (clear hK; clear hK; clear hK; (with_reducible refine hK _ _ _ ?_); clear hK))
  refine hq _ ?_
  rw [show step A last ⟨kind, t', e, n, m, (q1, q2, q3'), [g0, g1, g2, g3, g4, g5, g6, g7], pc, on⟩ = (A, last) by
    unfold step; simp only; rw [if_neg hk2, if_neg hk3, if_neg hk11, if_neg hk12, if_neg hk5, if_neg hk6, if_neg hk7, if_neg hk8, if_neg hk9, if_neg hk10]]
  exact hh

end
end Go.Proofs.Ytljenppmdhldbaa.V
