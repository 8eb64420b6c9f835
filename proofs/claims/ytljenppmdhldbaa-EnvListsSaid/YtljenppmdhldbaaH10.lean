/- Seat 09: the calls that set something of a row. -/
import Derived.Test.YtljenppmdhldbaaH9
namespace Go.Proofs.Ytljenppmdhldbaa.V
set_option linter.unusedVariables false
set_option linter.unusedSimpArgs false
set_option linter.unusedSectionVars false
set_option linter.unusedSectionVars false
open Go

section
variable {h : Hp} {Q : Value → Hp → Prop} {L : List As} {t : Nat} {A : Rs} {last : Int}

theorem EnvA.same {tb n b : Nat} {xs : Xs} {r : Row} {s : Value} (a1 : xs.length = 16) (a2 : rcs xs = tab A) (hh : Has (Pt t (.cells #[ptr tb, iv last] 98 (0, 0)) :: TabP rowP tb (blk xs) :: RecsP xs :: L) h) : Has (EnvA t A last :: L) h := EnvP.cls a1 a2 hh

theorem recC_regs {r : Rec} {s : Value} (hr : r.regs.length = 8) {g : List Int} (hg : g.length = 8) (pc : Int) : wrL (recC r s) 6 (g.map u32v ++ [u32v pc]) = recC { r with regs := g, pc := pc } s := by
  have := wrL_mid (A := [iv r.serial, iv r.parent, iv r.state, iv r.code, iv r.bits, .bool r.frozen]) (B := r.regs.map u32v ++ [u32v r.pc]) (C := q3 (0, 0, 0) ++ q3 (0, 0, 0) ++ q3 r.whole ++ q3 r.paid ++ q3 r.carved ++ [s]) (V := g.map u32v ++ [u32v pc]) (by simp [hr, hg])
  simpa [recC] using this
theorem recC_reg0 {r : Rec} {s : Value} (hr : r.regs.length = 8) (x : Int) : (recC r s).set 6 (u32v x) = recC { r with regs := r.regs.set 0 x } s := by
  obtain ⟨_, _, _, _, _, _, regs, _, _, _, _, _⟩ := r
  match regs, hr with
  | [_, _, _, _, _, _, _, _], _ => rfl
theorem recC_reg1 {r : Rec} {s : Value} (hr : r.regs.length = 8) (x : Int) : (recC r s).set 7 (u32v x) = recC { r with regs := r.regs.set 1 x } s := by
  obtain ⟨_, _, _, _, _, _, regs, _, _, _, _, _⟩ := r
  match regs, hr with
  | [_, _, _, _, _, _, _, _], _ => rfl
theorem recC_len {r : Rec} {s : Value} (hr : r.regs.length = 8) : (recC r s).length = 31 := by simp [recC, q3, hr]

theorem wait16A (hw : WF A last) (e : Int) (hh : Has (EnvA t A last :: L) h) (hq : ∀ h', Has (EnvA t (mWait A e).2 last :: L) h' → Q (.tuple #[iv (mWait A e).1.1, iv (mWait A e).1.2]) h') : Ok PR 16 [ptr t, iv e] h Q := by
  obtain ⟨tb, xs, a1, a2, hh, ⟨hr, hb⟩ | ⟨n, b, r, s, rfl, hm, hr, hb, hx⟩⟩ := EnvA.look hw e hh
  · rw [show mWait A e = ((0, 90), A) by unfold mWait; rw [mSet_none hr, hr]] at hq
    refine e16 rfl (seq_step fun K hK => ?_)
    repeat (first | ((with_reducible refine hK _ _ _ ?_); clear hK) | (with_reducible refine seq_step fun K hK => ?_) | ((with_reducible refine code_id ?_); conv => whnf) | (clear hK; (with_reducible refine hK _ _ _ ?_); clear hK) | (clear hK; clear hK; (with_reducible refine hK _ _ _ ?_); clear hK) | (clear hK; clear hK; clear hK; (with_reducible refine hK _ _ _ ?_); clear hK))
    refine opt_ld (hh.pt 0 rfl) (v := .agg #[ptr tb]) rfl ?_
    conv => whnf
    refine at56 (Has.get hh 1 rfl fun _ _ => TabP.sub) _ ?_
    rw [hb]
    conv => whnf
    repeat (first | ((with_reducible refine hK _ _ _ ?_); clear hK) | (with_reducible refine seq_step fun K hK => ?_) | ((with_reducible refine code_id ?_); conv => whnf) | (clear hK; (with_reducible refine hK _ _ _ ?_); clear hK) | (clear hK; clear hK; (with_reducible refine hK _ _ _ ?_); clear hK) | (clear hK; clear hK; clear hK; (with_reducible refine hK _ _ _ ?_); clear hK))
    exact hq _ (EnvP.cls a1 a2 hh)
  · have hbk := hw.bk (fnd_mem hr).1
    refine e16 rfl (seq_step fun K hK => ?_)
    repeat (first | ((with_reducible refine hK _ _ _ ?_); clear hK) | (with_reducible refine seq_step fun K hK => ?_) | ((with_reducible refine code_id ?_); conv => whnf) | (clear hK; (with_reducible refine hK _ _ _ ?_); clear hK) | (clear hK; clear hK; (with_reducible refine hK _ _ _ ?_); clear hK) | (clear hK; clear hK; clear hK; (with_reducible refine hK _ _ _ ?_); clear hK))
    refine opt_ld (hh.pt 0 rfl) (v := .agg #[ptr tb]) rfl ?_
    conv => whnf
    refine at56 (Has.get hh 1 rfl fun _ _ => TabP.sub) _ ?_
    rw [hb]
    conv => whnf
    have hv := EnvP.see hx hh
    repeat (first | ((with_reducible refine hK _ _ _ ?_); clear hK) | (with_reducible refine seq_step fun K hK => ?_) | ((with_reducible refine code_id ?_); conv => whnf) | (clear hK; (with_reducible refine hK _ _ _ ?_); clear hK) | (clear hK; clear hK; (with_reducible refine hK _ _ _ ?_); clear hK) | (clear hK; clear hK; clear hK; (with_reducible refine hK _ _ _ ?_); clear hK))
    rw [show mWait A n = ((r.bits, 0), upR A n fWait) by unfold mWait; rw [mSet_ok hr rfl, hr]] at hq
    refine opt_ld (hv.pt 0 rfl) (v := iv r.bits) rfl ?_
    conv => whnf
    repeat (first | ((with_reducible refine hK _ _ _ ?_); clear hK) | (with_reducible refine seq_step fun K hK => ?_) | ((with_reducible refine code_id ?_); conv => whnf) | (clear hK; (with_reducible refine hK _ _ _ ?_); clear hK) | (clear hK; clear hK; (with_reducible refine hK _ _ _ ?_); clear hK) | (clear hK; clear hK; clear hK; (with_reducible refine hK _ _ _ ?_); clear hK))
    refine rc_st hv 4 (iv 0) rfl (by simp [recC]) { rcOf A r with bits := 0 } s rfl rfl rfl fun h1 hh1 => ?_
    conv => whnf
    repeat (first | ((with_reducible refine hK _ _ _ ?_); clear hK) | (with_reducible refine seq_step fun K hK => ?_) | ((with_reducible refine code_id ?_); conv => whnf) | (clear hK; (with_reducible refine hK _ _ _ ?_); clear hK) | (clear hK; clear hK; (with_reducible refine hK _ _ _ ?_); clear hK) | (clear hK; clear hK; clear hK; (with_reducible refine hK _ _ _ ?_); clear hK))
    refine cond_beq (fun hz => ?_) (fun hz => ?_)
    · repeat (first | ((with_reducible refine hK _ _ _ ?_); clear hK) | (with_reducible refine seq_step fun K hK => ?_) | ((with_reducible refine code_id ?_); conv => whnf) | (clear hK; (with_reducible refine hK _ _ _ ?_); clear hK) | (clear hK; clear hK; (with_reducible refine hK _ _ _ ?_); clear hK) | (clear hK; clear hK; clear hK; (with_reducible refine hK _ _ _ ?_); clear hK))
      refine rc_st hh1 2 (iv 2) rfl (by simp [recC]) { rcOf A r with bits := 0, state := 2 } s rfl rfl rfl fun h2 hh2 => ?_
      conv => whnf
      repeat (first | ((with_reducible refine hK _ _ _ ?_); clear hK) | (with_reducible refine seq_step fun K hK => ?_) | ((with_reducible refine code_id ?_); conv => whnf) | (clear hK; (with_reducible refine hK _ _ _ ?_); clear hK) | (clear hK; clear hK; (with_reducible refine hK _ _ _ ?_); clear hK) | (clear hK; clear hK; clear hK; (with_reducible refine hK _ _ _ ?_); clear hK))
      refine hq _ (EnvA.put (tb := tb) (s' := s) hw kWait a1 a2 hr hx ?_)
      rw [show rcOf A (fWait r) = { rcOf A r with bits := 0, state := 2 } by unfold fWait; rw [if_pos hz]; rfl]
      exact hh2
    · repeat (first | ((with_reducible refine hK _ _ _ ?_); clear hK) | (with_reducible refine seq_step fun K hK => ?_) | ((with_reducible refine code_id ?_); conv => whnf) | (clear hK; (with_reducible refine hK _ _ _ ?_); clear hK) | (clear hK; clear hK; (with_reducible refine hK _ _ _ ?_); clear hK) | (clear hK; clear hK; clear hK; (with_reducible refine hK _ _ _ ?_); clear hK))
      refine hq _ (EnvA.put (tb := tb) (s' := s) hw kWait a1 a2 hr hx ?_)
      rw [show rcOf A (fWait r) = { rcOf A r with bits := 0 } by unfold fWait; rw [if_neg hz]; rfl]
      exact hh1

theorem freeze33A (hw : WF A last) (e : Int) (on : Bool) (hh : Has (EnvA t A last :: L) h) (hq : ∀ h', Has (EnvA t (mFreeze A e on).2 last :: L) h' → Q (iv (mFreeze A e on).1) h') : Ok PR 33 [ptr t, iv e, .bool on] h Q := by
  obtain ⟨tb, xs, a1, a2, hh, ⟨hr, hb⟩ | ⟨n, b, r, s, rfl, hm, hr, hb, hx⟩⟩ := EnvA.look hw e hh
  · rw [mFreeze, mSet_none hr] at hq
    refine e33 rfl (seq_step fun K hK => ?_)
    repeat (first | ((with_reducible refine hK _ _ _ ?_); clear hK) | (with_reducible refine seq_step fun K hK => ?_) | ((with_reducible refine code_id ?_); conv => whnf) | (clear hK; (with_reducible refine hK _ _ _ ?_); clear hK) | (clear hK; clear hK; (with_reducible refine hK _ _ _ ?_); clear hK) | (clear hK; clear hK; clear hK; (with_reducible refine hK _ _ _ ?_); clear hK))
    refine opt_ld (hh.pt 0 rfl) (v := .agg #[ptr tb]) rfl ?_
    conv => whnf
    refine at56 (Has.get hh 1 rfl fun _ _ => TabP.sub) _ ?_
    rw [hb]
    conv => whnf
    repeat (first | ((with_reducible refine hK _ _ _ ?_); clear hK) | (with_reducible refine seq_step fun K hK => ?_) | ((with_reducible refine code_id ?_); conv => whnf) | (clear hK; (with_reducible refine hK _ _ _ ?_); clear hK) | (clear hK; clear hK; (with_reducible refine hK _ _ _ ?_); clear hK) | (clear hK; clear hK; clear hK; (with_reducible refine hK _ _ _ ?_); clear hK))
    exact hq _ (EnvP.cls a1 a2 hh)
  · have hbk := hw.bk (fnd_mem hr).1
    refine e33 rfl (seq_step fun K hK => ?_)
    repeat (first | ((with_reducible refine hK _ _ _ ?_); clear hK) | (with_reducible refine seq_step fun K hK => ?_) | ((with_reducible refine code_id ?_); conv => whnf) | (clear hK; (with_reducible refine hK _ _ _ ?_); clear hK) | (clear hK; clear hK; (with_reducible refine hK _ _ _ ?_); clear hK) | (clear hK; clear hK; clear hK; (with_reducible refine hK _ _ _ ?_); clear hK))
    refine opt_ld (hh.pt 0 rfl) (v := .agg #[ptr tb]) rfl ?_
    conv => whnf
    refine at56 (Has.get hh 1 rfl fun _ _ => TabP.sub) _ ?_
    rw [hb]
    conv => whnf
    have hv := EnvP.see hx hh
    repeat (first | ((with_reducible refine hK _ _ _ ?_); clear hK) | (with_reducible refine seq_step fun K hK => ?_) | ((with_reducible refine code_id ?_); conv => whnf) | (clear hK; (with_reducible refine hK _ _ _ ?_); clear hK) | (clear hK; clear hK; (with_reducible refine hK _ _ _ ?_); clear hK) | (clear hK; clear hK; clear hK; (with_reducible refine hK _ _ _ ?_); clear hK))
    rw [mFreeze, mSet_ok hr rfl] at hq
    refine rc_st hv 5 (.bool on) rfl (by simp [recC]) { rcOf A r with frozen := on } s rfl rfl rfl fun h1 hh1 => ?_
    conv => whnf
    repeat (first | ((with_reducible refine hK _ _ _ ?_); clear hK) | (with_reducible refine seq_step fun K hK => ?_) | ((with_reducible refine code_id ?_); conv => whnf) | (clear hK; (with_reducible refine hK _ _ _ ?_); clear hK) | (clear hK; clear hK; (with_reducible refine hK _ _ _ ?_); clear hK) | (clear hK; clear hK; clear hK; (with_reducible refine hK _ _ _ ?_); clear hK))
    exact hq _ (EnvA.put (tb := tb) (s' := s) hw (kFreeze on) a1 a2 hr hx hh1)

theorem regs15A (hw : WF A last) (e : Int) (g : List Int) (pc : Int) (hg : g.length = 8) (hh : Has (EnvA t A last :: L) h) (hq : ∀ h', Has (EnvA t (mRegs A e g pc).2 last :: L) h' → Q (iv (mRegs A e g pc).1) h') : Ok PR 15 [ptr t, iv e, .agg (g.map u32v ++ [u32v pc]).toArray] h Q := by
  obtain ⟨tb, xs, a1, a2, hh, ⟨hr, hb⟩ | ⟨n, b, r, s, rfl, hm, hr, hb, hx⟩⟩ := EnvA.look hw e hh
  · rw [mRegs, mSet_none hr] at hq
    refine e15 rfl (seq_step fun K hK => ?_)
    repeat (first | ((with_reducible refine hK _ _ _ ?_); clear hK) | (with_reducible refine seq_step fun K hK => ?_) | ((with_reducible refine code_id ?_); conv => whnf) | (clear hK; (with_reducible refine hK _ _ _ ?_); clear hK) | (clear hK; clear hK; (with_reducible refine hK _ _ _ ?_); clear hK) | (clear hK; clear hK; clear hK; (with_reducible refine hK _ _ _ ?_); clear hK))
    refine opt_ld (hh.pt 0 rfl) (v := .agg #[ptr tb]) rfl ?_
    conv => whnf
    refine at56 (Has.get hh 1 rfl fun _ _ => TabP.sub) _ ?_
    rw [hb]
    conv => whnf
    repeat (first | ((with_reducible refine hK _ _ _ ?_); clear hK) | (with_reducible refine seq_step fun K hK => ?_) | ((with_reducible refine code_id ?_); conv => whnf) | (clear hK; (with_reducible refine hK _ _ _ ?_); clear hK) | (clear hK; clear hK; (with_reducible refine hK _ _ _ ?_); clear hK) | (clear hK; clear hK; clear hK; (with_reducible refine hK _ _ _ ?_); clear hK))
    exact hq _ (EnvP.cls a1 a2 hh)
  · have hbk := hw.bk (fnd_mem hr).1
    refine e15 rfl (seq_step fun K hK => ?_)
    repeat (first | ((with_reducible refine hK _ _ _ ?_); clear hK) | (with_reducible refine seq_step fun K hK => ?_) | ((with_reducible refine code_id ?_); conv => whnf) | (clear hK; (with_reducible refine hK _ _ _ ?_); clear hK) | (clear hK; clear hK; (with_reducible refine hK _ _ _ ?_); clear hK) | (clear hK; clear hK; clear hK; (with_reducible refine hK _ _ _ ?_); clear hK))
    refine opt_ld (hh.pt 0 rfl) (v := .agg #[ptr tb]) rfl ?_
    conv => whnf
    refine at56 (Has.get hh 1 rfl fun _ _ => TabP.sub) _ ?_
    rw [hb]
    conv => whnf
    have hv := EnvP.see hx hh
    repeat (first | ((with_reducible refine hK _ _ _ ?_); clear hK) | (with_reducible refine seq_step fun K hK => ?_) | ((with_reducible refine code_id ?_); conv => whnf) | (clear hK; (with_reducible refine hK _ _ _ ?_); clear hK) | (clear hK; clear hK; (with_reducible refine hK _ _ _ ?_); clear hK) | (clear hK; clear hK; clear hK; (with_reducible refine hK _ _ _ ?_); clear hK))
    rw [mRegs, mSet_ok hr rfl] at hq
    refine opt_ldL (cs := g.map u32v ++ [u32v pc]) rfl (by simp [hg]) ?_
    conv => whnf
    refine rc_stM hv 6 9 (g.map u32v ++ [u32v pc]) rfl rfl hbk.rg (by omega) { rcOf A r with regs := g, pc := pc } s (by simp [hg]) (recC_regs hbk.rg hg pc) (List.all_eq_true.2 fun x hx => by simp only [List.mem_append, List.mem_map, List.mem_singleton] at hx; rcases hx with ⟨_, _, rfl⟩ | rfl <;> rfl) fun h1 hh1 => ?_
    conv => whnf
    repeat (first | ((with_reducible refine hK _ _ _ ?_); clear hK) | (with_reducible refine seq_step fun K hK => ?_) | ((with_reducible refine code_id ?_); conv => whnf) | (clear hK; (with_reducible refine hK _ _ _ ?_); clear hK) | (clear hK; clear hK; (with_reducible refine hK _ _ _ ?_); clear hK) | (clear hK; clear hK; clear hK; (with_reducible refine hK _ _ _ ?_); clear hK))
    exact hq _ (EnvA.put (tb := tb) (s' := s) hw (kRegs g pc) a1 a2 hr hx hh1)

theorem state14A (hw : WF A last) (e st code : Int) (hh : Has (EnvA t A last :: L) h) (hq : ∀ h', Has (EnvA t (mState A e st code).2 last :: L) h' → Q (iv (mState A e st code).1) h') : Ok PR 14 [ptr t, iv e, iv st, iv code] h Q := by
  obtain ⟨tb, xs, a1, a2, hh, ⟨hr, hb⟩ | ⟨n, b, r, s, rfl, hm, hr, hb, hx⟩⟩ := EnvA.look hw e hh
  · rw [mState, mSet_none hr] at hq
    refine e14 rfl (seq_step fun K hK => ?_)
    repeat (first | ((with_reducible refine hK _ _ _ ?_); clear hK) | (with_reducible refine seq_step fun K hK => ?_) | ((with_reducible refine code_id ?_); conv => whnf) | (clear hK; (with_reducible refine hK _ _ _ ?_); clear hK) | (clear hK; clear hK; (with_reducible refine hK _ _ _ ?_); clear hK) | (clear hK; clear hK; clear hK; (with_reducible refine hK _ _ _ ?_); clear hK))
    refine opt_ld (hh.pt 0 rfl) (v := .agg #[ptr tb]) rfl ?_
    conv => whnf
    refine at56 (Has.get hh 1 rfl fun _ _ => TabP.sub) _ ?_
    rw [hb]
    conv => whnf
    repeat (first | ((with_reducible refine hK _ _ _ ?_); clear hK) | (with_reducible refine seq_step fun K hK => ?_) | ((with_reducible refine code_id ?_); conv => whnf) | (clear hK; (with_reducible refine hK _ _ _ ?_); clear hK) | (clear hK; clear hK; (with_reducible refine hK _ _ _ ?_); clear hK) | (clear hK; clear hK; clear hK; (with_reducible refine hK _ _ _ ?_); clear hK))
    exact hq _ (EnvP.cls a1 a2 hh)
  · have hbk := hw.bk (fnd_mem hr).1
    refine e14 rfl (seq_step fun K hK => ?_)
    repeat (first | ((with_reducible refine hK _ _ _ ?_); clear hK) | (with_reducible refine seq_step fun K hK => ?_) | ((with_reducible refine code_id ?_); conv => whnf) | (clear hK; (with_reducible refine hK _ _ _ ?_); clear hK) | (clear hK; clear hK; (with_reducible refine hK _ _ _ ?_); clear hK) | (clear hK; clear hK; clear hK; (with_reducible refine hK _ _ _ ?_); clear hK))
    refine opt_ld (hh.pt 0 rfl) (v := .agg #[ptr tb]) rfl ?_
    conv => whnf
    refine at56 (Has.get hh 1 rfl fun _ _ => TabP.sub) _ ?_
    rw [hb]
    conv => whnf
    have hv := EnvP.see hx hh
    repeat (first | ((with_reducible refine hK _ _ _ ?_); clear hK) | (with_reducible refine seq_step fun K hK => ?_) | ((with_reducible refine code_id ?_); conv => whnf) | (clear hK; (with_reducible refine hK _ _ _ ?_); clear hK) | (clear hK; clear hK; (with_reducible refine hK _ _ _ ?_); clear hK) | (clear hK; clear hK; clear hK; (with_reducible refine hK _ _ _ ?_); clear hK))
    by_cases g1 : st < 0
    · rw [decide_eq_true g1]
      conv => whnf
      repeat (first | ((with_reducible refine hK _ _ _ ?_); clear hK) | (with_reducible refine seq_step fun K hK => ?_) | ((with_reducible refine code_id ?_); conv => whnf) | (clear hK; (with_reducible refine hK _ _ _ ?_); clear hK) | (clear hK; clear hK; (with_reducible refine hK _ _ _ ?_); clear hK) | (clear hK; clear hK; clear hK; (with_reducible refine hK _ _ _ ?_); clear hK))
      rw [mState, mSet_no hr (n := 1) (if_neg fun x => by have := x.1.1; omega) (by decide)] at hq
      exact hq _ (EnvP.cls a1 a2 hh)
    rw [decide_eq_false g1]
    conv => whnf
    by_cases g2 : st > 4
    · rw [decide_eq_true g2]
      conv => whnf
      repeat (first | ((with_reducible refine hK _ _ _ ?_); clear hK) | (with_reducible refine seq_step fun K hK => ?_) | ((with_reducible refine code_id ?_); conv => whnf) | (clear hK; (with_reducible refine hK _ _ _ ?_); clear hK) | (clear hK; clear hK; (with_reducible refine hK _ _ _ ?_); clear hK) | (clear hK; clear hK; clear hK; (with_reducible refine hK _ _ _ ?_); clear hK))
      rw [mState, mSet_no hr (n := 1) (if_neg fun x => by have := x.1.2; omega) (by decide)] at hq
      exact hq _ (EnvP.cls a1 a2 hh)
    rw [decide_eq_false g2]
    conv => whnf
    refine word57 code ?_
    by_cases g3 : 0 ≤ code ∧ code ≤ 4294967295
    · rw [decide_eq_true g3]
      conv => whnf
      repeat (first | ((with_reducible refine hK _ _ _ ?_); clear hK) | (with_reducible refine seq_step fun K hK => ?_) | ((with_reducible refine code_id ?_); conv => whnf) | (clear hK; (with_reducible refine hK _ _ _ ?_); clear hK) | (clear hK; clear hK; (with_reducible refine hK _ _ _ ?_); clear hK) | (clear hK; clear hK; clear hK; (with_reducible refine hK _ _ _ ?_); clear hK))
      rw [mState, mSet_ok hr (if_pos ⟨⟨by omega, by omega⟩, g3⟩)] at hq
      refine rc_st hv 2 (iv st) rfl (by simp [recC]) { rcOf A r with state := st } s rfl rfl rfl fun h1 hh1 => ?_
      conv => whnf
      refine rc_st hh1 3 (iv code) rfl (by simp [recC]) { rcOf A r with state := st, code := code } s rfl rfl rfl fun h2 hh2 => ?_
      conv => whnf
      repeat (first | ((with_reducible refine hK _ _ _ ?_); clear hK) | (with_reducible refine seq_step fun K hK => ?_) | ((with_reducible refine code_id ?_); conv => whnf) | (clear hK; (with_reducible refine hK _ _ _ ?_); clear hK) | (clear hK; clear hK; (with_reducible refine hK _ _ _ ?_); clear hK) | (clear hK; clear hK; clear hK; (with_reducible refine hK _ _ _ ?_); clear hK))
      exact hq _ (EnvA.put (tb := tb) (s' := s) hw (kState st code) a1 a2 hr hx hh2)
    · rw [decide_eq_false g3]
      conv => whnf
      repeat (first | ((with_reducible refine hK _ _ _ ?_); clear hK) | (with_reducible refine seq_step fun K hK => ?_) | ((with_reducible refine code_id ?_); conv => whnf) | (clear hK; (with_reducible refine hK _ _ _ ?_); clear hK) | (clear hK; clear hK; (with_reducible refine hK _ _ _ ?_); clear hK) | (clear hK; clear hK; clear hK; (with_reducible refine hK _ _ _ ?_); clear hK))
      rw [mState, mSet_no hr (n := 1) (if_neg fun x => g3 x.2) (by decide)] at hq
      exact hq _ (EnvP.cls a1 a2 hh)

theorem bits59A (hw : WF A last) (e m : Int) (hh : Has (EnvA t A last :: L) h) (hq : ∀ h', Has (EnvA t (mBits A e m).2 last :: L) h' → Q (iv (mBits A e m).1) h') : Ok PR 59 [ptr t, iv e, iv m] h Q := by
  obtain ⟨tb, xs, a1, a2, hh, ⟨hr, hb⟩ | ⟨n, b, r, s, rfl, hm, hr, hb, hx⟩⟩ := EnvA.look hw e hh
  · rw [mBits, mSet_none hr] at hq
    refine e59 rfl (seq_step fun K hK => ?_)
    repeat (first | ((with_reducible refine hK _ _ _ ?_); clear hK) | (with_reducible refine seq_step fun K hK => ?_) | ((with_reducible refine code_id ?_); conv => whnf) | (clear hK; (with_reducible refine hK _ _ _ ?_); clear hK) | (clear hK; clear hK; (with_reducible refine hK _ _ _ ?_); clear hK) | (clear hK; clear hK; clear hK; (with_reducible refine hK _ _ _ ?_); clear hK))
    refine opt_ld (hh.pt 0 rfl) (v := .agg #[ptr tb]) rfl ?_
    conv => whnf
    refine at56 (Has.get hh 1 rfl fun _ _ => TabP.sub) _ ?_
    rw [hb]
    conv => whnf
    repeat (first | ((with_reducible refine hK _ _ _ ?_); clear hK) | (with_reducible refine seq_step fun K hK => ?_) | ((with_reducible refine code_id ?_); conv => whnf) | (clear hK; (with_reducible refine hK _ _ _ ?_); clear hK) | (clear hK; clear hK; (with_reducible refine hK _ _ _ ?_); clear hK) | (clear hK; clear hK; clear hK; (with_reducible refine hK _ _ _ ?_); clear hK))
    exact hq _ (EnvP.cls a1 a2 hh)
  · have hbk := hw.bk (fnd_mem hr).1
    refine e59 rfl (seq_step fun K hK => ?_)
    repeat (first | ((with_reducible refine hK _ _ _ ?_); clear hK) | (with_reducible refine seq_step fun K hK => ?_) | ((with_reducible refine code_id ?_); conv => whnf) | (clear hK; (with_reducible refine hK _ _ _ ?_); clear hK) | (clear hK; clear hK; (with_reducible refine hK _ _ _ ?_); clear hK) | (clear hK; clear hK; clear hK; (with_reducible refine hK _ _ _ ?_); clear hK))
    refine opt_ld (hh.pt 0 rfl) (v := .agg #[ptr tb]) rfl ?_
    conv => whnf
    refine at56 (Has.get hh 1 rfl fun _ _ => TabP.sub) _ ?_
    rw [hb]
    conv => whnf
    have hv := EnvP.see hx hh
    repeat (first | ((with_reducible refine hK _ _ _ ?_); clear hK) | (with_reducible refine seq_step fun K hK => ?_) | ((with_reducible refine code_id ?_); conv => whnf) | (clear hK; (with_reducible refine hK _ _ _ ?_); clear hK) | (clear hK; clear hK; (with_reducible refine hK _ _ _ ?_); clear hK) | (clear hK; clear hK; clear hK; (with_reducible refine hK _ _ _ ?_); clear hK))
    refine word57 m ?_
    by_cases g3 : 0 ≤ m ∧ m ≤ 4294967295
    · rw [decide_eq_true g3]
      conv => whnf
      repeat (first | ((with_reducible refine hK _ _ _ ?_); clear hK) | (with_reducible refine seq_step fun K hK => ?_) | ((with_reducible refine code_id ?_); conv => whnf) | (clear hK; (with_reducible refine hK _ _ _ ?_); clear hK) | (clear hK; clear hK; (with_reducible refine hK _ _ _ ?_); clear hK) | (clear hK; clear hK; clear hK; (with_reducible refine hK _ _ _ ?_); clear hK))
      rw [mBits, mSet_ok hr (if_pos g3)] at hq
      refine rc_st hv 4 (iv m) rfl (by simp [recC]) { rcOf A r with bits := m } s rfl rfl rfl fun h1 hh1 => ?_
      conv => whnf
      repeat (first | ((with_reducible refine hK _ _ _ ?_); clear hK) | (with_reducible refine seq_step fun K hK => ?_) | ((with_reducible refine code_id ?_); conv => whnf) | (clear hK; (with_reducible refine hK _ _ _ ?_); clear hK) | (clear hK; clear hK; (with_reducible refine hK _ _ _ ?_); clear hK) | (clear hK; clear hK; clear hK; (with_reducible refine hK _ _ _ ?_); clear hK))
      exact hq _ (EnvA.put (tb := tb) (s' := s) hw (kBits m) a1 a2 hr hx hh1)
    · rw [decide_eq_false g3]
      conv => whnf
      repeat (first | ((with_reducible refine hK _ _ _ ?_); clear hK) | (with_reducible refine seq_step fun K hK => ?_) | ((with_reducible refine code_id ?_); conv => whnf) | (clear hK; (with_reducible refine hK _ _ _ ?_); clear hK) | (clear hK; clear hK; (with_reducible refine hK _ _ _ ?_); clear hK) | (clear hK; clear hK; clear hK; (with_reducible refine hK _ _ _ ?_); clear hK))
      rw [mBits, mSet_no hr (n := 1) (if_neg g3) (by decide)] at hq
      exact hq _ (EnvP.cls a1 a2 hh)

theorem notify18A (hw : WF A last) (e m : Int) (hh : Has (EnvA t A last :: L) h) (hq : ∀ h', Has (EnvA t (mNotify A e m).2 last :: L) h' → Q (iv (mNotify A e m).1) h') : Ok PR 18 [ptr t, iv e, iv m] h Q := by
  obtain ⟨tb, xs, a1, a2, hh, ⟨hr, hb⟩ | ⟨n, b, r, s, rfl, hm, hr, hb, hx⟩⟩ := EnvA.look hw e hh
  · rw [mNotify, mSet_none hr] at hq
    refine e18 rfl (seq_step fun K hK => ?_)
    repeat (first | ((with_reducible refine hK _ _ _ ?_); clear hK) | (with_reducible refine seq_step fun K hK => ?_) | ((with_reducible refine code_id ?_); conv => whnf) | (clear hK; (with_reducible refine hK _ _ _ ?_); clear hK) | (clear hK; clear hK; (with_reducible refine hK _ _ _ ?_); clear hK) | (clear hK; clear hK; clear hK; (with_reducible refine hK _ _ _ ?_); clear hK))
    refine opt_ld (hh.pt 0 rfl) (v := .agg #[ptr tb]) rfl ?_
    conv => whnf
    refine at56 (Has.get hh 1 rfl fun _ _ => TabP.sub) _ ?_
    rw [hb]
    conv => whnf
    repeat (first | ((with_reducible refine hK _ _ _ ?_); clear hK) | (with_reducible refine seq_step fun K hK => ?_) | ((with_reducible refine code_id ?_); conv => whnf) | (clear hK; (with_reducible refine hK _ _ _ ?_); clear hK) | (clear hK; clear hK; (with_reducible refine hK _ _ _ ?_); clear hK) | (clear hK; clear hK; clear hK; (with_reducible refine hK _ _ _ ?_); clear hK))
    exact hq _ (EnvP.cls a1 a2 hh)
  · have hbk := hw.bk (fnd_mem hr).1
    refine e18 rfl (seq_step fun K hK => ?_)
    repeat (first | ((with_reducible refine hK _ _ _ ?_); clear hK) | (with_reducible refine seq_step fun K hK => ?_) | ((with_reducible refine code_id ?_); conv => whnf) | (clear hK; (with_reducible refine hK _ _ _ ?_); clear hK) | (clear hK; clear hK; (with_reducible refine hK _ _ _ ?_); clear hK) | (clear hK; clear hK; clear hK; (with_reducible refine hK _ _ _ ?_); clear hK))
    refine opt_ld (hh.pt 0 rfl) (v := .agg #[ptr tb]) rfl ?_
    conv => whnf
    refine at56 (Has.get hh 1 rfl fun _ _ => TabP.sub) _ ?_
    rw [hb]
    conv => whnf
    have hv := EnvP.see hx hh
    repeat (first | ((with_reducible refine hK _ _ _ ?_); clear hK) | (with_reducible refine seq_step fun K hK => ?_) | ((with_reducible refine code_id ?_); conv => whnf) | (clear hK; (with_reducible refine hK _ _ _ ?_); clear hK) | (clear hK; clear hK; (with_reducible refine hK _ _ _ ?_); clear hK) | (clear hK; clear hK; clear hK; (with_reducible refine hK _ _ _ ?_); clear hK))
    refine word57 m ?_
    by_cases g3 : 0 ≤ m ∧ m ≤ 4294967295
    · rw [decide_eq_true g3]
      conv => whnf
      repeat (first | ((with_reducible refine hK _ _ _ ?_); clear hK) | (with_reducible refine seq_step fun K hK => ?_) | ((with_reducible refine code_id ?_); conv => whnf) | (clear hK; (with_reducible refine hK _ _ _ ?_); clear hK) | (clear hK; clear hK; (with_reducible refine hK _ _ _ ?_); clear hK) | (clear hK; clear hK; clear hK; (with_reducible refine hK _ _ _ ?_); clear hK))
      rw [mNotify, mSet_ok hr (if_pos g3)] at hq
      refine opt_ld (hv.pt 0 rfl) (v := iv r.bits) rfl ?_
      conv => whnf
      refine rc_st hv 4 (iv (orW r.bits m)) rfl (by simp [recC]) { rcOf A r with bits := orW r.bits m } s rfl rfl rfl fun h1 hh1 => ?_
      conv => whnf
      repeat (first | ((with_reducible refine hK _ _ _ ?_); clear hK) | (with_reducible refine seq_step fun K hK => ?_) | ((with_reducible refine code_id ?_); conv => whnf) | (clear hK; (with_reducible refine hK _ _ _ ?_); clear hK) | (clear hK; clear hK; (with_reducible refine hK _ _ _ ?_); clear hK) | (clear hK; clear hK; clear hK; (with_reducible refine hK _ _ _ ?_); clear hK))
      refine opt_ld (hh1.pt 0 rfl) (v := iv r.state) rfl ?_
      conv => whnf
      have put0 : ¬ (r.state = 2 ∧ orW r.bits m ≠ 0) → Has (EnvA t (upR A n (fNotify m)) last :: L) h1 := fun x => by
        refine EnvA.put (tb := tb) (s' := s) hw (kNotify m) a1 a2 hr hx ?_
        rw [show rcOf A (fNotify m r) = { rcOf A r with bits := orW r.bits m } by unfold fNotify; rw [if_neg x]; rfl]
        exact hh1
      by_cases g4 : r.state = 2
      · rw [show (r.state == 2) = true by rw [g4]; rfl]
        conv => whnf
        refine opt_ld (hh1.pt 0 rfl) (v := iv (orW r.bits m)) rfl ?_
        conv => whnf
        by_cases g5 : orW r.bits m = 0
        · rw [show (orW r.bits m != 0) = false by rw [g5]; rfl]
          conv => whnf
          repeat (first | ((with_reducible refine hK _ _ _ ?_); clear hK) | (with_reducible refine seq_step fun K hK => ?_) | ((with_reducible refine code_id ?_); conv => whnf) | (clear hK; (with_reducible refine hK _ _ _ ?_); clear hK) | (clear hK; clear hK; (with_reducible refine hK _ _ _ ?_); clear hK) | (clear hK; clear hK; clear hK; (with_reducible refine hK _ _ _ ?_); clear hK))
          exact hq _ (put0 fun x => x.2 g5)
        · rw [show (orW r.bits m != 0) = true from bne_iff_ne.2 g5]
          conv => whnf
          repeat (first | ((with_reducible refine hK _ _ _ ?_); clear hK) | (with_reducible refine seq_step fun K hK => ?_) | ((with_reducible refine code_id ?_); conv => whnf) | (clear hK; (with_reducible refine hK _ _ _ ?_); clear hK) | (clear hK; clear hK; (with_reducible refine hK _ _ _ ?_); clear hK) | (clear hK; clear hK; clear hK; (with_reducible refine hK _ _ _ ?_); clear hK))
          refine rc_st hh1 2 (iv 1) rfl (by simp [recC]) { rcOf A r with bits := orW r.bits m, state := 1 } s rfl rfl rfl fun h2 hh2 => ?_
          conv => whnf
          repeat (first | ((with_reducible refine hK _ _ _ ?_); clear hK) | (with_reducible refine seq_step fun K hK => ?_) | ((with_reducible refine code_id ?_); conv => whnf) | (clear hK; (with_reducible refine hK _ _ _ ?_); clear hK) | (clear hK; clear hK; (with_reducible refine hK _ _ _ ?_); clear hK) | (clear hK; clear hK; clear hK; (with_reducible refine hK _ _ _ ?_); clear hK))
          refine opt_ld (hh2.pt 0 rfl) (v := iv (orW r.bits m)) rfl ?_
          conv => whnf
          refine rc_st hh2 6 (u32v 0) rfl (by rw [recC_len (r := { rcOf A r with bits := orW r.bits m, state := 1 }) hbk.rg]; omega) { rcOf A r with bits := orW r.bits m, state := 1, regs := r.regs.set 0 0 } s (recC_reg0 (r := { rcOf A r with bits := orW r.bits m, state := 1 }) hbk.rg 0) rfl rfl fun h3 hh3 => ?_
          conv => whnf
          have e3 : (r.regs.set 0 0).length = 8 := by rw [List.length_set]; exact hbk.rg
          refine rc_st hh3 7 (u32v (IntKind.u32.wrap (orW r.bits m))) rfl (by rw [recC_len (r := { rcOf A r with bits := orW r.bits m, state := 1, regs := r.regs.set 0 0 }) e3]; omega) { rcOf A r with bits := orW r.bits m, state := 1, regs := (r.regs.set 0 0).set 1 (IntKind.u32.wrap (orW r.bits m)) } s (recC_reg1 (r := { rcOf A r with bits := orW r.bits m, state := 1, regs := r.regs.set 0 0 }) e3 _) rfl rfl fun h4 hh4 => ?_
          conv => whnf
          repeat (first | ((with_reducible refine hK _ _ _ ?_); clear hK) | (with_reducible refine seq_step fun K hK => ?_) | ((with_reducible refine code_id ?_); conv => whnf) | (clear hK; (with_reducible refine hK _ _ _ ?_); clear hK) | (clear hK; clear hK; (with_reducible refine hK _ _ _ ?_); clear hK) | (clear hK; clear hK; clear hK; (with_reducible refine hK _ _ _ ?_); clear hK))
          refine rc_st hh4 4 (iv 0) rfl (by simp [recC]) { rcOf A r with bits := 0, state := 1, regs := (r.regs.set 0 0).set 1 (IntKind.u32.wrap (orW r.bits m)) } s rfl rfl rfl fun h5 hh5 => ?_
          conv => whnf
          repeat (first | ((with_reducible refine hK _ _ _ ?_); clear hK) | (with_reducible refine seq_step fun K hK => ?_) | ((with_reducible refine code_id ?_); conv => whnf) | (clear hK; (with_reducible refine hK _ _ _ ?_); clear hK) | (clear hK; clear hK; (with_reducible refine hK _ _ _ ?_); clear hK) | (clear hK; clear hK; clear hK; (with_reducible refine hK _ _ _ ?_); clear hK))
          refine hq _ (EnvA.put (tb := tb) (s' := s) hw (kNotify m) a1 a2 hr hx ?_)
          rw [show rcOf A (fNotify m r) = { rcOf A r with bits := 0, state := 1, regs := (r.regs.set 0 0).set 1 (IntKind.u32.wrap (orW r.bits m)) } by unfold fNotify; rw [if_pos ⟨g4, g5⟩]; rfl]
          exact hh5
      · rw [show (r.state == 2) = false from beq_eq_false_iff_ne.2 g4]
        conv => whnf
        repeat (first | ((with_reducible refine hK _ _ _ ?_); clear hK) | (with_reducible refine seq_step fun K hK => ?_) | ((with_reducible refine code_id ?_); conv => whnf) | (clear hK; (with_reducible refine hK _ _ _ ?_); clear hK) | (clear hK; clear hK; (with_reducible refine hK _ _ _ ?_); clear hK) | (clear hK; clear hK; clear hK; (with_reducible refine hK _ _ _ ?_); clear hK))
        exact hq _ (put0 fun x => g4 x.1)
    · rw [decide_eq_false g3]
      conv => whnf
      repeat (first | ((with_reducible refine hK _ _ _ ?_); clear hK) | (with_reducible refine seq_step fun K hK => ?_) | ((with_reducible refine code_id ?_); conv => whnf) | (clear hK; (with_reducible refine hK _ _ _ ?_); clear hK) | (clear hK; clear hK; (with_reducible refine hK _ _ _ ?_); clear hK) | (clear hK; clear hK; clear hK; (with_reducible refine hK _ _ _ ?_); clear hK))
      rw [mNotify, mSet_no hr (n := 1) (if_neg g3) (by decide)] at hq
      exact hq _ (EnvP.cls a1 a2 hh)

theorem pay36A (hw : WF A last) (e : Int) (q : Q3) (hh : Has (EnvA t A last :: L) h) (hq : ∀ h', Has (EnvA t (mPay A e q).2 last :: L) h' → Q (iv (mPay A e q).1) h') : Ok PR 36 [ptr t, iv e, aq q] h Q := by
  obtain ⟨tb, xs, a1, a2, hh, ⟨hr, hb⟩ | ⟨n, b, r, s, rfl, hm, hr, hb, hx⟩⟩ := EnvA.look hw e hh
  · rw [mPay, mSet_none hr] at hq
    refine e36 rfl (seq_step fun K hK => ?_)
    repeat (first | ((with_reducible refine hK _ _ _ ?_); clear hK) | (with_reducible refine seq_step fun K hK => ?_) | ((with_reducible refine code_id ?_); conv => whnf) | (clear hK; (with_reducible refine hK _ _ _ ?_); clear hK) | (clear hK; clear hK; (with_reducible refine hK _ _ _ ?_); clear hK) | (clear hK; clear hK; clear hK; (with_reducible refine hK _ _ _ ?_); clear hK))
    refine opt_ld (hh.pt 0 rfl) (v := .agg #[ptr tb]) rfl ?_
    conv => whnf
    refine at56 (Has.get hh 1 rfl fun _ _ => TabP.sub) _ ?_
    rw [hb]
    conv => whnf
    repeat (first | ((with_reducible refine hK _ _ _ ?_); clear hK) | (with_reducible refine seq_step fun K hK => ?_) | ((with_reducible refine code_id ?_); conv => whnf) | (clear hK; (with_reducible refine hK _ _ _ ?_); clear hK) | (clear hK; clear hK; (with_reducible refine hK _ _ _ ?_); clear hK) | (clear hK; clear hK; clear hK; (with_reducible refine hK _ _ _ ?_); clear hK))
    exact hq _ (EnvP.cls a1 a2 hh)
  · have hbk := hw.bk (fnd_mem hr).1
    refine e36 rfl (seq_step fun K hK => ?_)
    repeat (first | ((with_reducible refine hK _ _ _ ?_); clear hK) | (with_reducible refine seq_step fun K hK => ?_) | ((with_reducible refine code_id ?_); conv => whnf) | (clear hK; (with_reducible refine hK _ _ _ ?_); clear hK) | (clear hK; clear hK; (with_reducible refine hK _ _ _ ?_); clear hK) | (clear hK; clear hK; clear hK; (with_reducible refine hK _ _ _ ?_); clear hK))
    refine opt_ld (hh.pt 0 rfl) (v := .agg #[ptr tb]) rfl ?_
    conv => whnf
    refine at56 (Has.get hh 1 rfl fun _ _ => TabP.sub) _ ?_
    rw [hb]
    conv => whnf
    have hv := EnvP.see hx hh
    repeat (first | ((with_reducible refine hK _ _ _ ?_); clear hK) | (with_reducible refine seq_step fun K hK => ?_) | ((with_reducible refine code_id ?_); conv => whnf) | (clear hK; (with_reducible refine hK _ _ _ ?_); clear hK) | (clear hK; clear hK; (with_reducible refine hK _ _ _ ?_); clear hK) | (clear hK; clear hK; clear hK; (with_reducible refine hK _ _ _ ?_); clear hK))
    refine pay68 q hbk hv (fun g1 => ?_) (fun g1 g2 => ?_) (fun g1 g2 h1 hh1 => ?_)
    · conv => whnf
      repeat (first | ((with_reducible refine hK _ _ _ ?_); clear hK) | (with_reducible refine seq_step fun K hK => ?_) | ((with_reducible refine code_id ?_); conv => whnf) | (clear hK; (with_reducible refine hK _ _ _ ?_); clear hK) | (clear hK; clear hK; (with_reducible refine hK _ _ _ ?_); clear hK) | (clear hK; clear hK; clear hK; (with_reducible refine hK _ _ _ ?_); clear hK))
      rw [mPay, mSet_no hr (n := 1) (if_neg g1) (by decide)] at hq
      exact hq _ (EnvP.cls a1 a2 hh)
    · conv => whnf
      repeat (first | ((with_reducible refine hK _ _ _ ?_); clear hK) | (with_reducible refine seq_step fun K hK => ?_) | ((with_reducible refine code_id ?_); conv => whnf) | (clear hK; (with_reducible refine hK _ _ _ ?_); clear hK) | (clear hK; clear hK; (with_reducible refine hK _ _ _ ?_); clear hK) | (clear hK; clear hK; clear hK; (with_reducible refine hK _ _ _ ?_); clear hK))
      rw [mPay, mSet_no hr (n := 2) (by simp only [if_pos g1]; exact if_neg g2) (by decide)] at hq
      exact hq _ (EnvP.cls a1 a2 hh)
    · conv => whnf
      repeat (first | ((with_reducible refine hK _ _ _ ?_); clear hK) | (with_reducible refine seq_step fun K hK => ?_) | ((with_reducible refine code_id ?_); conv => whnf) | (clear hK; (with_reducible refine hK _ _ _ ?_); clear hK) | (clear hK; clear hK; (with_reducible refine hK _ _ _ ?_); clear hK) | (clear hK; clear hK; clear hK; (with_reducible refine hK _ _ _ ?_); clear hK))
      rw [mPay, mSet_ok hr (by simp only [if_pos g1]; exact if_pos g2)] at hq
      exact hq _ (EnvA.put (tb := tb) (s' := s) hw (kPay q) a1 a2 hr hx hh1)

theorem refund37A (hw : WF A last) (e : Int) (q : Q3) (hh : Has (EnvA t A last :: L) h) (hq : ∀ h', Has (EnvA t (mRefund A e q).2 last :: L) h' → Q (iv (mRefund A e q).1) h') : Ok PR 37 [ptr t, iv e, aq q] h Q := by
  obtain ⟨tb, xs, a1, a2, hh, ⟨hr, hb⟩ | ⟨n, b, r, s, rfl, hm, hr, hb, hx⟩⟩ := EnvA.look hw e hh
  · rw [mRefund, mSet_none hr] at hq
    refine e37 rfl (seq_step fun K hK => ?_)
    repeat (first | ((with_reducible refine hK _ _ _ ?_); clear hK) | (with_reducible refine seq_step fun K hK => ?_) | ((with_reducible refine code_id ?_); conv => whnf) | (clear hK; (with_reducible refine hK _ _ _ ?_); clear hK) | (clear hK; clear hK; (with_reducible refine hK _ _ _ ?_); clear hK) | (clear hK; clear hK; clear hK; (with_reducible refine hK _ _ _ ?_); clear hK))
    refine opt_ld (hh.pt 0 rfl) (v := .agg #[ptr tb]) rfl ?_
    conv => whnf
    refine at56 (Has.get hh 1 rfl fun _ _ => TabP.sub) _ ?_
    rw [hb]
    conv => whnf
    repeat (first | ((with_reducible refine hK _ _ _ ?_); clear hK) | (with_reducible refine seq_step fun K hK => ?_) | ((with_reducible refine code_id ?_); conv => whnf) | (clear hK; (with_reducible refine hK _ _ _ ?_); clear hK) | (clear hK; clear hK; (with_reducible refine hK _ _ _ ?_); clear hK) | (clear hK; clear hK; clear hK; (with_reducible refine hK _ _ _ ?_); clear hK))
    exact hq _ (EnvP.cls a1 a2 hh)
  · have hbk := hw.bk (fnd_mem hr).1
    refine e37 rfl (seq_step fun K hK => ?_)
    repeat (first | ((with_reducible refine hK _ _ _ ?_); clear hK) | (with_reducible refine seq_step fun K hK => ?_) | ((with_reducible refine code_id ?_); conv => whnf) | (clear hK; (with_reducible refine hK _ _ _ ?_); clear hK) | (clear hK; clear hK; (with_reducible refine hK _ _ _ ?_); clear hK) | (clear hK; clear hK; clear hK; (with_reducible refine hK _ _ _ ?_); clear hK))
    refine opt_ld (hh.pt 0 rfl) (v := .agg #[ptr tb]) rfl ?_
    conv => whnf
    refine at56 (Has.get hh 1 rfl fun _ _ => TabP.sub) _ ?_
    rw [hb]
    conv => whnf
    have hv := EnvP.see hx hh
    repeat (first | ((with_reducible refine hK _ _ _ ?_); clear hK) | (with_reducible refine seq_step fun K hK => ?_) | ((with_reducible refine code_id ?_); conv => whnf) | (clear hK; (with_reducible refine hK _ _ _ ?_); clear hK) | (clear hK; clear hK; (with_reducible refine hK _ _ _ ?_); clear hK) | (clear hK; clear hK; clear hK; (with_reducible refine hK _ _ _ ?_); clear hK))
    refine refund69 q hbk hv (fun g1 => ?_) (fun g1 g2 h1 hh1 => ?_)
    · conv => whnf
      repeat (first | ((with_reducible refine hK _ _ _ ?_); clear hK) | (with_reducible refine seq_step fun K hK => ?_) | ((with_reducible refine code_id ?_); conv => whnf) | (clear hK; (with_reducible refine hK _ _ _ ?_); clear hK) | (clear hK; clear hK; (with_reducible refine hK _ _ _ ?_); clear hK) | (clear hK; clear hK; clear hK; (with_reducible refine hK _ _ _ ?_); clear hK))
      rw [mRefund, mSet_no hr (n := 1) (if_neg g1) (by decide)] at hq
      exact hq _ (EnvP.cls a1 a2 hh)
    · conv => whnf
      repeat (first | ((with_reducible refine hK _ _ _ ?_); clear hK) | (with_reducible refine seq_step fun K hK => ?_) | ((with_reducible refine code_id ?_); conv => whnf) | (clear hK; (with_reducible refine hK _ _ _ ?_); clear hK) | (clear hK; clear hK; (with_reducible refine hK _ _ _ ?_); clear hK) | (clear hK; clear hK; clear hK; (with_reducible refine hK _ _ _ ?_); clear hK))
      rw [mRefund, mSet_ok hr (if_pos ⟨g1, g2⟩)] at hq
      exact hq _ (EnvA.put (tb := tb) (s' := s) hw (kRefund q) a1 a2 hr hx hh1)

end
end Go.Proofs.Ytljenppmdhldbaa.V
