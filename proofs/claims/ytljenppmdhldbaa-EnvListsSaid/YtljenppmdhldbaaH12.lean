/- Seat 09: the calls that only tell. -/
import Derived.Test.YtljenppmdhldbaaH11
namespace Go.Proofs.Ytljenppmdhldbaa.V
set_option linter.unusedVariables false
set_option linter.unusedSimpArgs false
set_option linter.unusedSectionVars false
set_option linter.unusedSectionVars false
open Go

/-- What Info tells. -/
structure Inf where
  serial : Int
  parent : Int
  state : Int
  code : Int
  bits : Int
  frozen : Bool
  regs : List Int
  pc : Int
  quota : Q3
  left : Q3

def infC (x : Inf) : List Value := [iv x.serial, iv x.parent, iv x.state, iv x.code, iv x.bits, .bool x.frozen] ++ x.regs.map u32v ++ [u32v x.pc] ++ q3 x.quota ++ q3 x.left
def infZ : Inf := ⟨0, 0, 0, 0, 0, false, [0, 0, 0, 0, 0, 0, 0, 0], 0, qz, qz⟩
def infOf (A : Rs) (r : Row) : Inf := ⟨r.serial, r.parent, r.state, r.code, r.bits, r.frozen, r.regs, r.pc, r.whole, left A r⟩
def mInfo (A : Rs) (e : Int) : Inf × Int := match fnd A e with
  | none => (infZ, 90)
  | some r => (infOf A r, 0)

theorem eight {l : List Int} (h : l.length = 8) : ∃ g0 g1 g2 g3 g4 g5 g6 g7, l = [g0, g1, g2, g3, g4, g5, g6, g7] := by
  match l, h with
  | [_, _, _, _, _, _, _, _], _ => exact ⟨_, _, _, _, _, _, _, _, rfl⟩

section
variable {h : Hp} {Q : Value → Hp → Prop} {L : List As} {t : Nat} {A : Rs} {last : Int}

theorem xlook {xs : Xs} (hw : WF A last) (a2 : rcs xs = tab A) (e : Int) : (fnd A e = none ∧ got (blk xs) e = none) ∨ ∃ (n b : Nat) (r : Row) (s : Value), e = n ∧ n < 16 ∧ fnd A e = some r ∧ got (blk xs) e = some b ∧ xs[n]? = some (some (b, rcOf A r, s)) := by
  have h1 := got_rcs xs e
  rw [a2, got_tab hw.lt] at h1
  have h2 := got_blk xs e
  cases hg : got xs e with
  | none =>
    rw [hg] at h1 h2
    exact .inl ⟨Option.map_eq_none_iff.1 h1, h2⟩
  | some y =>
    rw [hg] at h1 h2
    obtain ⟨n, rfl, hn, hx⟩ := got_some hg
    obtain ⟨b, r, s⟩ := y
    obtain ⟨r', h4, h5⟩ := Option.map_eq_some_iff.1 h1
    have h5 : rcOf A r' = r := h5
    subst h5
    have hr := fnd_mem h4
    exact .inr ⟨n, b, r', s, rfl, by have := hw.lt _ hr.1; omega, h4, h2, hx⟩

/-- A record in sight, for reading. -/
theorem EnvA.rec {tb n b : Nat} {xs : Xs} {r : Rec} {s : Value} (hh : Has (Pt t (.cells #[ptr tb, iv last] 98 (0, 0)) :: TabP rowP tb (blk xs) :: RecsP xs :: L) h) (hx : xs[n]? = some (some (b, r, s))) :
    h b = some (.cells (recC r s).toArray 103 (0, 0)) ∧ WnP 1 s r.kids.length (r.kids.map iv) h :=
  ⟨(EnvP.see hx hh).pt 0 rfl, Has.get (EnvP.see hx hh) 1 rfl fun _ _ => WnP.sub⟩

theorem info19A (hw : WF A last) (e : Int) (hh : Has (EnvA t A last :: L) h) (hq : Q (.tuple #[.agg (infC (mInfo A e).1).toArray, iv (mInfo A e).2]) h) : Ok PR 19 [ptr t, iv e] h Q := by
  obtain ⟨tb, xs, a1, a2, hh, ⟨hr, hb⟩ | ⟨n, b, r, s, rfl, hm, hr, hb, hx⟩⟩ := EnvA.look hw e hh
  · rw [show mInfo A e = (infZ, 90) by unfold mInfo; rw [hr]] at hq
    refine e19 rfl (seq_step fun K hK => ?_)
    repeat (first | ((with_reducible refine hK _ _ _ ?_); clear hK) | (with_reducible refine seq_step fun K hK => ?_) | ((with_reducible refine code_id ?_); conv => whnf) | (clear hK; (with_reducible refine hK _ _ _ ?_); clear hK) | (clear hK; clear hK; (with_reducible refine hK _ _ _ ?_); clear hK) | (clear hK; clear hK; clear hK; (with_reducible refine hK _ _ _ ?_); clear hK))
    refine opt_ld (hh.pt 0 rfl) (v := .agg #[ptr tb]) rfl ?_
    conv => whnf
    refine at56 (Has.get hh 1 rfl fun _ _ => TabP.sub) _ ?_
    rw [hb]
    conv => whnf
    repeat (first | ((with_reducible refine hK _ _ _ ?_); clear hK) | (with_reducible refine seq_step fun K hK => ?_) | ((with_reducible refine code_id ?_); conv => whnf) | (clear hK; (with_reducible refine hK _ _ _ ?_); clear hK) | (clear hK; clear hK; (with_reducible refine hK _ _ _ ?_); clear hK) | (clear hK; clear hK; clear hK; (with_reducible refine hK _ _ _ ?_); clear hK))
    exact hq
  · rw [show mInfo A n = (infOf A r, 0) by unfold mInfo; rw [hr]] at hq
    have hbk := hw.bk (fnd_mem hr).1
    obtain ⟨hp, hk⟩ := EnvA.rec hh hx
    refine e19 rfl (seq_step fun K hK => ?_)
    repeat (first | ((with_reducible refine hK _ _ _ ?_); clear hK) | (with_reducible refine seq_step fun K hK => ?_) | ((with_reducible refine code_id ?_); conv => whnf) | (clear hK; (with_reducible refine hK _ _ _ ?_); clear hK) | (clear hK; clear hK; (with_reducible refine hK _ _ _ ?_); clear hK) | (clear hK; clear hK; clear hK; (with_reducible refine hK _ _ _ ?_); clear hK))
    refine opt_ld (hh.pt 0 rfl) (v := .agg #[ptr tb]) rfl ?_
    conv => whnf
    refine at56 (Has.get hh 1 rfl fun _ _ => TabP.sub) _ ?_
    rw [hb]
    conv => whnf
    repeat (first | ((with_reducible refine hK _ _ _ ?_); clear hK) | (with_reducible refine seq_step fun K hK => ?_) | ((with_reducible refine code_id ?_); conv => whnf) | (clear hK; (with_reducible refine hK _ _ _ ?_); clear hK) | (clear hK; clear hK; (with_reducible refine hK _ _ _ ?_); clear hK) | (clear hK; clear hK; clear hK; (with_reducible refine hK _ _ _ ?_); clear hK))
    obtain ⟨g0, g1, g2, g3, g4, g5, g6, g7, hg⟩ := eight (hw.rg _ (fnd_mem hr).1)
    rw [show recC (rcOf A r) s = [iv r.serial, iv r.parent, iv r.state, iv r.code, iv r.bits, .bool r.frozen, u32v g0, u32v g1, u32v g2, u32v g3, u32v g4, u32v g5, u32v g6, u32v g7, u32v r.pc, iv 0, iv 0, iv 0, iv 0, iv 0, iv 0] ++ q3 r.whole ++ q3 r.paid ++ q3 (carve A r.num) ++ [s] by simp [recC, rcOf, hg, q3]] at hp
    refine opt_ld hp (v := .agg #[iv r.serial, iv r.parent, iv r.state, iv r.code, iv r.bits, .bool r.frozen, u32v g0, u32v g1, u32v g2, u32v g3, u32v g4, u32v g5, u32v g6, u32v g7, u32v r.pc, iv 0, iv 0, iv 0, iv 0, iv 0, iv 0]) rfl ?_
    conv => whnf
    repeat (first | ((with_reducible refine hK _ _ _ ?_); clear hK) | (with_reducible refine seq_step fun K hK => ?_) | ((with_reducible refine code_id ?_); conv => whnf) | (clear hK; (with_reducible refine hK _ _ _ ?_); clear hK) | (clear hK; clear hK; (with_reducible refine hK _ _ _ ?_); clear hK) | (clear hK; clear hK; clear hK; (with_reducible refine hK _ _ _ ?_); clear hK))
    refine ⟨_, _, SubH.refl _, SubB.refl _, ?_⟩
    conv => whnf
    refine opt_ld hp (v := aq r.whole) rfl ?_
    conv => whnf
    refine left58 hbk (EnvA.rec hh hx).1 ?_
    conv => whnf
    refine ⟨⟨SubH.refl _, fun _ _ h => h⟩, ?_⟩
    conv => whnf
    repeat (first | ((with_reducible refine hK _ _ _ ?_); clear hK) | (with_reducible refine seq_step fun K hK => ?_) | ((with_reducible refine code_id ?_); conv => whnf) | (clear hK; (with_reducible refine hK _ _ _ ?_); clear hK) | (clear hK; clear hK; (with_reducible refine hK _ _ _ ?_); clear hK) | (clear hK; clear hK; clear hK; (with_reducible refine hK _ _ _ ?_); clear hK))
    rw [show infC (infOf A r) = [iv r.serial, iv r.parent, iv r.state, iv r.code, iv r.bits, .bool r.frozen, u32v g0, u32v g1, u32v g2, u32v g3, u32v g4, u32v g5, u32v g6, u32v g7, u32v r.pc] ++ q3 r.whole ++ q3 (left A r) by simp [infC, infOf, hg, q3]] at hq
    exact hq

theorem runs17A (hw : WF A last) (e : Int) (hh : Has (EnvA t A last :: L) h) (hq : Q (.bool (mRuns A e)) h) : Ok PR 17 [ptr t, iv e] h Q := by
  obtain ⟨tb, xs, a1, a2, hh, ⟨hr, hb⟩ | ⟨n, b, r, s, rfl, hm, hr, hb, hx⟩⟩ := EnvA.look hw e hh
  · rw [show mRuns A e = false by unfold mRuns; rw [hr]; rfl] at hq
    refine e17 rfl (seq_step fun K hK => ?_)
    repeat (first | ((with_reducible refine hK _ _ _ ?_); clear hK) | (with_reducible refine seq_step fun K hK => ?_) | ((with_reducible refine code_id ?_); conv => whnf) | (clear hK; (with_reducible refine hK _ _ _ ?_); clear hK) | (clear hK; clear hK; (with_reducible refine hK _ _ _ ?_); clear hK) | (clear hK; clear hK; clear hK; (with_reducible refine hK _ _ _ ?_); clear hK))
    refine opt_ld (hh.pt 0 rfl) (v := .agg #[ptr tb]) rfl ?_
    conv => whnf
    refine at56 (Has.get hh 1 rfl fun _ _ => TabP.sub) _ ?_
    rw [hb]
    conv => whnf
    repeat (first | ((with_reducible refine hK _ _ _ ?_); clear hK) | (with_reducible refine seq_step fun K hK => ?_) | ((with_reducible refine code_id ?_); conv => whnf) | (clear hK; (with_reducible refine hK _ _ _ ?_); clear hK) | (clear hK; clear hK; (with_reducible refine hK _ _ _ ?_); clear hK) | (clear hK; clear hK; clear hK; (with_reducible refine hK _ _ _ ?_); clear hK))
    exact hq
  · have hbk := hw.bk (fnd_mem hr).1
    obtain ⟨hp, hk⟩ := EnvA.rec hh hx
    refine e17 rfl (seq_step fun K hK => ?_)
    repeat (first | ((with_reducible refine hK _ _ _ ?_); clear hK) | (with_reducible refine seq_step fun K hK => ?_) | ((with_reducible refine code_id ?_); conv => whnf) | (clear hK; (with_reducible refine hK _ _ _ ?_); clear hK) | (clear hK; clear hK; (with_reducible refine hK _ _ _ ?_); clear hK) | (clear hK; clear hK; clear hK; (with_reducible refine hK _ _ _ ?_); clear hK))
    refine opt_ld (hh.pt 0 rfl) (v := .agg #[ptr tb]) rfl ?_
    conv => whnf
    refine at56 (Has.get hh 1 rfl fun _ _ => TabP.sub) _ ?_
    rw [hb]
    conv => whnf
    repeat (first | ((with_reducible refine hK _ _ _ ?_); clear hK) | (with_reducible refine seq_step fun K hK => ?_) | ((with_reducible refine code_id ?_); conv => whnf) | (clear hK; (with_reducible refine hK _ _ _ ?_); clear hK) | (clear hK; clear hK; (with_reducible refine hK _ _ _ ?_); clear hK) | (clear hK; clear hK; clear hK; (with_reducible refine hK _ _ _ ?_); clear hK))
    refine opt_ld hp (v := iv r.state) rfl ?_
    conv => whnf
    by_cases g : r.state = 1
    · rw [show (r.state != 1) = false by rw [g]; rfl]
      conv => whnf
      repeat (first | ((with_reducible refine hK _ _ _ ?_); clear hK) | (with_reducible refine seq_step fun K hK => ?_) | ((with_reducible refine code_id ?_); conv => whnf) | (clear hK; (with_reducible refine hK _ _ _ ?_); clear hK) | (clear hK; clear hK; (with_reducible refine hK _ _ _ ?_); clear hK) | (clear hK; clear hK; clear hK; (with_reducible refine hK _ _ _ ?_); clear hK))
      refine loop_intro (σ := Int) (fun e => [(0, .v (ptr t)), (5, .v (ptrO (got (blk xs) e)))]) (fun _ => []) (fun _ => h) (fun e => (chain A n).any (frzn A) = (chain A e).any (frzn A)) (fun e => (chain A e).length) (n : Int) rfl (subE_cons rfl (subE_cons (by rw [hb]; rfl) subE_nil)) subB_nil rfl ?_
      intro e he
      rcases xlook hw a2 e with ⟨hr2, hb2⟩ | ⟨n2, b2, r2, s2, rfl, hm2, hr2, hb2, hx2⟩
      · rw [hb2]
        repeat (first | ((with_reducible refine hK _ _ _ ?_); clear hK) | (with_reducible refine seq_step fun K hK => ?_) | ((with_reducible refine code_id ?_); conv => whnf) | (clear hK; (with_reducible refine hK _ _ _ ?_); clear hK) | (clear hK; clear hK; (with_reducible refine hK _ _ _ ?_); clear hK) | (clear hK; clear hK; clear hK; (with_reducible refine hK _ _ _ ?_); clear hK))
        rw [chain_none hr2] at he
        rw [show mRuns A n = true by unfold mRuns; rw [hr, he]; simp [g]] at hq
        exact hq
      · rw [hb2]
        have hbk := hw.bk (fnd_mem hr2).1
        obtain ⟨hp2, hk2⟩ := EnvA.rec hh hx2
        repeat (first | ((with_reducible refine hK _ _ _ ?_); clear hK) | (with_reducible refine seq_step fun K hK => ?_) | ((with_reducible refine code_id ?_); conv => whnf) | (clear hK; (with_reducible refine hK _ _ _ ?_); clear hK) | (clear hK; clear hK; (with_reducible refine hK _ _ _ ?_); clear hK) | (clear hK; clear hK; clear hK; (with_reducible refine hK _ _ _ ?_); clear hK))
        refine opt_ld hp2 (v := .bool r2.frozen) rfl ?_
        conv => whnf
        repeat (first | ((with_reducible refine hK _ _ _ ?_); clear hK) | (with_reducible refine seq_step fun K hK => ?_) | ((with_reducible refine code_id ?_); conv => whnf) | (clear hK; (with_reducible refine hK _ _ _ ?_); clear hK) | (clear hK; clear hK; (with_reducible refine hK _ _ _ ?_); clear hK) | (clear hK; clear hK; clear hK; (with_reducible refine hK _ _ _ ?_); clear hK))
        refine cond_split (fun g2 => ?_) (fun g2 => ?_)
        · repeat (first | ((with_reducible refine hK _ _ _ ?_); clear hK) | (with_reducible refine seq_step fun K hK => ?_) | ((with_reducible refine code_id ?_); conv => whnf) | (clear hK; (with_reducible refine hK _ _ _ ?_); clear hK) | (clear hK; clear hK; (with_reducible refine hK _ _ _ ?_); clear hK) | (clear hK; clear hK; clear hK; (with_reducible refine hK _ _ _ ?_); clear hK))
          rw [show mRuns A n = false by unfold mRuns; rw [he, chain_some hw hr2]; simp [frzn, hr2, g2]] at hq
          exact hq
        · repeat (first | ((with_reducible refine hK _ _ _ ?_); clear hK) | (with_reducible refine seq_step fun K hK => ?_) | ((with_reducible refine code_id ?_); conv => whnf) | (clear hK; (with_reducible refine hK _ _ _ ?_); clear hK) | (clear hK; clear hK; (with_reducible refine hK _ _ _ ?_); clear hK) | (clear hK; clear hK; clear hK; (with_reducible refine hK _ _ _ ?_); clear hK))
          refine opt_ld (hh.pt 0 rfl) (v := .agg #[ptr tb]) rfl ?_
          conv => whnf
          refine opt_ld hp2 (v := iv r2.parent) rfl ?_
          conv => whnf
          refine at56 (Has.get hh 1 rfl fun _ _ => TabP.sub) _ ?_
          conv => whnf
          repeat (first | ((with_reducible refine hK _ _ _ ?_); clear hK) | (with_reducible refine seq_step fun K hK => ?_) | ((with_reducible refine code_id ?_); conv => whnf) | (clear hK; (with_reducible refine hK _ _ _ ?_); clear hK) | (clear hK; clear hK; (with_reducible refine hK _ _ _ ?_); clear hK) | (clear hK; clear hK; clear hK; (with_reducible refine hK _ _ _ ?_); clear hK))
          refine ⟨r2.parent, ?_, chain_lt hw hr2, subE_cons rfl (subE_cons rfl subE_nil), subB_nil, rfl⟩
          rw [he, chain_some hw hr2]; simp [frzn, hr2, g2]
    · rw [show (r.state != 1) = true from bne_iff_ne.2 g]
      rw [show mRuns A n = false by unfold mRuns; rw [hr]; simp [g]] at hq
      conv => whnf
      repeat (first | ((with_reducible refine hK _ _ _ ?_); clear hK) | (with_reducible refine seq_step fun K hK => ?_) | ((with_reducible refine code_id ?_); conv => whnf) | (clear hK; (with_reducible refine hK _ _ _ ?_); clear hK) | (clear hK; clear hK; (with_reducible refine hK _ _ _ ?_); clear hK) | (clear hK; clear hK; clear hK; (with_reducible refine hK _ _ _ ?_); clear hK))
      exact hq

theorem inside35A (hw : WF A last) (root e : Int) (hh : Has (EnvA t A last :: L) h) (hq : Q (.bool (mInside A root e)) h) : Ok PR 35 [ptr t, iv root, iv e] h Q := by
  obtain ⟨tb, xs, a1, a2, hh, ⟨hr, hb⟩ | ⟨n, b, r, s, rfl, hm, hr, hb, hx⟩⟩ := EnvA.look hw root hh
  · rw [show mInside A root e = false by unfold mInside; rw [hr]; rfl] at hq
    refine e35 rfl (seq_step fun K hK => ?_)
    repeat (first | ((with_reducible refine hK _ _ _ ?_); clear hK) | (with_reducible refine seq_step fun K hK => ?_) | ((with_reducible refine code_id ?_); conv => whnf) | (clear hK; (with_reducible refine hK _ _ _ ?_); clear hK) | (clear hK; clear hK; (with_reducible refine hK _ _ _ ?_); clear hK) | (clear hK; clear hK; clear hK; (with_reducible refine hK _ _ _ ?_); clear hK))
    refine opt_ld (hh.pt 0 rfl) (v := .agg #[ptr tb]) rfl ?_
    conv => whnf
    refine at56 (Has.get hh 1 rfl fun _ _ => TabP.sub) _ ?_
    rw [hb]
    conv => whnf
    repeat (first | ((with_reducible refine hK _ _ _ ?_); clear hK) | (with_reducible refine seq_step fun K hK => ?_) | ((with_reducible refine code_id ?_); conv => whnf) | (clear hK; (with_reducible refine hK _ _ _ ?_); clear hK) | (clear hK; clear hK; (with_reducible refine hK _ _ _ ?_); clear hK) | (clear hK; clear hK; clear hK; (with_reducible refine hK _ _ _ ?_); clear hK))
    exact hq
  · refine e35 rfl (seq_step fun K hK => ?_)
    repeat (first | ((with_reducible refine hK _ _ _ ?_); clear hK) | (with_reducible refine seq_step fun K hK => ?_) | ((with_reducible refine code_id ?_); conv => whnf) | (clear hK; (with_reducible refine hK _ _ _ ?_); clear hK) | (clear hK; clear hK; (with_reducible refine hK _ _ _ ?_); clear hK) | (clear hK; clear hK; clear hK; (with_reducible refine hK _ _ _ ?_); clear hK))
    refine opt_ld (hh.pt 0 rfl) (v := .agg #[ptr tb]) rfl ?_
    conv => whnf
    refine at56 (Has.get hh 1 rfl fun _ _ => TabP.sub) _ ?_
    rw [hb]
    conv => whnf
    repeat (first | ((with_reducible refine hK _ _ _ ?_); clear hK) | (with_reducible refine seq_step fun K hK => ?_) | ((with_reducible refine code_id ?_); conv => whnf) | (clear hK; (with_reducible refine hK _ _ _ ?_); clear hK) | (clear hK; clear hK; (with_reducible refine hK _ _ _ ?_); clear hK) | (clear hK; clear hK; clear hK; (with_reducible refine hK _ _ _ ?_); clear hK))
    refine opt_ld (hh.pt 0 rfl) (v := .agg #[ptr tb]) rfl ?_
    conv => whnf
    refine at56 (Has.get hh 1 rfl fun _ _ => TabP.sub) _ ?_
    conv => whnf
    repeat (first | ((with_reducible refine hK _ _ _ ?_); clear hK) | (with_reducible refine seq_step fun K hK => ?_) | ((with_reducible refine code_id ?_); conv => whnf) | (clear hK; (with_reducible refine hK _ _ _ ?_); clear hK) | (clear hK; clear hK; (with_reducible refine hK _ _ _ ?_); clear hK) | (clear hK; clear hK; clear hK; (with_reducible refine hK _ _ _ ?_); clear hK))
    refine loop_intro (σ := Int) (fun e => [(0, .v (ptr t)), (1, .v (iv n)), (2, .v (iv e)), (7, .v (ptrO (got (blk xs) e)))]) (fun _ => []) (fun _ => h) (fun e' => (chain A e).contains (n : Int) = (chain A e').contains (n : Int)) (fun e => (chain A e).length) e rfl (subE_cons rfl (subE_cons rfl (subE_cons rfl (subE_cons rfl subE_nil)))) subB_nil rfl ?_
    intro e1 he
    rcases xlook hw a2 e1 with ⟨hr2, hb2⟩ | ⟨n2, b2, r2, s2, rfl, hm2, hr2, hb2, hx2⟩
    · rw [hb2]
      repeat (first | ((with_reducible refine hK _ _ _ ?_); clear hK) | (with_reducible refine seq_step fun K hK => ?_) | ((with_reducible refine code_id ?_); conv => whnf) | (clear hK; (with_reducible refine hK _ _ _ ?_); clear hK) | (clear hK; clear hK; (with_reducible refine hK _ _ _ ?_); clear hK) | (clear hK; clear hK; clear hK; (with_reducible refine hK _ _ _ ?_); clear hK))
      rw [chain_none hr2] at he
      rw [show mInside A n e = false by unfold mInside; rw [he]; simp] at hq
      exact hq
    · rw [hb2]
      obtain ⟨hp2, hk2⟩ := EnvA.rec hh hx2
      repeat (first | ((with_reducible refine hK _ _ _ ?_); clear hK) | (with_reducible refine seq_step fun K hK => ?_) | ((with_reducible refine code_id ?_); conv => whnf) | (clear hK; (with_reducible refine hK _ _ _ ?_); clear hK) | (clear hK; clear hK; (with_reducible refine hK _ _ _ ?_); clear hK) | (clear hK; clear hK; clear hK; (with_reducible refine hK _ _ _ ?_); clear hK))
      refine cond_beq (fun g => ?_) (fun g => ?_)
      · repeat (first | ((with_reducible refine hK _ _ _ ?_); clear hK) | (with_reducible refine seq_step fun K hK => ?_) | ((with_reducible refine code_id ?_); conv => whnf) | (clear hK; (with_reducible refine hK _ _ _ ?_); clear hK) | (clear hK; clear hK; (with_reducible refine hK _ _ _ ?_); clear hK) | (clear hK; clear hK; clear hK; (with_reducible refine hK _ _ _ ?_); clear hK))
        rw [show mInside A n e = true by unfold mInside; rw [he, chain_some hw hr2, hr, g]; simp] at hq
        exact hq
      · repeat (first | ((with_reducible refine hK _ _ _ ?_); clear hK) | (with_reducible refine seq_step fun K hK => ?_) | ((with_reducible refine code_id ?_); conv => whnf) | (clear hK; (with_reducible refine hK _ _ _ ?_); clear hK) | (clear hK; clear hK; (with_reducible refine hK _ _ _ ?_); clear hK) | (clear hK; clear hK; clear hK; (with_reducible refine hK _ _ _ ?_); clear hK))
        refine ⟨_, _, SubH.refl _, SubB.refl _, ?_⟩
        conv => whnf
        refine opt_ld hp2 (v := iv r2.parent) rfl ?_
        conv => whnf
        refine opt_ld (hh.pt 0 rfl) (v := .agg #[ptr tb]) rfl ?_
        conv => whnf
        refine opt_ld hp2 (v := iv r2.parent) rfl ?_
        conv => whnf
        refine at56 (Has.get hh 1 rfl fun _ _ => TabP.sub) _ ?_
        conv => whnf
        refine ⟨⟨SubH.refl _, SubB.refl _⟩, ?_⟩
        conv => whnf
        refine ⟨r2.parent, ?_, chain_lt hw hr2, subE_cons rfl (subE_cons rfl (subE_cons rfl (subE_cons rfl subE_nil))), subB_nil, rfl⟩
        rw [he, chain_some hw hr2]; simp [Ne.symm g]

end
end Go.Proofs.Ytljenppmdhldbaa.V
