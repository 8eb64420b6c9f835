/- Seat 09: what is set of an environment. -/
import Derived.Test.YtljenppmdhldbaaH4
namespace Go.Proofs.Ytljenppmdhldbaa.V
set_option linter.unusedVariables false
set_option linter.unusedSimpArgs false
set_option linter.unusedSectionVars false
set_option linter.unusedSectionVars false
open Go

section
variable {h : Hp} {Q : Value → Hp → Prop} {L : List As} {t : Nat} {rs : List (Option Rec)} {last : Int}

theorem word57 (n : Int) (hq : Q (.bool (decide (0 ≤ n ∧ n ≤ 4294967295))) h) : Ok PR 57 [iv n] h Q := by
  refine e57 rfl ?_
  refine seq_step fun K hK => ?_
  conv => whnf
  refine hK _ _ _ ?_
  conv => whnf
  by_cases h0 : 0 ≤ n
  · rw [show decide (n ≥ 0) = true from decide_eq_true h0]
    conv => whnf
    rw [show (decide (0 ≤ n ∧ n ≤ 4294967295)) = decide (n ≤ 4294967295) from by simp [h0]] at hq
    exact hq
  · rw [show decide (n ≥ 0) = false from decide_eq_false h0]
    conv => whnf
    rw [show (decide (0 ≤ n ∧ n ≤ 4294967295)) = false from by simp [h0]] at hq
    exact hq

theorem freeze33 {n : Nat} {r : Rec} (on : Bool) (hh : Has (EnvP t rs last :: L) h) (hg : got rs (n : Int) = some r) (hq : ∀ h', Has (EnvP t (rs.set n (some { r with frozen := on })) last :: L) h' → Q (iv 0) h') : Ok PR 33 [ptr t, iv n, .bool on] h Q := by
  obtain ⟨tab, xs, a1, a2, hh, ⟨hr, _⟩ | ⟨m, b, r1, s, e1, hm, hr, hb, hx⟩⟩ := EnvP.look (e := n) hh
  · rw [hg] at hr; cases hr
  · obtain rfl : m = n := by omega
    rw [hg] at hr
    cases hr
    refine e33 rfl ?_
    refine seq_step fun K hK => ?_
    conv => whnf
    refine hK _ _ _ (seq_step fun K1 hK1 => ?_)
    conv => whnf
    refine opt_ld (hh.pt 0 rfl) (v := .agg #[ptr tab]) rfl ?_
    conv => whnf
    refine at56 (Has.get hh 1 rfl fun _ _ => TabP.sub) m ?_
    rw [hb]
    have hv := EnvP.see hx hh
    conv => whnf
    refine hK1 _ _ _ (seq_step fun K2 hK2 => ?_)
    refine seq_step fun K3 hK3 => ?_
    conv => whnf
    refine hK3 _ _ _ ?_
    conv => whnf
    refine hK2 _ _ _ (seq_step fun K4 hK4 => ?_)
    conv => whnf
    refine rc_st hv 5 (.bool on) rfl (by simp [recC]) { r with frozen := on } s rfl rfl rfl fun h1 hh1 => ?_
    conv => whnf
    refine hK4 _ _ _ ?_
    conv => whnf
    exact hq _ (EnvP.put a1 a2 hx hh1)

theorem state14 {n : Nat} {r : Rec} (st code : Int) (h1 : 0 ≤ st ∧ st ≤ 4) (h2 : 0 ≤ code ∧ code ≤ 4294967295) (hh : Has (EnvP t rs last :: L) h) (hg : got rs (n : Int) = some r) (hq : ∀ h', Has (EnvP t (rs.set n (some { r with state := st, code := code })) last :: L) h' → Q (iv 0) h') : Ok PR 14 [ptr t, iv n, iv st, iv code] h Q := by
  obtain ⟨tab, xs, a1, a2, hh, ⟨hr, _⟩ | ⟨m, b, r1, s, e1, hm, hr, hb, hx⟩⟩ := EnvP.look (e := n) hh
  · rw [hg] at hr; cases hr
  · obtain rfl : m = n := by omega
    rw [hg] at hr
    cases hr
    refine e14 rfl ?_
    refine seq_step fun K hK => ?_
    conv => whnf
    refine hK _ _ _ (seq_step fun K1 hK1 => ?_)
    conv => whnf
    refine opt_ld (hh.pt 0 rfl) (v := .agg #[ptr tab]) rfl ?_
    conv => whnf
    refine at56 (Has.get hh 1 rfl fun _ _ => TabP.sub) m ?_
    rw [hb]
    have hv := EnvP.see hx hh
    conv => whnf
    refine hK1 _ _ _ (seq_step fun K2 hK2 => ?_)
    refine seq_step fun K3 hK3 => ?_
    conv => whnf
    refine hK3 _ _ _ ?_
    conv => whnf
    refine hK2 _ _ _ (seq_step fun K4 hK4 => ?_)
    refine seq_step fun K5 hK5 => ?_
    conv => whnf
    rw [show decide (st < 0) = false from decide_eq_false (by omega)]
    conv => whnf
    rw [show decide (st > 4) = false from decide_eq_false (by omega)]
    conv => whnf
    refine word57 code ?_
    rw [show decide (0 ≤ code ∧ code ≤ 4294967295) = true from decide_eq_true h2]
    conv => whnf
    refine hK5 _ _ _ ?_
    conv => whnf
    refine hK4 _ _ _ (seq_step fun K6 hK6 => ?_)
    conv => whnf
    refine rc_st hv 2 (iv st) rfl (by simp [recC]) { r with state := st } s rfl rfl rfl fun h1 hh1 => ?_
    conv => whnf
    refine rc_st hh1 3 (iv code) rfl (by simp [recC]) { r with state := st, code := code } s rfl rfl rfl fun h2 hh2 => ?_
    conv => whnf
    refine hK6 _ _ _ ?_
    conv => whnf
    exact hq _ (EnvP.put a1 a2 hx hh2)

end
end Go.Proofs.Ytljenppmdhldbaa.V
