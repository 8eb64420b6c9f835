/- Seat 09: Children, Tree. -/
import Derived.Test.YtljenppmdhldbaaH22
namespace Go.Proofs.Ytljenppmdhldbaa.V
set_option linter.unusedVariables false
set_option linter.unusedSimpArgs false
set_option linter.unusedSectionVars false
set_option linter.unusedSectionVars false
open Go

def mKids (A : Rs) (e : Int) : List Int × Int := match fnd A e with
  | none => ([], 90)
  | some _ => (kids A e, 0)
def mTree (A : Rs) (e : Int) : List Int × Int := match fnd A e with
  | none => ([], 90)
  | some _ => (walk A e, 0)

theorem iv_one (l : List Int) : (l.map iv).all one = true := List.all_eq_true.2 fun x hx => by obtain ⟨_, _, rfl⟩ := List.mem_map.1 hx; rfl

section
variable {h : Hp} {Q : Value → Hp → Prop} {L : List As} {t : Nat} {A : Rs} {last : Int}

theorem clone71 {s : Value} {l : List Int} (hl : l.length ≤ 16) (hh : Has L h) (hv : IntsP s l h) (hq : ∀ s' h', Has (IntsP s' l :: L) h' → Q s' h') : Ok PR 71 [s] h Q := by
  have hvw := hv.vw
  obtain ⟨bs, hlen, ⟨_, hs, h0⟩ | ⟨d, o, cap, c, ty, _, hs, _⟩⟩ := hv
  · subst hs
    have : l = [] := List.eq_nil_of_length_eq_zero h0
    subst this
    refine e71 rfl (seq_step fun K hK => ?_)
    repeat (first | ((with_reducible refine hK _ _ _ ?_); clear hK) | (with_reducible refine seq_step fun K hK => ?_) | ((with_reducible refine code_id ?_); conv => whnf) | (clear hK; (with_reducible refine hK _ _ _ ?_); clear hK) | (clear hK; clear hK; (with_reducible refine hK _ _ _ ?_); clear hK) | (clear hK; clear hK; clear hK; (with_reducible refine hK _ _ _ ?_); clear hK))
    exact hq _ _ (Has.nilW hh 1)
  · subst hs
    refine e71 rfl (seq_step fun K hK => ?_)
    repeat (first | ((with_reducible refine hK _ _ _ ?_); clear hK) | (with_reducible refine seq_step fun K hK => ?_) | ((with_reducible refine code_id ?_); conv => whnf) | (clear hK; (with_reducible refine hK _ _ _ ?_); clear hK) | (clear hK; clear hK; (with_reducible refine hK _ _ _ ?_); clear hK) | (clear hK; clear hK; clear hK; (with_reducible refine hK _ _ _ ?_); clear hK))
    refine fresh_has hh fun b1 h1 hb1 _ hs1 hh1 => ?_
    conv => whnf
    have hh2 : Has (WnP [Value.int .i64 0].length (.slice (some ⟨b1, 0, none⟩) 0 0) 0 [] :: L) h1 := hh1.mono1 fun g hg => pt_wn (e := 1) (cs := []) rfl (Nat.le_refl _) rfl hg
    refine app_hasW (z := [.int .i64 0]) (m := l.length) (ws := l.map iv) hh2 0 rfl (hvw.sub hs1) (iv_one l) (by omega) fun s' h' hh' => ?_
    conv => whnf
    repeat (first | ((with_reducible refine hK _ _ _ ?_); clear hK) | (with_reducible refine seq_step fun K hK => ?_) | ((with_reducible refine code_id ?_); conv => whnf) | (clear hK; (with_reducible refine hK _ _ _ ?_); clear hK) | (clear hK; clear hK; (with_reducible refine hK _ _ _ ?_); clear hK) | (clear hK; clear hK; clear hK; (with_reducible refine hK _ _ _ ?_); clear hK))
    refine hq s' _ ?_
    have e1 : 0 + l.length = l.length := Nat.zero_add _
    have h3 : Has (WnP 1 s' (0 + l.length) ([] ++ l.map iv) :: L) h' := hh'
    rw [e1] at h3
    exact h3

theorem tree27A (hw : WF A last) (e : Int) (hh : Has (EnvA t A last :: L) h) (hq : ∀ s h', Has (IntsP s (mTree A e).1 :: EnvA t A last :: L) h' → Q (.tuple #[s, iv (mTree A e).2]) h') : Ok PR 27 [ptr t, iv e] h Q := by
  obtain ⟨tb, xs, a1, a2, hh, ⟨hr, hb⟩ | ⟨n, b, r, s, rfl, hm, hr, hb, hx⟩⟩ := EnvA.look hw e hh
  · rw [show mTree A e = ([], 90) by unfold mTree; rw [hr]] at hq
    refine e27 rfl (seq_step fun K hK => ?_)
    repeat (first | ((with_reducible refine hK _ _ _ ?_); clear hK) | (with_reducible refine seq_step fun K hK => ?_) | ((with_reducible refine code_id ?_); conv => whnf) | (clear hK; (with_reducible refine hK _ _ _ ?_); clear hK) | (clear hK; clear hK; (with_reducible refine hK _ _ _ ?_); clear hK) | (clear hK; clear hK; clear hK; (with_reducible refine hK _ _ _ ?_); clear hK))
    refine opt_ld (hh.pt 0 rfl) (v := .agg #[ptr tb]) rfl ?_
    conv => whnf
    refine at56 (Has.get hh 1 rfl fun _ _ => TabP.sub) _ ?_
    rw [hb]
    conv => whnf
    repeat (first | ((with_reducible refine hK _ _ _ ?_); clear hK) | (with_reducible refine seq_step fun K hK => ?_) | ((with_reducible refine code_id ?_); conv => whnf) | (clear hK; (with_reducible refine hK _ _ _ ?_); clear hK) | (clear hK; clear hK; (with_reducible refine hK _ _ _ ?_); clear hK) | (clear hK; clear hK; clear hK; (with_reducible refine hK _ _ _ ?_); clear hK))
    exact hq _ _ (Has.nilW (EnvP.cls a1 a2 hh) 1)
  · rw [show mTree A n = (walk A n, 0) by unfold mTree; rw [hr]] at hq
    obtain ⟨g, hg, hh2⟩ := Has.toIs (Has.group (L1 := EnvX t tb xs last) hh)
    refine e27 rfl (seq_step fun K hK => ?_)
    repeat (first | ((with_reducible refine hK _ _ _ ?_); clear hK) | (with_reducible refine seq_step fun K hK => ?_) | ((with_reducible refine code_id ?_); conv => whnf) | (clear hK; (with_reducible refine hK _ _ _ ?_); clear hK) | (clear hK; clear hK; (with_reducible refine hK _ _ _ ?_); clear hK) | (clear hK; clear hK; clear hK; (with_reducible refine hK _ _ _ ?_); clear hK))
    refine opt_ld (hh.pt 0 rfl) (v := .agg #[ptr tb]) rfl ?_
    conv => whnf
    refine at56 (Has.get hh 1 rfl fun _ _ => TabP.sub) _ ?_
    rw [hb]
    conv => whnf
    repeat (first | ((with_reducible refine hK _ _ _ ?_); clear hK) | (with_reducible refine seq_step fun K hK => ?_) | ((with_reducible refine code_id ?_); conv => whnf) | (clear hK; (with_reducible refine hK _ _ _ ?_); clear hK) | (clear hK; clear hK; (with_reducible refine hK _ _ _ ?_); clear hK) | (clear hK; clear hK; clear hK; (with_reducible refine hK _ _ _ ?_); clear hK))
    refine walk65A hw a2 hg n r hr [] _ _ _ (by have := walk_len hw hr; simp only [List.length_nil]; omega) (Has.nilW hh2 1) fun sl h2 hh3 => ?_
    have hh4 : Has (Pt t (.cells #[ptr tb, iv last] 98 (0, 0)) :: TabP rowP tb (blk xs) :: RecsP xs :: IntsP sl (walk A n) :: L) h2 := Has.flat (L1 := EnvX t tb xs last) (Has.ofIs hg hh3.swap)
    conv => whnf
    repeat (first | ((with_reducible refine hK _ _ _ ?_); clear hK) | (with_reducible refine seq_step fun K hK => ?_) | ((with_reducible refine code_id ?_); conv => whnf) | (clear hK; (with_reducible refine hK _ _ _ ?_); clear hK) | (clear hK; clear hK; (with_reducible refine hK _ _ _ ?_); clear hK) | (clear hK; clear hK; clear hK; (with_reducible refine hK _ _ _ ?_); clear hK))
    exact hq _ _ (EnvP.cls a1 a2 hh4).swap

theorem kids39A (hw : WF A last) (e : Int) (hh : Has (EnvA t A last :: L) h) (hq : ∀ s h', Has (IntsP s (mKids A e).1 :: EnvA t A last :: L) h' → Q (.tuple #[s, iv (mKids A e).2]) h') : Ok PR 39 [ptr t, iv e] h Q := by
  have hh0 := hh
  obtain ⟨tb, xs, a1, a2, hh, ⟨hr, hb⟩ | ⟨n, b, r, s, rfl, hm, hr, hb, hx⟩⟩ := EnvA.look hw e hh
  · rw [show mKids A e = ([], 90) by unfold mKids; rw [hr]] at hq
    refine e39 rfl (seq_step fun K hK => ?_)
    repeat (first | ((with_reducible refine hK _ _ _ ?_); clear hK) | (with_reducible refine seq_step fun K hK => ?_) | ((with_reducible refine code_id ?_); conv => whnf) | (clear hK; (with_reducible refine hK _ _ _ ?_); clear hK) | (clear hK; clear hK; (with_reducible refine hK _ _ _ ?_); clear hK) | (clear hK; clear hK; clear hK; (with_reducible refine hK _ _ _ ?_); clear hK))
    refine opt_ld (hh.pt 0 rfl) (v := .agg #[ptr tb]) rfl ?_
    conv => whnf
    refine at56 (Has.get hh 1 rfl fun _ _ => TabP.sub) _ ?_
    rw [hb]
    conv => whnf
    repeat (first | ((with_reducible refine hK _ _ _ ?_); clear hK) | (with_reducible refine seq_step fun K hK => ?_) | ((with_reducible refine code_id ?_); conv => whnf) | (clear hK; (with_reducible refine hK _ _ _ ?_); clear hK) | (clear hK; clear hK; (with_reducible refine hK _ _ _ ?_); clear hK) | (clear hK; clear hK; clear hK; (with_reducible refine hK _ _ _ ?_); clear hK))
    exact hq _ _ (Has.nilW (EnvP.cls a1 a2 hh) 1)
  · rw [show mKids A n = (kids A n, 0) by unfold mKids; rw [hr]] at hq
    have hbk := hw.bk (fnd_mem hr).1
    have hrec := EnvA.rec hh hx
    have hkn : (rcOf A r).kids = kids A (n : Int) := by show kids A r.num = _; rw [(fnd_mem hr).2]
    rw [hkn] at hrec
    refine e39 rfl (seq_step fun K hK => ?_)
    repeat (first | ((with_reducible refine hK _ _ _ ?_); clear hK) | (with_reducible refine seq_step fun K hK => ?_) | ((with_reducible refine code_id ?_); conv => whnf) | (clear hK; (with_reducible refine hK _ _ _ ?_); clear hK) | (clear hK; clear hK; (with_reducible refine hK _ _ _ ?_); clear hK) | (clear hK; clear hK; clear hK; (with_reducible refine hK _ _ _ ?_); clear hK))
    refine opt_ld (hh.pt 0 rfl) (v := .agg #[ptr tb]) rfl ?_
    conv => whnf
    refine at56 (Has.get hh 1 rfl fun _ _ => TabP.sub) _ ?_
    rw [hb]
    conv => whnf
    repeat (first | ((with_reducible refine hK _ _ _ ?_); clear hK) | (with_reducible refine seq_step fun K hK => ?_) | ((with_reducible refine code_id ?_); conv => whnf) | (clear hK; (with_reducible refine hK _ _ _ ?_); clear hK) | (clear hK; clear hK; (with_reducible refine hK _ _ _ ?_); clear hK) | (clear hK; clear hK; clear hK; (with_reducible refine hK _ _ _ ?_); clear hK))
    refine opt_ld hrec.1 (rd_kids hbk.rg) ?_
    conv => whnf
    refine clone71 ?_ hh0 hrec.2 fun s' h' hh' => ?_
    · have := hw.len
      have : (kids A (n : Int)).length ≤ A.length := by unfold kids kidsR; rw [List.length_map]; exact List.length_filter_le _ _
      omega
    conv => whnf
    repeat (first | ((with_reducible refine hK _ _ _ ?_); clear hK) | (with_reducible refine seq_step fun K hK => ?_) | ((with_reducible refine code_id ?_); conv => whnf) | (clear hK; (with_reducible refine hK _ _ _ ?_); clear hK) | (clear hK; clear hK; (with_reducible refine hK _ _ _ ?_); clear hK) | (clear hK; clear hK; clear hK; (with_reducible refine hK _ _ _ ?_); clear hK))
    exact hq _ _ hh'

end
end Go.Proofs.Ytljenppmdhldbaa.V
