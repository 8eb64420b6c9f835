/- Seat 09: how often, and who has a serial. -/
import Derived.Test.YtljenppmdhldbaaH48
namespace Go.Proofs.Ytljenppmdhldbaa.V
set_option linter.unusedVariables false
set_option linter.unusedSimpArgs false
set_option linter.unusedSectionVars false
set_option linter.unusedSectionVars false
open Go

def mFind (A : Rs) (s : Int) : Int := match A.find? fun r => decide (r.serial = s) with
  | none => -1
  | some r => r.num

section
variable {h : Hp} {Q : Value → Hp → Prop} {L : List As} {t : Nat} {A : Rs} {last : Int}

theorem count43 {s : Value} {l : List Int} (e : Int) (hl : l.length < 2 ^ 40) (hv : IntsP s l h) (hq : Q (iv (l.count e)) h) : Ok PR 43 [s, iv e] h Q := by
  have hvw := hv.vw
  obtain ⟨_, base, cap, hs, _, _⟩ := hv.vw
  subst hs
  refine e43 rfl (seq_step fun K hK => ?_)
  repeat (first | ((with_reducible refine hK _ _ _ ?_); clear hK) | (with_reducible refine seq_step fun K hK => ?_) | (with_reducible refine block_step ?_) | ((with_reducible refine cond_t ?_ ?_); focus rfl) | ((with_reducible refine cond_f ?_ ?_); focus rfl) | ((with_reducible refine code_id ?_); conv => whnf) | (clear hK; (with_reducible refine hK _ _ _ ?_); clear hK) | (clear hK; clear hK; (with_reducible refine hK _ _ _ ?_); clear hK) | (clear hK; clear hK; clear hK; (with_reducible refine hK _ _ _ ?_); clear hK) | (clear hK; clear hK; clear hK; clear hK; (with_reducible refine hK _ _ _ ?_); clear hK) | (clear hK; clear hK; clear hK; clear hK; clear hK; (with_reducible refine hK _ _ _ ?_); clear hK) | (clear hK; clear hK; clear hK; clear hK; clear hK; clear hK; (with_reducible refine hK _ _ _ ?_); clear hK) | (clear hK; clear hK; clear hK; clear hK; clear hK; clear hK; clear hK; (with_reducible refine hK _ _ _ ?_); clear hK))
  refine loop_intro (σ := Nat) (fun i => [(0, .v (.slice base l.length cap)), (1, .v (iv e)), (5, .v (iv ((l.take i).count e : Nat))), (6, .v (iv i))]) (fun _ => []) (fun _ => h) (fun i => i ≤ l.length) (fun i => l.length - i) 0 (Nat.zero_le _)
    (subE_cons rfl (subE_cons rfl (subE_cons rfl (subE_cons rfl subE_nil)))) subB_nil rfl ?_
  intro i hi
  repeat (first | ((with_reducible refine hK _ _ _ ?_); clear hK) | (with_reducible refine seq_step fun K hK => ?_) | (with_reducible refine block_step ?_) | ((with_reducible refine cond_t ?_ ?_); focus rfl) | ((with_reducible refine cond_f ?_ ?_); focus rfl) | ((with_reducible refine code_id ?_); conv => whnf) | (clear hK; (with_reducible refine hK _ _ _ ?_); clear hK) | (clear hK; clear hK; (with_reducible refine hK _ _ _ ?_); clear hK) | (clear hK; clear hK; clear hK; (with_reducible refine hK _ _ _ ?_); clear hK) | (clear hK; clear hK; clear hK; clear hK; (with_reducible refine hK _ _ _ ?_); clear hK) | (clear hK; clear hK; clear hK; clear hK; clear hK; (with_reducible refine hK _ _ _ ?_); clear hK) | (clear hK; clear hK; clear hK; clear hK; clear hK; clear hK; (with_reducible refine hK _ _ _ ?_); clear hK) | (clear hK; clear hK; clear hK; clear hK; clear hK; clear hK; clear hK; (with_reducible refine hK _ _ _ ?_); clear hK))
  refine cond_dec (fun hlt => ?_) (fun hge => ?_)
  · have hil : i < l.length := by omega
    obtain ⟨bb, o, c, ty, z, cap', he, hbb, hcs, hg⟩ := hvw.at hil
    cases he
    have hc := hg 0 (iv l[i]) (by simp [hil])
    have htk : l.take (i + 1) = l.take i ++ [l[i]] := (List.take_append_getElem hil).symm
    have hcl : (l.take i).count e ≤ i := by have := List.count_le_length (a := e) (l := l.take i); rw [List.length_take] at this; omega
    repeat (first | ((with_reducible refine hK _ _ _ ?_); clear hK) | (with_reducible refine seq_step fun K hK => ?_) | (with_reducible refine block_step ?_) | ((with_reducible refine cond_t ?_ ?_); focus rfl) | ((with_reducible refine cond_f ?_ ?_); focus rfl) | ((with_reducible refine code_id ?_); conv => whnf) | (clear hK; (with_reducible refine hK _ _ _ ?_); clear hK) | (clear hK; clear hK; (with_reducible refine hK _ _ _ ?_); clear hK) | (clear hK; clear hK; clear hK; (with_reducible refine hK _ _ _ ?_); clear hK) | (clear hK; clear hK; clear hK; clear hK; (with_reducible refine hK _ _ _ ?_); clear hK) | (clear hK; clear hK; clear hK; clear hK; clear hK; (with_reducible refine hK _ _ _ ?_); clear hK) | (clear hK; clear hK; clear hK; clear hK; clear hK; clear hK; (with_reducible refine hK _ _ _ ?_); clear hK) | (clear hK; clear hK; clear hK; clear hK; clear hK; clear hK; clear hK; (with_reducible refine hK _ _ _ ?_); clear hK))
    refine opt_if ⟨by omega, by omega⟩ ?_
    conv => whnf
    refine opt_ld hbb (v := iv l[i]) hc ?_
    conv => whnf
    repeat (first | ((with_reducible refine hK _ _ _ ?_); clear hK) | (with_reducible refine seq_step fun K hK => ?_) | (with_reducible refine block_step ?_) | ((with_reducible refine cond_t ?_ ?_); focus rfl) | ((with_reducible refine cond_f ?_ ?_); focus rfl) | ((with_reducible refine code_id ?_); conv => whnf) | (clear hK; (with_reducible refine hK _ _ _ ?_); clear hK) | (clear hK; clear hK; (with_reducible refine hK _ _ _ ?_); clear hK) | (clear hK; clear hK; clear hK; (with_reducible refine hK _ _ _ ?_); clear hK) | (clear hK; clear hK; clear hK; clear hK; (with_reducible refine hK _ _ _ ?_); clear hK) | (clear hK; clear hK; clear hK; clear hK; clear hK; (with_reducible refine hK _ _ _ ?_); clear hK) | (clear hK; clear hK; clear hK; clear hK; clear hK; clear hK; (with_reducible refine hK _ _ _ ?_); clear hK) | (clear hK; clear hK; clear hK; clear hK; clear hK; clear hK; clear hK; (with_reducible refine hK _ _ _ ?_); clear hK))
    refine cond_beq (fun hx => ?_) (fun hx => ?_)
    · repeat (first | ((with_reducible refine hK _ _ _ ?_); clear hK) | (with_reducible refine seq_step fun K hK => ?_) | (with_reducible refine block_step ?_) | ((with_reducible refine cond_t ?_ ?_); focus rfl) | ((with_reducible refine cond_f ?_ ?_); focus rfl) | ((with_reducible refine code_id ?_); conv => whnf) | (clear hK; (with_reducible refine hK _ _ _ ?_); clear hK) | (clear hK; clear hK; (with_reducible refine hK _ _ _ ?_); clear hK) | (clear hK; clear hK; clear hK; (with_reducible refine hK _ _ _ ?_); clear hK) | (clear hK; clear hK; clear hK; clear hK; (with_reducible refine hK _ _ _ ?_); clear hK) | (clear hK; clear hK; clear hK; clear hK; clear hK; (with_reducible refine hK _ _ _ ?_); clear hK) | (clear hK; clear hK; clear hK; clear hK; clear hK; clear hK; (with_reducible refine hK _ _ _ ?_); clear hK) | (clear hK; clear hK; clear hK; clear hK; clear hK; clear hK; clear hK; (with_reducible refine hK _ _ _ ?_); clear hK))
      refine ⟨i + 1, hil, by omega, subE_cons rfl (subE_cons rfl (subE_cons (int_eq ?_ rfl) (subE_cons (int_eq (wrap_nat (by omega)) rfl) subE_nil))), subB_nil, rfl⟩
      rw [htk, List.count_append, wrap_nat (by omega)]
      simp [hx]
    · repeat (first | ((with_reducible refine hK _ _ _ ?_); clear hK) | (with_reducible refine seq_step fun K hK => ?_) | (with_reducible refine block_step ?_) | ((with_reducible refine cond_t ?_ ?_); focus rfl) | ((with_reducible refine cond_f ?_ ?_); focus rfl) | ((with_reducible refine code_id ?_); conv => whnf) | (clear hK; (with_reducible refine hK _ _ _ ?_); clear hK) | (clear hK; clear hK; (with_reducible refine hK _ _ _ ?_); clear hK) | (clear hK; clear hK; clear hK; (with_reducible refine hK _ _ _ ?_); clear hK) | (clear hK; clear hK; clear hK; clear hK; (with_reducible refine hK _ _ _ ?_); clear hK) | (clear hK; clear hK; clear hK; clear hK; clear hK; (with_reducible refine hK _ _ _ ?_); clear hK) | (clear hK; clear hK; clear hK; clear hK; clear hK; clear hK; (with_reducible refine hK _ _ _ ?_); clear hK) | (clear hK; clear hK; clear hK; clear hK; clear hK; clear hK; clear hK; (with_reducible refine hK _ _ _ ?_); clear hK))
      refine ⟨i + 1, hil, by omega, subE_cons rfl (subE_cons rfl (subE_cons (int_eq ?_ rfl) (subE_cons (int_eq (wrap_nat (by omega)) rfl) subE_nil))), subB_nil, rfl⟩
      rw [htk, List.count_append]
      simp [hx]
  · have hie : i = l.length := by omega
    rw [hie, List.take_length]
    repeat (first | ((with_reducible refine hK _ _ _ ?_); clear hK) | (with_reducible refine seq_step fun K hK => ?_) | (with_reducible refine block_step ?_) | ((with_reducible refine cond_t ?_ ?_); focus rfl) | ((with_reducible refine cond_f ?_ ?_); focus rfl) | ((with_reducible refine code_id ?_); conv => whnf) | (clear hK; (with_reducible refine hK _ _ _ ?_); clear hK) | (clear hK; clear hK; (with_reducible refine hK _ _ _ ?_); clear hK) | (clear hK; clear hK; clear hK; (with_reducible refine hK _ _ _ ?_); clear hK) | (clear hK; clear hK; clear hK; clear hK; (with_reducible refine hK _ _ _ ?_); clear hK) | (clear hK; clear hK; clear hK; clear hK; clear hK; (with_reducible refine hK _ _ _ ?_); clear hK) | (clear hK; clear hK; clear hK; clear hK; clear hK; clear hK; (with_reducible refine hK _ _ _ ?_); clear hK) | (clear hK; clear hK; clear hK; clear hK; clear hK; clear hK; clear hK; (with_reducible refine hK _ _ _ ?_); clear hK))
    exact hq

theorem find54A (hw : WF A last) (s : Int) (hh : Has (EnvA t A last :: L) h) (hq : ∀ h', Has (EnvA t A last :: L) h' → Q (iv (mFind A s)) h') : Ok PR 54 [ptr t, iv s] h Q := by
  obtain ⟨tb, xs, a1, a2, hh⟩ := EnvP.opn hh
  have hbl : (blk xs).length = 16 := by unfold blk; rw [List.length_map]; exact a1
  refine e54 rfl (seq_step fun K hK => ?_)
  repeat (first | ((with_reducible refine hK _ _ _ ?_); clear hK) | (with_reducible refine seq_step fun K hK => ?_) | (with_reducible refine block_step ?_) | ((with_reducible refine cond_t ?_ ?_); focus rfl) | ((with_reducible refine cond_f ?_ ?_); focus rfl) | ((with_reducible refine code_id ?_); conv => whnf) | (clear hK; (with_reducible refine hK _ _ _ ?_); clear hK) | (clear hK; clear hK; (with_reducible refine hK _ _ _ ?_); clear hK) | (clear hK; clear hK; clear hK; (with_reducible refine hK _ _ _ ?_); clear hK) | (clear hK; clear hK; clear hK; clear hK; (with_reducible refine hK _ _ _ ?_); clear hK) | (clear hK; clear hK; clear hK; clear hK; clear hK; (with_reducible refine hK _ _ _ ?_); clear hK) | (clear hK; clear hK; clear hK; clear hK; clear hK; clear hK; (with_reducible refine hK _ _ _ ?_); clear hK) | (clear hK; clear hK; clear hK; clear hK; clear hK; clear hK; clear hK; (with_reducible refine hK _ _ _ ?_); clear hK))
  refine fresh_has hh fun b3 h1 _ _ _ hh1 => ?_
  conv => whnf
  refine fresh_has hh1 fun b4 h2 _ _ _ hh2 => ?_
  conv => whnf
  repeat (first | ((with_reducible refine hK _ _ _ ?_); clear hK) | (with_reducible refine seq_step fun K hK => ?_) | (with_reducible refine block_step ?_) | ((with_reducible refine cond_t ?_ ?_); focus rfl) | ((with_reducible refine cond_f ?_ ?_); focus rfl) | ((with_reducible refine code_id ?_); conv => whnf) | (clear hK; (with_reducible refine hK _ _ _ ?_); clear hK) | (clear hK; clear hK; (with_reducible refine hK _ _ _ ?_); clear hK) | (clear hK; clear hK; clear hK; (with_reducible refine hK _ _ _ ?_); clear hK) | (clear hK; clear hK; clear hK; clear hK; (with_reducible refine hK _ _ _ ?_); clear hK) | (clear hK; clear hK; clear hK; clear hK; clear hK; (with_reducible refine hK _ _ _ ?_); clear hK) | (clear hK; clear hK; clear hK; clear hK; clear hK; clear hK; (with_reducible refine hK _ _ _ ?_); clear hK) | (clear hK; clear hK; clear hK; clear hK; clear hK; clear hK; clear hK; (with_reducible refine hK _ _ _ ?_); clear hK))
  refine opt_ld (hh2.pt 2 rfl) (v := ptr tb) rfl ?_
  conv => whnf
  refine all70H hh2 fun b5 h3 hh3 _ _ => ?_
  conv => whnf
  repeat (first | ((with_reducible refine hK _ _ _ ?_); clear hK) | (with_reducible refine seq_step fun K hK => ?_) | (with_reducible refine block_step ?_) | ((with_reducible refine cond_t ?_ ?_); focus rfl) | ((with_reducible refine cond_f ?_ ?_); focus rfl) | ((with_reducible refine code_id ?_); conv => whnf) | (clear hK; (with_reducible refine hK _ _ _ ?_); clear hK) | (clear hK; clear hK; (with_reducible refine hK _ _ _ ?_); clear hK) | (clear hK; clear hK; clear hK; (with_reducible refine hK _ _ _ ?_); clear hK) | (clear hK; clear hK; clear hK; clear hK; (with_reducible refine hK _ _ _ ?_); clear hK) | (clear hK; clear hK; clear hK; clear hK; clear hK; (with_reducible refine hK _ _ _ ?_); clear hK) | (clear hK; clear hK; clear hK; clear hK; clear hK; clear hK; (with_reducible refine hK _ _ _ ?_); clear hK) | (clear hK; clear hK; clear hK; clear hK; clear hK; clear hK; clear hK; (with_reducible refine hK _ _ _ ?_); clear hK))
  refine rf_intro trivial callable97 fun r R hr hR hY => ?_
  have hh4 := hh3.new hr (o := R .ready)
  refine Ok.mono (walk97 (p := tb) (Qd := fun h' => ((∀ x ∈ A, x.serial ≠ s) ∧ Has (Pt r (R .ready) :: Pt b5 (.cells #[ptr tb] 94 (0, 0)) :: Pt b4 (.cells #[iv 0] 3 (0, 0)) :: Pt b3 (.cells #[iv s] 3 (0, 0)) :: Pt t (.cells #[ptr tb, iv last] 98 (0, 0)) :: TabP rowP tb (blk xs) :: RecsP xs :: L) h') ∨
      (∃ x ∈ A, x.serial = s ∧ Has (Pt r (R (.done .ret)) :: Pt b5 (.cells #[ptr tb] 94 (0, 0)) :: Pt b4 (.cells #[iv x.num] 3 (0, 0)) :: Pt b3 (.cells #[iv s] 3 (0, 0)) :: Pt t (.cells #[ptr tb, iv last] 98 (0, 0)) :: TabP rowP tb (blk xs) :: RecsP xs :: L) h'))
    (fun c h' => 0 ≤ c ∧ (∀ x ∈ A, (x.num : Int) < c → x.serial ≠ s) ∧ Has (Pt r (R .ready) :: Pt b5 (.cells #[ptr tb] 94 (0, 0)) :: Pt b4 (.cells #[iv 0] 3 (0, 0)) :: Pt b3 (.cells #[iv s] 3 (0, 0)) :: Pt t (.cells #[ptr tb, iv last] 98 (0, 0)) :: TabP rowP tb (blk xs) :: RecsP xs :: L) h')
    (fun c g ⟨hc, hno, hg⟩ => ⟨hc, hg.pt 1 rfl, blk xs, Has.get hg 5 rfl fun _ _ => TabP.sub, fun hn => ?_, fun k w hk hw' => ?_⟩)
    ⟨Int.le_refl _, fun x _ hx => by omega, hh4⟩) ?_
  · refine .inl ⟨fun x hx => ?_, hg⟩
    by_cases hxc : (x.num : Int) < c
    · exact hno x hx hxc
    · rcases nextR_spec (blk xs) c with ⟨_, h1⟩ | ⟨k, w, e, _⟩
      · have h2 := h1 x.num (by omega) (by have := hw.lt x hx; omega)
        rcases xlook (xs := xs) hw a2 (x.num : Int) with ⟨h3, _⟩ | ⟨n, b, y, sl, e, _, _, h4, _⟩
        · rw [fnd_of hw.nd hx] at h3; cases h3
        · rw [got_nat, h2] at h4; cases h4
      · rw [hn] at e; omega
  · obtain ⟨hck, hgap⟩ : c ≤ (k : Int) ∧ ∀ j : Nat, c ≤ j → j < k → (blk xs)[j]? = some none := by
      rcases nextR_spec (blk xs) c with ⟨e, _⟩ | ⟨k2, w2, e, h1, h2, h3⟩
      · rw [hk] at e; omega
      · rw [hk] at e
        have : k2 = k := by omega
        subst this
        exact ⟨h1, h2⟩
    obtain ⟨x, sl, hfx, hxx⟩ : ∃ (x : Row) (sl : Value), fnd A (k : Int) = some x ∧ xs[k]? = some (some (w, rcOf A x, sl)) := by
      rcases xlook (xs := xs) hw a2 (k : Int) with ⟨_, h3⟩ | ⟨n, b, y, sl, e, _, h3, h4, h5⟩
      · rw [got_nat, hw'] at h3; cases h3
      · have : n = k := by omega
        subst this
        rw [got_nat, hw'] at h4
        cases h4
        exact ⟨y, sl, h3, h5⟩
    have hxm := fnd_mem hfx
    have hno2 : x.serial ≠ s → ∀ y ∈ A, (y.num : Int) < k + 1 → y.serial ≠ s := fun hne y hy hyk => by
      by_cases h1 : (y.num : Int) < c
      · exact hno y hy h1
      · by_cases h2 : y.num = k
        · have : y = x := uniq hw.nd hy hxm.1 (by omega)
          subst this; exact hne
        · have h3 := hgap y.num (by omega) (by omega)
          rcases xlook (xs := xs) hw a2 (y.num : Int) with ⟨h4, _⟩ | ⟨n, b, y2, sl2, e, _, _, h4, _⟩
          · rw [fnd_of hw.nd hy] at h4; cases h4
          · rw [got_nat, h3] at h4; cases h4
    refine hY _ g _ rfl (hg.pt 0 rfl) ?_
    conv => whnf
    refine ⟨hg.pt 0 rfl, ?_⟩
    have hg3 := hg.st 0 rfl (R .busy)
    have hrec := (EnvA.rec (L := Pt r (R .busy) :: Pt b5 (.cells #[ptr tb] 94 (0, 0)) :: Pt b4 (.cells #[iv 0] 3 (0, 0)) :: Pt b3 (.cells #[iv s] 3 (0, 0)) :: L) (((hg3.pull 6 rfl).pull 6 rfl).pull 6 rfl) hxx).1
    conv => whnf
    refine opt_ld hrec (v := iv x.serial) rfl ?_
    conv => whnf
    refine opt_ld (hg3.pt 3 rfl) (v := iv s) rfl ?_
    conv => whnf
    refine cond_beq (fun heq => ?_) (fun hne => ?_)
    · conv => whnf
      refine st_has hg3 2 rfl rfl (Nat.le_refl _) rfl fun g6 _ _ hg6 => ?_
      conv => whnf
      refine ⟨hg6.pt 0 rfl, .inr ⟨rfl, .inr ⟨x, hxm.1, heq, ?_⟩⟩⟩
      have h7 := hg6.st 0 rfl (R (.done .ret))
      rw [hxm.2]
      exact h7
    · conv => whnf
      refine ⟨hg3.pt 0 rfl, .inl ⟨rfl, by omega, hno2 hne, ?_⟩⟩
      exact hg3.st 0 rfl (R .ready)
  · rintro v' h' (⟨hno, hg⟩ | ⟨x, hx, hxs, hg⟩)
    · refine ⟨.ready, hg.pt 0 rfl, fun o => ?_⟩
      have hg' := hg.st 0 rfl o
      repeat (first | ((with_reducible refine hK _ _ _ ?_); clear hK) | (with_reducible refine seq_step fun K hK => ?_) | (with_reducible refine block_step ?_) | ((with_reducible refine cond_t ?_ ?_); focus rfl) | ((with_reducible refine cond_f ?_ ?_); focus rfl) | ((with_reducible refine code_id ?_); conv => whnf) | (clear hK; (with_reducible refine hK _ _ _ ?_); clear hK) | (clear hK; clear hK; (with_reducible refine hK _ _ _ ?_); clear hK) | (clear hK; clear hK; clear hK; (with_reducible refine hK _ _ _ ?_); clear hK) | (clear hK; clear hK; clear hK; clear hK; (with_reducible refine hK _ _ _ ?_); clear hK) | (clear hK; clear hK; clear hK; clear hK; clear hK; (with_reducible refine hK _ _ _ ?_); clear hK) | (clear hK; clear hK; clear hK; clear hK; clear hK; clear hK; (with_reducible refine hK _ _ _ ?_); clear hK) | (clear hK; clear hK; clear hK; clear hK; clear hK; clear hK; clear hK; (with_reducible refine hK _ _ _ ?_); clear hK))
      refine st_has hg' 2 rfl rfl (Nat.le_refl _) rfl fun g6 _ _ hg6 => ?_
      conv => whnf
      repeat (first | ((with_reducible refine hK _ _ _ ?_); clear hK) | (with_reducible refine seq_step fun K hK => ?_) | (with_reducible refine block_step ?_) | ((with_reducible refine cond_t ?_ ?_); focus rfl) | ((with_reducible refine cond_f ?_ ?_); focus rfl) | ((with_reducible refine code_id ?_); conv => whnf) | (clear hK; (with_reducible refine hK _ _ _ ?_); clear hK) | (clear hK; clear hK; (with_reducible refine hK _ _ _ ?_); clear hK) | (clear hK; clear hK; clear hK; (with_reducible refine hK _ _ _ ?_); clear hK) | (clear hK; clear hK; clear hK; clear hK; (with_reducible refine hK _ _ _ ?_); clear hK) | (clear hK; clear hK; clear hK; clear hK; clear hK; (with_reducible refine hK _ _ _ ?_); clear hK) | (clear hK; clear hK; clear hK; clear hK; clear hK; clear hK; (with_reducible refine hK _ _ _ ?_); clear hK) | (clear hK; clear hK; clear hK; clear hK; clear hK; clear hK; clear hK; (with_reducible refine hK _ _ _ ?_); clear hK))
      refine ret_c rfl (hg6.pt 2 rfl) (v := iv (-1)) rfl ?_
      rw [show mFind A s = -1 by unfold mFind; rw [List.find?_eq_none.2 fun x hx => by simpa using hno x hx]] at hq
      exact hq _ ((((hg6.erase 0).erase 0).erase 0).erase 0 |> EnvP.cls a1 a2)
    · refine ⟨.done .ret, hg.pt 0 rfl, fun o => ?_⟩
      have hg' := hg.st 0 rfl o
      conv => whnf
      refine ret_c rfl (hg'.pt 2 rfl) (v := iv x.num) rfl ?_
      rw [show mFind A s = x.num by
        unfold mFind
        cases hf : A.find? fun r => decide (r.serial = s) with
        | none => exact absurd (decide_eq_true hxs) (by simpa using List.find?_eq_none.1 hf x hx)
        | some y =>
          have h1 := List.mem_of_find?_eq_some hf
          have h2 : y.serial = s := of_decide_eq_true (List.find?_some (p := fun r : Row => decide (r.serial = s)) hf)
          have hxy : x = y := by
            have hp := hw.sr
            rcases List.getElem_of_mem hx with ⟨i, hi, e1⟩
            rcases List.getElem_of_mem h1 with ⟨j, hj, e2⟩
            rcases Nat.lt_trichotomy i j with hij | hij | hij
            · have := List.pairwise_iff_getElem.1 hp i j hi hj hij
              rw [e1, e2] at this; omega
            · subst hij; rw [← e1, ← e2]
            · have := List.pairwise_iff_getElem.1 hp j i hj hi hij
              rw [e1, e2] at this; omega
          rw [hxy]] at hq
      exact hq _ ((((hg'.erase 0).erase 0).erase 0).erase 0 |> EnvP.cls a1 a2)

end
end Go.Proofs.Ytljenppmdhldbaa.V
