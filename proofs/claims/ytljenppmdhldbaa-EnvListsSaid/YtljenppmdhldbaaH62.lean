/- Seat 09: endsApart. -/
import Derived.Test.YtljenppmdhldbaaH61
import Derived.Test.YtljenppmdhldbaaH32
import Derived.Test.YtljenppmdhldbaaH26
namespace Go.Proofs.Ytljenppmdhldbaa.V
set_option linter.unusedVariables false
set_option linter.unusedSimpArgs false
set_option linter.unusedSectionVars false
set_option linter.unusedSectionVars false
open Go

section
variable {h : Hp} {Q : Value → Hp → Prop} {L : List As} {A : Rs} {last : Int} {t : Nat}

theorem ends_two (hw : WF A last) (hk : 2 ≤ (kids A 0).length) : ∃ (k0 k1 : Nat) (r0 r1 : Row), (kids A 0)[0]? = some (k0 : Int) ∧ (kids A 0)[1]? = some (k1 : Int) ∧ fnd A (k0 : Int) = some r0 ∧ k0 ≠ 0 ∧ fnd (cut A (k0 : Int)) (k1 : Int) = some r1 ∧ k1 ≠ 0 := by
  obtain ⟨s0, a0, a1, a2, a3⟩ := kids_at (A := A) (n := 0) (i := 0) (by omega)
  obtain ⟨s1, b0, b1, b2, b3⟩ := kids_at (A := A) (n := 0) (i := 1) (by omega)
  have n0 : s0.num ≠ 0 := by rcases hw.par s0 a2 with ⟨_, h⟩ | ⟨h, _⟩ <;> omega
  have n1 : s1.num ≠ 0 := by rcases hw.par s1 b2 with ⟨_, h⟩ | ⟨h, _⟩ <;> omega
  have f0 := fnd_of hw.nd a2
  have f1 := fnd_of hw.nd b2
  have hne : s0.num ≠ s1.num := by
    have hnd : (A.map (·.num)).Nodup := hw.nd
    have hk2 : ((kidsR A 0).map (·.num)).Nodup := hnd.sublist (List.filter_sublist.map _)
    have h1 := List.pairwise_iff_getElem.1 hk2 0 1 (by rw [List.length_map]; have := (List.getElem?_eq_some_iff.1 b0).1; omega) (by rw [List.length_map]; exact (List.getElem?_eq_some_iff.1 b0).1) (by omega)
    rw [List.getElem_map, List.getElem_map, (List.getElem?_eq_some_iff.1 a0).2, (List.getElem?_eq_some_iff.1 b0).2] at h1
    exact h1
  refine ⟨s0.num, s1.num, s0, s1, a1, b1, f0, n0, ?_, n1⟩
  rw [fnd_cut A hw.nd, if_neg, f1]
  rw [gone_kid hw f0 (root_out hw f0 (by omega)) (mem_kidsR.2 ⟨b2, b3⟩)]
  omega

set_option maxHeartbeats 1000000 in
theorem ends46 (hw : WF A last) {sk : Value} (hh : Has (IntsP sk (kids A 0) :: EnvA t A last :: L) h) (hq : ∀ h', Has L h' → Q (.bool true) h') : Ok PR 46 [ptr t, sk] h Q := by
  obtain ⟨base, cap, hs⟩ := hh.slv 0 rfl
  subst hs
  refine e46 rfl (seq_step fun K hK => ?_)
  repeat (first | ((with_reducible refine hK _ _ _ ?_); clear hK) | (with_reducible refine seq_step fun K hK => ?_) | (with_reducible refine block_step ?_) | ((with_reducible refine cond_t ?_ ?_); focus rfl) | ((with_reducible refine cond_f ?_ ?_); focus rfl) | ((with_reducible refine code_id ?_); conv => whnf) | (clear hK; (with_reducible refine hK _ _ _ ?_); clear hK) | (clear hK; clear hK; (with_reducible refine hK _ _ _ ?_); clear hK) | (clear hK; clear hK; clear hK; (with_reducible refine hK _ _ _ ?_); clear hK) | (clear hK; clear hK; clear hK; clear hK; (with_reducible refine hK _ _ _ ?_); clear hK) | (clear hK; clear hK; clear hK; clear hK; clear hK; (with_reducible refine hK _ _ _ ?_); clear hK) | (clear hK; clear hK; clear hK; clear hK; clear hK; clear hK; (with_reducible refine hK _ _ _ ?_); clear hK) | (clear hK; clear hK; clear hK; clear hK; clear hK; clear hK; clear hK; (with_reducible refine hK _ _ _ ?_); clear hK))
  refine cond_dec (fun hlt => ?_) (fun hge => ?_)
  · repeat (first | ((with_reducible refine hK _ _ _ ?_); clear hK) | (with_reducible refine seq_step fun K hK => ?_) | (with_reducible refine block_step ?_) | ((with_reducible refine cond_t ?_ ?_); focus rfl) | ((with_reducible refine cond_f ?_ ?_); focus rfl) | ((with_reducible refine code_id ?_); conv => whnf) | (clear hK; (with_reducible refine hK _ _ _ ?_); clear hK) | (clear hK; clear hK; (with_reducible refine hK _ _ _ ?_); clear hK) | (clear hK; clear hK; clear hK; (with_reducible refine hK _ _ _ ?_); clear hK) | (clear hK; clear hK; clear hK; clear hK; (with_reducible refine hK _ _ _ ?_); clear hK) | (clear hK; clear hK; clear hK; clear hK; clear hK; (with_reducible refine hK _ _ _ ?_); clear hK) | (clear hK; clear hK; clear hK; clear hK; clear hK; clear hK; (with_reducible refine hK _ _ _ ?_); clear hK) | (clear hK; clear hK; clear hK; clear hK; clear hK; clear hK; clear hK; (with_reducible refine hK _ _ _ ?_); clear hK))
    exact hq _ hh.tail.tail
  · obtain ⟨k0, k1, r0, r1, a0, a1, f0, n0, f1, n1⟩ := ends_two hw (by omega)
    obtain ⟨bb, o, cap', c, ty, z, he, hbb, hc⟩ := hh.rdw 0 rfl (k := 0) (v := iv k0) (by omega) (by rw [List.getElem?_map, a0]; rfl)
    cases he
    repeat (first | ((with_reducible refine hK _ _ _ ?_); clear hK) | (with_reducible refine seq_step fun K hK => ?_) | (with_reducible refine block_step ?_) | ((with_reducible refine cond_t ?_ ?_); focus rfl) | ((with_reducible refine cond_f ?_ ?_); focus rfl) | ((with_reducible refine code_id ?_); conv => whnf) | (clear hK; (with_reducible refine hK _ _ _ ?_); clear hK) | (clear hK; clear hK; (with_reducible refine hK _ _ _ ?_); clear hK) | (clear hK; clear hK; clear hK; (with_reducible refine hK _ _ _ ?_); clear hK) | (clear hK; clear hK; clear hK; clear hK; (with_reducible refine hK _ _ _ ?_); clear hK) | (clear hK; clear hK; clear hK; clear hK; clear hK; (with_reducible refine hK _ _ _ ?_); clear hK) | (clear hK; clear hK; clear hK; clear hK; clear hK; clear hK; (with_reducible refine hK _ _ _ ?_); clear hK) | (clear hK; clear hK; clear hK; clear hK; clear hK; clear hK; clear hK; (with_reducible refine hK _ _ _ ?_); clear hK))
    refine opt_if ⟨by omega, by omega⟩ ?_
    conv => whnf
    refine opt_ld hbb (v := iv k0) hc ?_
    conv => whnf
    refine destroy23A hw k0 hh.swap fun f h1 hh1 => ?_
    have hwl := walk_len hw f0
    rw [show mDestroy A k0 = ((walk A k0, 0), cut A k0) by unfold mDestroy; rw [f0]; simp only; rw [if_neg (by omega)]] at hh1 ⊢
    dsimp only at hh1 ⊢
    have hw1 : WF (cut A k0) last := by
      have := hw.mDestroy (k0 : Int)
      rwa [show mDestroy A k0 = ((walk A k0, 0), cut A k0) by unfold mDestroy; rw [f0]; simp only; rw [if_neg (by omega)]] at this
    have hwl1 := walk_len hw1 f1
    obtain ⟨bf, cf, hs⟩ := hh1.slv 0 rfl
    subst hs
    conv => whnf
    repeat (first | ((with_reducible refine hK _ _ _ ?_); clear hK) | (with_reducible refine seq_step fun K hK => ?_) | (with_reducible refine block_step ?_) | ((with_reducible refine cond_t ?_ ?_); focus rfl) | ((with_reducible refine cond_f ?_ ?_); focus rfl) | ((with_reducible refine code_id ?_); conv => whnf) | (clear hK; (with_reducible refine hK _ _ _ ?_); clear hK) | (clear hK; clear hK; (with_reducible refine hK _ _ _ ?_); clear hK) | (clear hK; clear hK; clear hK; (with_reducible refine hK _ _ _ ?_); clear hK) | (clear hK; clear hK; clear hK; clear hK; (with_reducible refine hK _ _ _ ?_); clear hK) | (clear hK; clear hK; clear hK; clear hK; clear hK; (with_reducible refine hK _ _ _ ?_); clear hK) | (clear hK; clear hK; clear hK; clear hK; clear hK; clear hK; (with_reducible refine hK _ _ _ ?_); clear hK) | (clear hK; clear hK; clear hK; clear hK; clear hK; clear hK; clear hK; (with_reducible refine hK _ _ _ ?_); clear hK))
    refine copied40 (by omega) hh1 fun keep h2 hh2 => ?_
    conv => whnf
    repeat (first | ((with_reducible refine hK _ _ _ ?_); clear hK) | (with_reducible refine seq_step fun K hK => ?_) | (with_reducible refine block_step ?_) | ((with_reducible refine cond_t ?_ ?_); focus rfl) | ((with_reducible refine cond_f ?_ ?_); focus rfl) | ((with_reducible refine code_id ?_); conv => whnf) | (clear hK; (with_reducible refine hK _ _ _ ?_); clear hK) | (clear hK; clear hK; (with_reducible refine hK _ _ _ ?_); clear hK) | (clear hK; clear hK; clear hK; (with_reducible refine hK _ _ _ ?_); clear hK) | (clear hK; clear hK; clear hK; clear hK; (with_reducible refine hK _ _ _ ?_); clear hK) | (clear hK; clear hK; clear hK; clear hK; clear hK; (with_reducible refine hK _ _ _ ?_); clear hK) | (clear hK; clear hK; clear hK; clear hK; clear hK; clear hK; (with_reducible refine hK _ _ _ ?_); clear hK) | (clear hK; clear hK; clear hK; clear hK; clear hK; clear hK; clear hK; (with_reducible refine hK _ _ _ ?_); clear hK))
    obtain ⟨bb2, o2, cap2, c2, ty2, z2, he, hbb2, hc2⟩ := hh2.rdw 3 rfl (k := 1) (v := iv k1) (by omega) (by rw [List.getElem?_map, a1]; rfl)
    injection he with e1 e2 e3
    injection e1 with e1
    injection e1 with e1 e4 e5
    subst e1 e4
    refine opt_if ⟨by omega, by omega⟩ ?_
    conv => whnf
    refine opt_ld hbb2 (v := iv k1) hc2 ?_
    conv => whnf
    refine destroy23A hw1 k1 (hh2.pull 2 rfl) fun g h3 hh3 => ?_
    rw [show mDestroy (cut A k0) k1 = ((walk (cut A k0) k1, 0), cut (cut A k0) k1) by unfold mDestroy; rw [f1]; simp only; rw [if_neg (by omega)]] at hh3 ⊢
    dsimp only at hh3 ⊢
    obtain ⟨bg, cg, hs⟩ := hh3.slv 0 rfl
    subst hs
    have hp0 : 0 < (walk A k0).length := by rw [walk_eq hw f0]; simp
    have hp1 : 0 < (walk (cut A k0) k1).length := by rw [walk_eq hw1 f1]; simp
    conv => whnf
    repeat (first | ((with_reducible refine hK _ _ _ ?_); clear hK) | (with_reducible refine seq_step fun K hK => ?_) | (with_reducible refine block_step ?_) | ((with_reducible refine cond_t ?_ ?_); focus rfl) | ((with_reducible refine cond_f ?_ ?_); focus rfl) | ((with_reducible refine code_id ?_); conv => whnf) | (clear hK; (with_reducible refine hK _ _ _ ?_); clear hK) | (clear hK; clear hK; (with_reducible refine hK _ _ _ ?_); clear hK) | (clear hK; clear hK; clear hK; (with_reducible refine hK _ _ _ ?_); clear hK) | (clear hK; clear hK; clear hK; clear hK; (with_reducible refine hK _ _ _ ?_); clear hK) | (clear hK; clear hK; clear hK; clear hK; clear hK; (with_reducible refine hK _ _ _ ?_); clear hK) | (clear hK; clear hK; clear hK; clear hK; clear hK; clear hK; (with_reducible refine hK _ _ _ ?_); clear hK) | (clear hK; clear hK; clear hK; clear hK; clear hK; clear hK; clear hK; (with_reducible refine hK _ _ _ ?_); clear hK))
    refine same42 (by omega) (i := 3) (j := 2) hh3 rfl rfl ?_
    conv => whnf
    rw [show decide (((walk A k0).length : Int) > 0) = true from decide_eq_true (by omega)]
    conv => whnf
    rw [show decide (((walk (cut A k0) k1).length : Int) > 0) = true from decide_eq_true (by omega)]
    conv => whnf
    refine fresh_has hh3 fun b1 h4 _ _ _ hh4 => ?_
    conv => whnf
    have hh5 : Has (OutP (.slice (some ⟨b1, 0, none⟩) 2 2) [(.slice bf (walk A k0).length cf, walk A k0), (.slice bg (walk (cut A k0) k1).length cg, walk (cut A k0) k1)] :: (Its [(.slice bf (walk A k0).length cf, walk A k0), (.slice bg (walk (cut A k0) k1).length cg, walk (cut A k0) k1)] ++ (EnvA t (cut (cut A k0) k1) last :: IntsP keep (walk A k0) :: IntsP (.slice (some ⟨bb, o, none⟩) (kids A 0).length cap) (kids A 0) :: L))) h4 := by
      have h6 := hh4.mono1 (A' := OutP (.slice (some ⟨b1, 0, none⟩) 2 2) [(.slice bf (walk A k0).length cf, walk A k0), (.slice bg (walk (cut A k0) k1).length cg, walk (cut A k0) k1)]) fun g hg => pt_wn (e := 1) (n := 2) (cap := 2) (cs := [.slice bf (walk A k0).length cf, .slice bg (walk (cut A k0) k1).length cg]) rfl (Nat.le_refl _) rfl hg
      exact h6.map_tail fun g hg => hg.pull 3 rfl
    refine apart44 (xs0 := [(.slice bf (walk A k0).length cf, walk A k0), (.slice bg (walk (cut A k0) k1).length cg, walk (cut A k0) k1)]) (show 2 < 1073741824 by decide) (fun x hx => ?_) hh5 fun h7 hh7 => ?_
    · rcases List.mem_cons.1 hx with rfl | hx
      · show (walk A k0).length < 1073741824; omega
      · rw [List.mem_singleton.1 hx]
        show (walk (cut A k0) k1).length < 1073741824; omega
    conv => whnf
    repeat (first | ((with_reducible refine hK _ _ _ ?_); clear hK) | (with_reducible refine seq_step fun K hK => ?_) | (with_reducible refine block_step ?_) | ((with_reducible refine cond_t ?_ ?_); focus rfl) | ((with_reducible refine cond_f ?_ ?_); focus rfl) | ((with_reducible refine code_id ?_); conv => whnf) | (clear hK; (with_reducible refine hK _ _ _ ?_); clear hK) | (clear hK; clear hK; (with_reducible refine hK _ _ _ ?_); clear hK) | (clear hK; clear hK; clear hK; (with_reducible refine hK _ _ _ ?_); clear hK) | (clear hK; clear hK; clear hK; clear hK; (with_reducible refine hK _ _ _ ?_); clear hK) | (clear hK; clear hK; clear hK; clear hK; clear hK; (with_reducible refine hK _ _ _ ?_); clear hK) | (clear hK; clear hK; clear hK; clear hK; clear hK; clear hK; (with_reducible refine hK _ _ _ ?_); clear hK) | (clear hK; clear hK; clear hK; clear hK; clear hK; clear hK; clear hK; (with_reducible refine hK _ _ _ ?_); clear hK))
    exact hq _ hh7.tail.tail.tail
end
end Go.Proofs.Ytljenppmdhldbaa.V
