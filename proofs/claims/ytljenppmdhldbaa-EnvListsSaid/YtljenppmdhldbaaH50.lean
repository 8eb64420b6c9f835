/- Seat 09: is a walk itself and its children's walks? -/
import Derived.Test.YtljenppmdhldbaaH48
import Derived.Test.YtljenppmdhldbaaH32
namespace Go.Proofs.Ytljenppmdhldbaa.V
set_option linter.unusedVariables false
set_option linter.unusedSimpArgs false
set_option linter.unusedSectionVars false
set_option linter.unusedSectionVars false
open Go

section
variable {A : Rs} {last : Int}

theorem inside_yes (hw : WF A last) {e k : Int} {r : Row} (hr : fnd A e = some r) (hk : k ∈ walk A e) : mInside A e k = true := by
  have := (walk_chain hw hr).1 hk
  unfold mInside
  rw [hr]; simp [this]

theorem inside_no (hw : WF A last) {e k : Int} {r x : Row} (hr : fnd A e = some r) (hx : fnd A k = some x) (hlt : r.serial < x.serial) : mInside A k e = false := by
  unfold mInside
  have : k ∉ chain A e := fun hm => by
    obtain ⟨y, hy, hle⟩ := mem_chain hw hr hm
    rw [hx] at hy; cases hy; omega
  simp [this]

/-- The serial ahead of the i-th child. -/
def lastS (A : Rs) (r : Row) (i : Nat) : Int := match i with
  | 0 => r.serial
  | i + 1 => match (kidsR A r.num)[i]? with
    | some s => s.serial
    | none => 0

theorem lastS_lt (hw : WF A last) {r : Row} (hr : r ∈ A) {i : Nat} {s : Row} (hs : (kidsR A r.num)[i]? = some s) : lastS A r i < s.serial := by
  cases i with
  | zero =>
    have hm := mem_kidsR.1 (List.mem_of_getElem? hs)
    exact (hw.up1 hm.1 (p := r) (by rw [hm.2]; exact fnd_of hw.nd hr)).2.1
  | succ i =>
    have hi := (List.getElem?_eq_some_iff.1 hs).1
    have hp : (kidsR A r.num).Pairwise fun a b => a.serial < b.serial := hw.sr.sublist List.filter_sublist
    have h1 := List.pairwise_iff_getElem.1 hp i (i + 1) (by omega) hi (by omega)
    show (match (kidsR A r.num)[i]? with | some s => s.serial | none => 0) < s.serial
    rw [List.getElem?_eq_getElem (by omega)]
    have h2 := (List.getElem?_eq_some_iff.1 hs).2
    rw [h2] at h1
    exact h1

/-- How much of a walk lies ahead of the i-th child's. -/
def atW (A : Rs) (n : Int) (i : Nat) : Nat := 1 + (((kids A n).take i).flatMap (walk A)).length

theorem atW_step {n k : Int} {i : Nat} (hk : (kids A n)[i]? = some k) : atW A n (i + 1) = atW A n i + (walk A k).length := by
  unfold atW
  rw [List.take_add_one, hk, List.flatMap_append, List.length_append]
  simp [Nat.add_assoc]

theorem atW_end (hw : WF A last) {n : Int} {r : Row} (hr : fnd A n = some r) : atW A n (kids A n).length = (walk A n).length := by
  unfold atW
  rw [List.take_length, walk_eq hw hr, List.length_cons]; omega

theorem walk_at (hw : WF A last) {n k : Int} {r : Row} (hr : fnd A n = some r) {i j : Nat} (hk : (kids A n)[i]? = some k) (hj : j < (walk A k).length) : (walk A n)[atW A n i + j]? = (walk A k)[j]? ∧ atW A n i + (walk A k).length ≤ (walk A n).length := by
  have hi := (List.getElem?_eq_some_iff.1 hk).1
  have e1 : (kids A n).flatMap (walk A) = ((kids A n).take i).flatMap (walk A) ++ (walk A k ++ ((kids A n).drop (i + 1)).flatMap (walk A)) := by
    conv => lhs; rw [← List.take_append_drop i (kids A n), List.drop_eq_getElem_cons hi, (List.getElem?_eq_some_iff.1 hk).2, List.flatMap_append, List.flatMap_cons]
  rw [walk_eq hw hr, e1]
  constructor
  · unfold atW
    rw [show 1 + (((kids A n).take i).flatMap (walk A)).length + j = ((((kids A n).take i).flatMap (walk A)).length + j) + 1 by omega, List.getElem?_cons_succ, List.getElem?_append_right (by omega), Nat.add_sub_cancel_left, List.getElem?_append_left hj]
  · unfold atW
    rw [List.length_cons, List.length_append, List.length_append]; omega

end

section
variable {h : Hp} {Q : Value → Hp → Prop} {L : List As} {t : Nat} {A : Rs} {last : Int}

theorem info_lit (hw : WF A last) {e : Int} {r : Row} (hr : fnd A e = some r) (hh : Has (EnvA t A last :: L) h) (hq : ∀ g0 g1 g2 g3 g4 g5 g6 g7, Q (.tuple #[.agg (infL (infOf A r) g0 g1 g2 g3 g4 g5 g6 g7).toArray, iv 0]) h) : Ok PR 19 [ptr t, iv e] h Q := by
  obtain ⟨g0, g1, g2, g3, g4, g5, g6, g7, _, hL⟩ := infC_L (x := infOf A r) (hw.rg r (fnd_mem hr).1)
  refine info19A hw e hh ?_
  rw [show mInfo A e = (infOf A r, 0) by unfold mInfo; rw [hr], hL]
  exact hq _ _ _ _ _ _ _ _

set_option maxHeartbeats 1000000 in
theorem branch45 (hw : WF A last) {n : Nat} {r : Row} (hr : fnd A (n : Int) = some r) (hh : Has (EnvA t A last :: L) h) (hq : ∀ h', Has (EnvA t A last :: L) h' → Q (.bool true) h') : Ok PR 45 [ptr t, iv n] h Q := by
  have hrm := fnd_mem hr
  have hrn : ((r.num : Nat) : Int) = n := hrm.2
  have hwl := walk_len hw hr
  have hw0 : (walk A (n : Int))[0]? = some (n : Int) := by rw [walk_eq hw hr]; rfl
  have hwe := atW_end hw hr
  have hself := inside_yes hw hr (self_walk A (n : Int))
  have hww : ∀ i k, (kids A (n : Int))[i]? = some k → ∀ j, j < (walk A k).length → (walk A (n : Int))[atW A (n : Int) i + j]? = (walk A k)[j]? ∧ atW A (n : Int) i + (walk A k).length ≤ (walk A (n : Int)).length := fun i k hk j hj => walk_at hw hr hk hj
  have hin : ∀ k ∈ walk A (n : Int), mInside A n k = true := fun k hk => inside_yes hw hr hk
  obtain ⟨W, hW⟩ : ∃ W, W = walk A (n : Int) := ⟨_, rfl⟩
  refine e45 rfl (seq_step fun K hK => ?_)
  repeat (first | ((with_reducible refine hK _ _ _ ?_); clear hK) | (with_reducible refine seq_step fun K hK => ?_) | (with_reducible refine block_step ?_) | ((with_reducible refine cond_t ?_ ?_); focus rfl) | ((with_reducible refine cond_f ?_ ?_); focus rfl) | ((with_reducible refine code_id ?_); conv => whnf) | (clear hK; (with_reducible refine hK _ _ _ ?_); clear hK) | (clear hK; clear hK; (with_reducible refine hK _ _ _ ?_); clear hK) | (clear hK; clear hK; clear hK; (with_reducible refine hK _ _ _ ?_); clear hK) | (clear hK; clear hK; clear hK; clear hK; (with_reducible refine hK _ _ _ ?_); clear hK) | (clear hK; clear hK; clear hK; clear hK; clear hK; (with_reducible refine hK _ _ _ ?_); clear hK) | (clear hK; clear hK; clear hK; clear hK; clear hK; clear hK; (with_reducible refine hK _ _ _ ?_); clear hK) | (clear hK; clear hK; clear hK; clear hK; clear hK; clear hK; clear hK; (with_reducible refine hK _ _ _ ?_); clear hK))
  refine tree27A hw n hh fun s h1 hh1 => ?_
  rw [show mTree A (n : Int) = (W, 0) by unfold mTree; rw [hr, hW]] at hh1 ⊢
  rw [← hW] at hwl hw0 hwe hww hin
  dsimp only at hh1 ⊢
  obtain ⟨b1, c1, e1⟩ := hh1.slv 0 rfl
  subst e1
  conv => whnf
  repeat (first | ((with_reducible refine hK _ _ _ ?_); clear hK) | (with_reducible refine seq_step fun K hK => ?_) | (with_reducible refine block_step ?_) | ((with_reducible refine cond_t ?_ ?_); focus rfl) | ((with_reducible refine cond_f ?_ ?_); focus rfl) | ((with_reducible refine code_id ?_); conv => whnf) | (clear hK; (with_reducible refine hK _ _ _ ?_); clear hK) | (clear hK; clear hK; (with_reducible refine hK _ _ _ ?_); clear hK) | (clear hK; clear hK; clear hK; (with_reducible refine hK _ _ _ ?_); clear hK) | (clear hK; clear hK; clear hK; clear hK; (with_reducible refine hK _ _ _ ?_); clear hK) | (clear hK; clear hK; clear hK; clear hK; clear hK; (with_reducible refine hK _ _ _ ?_); clear hK) | (clear hK; clear hK; clear hK; clear hK; clear hK; clear hK; (with_reducible refine hK _ _ _ ?_); clear hK) | (clear hK; clear hK; clear hK; clear hK; clear hK; clear hK; clear hK; (with_reducible refine hK _ _ _ ?_); clear hK))
  refine kids39A hw n (hh1.swap) fun s2 h2 hh2 => ?_
  rw [show mKids A (n : Int) = (kids A n, 0) by unfold mKids; rw [hr]] at hh2 ⊢
  dsimp only at hh2 ⊢
  obtain ⟨b2, c2, e2⟩ := hh2.slv 0 rfl
  subst e2
  have hwpos : 0 < W.length := (List.getElem?_eq_some_iff.1 hw0).1
  obtain ⟨bb, oo, cap', cc, ty, z, he, hbb, hc⟩ := hh2.rdw 2 rfl (k := 0) (v := iv n) hwpos (by rw [List.getElem?_map, hw0]; rfl)
  cases he
  conv => whnf
  repeat (first | ((with_reducible refine hK _ _ _ ?_); clear hK) | (with_reducible refine seq_step fun K hK => ?_) | (with_reducible refine block_step ?_) | ((with_reducible refine cond_t ?_ ?_); focus rfl) | ((with_reducible refine cond_f ?_ ?_); focus rfl) | ((with_reducible refine code_id ?_); conv => whnf) | (clear hK; (with_reducible refine hK _ _ _ ?_); clear hK) | (clear hK; clear hK; (with_reducible refine hK _ _ _ ?_); clear hK) | (clear hK; clear hK; clear hK; (with_reducible refine hK _ _ _ ?_); clear hK) | (clear hK; clear hK; clear hK; clear hK; (with_reducible refine hK _ _ _ ?_); clear hK) | (clear hK; clear hK; clear hK; clear hK; clear hK; (with_reducible refine hK _ _ _ ?_); clear hK) | (clear hK; clear hK; clear hK; clear hK; clear hK; clear hK; (with_reducible refine hK _ _ _ ?_); clear hK) | (clear hK; clear hK; clear hK; clear hK; clear hK; clear hK; clear hK; (with_reducible refine hK _ _ _ ?_); clear hK))
  refine info_lit hw hr (hh2.pull 1 rfl) fun g0 g1 g2 g3 g4 g5 g6 g7 => ?_
  conv => whnf
  repeat (first | ((with_reducible refine hK _ _ _ ?_); clear hK) | (with_reducible refine seq_step fun K hK => ?_) | (with_reducible refine block_step ?_) | ((with_reducible refine cond_t ?_ ?_); focus rfl) | ((with_reducible refine cond_f ?_ ?_); focus rfl) | ((with_reducible refine code_id ?_); conv => whnf) | (clear hK; (with_reducible refine hK _ _ _ ?_); clear hK) | (clear hK; clear hK; (with_reducible refine hK _ _ _ ?_); clear hK) | (clear hK; clear hK; clear hK; (with_reducible refine hK _ _ _ ?_); clear hK) | (clear hK; clear hK; clear hK; clear hK; (with_reducible refine hK _ _ _ ?_); clear hK) | (clear hK; clear hK; clear hK; clear hK; clear hK; (with_reducible refine hK _ _ _ ?_); clear hK) | (clear hK; clear hK; clear hK; clear hK; clear hK; clear hK; (with_reducible refine hK _ _ _ ?_); clear hK) | (clear hK; clear hK; clear hK; clear hK; clear hK; clear hK; clear hK; (with_reducible refine hK _ _ _ ?_); clear hK))
  rw [show (((W.length : Nat) : Int) == 0) = false from beq_eq_false_iff_ne.2 (by omega)]
  conv => whnf
  refine opt_if ⟨by omega, by omega⟩ ?_
  conv => whnf
  refine opt_ld hbb (v := iv n) hc ?_
  conv => whnf
  rw [show (((n : Nat) : Int) != n) = false from bne_self_eq_false _]
  conv => whnf
  rw [show decide (((W.length : Nat) : Int) > 16) = false from decide_eq_false (by omega)]
  conv => whnf
  repeat (first | ((with_reducible refine hK _ _ _ ?_); clear hK) | (with_reducible refine seq_step fun K hK => ?_) | (with_reducible refine block_step ?_) | ((with_reducible refine cond_t ?_ ?_); focus rfl) | ((with_reducible refine cond_f ?_ ?_); focus rfl) | ((with_reducible refine code_id ?_); conv => whnf) | (clear hK; (with_reducible refine hK _ _ _ ?_); clear hK) | (clear hK; clear hK; (with_reducible refine hK _ _ _ ?_); clear hK) | (clear hK; clear hK; clear hK; (with_reducible refine hK _ _ _ ?_); clear hK) | (clear hK; clear hK; clear hK; clear hK; (with_reducible refine hK _ _ _ ?_); clear hK) | (clear hK; clear hK; clear hK; clear hK; clear hK; (with_reducible refine hK _ _ _ ?_); clear hK) | (clear hK; clear hK; clear hK; clear hK; clear hK; clear hK; (with_reducible refine hK _ _ _ ?_); clear hK) | (clear hK; clear hK; clear hK; clear hK; clear hK; clear hK; clear hK; (with_reducible refine hK _ _ _ ?_); clear hK))
  have hkl : (kids A (n : Int)).length ≤ 16 := by
    have := hw.len
    have : (kids A (n : Int)).length ≤ A.length := by unfold kids kidsR; rw [List.length_map]; exact List.length_filter_le _ _
    omega
  have hlast0 : lastS A r 0 = r.serial := rfl
  have hat0 : atW A (n : Int) 0 = 1 := by unfold atW; simp
  refine loop_intro (σ := Nat × Hp) (fun s => [(0, .v (ptr t)), (1, .v (iv n)), (5, .v (.slice (some ⟨bb, oo, none⟩) W.length c1)), (7, .v (.slice b2 (kids A (n : Int)).length c2)), (11, .v (iv (atW A (n : Int) s.1))), (12, .v (iv (lastS A r s.1))), (13, .v (iv s.1))]) (fun _ => []) (fun s => s.2)
    (fun s => s.1 ≤ (kids A (n : Int)).length ∧ Has (IntsP (.slice b2 (kids A (n : Int)).length c2) (kids A (n : Int)) :: EnvA t A last :: IntsP (.slice (some ⟨bb, oo, none⟩) W.length c1) W :: L) s.2) (fun s => (kids A (n : Int)).length - s.1) (0, h2) ⟨Nat.zero_le _, hh2⟩
    (subE_cons rfl (subE_cons rfl (subE_cons rfl (subE_cons rfl (subE_cons (int_eq (by rw [hat0]; rfl) rfl) (subE_cons rfl (subE_cons rfl subE_nil))))))) subB_nil rfl ?_
  rintro ⟨i, g⟩ ⟨hi, hg⟩
  dsimp only at hi hg ⊢
  repeat (first | ((with_reducible refine hK _ _ _ ?_); clear hK) | (with_reducible refine seq_step fun K hK => ?_) | (with_reducible refine block_step ?_) | ((with_reducible refine cond_t ?_ ?_); focus rfl) | ((with_reducible refine cond_f ?_ ?_); focus rfl) | ((with_reducible refine code_id ?_); conv => whnf) | (clear hK; (with_reducible refine hK _ _ _ ?_); clear hK) | (clear hK; clear hK; (with_reducible refine hK _ _ _ ?_); clear hK) | (clear hK; clear hK; clear hK; (with_reducible refine hK _ _ _ ?_); clear hK) | (clear hK; clear hK; clear hK; clear hK; (with_reducible refine hK _ _ _ ?_); clear hK) | (clear hK; clear hK; clear hK; clear hK; clear hK; (with_reducible refine hK _ _ _ ?_); clear hK) | (clear hK; clear hK; clear hK; clear hK; clear hK; clear hK; (with_reducible refine hK _ _ _ ?_); clear hK) | (clear hK; clear hK; clear hK; clear hK; clear hK; clear hK; clear hK; (with_reducible refine hK _ _ _ ?_); clear hK))
  refine cond_dec (fun hlt => ?_) (fun hge => ?_)
  · have hil : i < (kids A (n : Int)).length := by omega
    obtain ⟨x, hx1, hx2, hxA, hxp⟩ := kids_at hil
    obtain ⟨bk, ok, capk, ck, tyk, zk, hek, hbk, hck⟩ := hg.rdw 0 rfl (k := i) (v := iv x.num) hil (by rw [List.getElem?_map, hx2]; rfl)
    cases hek
    have hfx : fnd A (x.num : Int) = some x := fnd_of hw.nd hxA
    have hld : ck[ok + (i : Int).toNat * 1]? = some (iv x.num) := by rw [Int.toNat_natCast, Nat.mul_one]; exact hck
    have hserial := lastS_lt hw hrm.1 (i := i) (s := x) (by rw [hrn]; exact hx1)
    repeat (first | ((with_reducible refine hK _ _ _ ?_); clear hK) | (with_reducible refine seq_step fun K hK => ?_) | (with_reducible refine block_step ?_) | ((with_reducible refine cond_t ?_ ?_); focus rfl) | ((with_reducible refine cond_f ?_ ?_); focus rfl) | ((with_reducible refine code_id ?_); conv => whnf) | (clear hK; (with_reducible refine hK _ _ _ ?_); clear hK) | (clear hK; clear hK; (with_reducible refine hK _ _ _ ?_); clear hK) | (clear hK; clear hK; clear hK; (with_reducible refine hK _ _ _ ?_); clear hK) | (clear hK; clear hK; clear hK; clear hK; (with_reducible refine hK _ _ _ ?_); clear hK) | (clear hK; clear hK; clear hK; clear hK; clear hK; (with_reducible refine hK _ _ _ ?_); clear hK) | (clear hK; clear hK; clear hK; clear hK; clear hK; clear hK; (with_reducible refine hK _ _ _ ?_); clear hK) | (clear hK; clear hK; clear hK; clear hK; clear hK; clear hK; clear hK; (with_reducible refine hK _ _ _ ?_); clear hK))
    refine opt_if ⟨by omega, by omega⟩ ?_
    conv => whnf
    refine opt_ld hbk (v := iv x.num) hld ?_
    conv => whnf
    refine info_lit hw hfx (hg.pull 1 rfl) fun k0 k1 k2 k3 k4 k5 k6 k7 => ?_
    rw [show infL (infOf A x) k0 k1 k2 k3 k4 k5 k6 k7 = [iv x.serial, iv n, iv x.state, iv x.code, iv x.bits, .bool x.frozen, u32v k0, u32v k1, u32v k2, u32v k3, u32v k4, u32v k5, u32v k6, u32v k7, u32v x.pc, iv x.whole.1, iv x.whole.2.1, iv x.whole.2.2, iv (left A x).1, iv (left A x).2.1, iv (left A x).2.2] by rw [← hxp]; rfl]
    conv => whnf
    repeat (first | ((with_reducible refine hK _ _ _ ?_); clear hK) | (with_reducible refine seq_step fun K hK => ?_) | (with_reducible refine block_step ?_) | ((with_reducible refine cond_t ?_ ?_); focus rfl) | ((with_reducible refine cond_f ?_ ?_); focus rfl) | ((with_reducible refine code_id ?_); conv => whnf) | (clear hK; (with_reducible refine hK _ _ _ ?_); clear hK) | (clear hK; clear hK; (with_reducible refine hK _ _ _ ?_); clear hK) | (clear hK; clear hK; clear hK; (with_reducible refine hK _ _ _ ?_); clear hK) | (clear hK; clear hK; clear hK; clear hK; (with_reducible refine hK _ _ _ ?_); clear hK) | (clear hK; clear hK; clear hK; clear hK; clear hK; (with_reducible refine hK _ _ _ ?_); clear hK) | (clear hK; clear hK; clear hK; clear hK; clear hK; clear hK; (with_reducible refine hK _ _ _ ?_); clear hK) | (clear hK; clear hK; clear hK; clear hK; clear hK; clear hK; clear hK; (with_reducible refine hK _ _ _ ?_); clear hK))
    refine opt_if ⟨by omega, by omega⟩ ?_
    conv => whnf
    refine opt_ld hbk (v := iv x.num) hld ?_
    conv => whnf
    refine tree27A hw x.num (hg.pull 1 rfl) fun s5 g5 hg5 => ?_
    obtain ⟨V, hV⟩ : ∃ V, V = walk A (x.num : Int) := ⟨_, rfl⟩
    rw [show mTree A (x.num : Int) = (V, 0) by unfold mTree; rw [hfx, hV]] at hg5 ⊢
    dsimp only at hg5 ⊢
    obtain ⟨b5, c5, e5⟩ := hg5.slv 0 rfl
    subst e5
    have hVpos : 0 < V.length := by rw [hV, walk_eq hw hfx]; simp
    have hVw := hww i x.num hx2
    rw [← hV] at hVw
    have hVle := (hVw 0 hVpos).2
    have hVm : ∀ k ∈ V, k ∈ W ∧ mInside A k n = false := fun k hk => by
      rw [hV] at hk
      refine ⟨by rw [hW]; exact kid_walk hw hr (List.mem_of_getElem? hx2) hk, ?_⟩
      obtain ⟨y, hy, hle, _⟩ := mem_walk hw hfx k hk
      have := (hw.up1 hxA (p := r) (by rw [hxp]; exact hr)).2.1
      exact inside_no hw hr hy (by omega)
    have hsteps : atW A (n : Int) (i + 1) = atW A (n : Int) i + V.length := by rw [hV]; exact atW_step hx2
    have hlast1 : lastS A r (i + 1) = x.serial := by
      show (match (kidsR A r.num)[i]? with | some s => s.serial | none => 0) = x.serial
      rw [hrn, hx1]
    conv => whnf
    repeat (first | ((with_reducible refine hK _ _ _ ?_); clear hK) | (with_reducible refine seq_step fun K hK => ?_) | (with_reducible refine block_step ?_) | ((with_reducible refine cond_t ?_ ?_); focus rfl) | ((with_reducible refine cond_f ?_ ?_); focus rfl) | ((with_reducible refine code_id ?_); conv => whnf) | (clear hK; (with_reducible refine hK _ _ _ ?_); clear hK) | (clear hK; clear hK; (with_reducible refine hK _ _ _ ?_); clear hK) | (clear hK; clear hK; clear hK; (with_reducible refine hK _ _ _ ?_); clear hK) | (clear hK; clear hK; clear hK; clear hK; (with_reducible refine hK _ _ _ ?_); clear hK) | (clear hK; clear hK; clear hK; clear hK; clear hK; (with_reducible refine hK _ _ _ ?_); clear hK) | (clear hK; clear hK; clear hK; clear hK; clear hK; clear hK; (with_reducible refine hK _ _ _ ?_); clear hK) | (clear hK; clear hK; clear hK; clear hK; clear hK; clear hK; clear hK; (with_reducible refine hK _ _ _ ?_); clear hK))
    rw [show (((n : Nat) : Int) != n) = false from bne_self_eq_false _]
    conv => whnf
    rw [show decide (x.serial ≤ lastS A r i) = false from decide_eq_false (by omega)]
    conv => whnf
    rw [wrap_i64 (x := ((atW A (n : Int) i : Nat) : Int) + (V.length : Nat)) (by omega) (by omega), show decide (((atW A (n : Int) i : Nat) : Int) + (V.length : Nat) > (W.length : Nat)) = false from decide_eq_false (by omega)]
    conv => whnf
    repeat (first | ((with_reducible refine hK _ _ _ ?_); clear hK) | (with_reducible refine seq_step fun K hK => ?_) | (with_reducible refine block_step ?_) | ((with_reducible refine cond_t ?_ ?_); focus rfl) | ((with_reducible refine cond_f ?_ ?_); focus rfl) | ((with_reducible refine code_id ?_); conv => whnf) | (clear hK; (with_reducible refine hK _ _ _ ?_); clear hK) | (clear hK; clear hK; (with_reducible refine hK _ _ _ ?_); clear hK) | (clear hK; clear hK; clear hK; (with_reducible refine hK _ _ _ ?_); clear hK) | (clear hK; clear hK; clear hK; clear hK; (with_reducible refine hK _ _ _ ?_); clear hK) | (clear hK; clear hK; clear hK; clear hK; clear hK; (with_reducible refine hK _ _ _ ?_); clear hK) | (clear hK; clear hK; clear hK; clear hK; clear hK; clear hK; (with_reducible refine hK _ _ _ ?_); clear hK) | (clear hK; clear hK; clear hK; clear hK; clear hK; clear hK; clear hK; (with_reducible refine hK _ _ _ ?_); clear hK))
    refine loop_intro (σ := Nat) (fun s => [(0, .v (ptr t)), (1, .v (iv n)), (5, .v (.slice (some ⟨bb, oo, none⟩) W.length c1)), (7, .v (.slice (some ⟨bk, ok, none⟩) (kids A (n : Int)).length c2)), (11, .v (iv (atW A (n : Int) i))), (12, .v (iv x.serial)), (13, .v (iv i)), (16, .v (.slice b5 V.length c5)), (18, .v (iv s))]) (fun _ => []) (fun _ => g5)
      (fun s => s ≤ V.length) (fun s => V.length - s) 0 (Nat.zero_le _)
      (subE_cons rfl (subE_cons rfl (subE_cons rfl (subE_cons rfl (subE_cons rfl (subE_cons rfl (subE_cons rfl (subE_cons rfl (subE_cons rfl subE_nil))))))))) subB_nil rfl ?_
    intro j hj
    repeat (first | ((with_reducible refine hK _ _ _ ?_); clear hK) | (with_reducible refine seq_step fun K hK => ?_) | (with_reducible refine block_step ?_) | ((with_reducible refine cond_t ?_ ?_); focus rfl) | ((with_reducible refine cond_f ?_ ?_); focus rfl) | ((with_reducible refine code_id ?_); conv => whnf) | (clear hK; (with_reducible refine hK _ _ _ ?_); clear hK) | (clear hK; clear hK; (with_reducible refine hK _ _ _ ?_); clear hK) | (clear hK; clear hK; clear hK; (with_reducible refine hK _ _ _ ?_); clear hK) | (clear hK; clear hK; clear hK; clear hK; (with_reducible refine hK _ _ _ ?_); clear hK) | (clear hK; clear hK; clear hK; clear hK; clear hK; (with_reducible refine hK _ _ _ ?_); clear hK) | (clear hK; clear hK; clear hK; clear hK; clear hK; clear hK; (with_reducible refine hK _ _ _ ?_); clear hK) | (clear hK; clear hK; clear hK; clear hK; clear hK; clear hK; clear hK; (with_reducible refine hK _ _ _ ?_); clear hK))
    refine cond_dec (fun hlt2 => ?_) (fun hge2 => ?_)
    · have hjl : j < V.length := by omega
      obtain ⟨hwj, _⟩ := hVw j hjl
      obtain ⟨bv, ov, capv, cv, tyv, zv, hev, hbv, hcv⟩ := hg5.rdw 0 rfl (k := j) (v := iv V[j]) hjl (by simp [hjl])
      cases hev
      rw [List.getElem?_eq_getElem hjl] at hwj
      have hjw := (List.getElem?_eq_some_iff.1 hwj).1
      obtain ⟨_, _, _, cw, tyw, zw, hew, hbw, hcw⟩ := hg5.rdw 3 rfl (k := atW A (n : Int) i + j) (v := iv V[j]) hjw (by rw [List.getElem?_map, hwj]; rfl)
      cases hew
      have hVj := hVm V[j] (List.getElem_mem hjl)
      have hldv : cv[ov + (j : Int).toNat * 1]? = some (iv V[j]) := by rw [Int.toNat_natCast, Nat.mul_one]; exact hcv
      repeat (first | ((with_reducible refine hK _ _ _ ?_); clear hK) | (with_reducible refine seq_step fun K hK => ?_) | (with_reducible refine block_step ?_) | ((with_reducible refine cond_t ?_ ?_); focus rfl) | ((with_reducible refine cond_f ?_ ?_); focus rfl) | ((with_reducible refine code_id ?_); conv => whnf) | (clear hK; (with_reducible refine hK _ _ _ ?_); clear hK) | (clear hK; clear hK; (with_reducible refine hK _ _ _ ?_); clear hK) | (clear hK; clear hK; clear hK; (with_reducible refine hK _ _ _ ?_); clear hK) | (clear hK; clear hK; clear hK; clear hK; (with_reducible refine hK _ _ _ ?_); clear hK) | (clear hK; clear hK; clear hK; clear hK; clear hK; (with_reducible refine hK _ _ _ ?_); clear hK) | (clear hK; clear hK; clear hK; clear hK; clear hK; clear hK; (with_reducible refine hK _ _ _ ?_); clear hK) | (clear hK; clear hK; clear hK; clear hK; clear hK; clear hK; clear hK; (with_reducible refine hK _ _ _ ?_); clear hK) | (refine ⟨_, _, SubH.refl _, SubB.refl _, ?_⟩; conv => whnf) | (refine ⟨⟨SubH.refl _, SubB.refl _⟩, ?_⟩; conv => whnf) | (refine ⟨_, _, ⟨SubH.refl _, SubB.refl _⟩, SubH.refl _, SubB.refl _, ?_⟩; conv => whnf))
      refine opt_if ⟨by omega, by omega⟩ ?_
      conv => whnf
      refine opt_ld hbv (v := iv V[j]) hldv ?_
      conv => whnf
      rw [wrap_i64 (x := ((atW A (n : Int) i : Nat) : Int) + (j : Nat)) (by omega) (by omega)]
      refine opt_if ⟨by omega, by omega⟩ ?_
      conv => whnf
      refine opt_ld hbw (v := iv V[j]) ?_ ?_
      · show cw[oo + (((atW A (n : Int) i : Nat) : Int) + (j : Nat)).toNat * 1]? = _
        rw [show (((atW A (n : Int) i : Nat) : Int) + (j : Nat)).toNat * 1 = atW A (n : Int) i + j by omega]
        exact hcw
      conv => whnf
      rw [show (V[j] != V[j]) = false from bne_self_eq_false _]
      conv => whnf
      refine opt_if ⟨by omega, by omega⟩ ?_
      conv => whnf
      refine opt_ld hbv (v := iv V[j]) hldv ?_
      conv => whnf
      refine inside35A hw n V[j] (hg5.pull 1 rfl) ?_
      rw [hin V[j] hVj.1]
      conv => whnf
      refine opt_if ⟨by omega, by omega⟩ ?_
      conv => whnf
      refine opt_ld hbv (v := iv V[j]) hldv ?_
      conv => whnf
      refine inside35A hw V[j] n (hg5.pull 1 rfl) ?_
      rw [hVj.2]
      conv => whnf
      repeat (first | ((with_reducible refine hK _ _ _ ?_); clear hK) | (with_reducible refine seq_step fun K hK => ?_) | (with_reducible refine block_step ?_) | ((with_reducible refine cond_t ?_ ?_); focus rfl) | ((with_reducible refine cond_f ?_ ?_); focus rfl) | ((with_reducible refine code_id ?_); conv => whnf) | (clear hK; (with_reducible refine hK _ _ _ ?_); clear hK) | (clear hK; clear hK; (with_reducible refine hK _ _ _ ?_); clear hK) | (clear hK; clear hK; clear hK; (with_reducible refine hK _ _ _ ?_); clear hK) | (clear hK; clear hK; clear hK; clear hK; (with_reducible refine hK _ _ _ ?_); clear hK) | (clear hK; clear hK; clear hK; clear hK; clear hK; (with_reducible refine hK _ _ _ ?_); clear hK) | (clear hK; clear hK; clear hK; clear hK; clear hK; clear hK; (with_reducible refine hK _ _ _ ?_); clear hK) | (clear hK; clear hK; clear hK; clear hK; clear hK; clear hK; clear hK; (with_reducible refine hK _ _ _ ?_); clear hK) | (refine ⟨_, _, SubH.refl _, SubB.refl _, ?_⟩; conv => whnf) | (refine ⟨⟨SubH.refl _, SubB.refl _⟩, ?_⟩; conv => whnf) | (refine ⟨_, _, ⟨SubH.refl _, SubB.refl _⟩, SubH.refl _, SubB.refl _, ?_⟩; conv => whnf))
      exact ⟨j + 1, hjl, by omega, subE_cons rfl (subE_cons rfl (subE_cons rfl (subE_cons rfl (subE_cons rfl (subE_cons rfl (subE_cons rfl (subE_cons rfl (subE_cons (int_eq (wrap_nat (by omega)) rfl) subE_nil)))))))), subB_nil, rfl⟩
    · repeat (first | ((with_reducible refine hK _ _ _ ?_); clear hK) | (with_reducible refine seq_step fun K hK => ?_) | (with_reducible refine block_step ?_) | ((with_reducible refine cond_t ?_ ?_); focus rfl) | ((with_reducible refine cond_f ?_ ?_); focus rfl) | ((with_reducible refine code_id ?_); conv => whnf) | (clear hK; (with_reducible refine hK _ _ _ ?_); clear hK) | (clear hK; clear hK; (with_reducible refine hK _ _ _ ?_); clear hK) | (clear hK; clear hK; clear hK; (with_reducible refine hK _ _ _ ?_); clear hK) | (clear hK; clear hK; clear hK; clear hK; (with_reducible refine hK _ _ _ ?_); clear hK) | (clear hK; clear hK; clear hK; clear hK; clear hK; (with_reducible refine hK _ _ _ ?_); clear hK) | (clear hK; clear hK; clear hK; clear hK; clear hK; clear hK; (with_reducible refine hK _ _ _ ?_); clear hK) | (clear hK; clear hK; clear hK; clear hK; clear hK; clear hK; clear hK; (with_reducible refine hK _ _ _ ?_); clear hK))
      have hat2 : IntKind.i64.wrap (((atW A (n : Int) i : Nat) : Int) + (V.length : Nat)) = ((atW A (n : Int) (i + 1) : Nat) : Int) := by rw [wrap_i64 (by omega) (by omega), hsteps]; omega
      exact ⟨(i + 1, g5), ⟨show i + 1 ≤ (kids A (n : Int)).length by omega, (hg5.erase 0).swap⟩, show (kids A (n : Int)).length - (i + 1) < (kids A (n : Int)).length - i by omega, subE_cons rfl (subE_cons rfl (subE_cons rfl (subE_cons rfl (subE_cons (int_eq hat2 rfl) (subE_cons (int_eq hlast1.symm rfl) (subE_cons (int_eq (wrap_nat (by omega)) rfl) subE_nil)))))), subB_nil, rfl⟩
  · have hie : i = (kids A (n : Int)).length := by omega
    have hatl : atW A (n : Int) i = W.length := by rw [hie]; exact hwe
    rw [hatl]
    repeat (first | ((with_reducible refine hK _ _ _ ?_); clear hK) | (with_reducible refine seq_step fun K hK => ?_) | (with_reducible refine block_step ?_) | ((with_reducible refine cond_t ?_ ?_); focus rfl) | ((with_reducible refine cond_f ?_ ?_); focus rfl) | ((with_reducible refine code_id ?_); conv => whnf) | (clear hK; (with_reducible refine hK _ _ _ ?_); clear hK) | (clear hK; clear hK; (with_reducible refine hK _ _ _ ?_); clear hK) | (clear hK; clear hK; clear hK; (with_reducible refine hK _ _ _ ?_); clear hK) | (clear hK; clear hK; clear hK; clear hK; (with_reducible refine hK _ _ _ ?_); clear hK) | (clear hK; clear hK; clear hK; clear hK; clear hK; (with_reducible refine hK _ _ _ ?_); clear hK) | (clear hK; clear hK; clear hK; clear hK; clear hK; clear hK; (with_reducible refine hK _ _ _ ?_); clear hK) | (clear hK; clear hK; clear hK; clear hK; clear hK; clear hK; clear hK; (with_reducible refine hK _ _ _ ?_); clear hK))
    rw [show (((W.length : Nat) : Int) == W.length) = true from beq_self_eq_true _]
    conv => whnf
    refine inside35A hw n n (hg.pull 1 rfl) ?_
    rw [hself]
    conv => whnf
    repeat (first | ((with_reducible refine hK _ _ _ ?_); clear hK) | (with_reducible refine seq_step fun K hK => ?_) | (with_reducible refine block_step ?_) | ((with_reducible refine cond_t ?_ ?_); focus rfl) | ((with_reducible refine cond_f ?_ ?_); focus rfl) | ((with_reducible refine code_id ?_); conv => whnf) | (clear hK; (with_reducible refine hK _ _ _ ?_); clear hK) | (clear hK; clear hK; (with_reducible refine hK _ _ _ ?_); clear hK) | (clear hK; clear hK; clear hK; (with_reducible refine hK _ _ _ ?_); clear hK) | (clear hK; clear hK; clear hK; clear hK; (with_reducible refine hK _ _ _ ?_); clear hK) | (clear hK; clear hK; clear hK; clear hK; clear hK; (with_reducible refine hK _ _ _ ?_); clear hK) | (clear hK; clear hK; clear hK; clear hK; clear hK; clear hK; (with_reducible refine hK _ _ _ ?_); clear hK) | (clear hK; clear hK; clear hK; clear hK; clear hK; clear hK; clear hK; (with_reducible refine hK _ _ _ ?_); clear hK))
    exact hq _ ((hg.erase 0).swap.tail)

end
end Go.Proofs.Ytljenppmdhldbaa.V
