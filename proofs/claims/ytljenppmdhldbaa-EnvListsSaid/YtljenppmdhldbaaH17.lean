/- Seat 09: the table that each statement begins with. -/
import Derived.Test.YtljenppmdhldbaaH15
namespace Go.Proofs.Ytljenppmdhldbaa.V
set_option linter.unusedVariables false
set_option linter.unusedSimpArgs false
set_option linter.unusedSectionVars false
set_option linter.unusedSectionVars false
open Go

def bookC (lv : List Bool) (pd : List Q3) (last : Int) : List Value := lv.map Value.bool ++ pd.flatMap q3 ++ [iv last]
def BookP (b : Nat) (lv : List Bool) (pd : List Q3) (last : Int) : As := fun h => lv.length = 16 ∧ pd.length = 16 ∧ h b = some (.cells (bookC lv pd last).toArray 58 (0, 0))

def A0 : Rs := [mkRow 0 1 (-1) (40, 24, 8), mkRow 1 2 0 (20, 7, 3), mkRow 2 3 1 (6, 2, 1)]
def lv0 : List Bool := [true, true, true, false, false, false, false, false, false, false, false, false, false, false, false, false]
def pd0 : List Q3 := List.replicate 16 qz

theorem mk0 : mNew 1 (40, 24, 8) = [mkRow 0 1 (-1) (40, 24, 8)] := rfl
theorem mk1 : mCreate [mkRow 0 1 (-1) (40, 24, 8)] 1 0 2 (20, 7, 3) = ((1, 0), [mkRow 0 1 (-1) (40, 24, 8), mkRow 1 2 0 (20, 7, 3)], 2) := rfl
theorem mk2 : mCreate [mkRow 0 1 (-1) (40, 24, 8), mkRow 1 2 0 (20, 7, 3)] 2 1 3 (6, 2, 1) = ((2, 0), A0, 3) := rfl

theorem wf0 : WF A0 3 := by
  have h0 := WF.mNew 1 (40, 24, 8)
  rw [mk0] at h0
  have h1 := h0.create (n := 1) (serial := 2) (parent := 0) (q := (20, 7, 3)) (p := mkRow 0 1 (-1) (40, 24, 8)) rfl rfl (by decide) (by decide) (by decide) (by decide)
  exact h1.create (n := 2) (serial := 3) (parent := 1) (q := (6, 2, 1)) (p := mkRow 1 2 0 (20, 7, 3)) rfl rfl (by decide) (by decide) (by decide) (by decide)

theorem wf1 : WF [mkRow 0 1 (-1) (40, 24, 8)] 1 := by
  have h0 := WF.mNew 1 (40, 24, 8)
  rw [mk0] at h0
  exact h0
theorem wf2 : WF [mkRow 0 1 (-1) (40, 24, 8), mkRow 1 2 0 (20, 7, 3)] 2 :=
  wf1.create (n := 1) (serial := 2) (parent := 0) (q := (20, 7, 3)) (p := mkRow 0 1 (-1) (40, 24, 8)) rfl rfl (by decide) (by decide) (by decide) (by decide)

section
variable {h : Hp} {Q : Value → Hp → Prop} {L : List As}

theorem bookC_len {lv : List Bool} {pd : List Q3} {last : Int} (h1 : lv.length = 16) (h2 : pd.length = 16) : (bookC lv pd last).length = 65 := by
  unfold bookC
  rw [List.length_append, List.length_append, List.length_map, flat_len (row := q3) (e := 3) (fun _ => rfl), h1, h2]; rfl

theorem first13 (hh : Has L h) (hq : ∀ t b h', Has (EnvA t A0 3 :: BookP b lv0 pd0 3 :: L) h' → Q (.tuple #[ptr t, ptr b]) h') : Ok PR 13 [] h Q := by
  refine e13 rfl (seq_step fun K hK => ?_)
  repeat (first | ((with_reducible refine hK _ _ _ ?_); clear hK) | (with_reducible refine seq_step fun K hK => ?_) | ((with_reducible refine code_id ?_); conv => whnf) | (clear hK; (with_reducible refine hK _ _ _ ?_); clear hK) | (clear hK; clear hK; (with_reducible refine hK _ _ _ ?_); clear hK) | (clear hK; clear hK; clear hK; (with_reducible refine hK _ _ _ ?_); clear hK))
  refine fresh_has hh fun b h1 _ _ _ hh1 => ?_
  conv => whnf
  repeat (first | ((with_reducible refine hK _ _ _ ?_); clear hK) | (with_reducible refine seq_step fun K hK => ?_) | ((with_reducible refine code_id ?_); conv => whnf) | (clear hK; (with_reducible refine hK _ _ _ ?_); clear hK) | (clear hK; clear hK; (with_reducible refine hK _ _ _ ?_); clear hK) | (clear hK; clear hK; clear hK; (with_reducible refine hK _ _ _ ?_); clear hK))
  refine new55A 1 (40, 24, 8) hh1 fun t h2 hh2 => ?_
  rw [mk0] at hh2
  conv => whnf
  repeat (first | ((with_reducible refine hK _ _ _ ?_); clear hK) | (with_reducible refine seq_step fun K hK => ?_) | ((with_reducible refine code_id ?_); conv => whnf) | (clear hK; (with_reducible refine hK _ _ _ ?_); clear hK) | (clear hK; clear hK; (with_reducible refine hK _ _ _ ?_); clear hK) | (clear hK; clear hK; clear hK; (with_reducible refine hK _ _ _ ?_); clear hK))
  refine create22A wf1 0 2 (20, 7, 3) hh2 fun h3 hh3 => ?_
  rw [mk1] at hh3 ⊢
  conv => whnf
  repeat (first | ((with_reducible refine hK _ _ _ ?_); clear hK) | (with_reducible refine seq_step fun K hK => ?_) | ((with_reducible refine code_id ?_); conv => whnf) | (clear hK; (with_reducible refine hK _ _ _ ?_); clear hK) | (clear hK; clear hK; (with_reducible refine hK _ _ _ ?_); clear hK) | (clear hK; clear hK; clear hK; (with_reducible refine hK _ _ _ ?_); clear hK))
  refine create22A wf2 1 3 (6, 2, 1) hh3 fun h4 hh4 => ?_
  rw [mk2] at hh4 ⊢
  conv => whnf
  repeat (first | ((with_reducible refine hK _ _ _ ?_); clear hK) | (with_reducible refine seq_step fun K hK => ?_) | ((with_reducible refine code_id ?_); conv => whnf) | (clear hK; (with_reducible refine hK _ _ _ ?_); clear hK) | (clear hK; clear hK; (with_reducible refine hK _ _ _ ?_); clear hK) | (clear hK; clear hK; clear hK; (with_reducible refine hK _ _ _ ?_); clear hK))
  have hh5 : Has (Pt b (.cells (bookC (List.replicate 0 true ++ List.replicate 16 false) pd0 3).toArray 58 (0, 0)) :: EnvA t A0 3 :: L) h4 := hh4.pull 1 rfl
  refine loop_intro (σ := Nat × Hp) (fun s => [(2, .v (ptr b)), (3, .v (ptr t)), (8, .v (iv s.1))]) (fun _ => []) (fun s => s.2) (fun s => s.1 ≤ 3 ∧ Has (Pt b (.cells (bookC (List.replicate s.1 true ++ List.replicate (16 - s.1) false) pd0 3).toArray 58 (0, 0)) :: EnvA t A0 3 :: L) s.2) (fun s => 3 - s.1) (0, h4) ⟨Nat.zero_le _, hh5⟩ (subE_cons rfl (subE_cons rfl (subE_cons rfl subE_nil))) subB_nil rfl ?_
  rintro ⟨i, g⟩ ⟨hi, hg⟩
  have hi : i ≤ 3 := hi
  by_cases h3 : i < 3
  · have e : wr (bookC (List.replicate i true ++ List.replicate (16 - i) false) pd0 3).toArray (0 + 0 + (i : Int).toNat * 1) [.bool true] = (bookC (List.replicate (i + 1) true ++ List.replicate (16 - (i + 1)) false) pd0 3).toArray := by
      match i, h3 with
      | 0, _ => rfl
      | 1, _ => rfl
      | 2, _ => rfl
    repeat (first | ((with_reducible refine hK _ _ _ ?_); clear hK) | (with_reducible refine seq_step fun K hK => ?_) | ((with_reducible refine code_id ?_); conv => whnf) | (clear hK; (with_reducible refine hK _ _ _ ?_); clear hK) | (clear hK; clear hK; (with_reducible refine hK _ _ _ ?_); clear hK) | (clear hK; clear hK; clear hK; (with_reducible refine hK _ _ _ ?_); clear hK))
    refine cond_dec (fun _ => ?_) (fun hn => absurd (show (i : Int) < 3 by omega) hn)
    repeat (first | ((with_reducible refine hK _ _ _ ?_); clear hK) | (with_reducible refine seq_step fun K hK => ?_) | ((with_reducible refine code_id ?_); conv => whnf) | (clear hK; (with_reducible refine hK _ _ _ ?_); clear hK) | (clear hK; clear hK; (with_reducible refine hK _ _ _ ?_); clear hK) | (clear hK; clear hK; clear hK; (with_reducible refine hK _ _ _ ?_); clear hK))
    refine opt_if ⟨by omega, by omega⟩ ?_
    conv => whnf
    refine st_has (x := .bool true) hg 0 rfl rfl ?_ rfl fun g2 _ _ hg2 => ?_
    · simp [bookC, pd0, q3]
    have hg3 : Has (Pt b (.cells (wr (bookC (List.replicate i true ++ List.replicate (16 - i) false) pd0 3).toArray (0 + 0 + (i : Int).toNat * 1) [.bool true]) 58 (0, 0)) :: EnvA t A0 3 :: L) g2 := hg2
    rw [e] at hg3
    conv => whnf
    repeat (first | ((with_reducible refine hK _ _ _ ?_); clear hK) | (with_reducible refine seq_step fun K hK => ?_) | ((with_reducible refine code_id ?_); conv => whnf) | (clear hK; (with_reducible refine hK _ _ _ ?_); clear hK) | (clear hK; clear hK; (with_reducible refine hK _ _ _ ?_); clear hK) | (clear hK; clear hK; clear hK; (with_reducible refine hK _ _ _ ?_); clear hK))
    exact ⟨(i + 1, g2), ⟨show i + 1 ≤ 3 by omega, hg3⟩, show 3 - (i + 1) < 3 - i by omega, subE_cons rfl (subE_cons rfl (subE_cons (int_eq (wrap_nat (by omega)) rfl) subE_nil)), subB_nil, rfl⟩
  · obtain rfl : i = 3 := by omega
    repeat (first | ((with_reducible refine hK _ _ _ ?_); clear hK) | (with_reducible refine seq_step fun K hK => ?_) | ((with_reducible refine code_id ?_); conv => whnf) | (clear hK; (with_reducible refine hK _ _ _ ?_); clear hK) | (clear hK; clear hK; (with_reducible refine hK _ _ _ ?_); clear hK) | (clear hK; clear hK; clear hK; (with_reducible refine hK _ _ _ ?_); clear hK))
    refine hq t b _ ((hg.mono1 fun g hg => ?_).swap)
    exact ⟨rfl, rfl, hg⟩
end

end Go.Proofs.Ytljenppmdhldbaa.V
