/- Seat 09: the walk. -/
import Derived.Test.YtljenppmdhldbaaH20
namespace Go.Proofs.Ytljenppmdhldbaa.V
set_option linter.unusedVariables false
set_option linter.unusedSimpArgs false
set_option linter.unusedSectionVars false
set_option linter.unusedSectionVars false
open Go

/-- The parts of a table, by name. -/
def EnvX (t tb : Nat) (xs : Xs) (last : Int) : List As := [Pt t (.cells #[ptr tb, iv last] 98 (0, 0)), TabP rowP tb (blk xs), RecsP xs]

section
variable {L : List As} {t : Nat} {A : Rs} {last : Int}

theorem walk65A (hw : WF A last) {tb : Nat} {xs : Xs} (a2 : rcs xs = tab A) {g : Hp} (hg : Has (EnvX t tb xs last) g) : ∀ (e : Int) (r : Row), fnd A e = some r → ∀ (l : List Int) (s : Value) (h : Hp) (Q : Value → Hp → Prop), l.length + (walk A e).length ≤ 1000 →
    Has (IntsP s l :: Is g :: L) h → (∀ s' h', Has (IntsP s' (l ++ walk A e) :: Is g :: L) h' → Q s' h') → Ok PR 65 [ptr t, iv e, s] h Q := by
  refine tree_ind hw fun e r hr ih l s h Q hlen hh hq => ?_
  obtain ⟨n, b, r', sk, rfl, hm, hr2, hb, hx⟩ : ∃ (n b : Nat) (r' : Row) (sk : Value), e = n ∧ n < 16 ∧ fnd A e = some r' ∧ got (blk xs) e = some b ∧ xs[n]? = some (some (b, rcOf A r', sk)) := by
    rcases xlook hw a2 e with ⟨h1, _⟩ | h1
    · rw [hr] at h1; cases h1
    · exact h1
  rw [hr] at hr2; cases hr2
  have hbk := hw.bk (fnd_mem hr).1
  have hrn := (fnd_mem hr).2
  have hwk := walk_eq hw hr
  have hlw : (walk A (n : Int)).length = ((kids A (n : Int)).flatMap (walk A)).length + 1 := by rw [hwk]; rfl
  refine e65 rfl (seq_step fun K hK => ?_)
  repeat (first | ((with_reducible refine hK _ _ _ ?_); clear hK) | (with_reducible refine seq_step fun K hK => ?_) | ((with_reducible refine code_id ?_); conv => whnf) | (clear hK; (with_reducible refine hK _ _ _ ?_); clear hK) | (clear hK; clear hK; (with_reducible refine hK _ _ _ ?_); clear hK) | (clear hK; clear hK; clear hK; (with_reducible refine hK _ _ _ ?_); clear hK))
  refine fresh_has hh fun b1 h1 _ _ _ hh1 => ?_
  conv => whnf
  refine app1 (x := (n : Int)) hh1 (by omega) fun s1 h2 hh2 => ?_
  conv => whnf
  repeat (first | ((with_reducible refine hK _ _ _ ?_); clear hK) | (with_reducible refine seq_step fun K hK => ?_) | ((with_reducible refine code_id ?_); conv => whnf) | (clear hK; (with_reducible refine hK _ _ _ ?_); clear hK) | (clear hK; clear hK; (with_reducible refine hK _ _ _ ?_); clear hK) | (clear hK; clear hK; clear hK; (with_reducible refine hK _ _ _ ?_); clear hK))
  have hs2 := hh2.is 1 rfl
  refine opt_ld (hs2 _ _ (hg.pt 0 rfl)) (v := .agg #[ptr tb]) rfl ?_
  conv => whnf
  refine at56 (Has.get (hg.sub hs2) 1 rfl fun _ _ => TabP.sub) _ ?_
  rw [hb]
  have hrec := EnvA.rec (L := []) hg hx
  have hkn : (rcOf A r).kids = kids A (n : Int) := by show kids A r.num = _; rw [hrn]
  rw [hkn] at hrec
  have hk2 := hrec.2.vw
  have hsl : ∃ base cap, sk = .slice base (kids A (n : Int)).length cap := by obtain ⟨_, base, cap, h, _, _⟩ := hk2; exact ⟨base, cap, h⟩
  obtain ⟨base, cap, rfl⟩ := hsl
  conv => whnf
  refine opt_ld (hs2 _ _ hrec.1) (rd_kids hbk.rg) ?_
  conv => whnf
  repeat (first | ((with_reducible refine hK _ _ _ ?_); clear hK) | (with_reducible refine seq_step fun K hK => ?_) | ((with_reducible refine code_id ?_); conv => whnf) | (clear hK; (with_reducible refine hK _ _ _ ?_); clear hK) | (clear hK; clear hK; (with_reducible refine hK _ _ _ ?_); clear hK) | (clear hK; clear hK; clear hK; (with_reducible refine hK _ _ _ ?_); clear hK))
  refine loop_intro (σ := Nat × Value × Hp) (fun s => [(0, .v (ptr t)), (1, .v (iv n)), (2, .v s.2.1), (21, .v (.slice base (kids A (n : Int)).length cap)), (22, .v (iv (kids A (n : Int)).length)), (23, .v (iv s.1))]) (fun _ => []) (fun s => s.2.2)
    (fun s => s.1 ≤ (kids A (n : Int)).length ∧ Has (IntsP s.2.1 (l ++ (n : Int) :: ((kids A (n : Int)).take s.1).flatMap (walk A)) :: Is g :: L) s.2.2) (fun s => (kids A (n : Int)).length - s.1) (0, s1, h2) ⟨Nat.zero_le _, hh2⟩
    (subE_cons rfl (subE_cons rfl (subE_cons rfl (subE_cons rfl (subE_cons rfl (subE_cons rfl subE_nil)))))) subB_nil rfl ?_
  rintro ⟨i, s2, g2⟩ ⟨hi, hg2⟩
  dsimp only at hi hg2 ⊢
  have hkl : (kids A (n : Int)).length ≤ 16 := by
    have := hw.len
    have : (kids A (n : Int)).length ≤ A.length := by unfold kids kidsR; rw [List.length_map]; exact List.length_filter_le _ _
    omega
  repeat (first | ((with_reducible refine hK _ _ _ ?_); clear hK) | (with_reducible refine seq_step fun K hK => ?_) | ((with_reducible refine code_id ?_); conv => whnf) | (clear hK; (with_reducible refine hK _ _ _ ?_); clear hK) | (clear hK; clear hK; (with_reducible refine hK _ _ _ ?_); clear hK) | (clear hK; clear hK; clear hK; (with_reducible refine hK _ _ _ ?_); clear hK))
  refine cond_dec (fun hlt => ?_) (fun hge => ?_)
  · have hil : i < (kids A (n : Int)).length := by omega
    obtain ⟨bb, o, c, ty, z, cap', he, hbb, hcs, hv⟩ := hk2.at hil
    cases he
    have hc := hv 0 (iv (kids A (n : Int))[i]) (by simp [hil])
    repeat (first | ((with_reducible refine hK _ _ _ ?_); clear hK) | (with_reducible refine seq_step fun K hK => ?_) | ((with_reducible refine code_id ?_); conv => whnf) | (clear hK; (with_reducible refine hK _ _ _ ?_); clear hK) | (clear hK; clear hK; (with_reducible refine hK _ _ _ ?_); clear hK) | (clear hK; clear hK; clear hK; (with_reducible refine hK _ _ _ ?_); clear hK))
    refine opt_if ⟨by omega, by omega⟩ ?_
    conv => whnf
    have hs3 := hg2.is 1 rfl
    refine opt_ld (hs3 _ _ hbb) (v := iv (kids A (n : Int))[i]) ?_ ?_
    · exact hc
    conv => whnf
    repeat (first | ((with_reducible refine hK _ _ _ ?_); clear hK) | (with_reducible refine seq_step fun K hK => ?_) | ((with_reducible refine code_id ?_); conv => whnf) | (clear hK; (with_reducible refine hK _ _ _ ?_); clear hK) | (clear hK; clear hK; (with_reducible refine hK _ _ _ ?_); clear hK) | (clear hK; clear hK; clear hK; (with_reducible refine hK _ _ _ ?_); clear hK))
    have hkm : (kids A (n : Int))[i] ∈ kids A (n : Int) := List.getElem_mem hil
    obtain ⟨sk2, hsk, _⟩ := hw.kid hr hkm
    have htk : (kids A (n : Int)).take (i + 1) = (kids A (n : Int)).take i ++ [(kids A (n : Int))[i]] := (List.take_append_getElem hil).symm
    have hfm : ((kids A (n : Int)).take (i + 1)).flatMap (walk A) = ((kids A (n : Int)).take i).flatMap (walk A) ++ walk A (kids A (n : Int))[i] := by rw [htk, List.flatMap_append]; simp
    have hle : (((kids A (n : Int)).take (i + 1)).flatMap (walk A)).length ≤ ((kids A (n : Int)).flatMap (walk A)).length := by
      conv => rhs; rw [← List.take_append_drop (i + 1) (kids A (n : Int)), List.flatMap_append, List.length_append]
      omega
    rw [hfm, List.length_append] at hle
    refine ih _ hkm _ s2 g2 _ ?_ hg2 fun s3 g3 hg3 => ?_
    · rw [List.length_append, List.length_cons]; omega
    conv => whnf
    repeat (first | ((with_reducible refine hK _ _ _ ?_); clear hK) | (with_reducible refine seq_step fun K hK => ?_) | ((with_reducible refine code_id ?_); conv => whnf) | (clear hK; (with_reducible refine hK _ _ _ ?_); clear hK) | (clear hK; clear hK; (with_reducible refine hK _ _ _ ?_); clear hK) | (clear hK; clear hK; clear hK; (with_reducible refine hK _ _ _ ?_); clear hK))
    refine ⟨(i + 1, s3, g3), ⟨show i + 1 ≤ (kids A (n : Int)).length by omega, ?_⟩, show (kids A (n : Int)).length - (i + 1) < (kids A (n : Int)).length - i by omega, subE_cons rfl (subE_cons rfl (subE_cons rfl (subE_cons rfl (subE_cons rfl (subE_cons (int_eq (wrap_nat (by omega)) rfl) subE_nil))))), subB_nil, rfl⟩
    show Has (IntsP s3 (l ++ (n : Int) :: ((kids A (n : Int)).take (i + 1)).flatMap (walk A)) :: Is g :: L) g3
    rw [hfm]
    simpa using hg3
  · repeat (first | ((with_reducible refine hK _ _ _ ?_); clear hK) | (with_reducible refine seq_step fun K hK => ?_) | ((with_reducible refine code_id ?_); conv => whnf) | (clear hK; (with_reducible refine hK _ _ _ ?_); clear hK) | (clear hK; clear hK; (with_reducible refine hK _ _ _ ?_); clear hK) | (clear hK; clear hK; clear hK; (with_reducible refine hK _ _ _ ?_); clear hK))
    have : i = (kids A (n : Int)).length := by omega
    rw [this, List.take_length, ← hwk] at hg2
    exact hq _ _ hg2

end
end Go.Proofs.Ytljenppmdhldbaa.V
