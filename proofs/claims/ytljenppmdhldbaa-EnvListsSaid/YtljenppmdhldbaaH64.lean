/- Seat 09: EnvLists. -/
import Derived.Test.YtljenppmdhldbaaH44
import Derived.Test.YtljenppmdhldbaaH63
import Derived.Test.YtljenppmdhldbaaH52
namespace Go.Proofs.Ytljenppmdhldbaa.V
set_option linter.unusedVariables false
set_option linter.unusedSimpArgs false
set_option linter.unusedSectionVars false
set_option linter.unusedSectionVars false
open Go

section
variable {h : Hp} {Q : Value → Hp → Prop} {L : List As}

theorem set_self9 {l : List As} {i : Nat} {x : As} (h : l[i]? = some x) : l.set i x = l := by
  apply List.ext_getElem?
  intro j
  by_cases hj : i = j
  · subst hj; rw [List.getElem?_set_self (List.getElem?_eq_some_iff.1 h).1, h]
  · rw [List.getElem?_set_ne hj]

theorem split9 (a b e : As) (W X R : List As) : (a :: b :: e :: (W ++ (X ++ R))).Perm (b :: (X ++ (a :: e :: (W ++ R)))) := by
  refine (List.Perm.swap _ _ _).trans (List.Perm.cons _ ?_)
  refine ((List.perm_append_comm_assoc W X R).cons e |>.cons a).trans ?_
  refine (List.Perm.cons a (List.perm_middle (l₁ := X) (a := e) (l₂ := W ++ R)).symm).trans ?_
  exact (List.perm_middle (l₁ := X) (a := a) (l₂ := e :: (W ++ R))).symm

theorem perm9 (a e o x y w k s : As) (W : List As) : (a :: e :: o :: x :: y :: w :: (W ++ [k, s])).Perm (k :: e :: s :: a :: o :: x :: y :: w :: W) := by
  have h1 : (a :: e :: o :: x :: y :: w :: (W ++ [k, s])).Perm (k :: s :: a :: e :: o :: x :: y :: w :: W) := List.perm_append_comm (l₁ := a :: e :: o :: x :: y :: w :: W) (l₂ := [k, s])
  exact h1.trans (List.Perm.cons k (((List.Perm.swap e a _).cons s).trans (List.Perm.swap e s _)))

theorem its_end (xs : Ls) (x : As) (L : List As) : (Its xs ++ x :: L)[xs.length]? = some x := by
  rw [List.getElem?_append_right (by simp [Its])]
  simp [Its]

set_option maxRecDepth 100000 in
set_option maxHeartbeats 2000000 in
theorem law10 {a : Option Addr} {len cap : Nat} {l : List OpE} (hR : Scr h a len l) (hlen : len < 2 ^ 46) (hq : ∀ h', SubH h h' → Q (.bool true) h') : Ok PR 10 [.slice a len cap] h Q := by
  refine e10 rfl (seq_step fun K hK => ?_)
  repeat (first | ((with_reducible refine hK _ _ _ ?_); clear hK) | (with_reducible refine seq_step fun K hK => ?_) | (with_reducible refine block_step ?_) | ((with_reducible refine cond_t ?_ ?_); focus rfl) | ((with_reducible refine cond_f ?_ ?_); focus rfl) | ((with_reducible refine code_id ?_); conv => whnf) | (clear hK; (with_reducible refine hK _ _ _ ?_); clear hK) | (clear hK; clear hK; (with_reducible refine hK _ _ _ ?_); clear hK) | (clear hK; clear hK; clear hK; (with_reducible refine hK _ _ _ ?_); clear hK) | (clear hK; clear hK; clear hK; clear hK; (with_reducible refine hK _ _ _ ?_); clear hK) | (clear hK; clear hK; clear hK; clear hK; clear hK; (with_reducible refine hK _ _ _ ?_); clear hK) | (clear hK; clear hK; clear hK; clear hK; clear hK; clear hK; (with_reducible refine hK _ _ _ ?_); clear hK) | (clear hK; clear hK; clear hK; clear hK; clear hK; clear hK; clear hK; (with_reducible refine hK _ _ _ ?_); clear hK))
  refine first13 (Has.start h) fun t b h1 hh1 => ?_
  have hh1 : Has (EnvA t A0 3 :: BkP b A0 3 :: Is h :: []) h1 := hh1.map_tail fun g hg => hg.mono1 fun g' hg' => bkp0 hg'
  conv => whnf
  repeat (first | ((with_reducible refine hK _ _ _ ?_); clear hK) | (with_reducible refine seq_step fun K hK => ?_) | (with_reducible refine block_step ?_) | ((with_reducible refine cond_t ?_ ?_); focus rfl) | ((with_reducible refine cond_f ?_ ?_); focus rfl) | ((with_reducible refine code_id ?_); conv => whnf) | (clear hK; (with_reducible refine hK _ _ _ ?_); clear hK) | (clear hK; clear hK; (with_reducible refine hK _ _ _ ?_); clear hK) | (clear hK; clear hK; clear hK; (with_reducible refine hK _ _ _ ?_); clear hK) | (clear hK; clear hK; clear hK; clear hK; (with_reducible refine hK _ _ _ ?_); clear hK) | (clear hK; clear hK; clear hK; clear hK; clear hK; (with_reducible refine hK _ _ _ ?_); clear hK) | (clear hK; clear hK; clear hK; clear hK; clear hK; clear hK; (with_reducible refine hK _ _ _ ?_); clear hK) | (clear hK; clear hK; clear hK; clear hK; clear hK; clear hK; clear hK; (with_reducible refine hK _ _ _ ?_); clear hK))
  refine loop_intro (σ := (Nat × Rs × Int) × Hp) (fun s => [(0, .v (.slice a len cap)), (3, .v (ptr t)), (4, .v (ptr b)), (5, .v (iv s.1.1))]) (fun _ => []) (fun s => s.2)
    (fun s => s.1.1 ≤ len ∧ WF s.1.2.1 s.1.2.2 ∧ Has (EnvA t s.1.2.1 s.1.2.2 :: BkP b s.1.2.1 s.1.2.2 :: Is h :: []) s.2)
    (fun s => len - s.1.1) ((0, A0, 3), h1) ⟨Nat.zero_le _, wf0, hh1⟩ (subE_cons rfl (subE_cons rfl (subE_cons rfl (subE_cons rfl subE_nil)))) subB_nil rfl ?_
  rintro ⟨⟨i, A, last⟩, g⟩ ⟨hi, hw, hg⟩
  dsimp only at hi hw hg ⊢
  repeat (first | ((with_reducible refine hK _ _ _ ?_); clear hK) | (with_reducible refine seq_step fun K hK => ?_) | (with_reducible refine block_step ?_) | ((with_reducible refine cond_t ?_ ?_); focus rfl) | ((with_reducible refine cond_f ?_ ?_); focus rfl) | ((with_reducible refine code_id ?_); conv => whnf) | (clear hK; (with_reducible refine hK _ _ _ ?_); clear hK) | (clear hK; clear hK; (with_reducible refine hK _ _ _ ?_); clear hK) | (clear hK; clear hK; clear hK; (with_reducible refine hK _ _ _ ?_); clear hK) | (clear hK; clear hK; clear hK; clear hK; (with_reducible refine hK _ _ _ ?_); clear hK) | (clear hK; clear hK; clear hK; clear hK; clear hK; (with_reducible refine hK _ _ _ ?_); clear hK) | (clear hK; clear hK; clear hK; clear hK; clear hK; clear hK; (with_reducible refine hK _ _ _ ?_); clear hK) | (clear hK; clear hK; clear hK; clear hK; clear hK; clear hK; clear hK; (with_reducible refine hK _ _ _ ?_); clear hK))
  refine cond_dec (fun hlt => ?_) (fun hge => ?_)
  · have hil : i < len := by omega
    obtain ⟨o, bk, off, c, ty, z, ho, hregs, rfl, hb0, hrd, hkd, hnn⟩ := hR.at hil
    have hb : g bk = some (.cells c ty z) := hg.is 2 rfl bk _ hb0
    have ei : ((i : Int)).toNat = i := Int.toNat_natCast i
    repeat (first | ((with_reducible refine hK _ _ _ ?_); clear hK) | (with_reducible refine seq_step fun K hK => ?_) | (with_reducible refine block_step ?_) | ((with_reducible refine cond_t ?_ ?_); focus rfl) | ((with_reducible refine cond_f ?_ ?_); focus rfl) | ((with_reducible refine code_id ?_); conv => whnf) | (clear hK; (with_reducible refine hK _ _ _ ?_); clear hK) | (clear hK; clear hK; (with_reducible refine hK _ _ _ ?_); clear hK) | (clear hK; clear hK; clear hK; (with_reducible refine hK _ _ _ ?_); clear hK) | (clear hK; clear hK; clear hK; clear hK; (with_reducible refine hK _ _ _ ?_); clear hK) | (clear hK; clear hK; clear hK; clear hK; clear hK; (with_reducible refine hK _ _ _ ?_); clear hK) | (clear hK; clear hK; clear hK; clear hK; clear hK; clear hK; (with_reducible refine hK _ _ _ ?_); clear hK) | (clear hK; clear hK; clear hK; clear hK; clear hK; clear hK; clear hK; (with_reducible refine hK _ _ _ ?_); clear hK))
    refine opt_if ⟨by omega, by omega⟩ ?_
    conv => whnf
    refine opt_ld hb (v := .agg (opC o).toArray) (by rw [ei]; exact hrd) ?_
    conv => whnf
    refine noted20 hw o hregs hg fun g1 hg1 => ?_
    have hw1 := hw.step o hregs
    conv => whnf
    repeat (first | ((with_reducible refine hK _ _ _ ?_); clear hK) | (with_reducible refine seq_step fun K hK => ?_) | (with_reducible refine block_step ?_) | ((with_reducible refine cond_t ?_ ?_); focus rfl) | ((with_reducible refine cond_f ?_ ?_); focus rfl) | ((with_reducible refine code_id ?_); conv => whnf) | (clear hK; (with_reducible refine hK _ _ _ ?_); clear hK) | (clear hK; clear hK; (with_reducible refine hK _ _ _ ?_); clear hK) | (clear hK; clear hK; clear hK; (with_reducible refine hK _ _ _ ?_); clear hK) | (clear hK; clear hK; clear hK; clear hK; (with_reducible refine hK _ _ _ ?_); clear hK) | (clear hK; clear hK; clear hK; clear hK; clear hK; (with_reducible refine hK _ _ _ ?_); clear hK) | (clear hK; clear hK; clear hK; clear hK; clear hK; clear hK; (with_reducible refine hK _ _ _ ?_); clear hK) | (clear hK; clear hK; clear hK; clear hK; clear hK; clear hK; clear hK; (with_reducible refine hK _ _ _ ?_); clear hK))
    exact ⟨((i + 1, _, _), g1), ⟨show i + 1 ≤ len by omega, hw1, hg1⟩, show len - (i + 1) < len - i by omega, subE_cons rfl (subE_cons rfl (subE_cons rfl (subE_cons (int_eq (wrap_nat (by omega)) rfl) subE_nil))), subB_nil, rfl⟩
  · obtain ⟨r0, hr0⟩ := root_row hw
    have hkl : (kids A 0).length ≤ 16 := by
      have := hw.len
      have : (kids A 0).length ≤ A.length := by unfold kids kidsR; rw [List.length_map]; exact List.length_filter_le _ _
      omega
    repeat (first | ((with_reducible refine hK _ _ _ ?_); clear hK) | (with_reducible refine seq_step fun K hK => ?_) | (with_reducible refine block_step ?_) | ((with_reducible refine cond_t ?_ ?_); focus rfl) | ((with_reducible refine cond_f ?_ ?_); focus rfl) | ((with_reducible refine code_id ?_); conv => whnf) | (clear hK; (with_reducible refine hK _ _ _ ?_); clear hK) | (clear hK; clear hK; (with_reducible refine hK _ _ _ ?_); clear hK) | (clear hK; clear hK; clear hK; (with_reducible refine hK _ _ _ ?_); clear hK) | (clear hK; clear hK; clear hK; clear hK; (with_reducible refine hK _ _ _ ?_); clear hK) | (clear hK; clear hK; clear hK; clear hK; clear hK; (with_reducible refine hK _ _ _ ?_); clear hK) | (clear hK; clear hK; clear hK; clear hK; clear hK; clear hK; (with_reducible refine hK _ _ _ ?_); clear hK) | (clear hK; clear hK; clear hK; clear hK; clear hK; clear hK; clear hK; (with_reducible refine hK _ _ _ ?_); clear hK))
    refine kids39A hw 0 hg fun s1 h2 hh2 => ?_
    rw [show mKids A 0 = (kids A 0, 0) by unfold mKids; rw [hr0]] at hh2 ⊢
    dsimp only at hh2 ⊢
    conv => whnf
    repeat (first | ((with_reducible refine hK _ _ _ ?_); clear hK) | (with_reducible refine seq_step fun K hK => ?_) | (with_reducible refine block_step ?_) | ((with_reducible refine cond_t ?_ ?_); focus rfl) | ((with_reducible refine cond_f ?_ ?_); focus rfl) | ((with_reducible refine code_id ?_); conv => whnf) | (clear hK; (with_reducible refine hK _ _ _ ?_); clear hK) | (clear hK; clear hK; (with_reducible refine hK _ _ _ ?_); clear hK) | (clear hK; clear hK; clear hK; (with_reducible refine hK _ _ _ ?_); clear hK) | (clear hK; clear hK; clear hK; clear hK; (with_reducible refine hK _ _ _ ?_); clear hK) | (clear hK; clear hK; clear hK; clear hK; clear hK; (with_reducible refine hK _ _ _ ?_); clear hK) | (clear hK; clear hK; clear hK; clear hK; clear hK; clear hK; (with_reducible refine hK _ _ _ ?_); clear hK) | (clear hK; clear hK; clear hK; clear hK; clear hK; clear hK; clear hK; (with_reducible refine hK _ _ _ ?_); clear hK))
    refine copied40 (by omega) hh2 fun sk h3 hh3 => ?_
    obtain ⟨bk, ck, hs⟩ := hh3.slv 0 rfl
    subst hs
    have hh4 : Has (IntsP (.slice bk (kids A 0).length ck) (kids A 0) :: EnvA t A last :: Is h :: []) h3 := (hh3.erase 1).erase 2
    have hh5 := hh4.nilW 1
    conv => whnf
    repeat (first | ((with_reducible refine hK _ _ _ ?_); clear hK) | (with_reducible refine seq_step fun K hK => ?_) | (with_reducible refine block_step ?_) | ((with_reducible refine cond_t ?_ ?_); focus rfl) | ((with_reducible refine cond_f ?_ ?_); focus rfl) | ((with_reducible refine code_id ?_); conv => whnf) | (clear hK; (with_reducible refine hK _ _ _ ?_); clear hK) | (clear hK; clear hK; (with_reducible refine hK _ _ _ ?_); clear hK) | (clear hK; clear hK; clear hK; (with_reducible refine hK _ _ _ ?_); clear hK) | (clear hK; clear hK; clear hK; clear hK; (with_reducible refine hK _ _ _ ?_); clear hK) | (clear hK; clear hK; clear hK; clear hK; clear hK; (with_reducible refine hK _ _ _ ?_); clear hK) | (clear hK; clear hK; clear hK; clear hK; clear hK; clear hK; (with_reducible refine hK _ _ _ ?_); clear hK) | (clear hK; clear hK; clear hK; clear hK; clear hK; clear hK; clear hK; (with_reducible refine hK _ _ _ ?_); clear hK))
    refine loop_intro (σ := (Nat × Value × Ls) × Hp) (fun s => [(3, .v (ptr t)), (6, .v (.slice bk (kids A 0).length ck)), (8, .v s.1.2.1), (9, .v (iv s.1.1))]) (fun _ => []) (fun s => s.2)
      (fun s => s.1.1 ≤ 2 ∧ s.1.2.2.length ≤ 9 * s.1.1 ∧ s.1.2.2.map (·.2) = (List.replicate s.1.1 (roundL A)).flatten ∧ Has (OutP s.1.2.1 s.1.2.2 :: EnvA t A last :: (Its s.1.2.2 ++ [IntsP (.slice bk (kids A 0).length ck) (kids A 0), Is h])) s.2)
      (fun s => 2 - s.1.1) ((0, .slice none 0 0, []), h3) ⟨Nat.zero_le _, Nat.zero_le _, rfl, hh5.map_tail fun g hg => hg.swap⟩ (subE_cons rfl (subE_cons rfl (subE_cons rfl (subE_cons rfl subE_nil)))) subB_nil rfl ?_
    rintro ⟨⟨i, so, xs⟩, g4⟩ ⟨hi2, hxl, hxs, hg4⟩
    dsimp only at hi2 hxl hxs hg4 ⊢
    have hnext : IntKind.i64.wrap ((i : Int) + 1) = ((i + 1 : Nat) : Int) := wrap_nat (by omega)
    repeat (first | ((with_reducible refine hK _ _ _ ?_); clear hK) | (with_reducible refine seq_step fun K hK => ?_) | (with_reducible refine block_step ?_) | ((with_reducible refine cond_t ?_ ?_); focus rfl) | ((with_reducible refine cond_f ?_ ?_); focus rfl) | ((with_reducible refine code_id ?_); conv => whnf) | (clear hK; (with_reducible refine hK _ _ _ ?_); clear hK) | (clear hK; clear hK; (with_reducible refine hK _ _ _ ?_); clear hK) | (clear hK; clear hK; clear hK; (with_reducible refine hK _ _ _ ?_); clear hK) | (clear hK; clear hK; clear hK; clear hK; (with_reducible refine hK _ _ _ ?_); clear hK) | (clear hK; clear hK; clear hK; clear hK; clear hK; (with_reducible refine hK _ _ _ ?_); clear hK) | (clear hK; clear hK; clear hK; clear hK; clear hK; clear hK; (with_reducible refine hK _ _ _ ?_); clear hK) | (clear hK; clear hK; clear hK; clear hK; clear hK; clear hK; clear hK; (with_reducible refine hK _ _ _ ?_); clear hK))
    refine cond_dec (fun hlt => ?_) (fun hge2 => ?_)
    · have hi3 : i < 2 := by omega
      repeat (first | ((with_reducible refine hK _ _ _ ?_); clear hK) | (with_reducible refine seq_step fun K hK => ?_) | (with_reducible refine block_step ?_) | ((with_reducible refine cond_t ?_ ?_); focus rfl) | ((with_reducible refine cond_f ?_ ?_); focus rfl) | ((with_reducible refine code_id ?_); conv => whnf) | (clear hK; (with_reducible refine hK _ _ _ ?_); clear hK) | (clear hK; clear hK; (with_reducible refine hK _ _ _ ?_); clear hK) | (clear hK; clear hK; clear hK; (with_reducible refine hK _ _ _ ?_); clear hK) | (clear hK; clear hK; clear hK; clear hK; (with_reducible refine hK _ _ _ ?_); clear hK) | (clear hK; clear hK; clear hK; clear hK; clear hK; (with_reducible refine hK _ _ _ ?_); clear hK) | (clear hK; clear hK; clear hK; clear hK; clear hK; clear hK; (with_reducible refine hK _ _ _ ?_); clear hK) | (clear hK; clear hK; clear hK; clear hK; clear hK; clear hK; clear hK; (with_reducible refine hK _ _ _ ?_); clear hK))
      refine asked41 hw 0 (by omega) hg4 fun so1 x1 x2 g5 hg5 => ?_
      conv => whnf
      repeat (first | ((with_reducible refine hK _ _ _ ?_); clear hK) | (with_reducible refine seq_step fun K hK => ?_) | (with_reducible refine block_step ?_) | ((with_reducible refine cond_t ?_ ?_); focus rfl) | ((with_reducible refine cond_f ?_ ?_); focus rfl) | ((with_reducible refine code_id ?_); conv => whnf) | (clear hK; (with_reducible refine hK _ _ _ ?_); clear hK) | (clear hK; clear hK; (with_reducible refine hK _ _ _ ?_); clear hK) | (clear hK; clear hK; clear hK; (with_reducible refine hK _ _ _ ?_); clear hK) | (clear hK; clear hK; clear hK; clear hK; (with_reducible refine hK _ _ _ ?_); clear hK) | (clear hK; clear hK; clear hK; clear hK; clear hK; (with_reducible refine hK _ _ _ ?_); clear hK) | (clear hK; clear hK; clear hK; clear hK; clear hK; clear hK; (with_reducible refine hK _ _ _ ?_); clear hK) | (clear hK; clear hK; clear hK; clear hK; clear hK; clear hK; clear hK; (with_reducible refine hK _ _ _ ?_); clear hK))
      refine loop_intro (σ := (Nat × Value × Ls) × Hp) (fun s => [(3, .v (ptr t)), (6, .v (.slice bk (kids A 0).length ck)), (8, .v s.1.2.1), (9, .v (iv i)), (10, .v (iv s.1.1))]) (fun _ => []) (fun s => s.2)
        (fun s => s.1.1 ≤ 3 ∧ s.1.1 ≤ (kids A 0).length ∧ s.1.2.2.length ≤ 9 * i + 2 + 2 * s.1.1 ∧ s.1.2.2.map (·.2) = (List.replicate i (roundL A)).flatten ++ (askL A 0 ++ ((kids A 0).take s.1.1).flatMap (askL A)) ∧ Has (OutP s.1.2.1 s.1.2.2 :: EnvA t A last :: (Its s.1.2.2 ++ [IntsP (.slice bk (kids A 0).length ck) (kids A 0), Is h])) s.2)
        (fun s => 3 - s.1.1) ((0, so1, _), g5) ⟨Nat.zero_le _, Nat.zero_le _, by show (xs ++ [_, _]).length ≤ _; rw [List.length_append]; simp; omega, by show (xs ++ [_, _]).map _ = _; rw [List.map_append, hxs]; rfl, hg5⟩ (subE_cons rfl (subE_cons rfl (subE_cons rfl (subE_cons rfl (subE_cons rfl subE_nil))))) subB_nil rfl ?_
      rintro ⟨⟨k, so2, ys⟩, g6⟩ ⟨hk3, hkn, hyl, hys, hg6⟩
      dsimp only at hk3 hkn hyl hys hg6 ⊢
      have hnext2 : IntKind.i64.wrap ((k : Int) + 1) = ((k + 1 : Nat) : Int) := wrap_nat (by omega)
      repeat (first | ((with_reducible refine hK _ _ _ ?_); clear hK) | (with_reducible refine seq_step fun K hK => ?_) | (with_reducible refine block_step ?_) | ((with_reducible refine cond_t ?_ ?_); focus rfl) | ((with_reducible refine cond_f ?_ ?_); focus rfl) | ((with_reducible refine code_id ?_); conv => whnf) | (clear hK; (with_reducible refine hK _ _ _ ?_); clear hK) | (clear hK; clear hK; (with_reducible refine hK _ _ _ ?_); clear hK) | (clear hK; clear hK; clear hK; (with_reducible refine hK _ _ _ ?_); clear hK) | (clear hK; clear hK; clear hK; clear hK; (with_reducible refine hK _ _ _ ?_); clear hK) | (clear hK; clear hK; clear hK; clear hK; clear hK; (with_reducible refine hK _ _ _ ?_); clear hK) | (clear hK; clear hK; clear hK; clear hK; clear hK; clear hK; (with_reducible refine hK _ _ _ ?_); clear hK) | (clear hK; clear hK; clear hK; clear hK; clear hK; clear hK; clear hK; (with_reducible refine hK _ _ _ ?_); clear hK))
      by_cases c1 : k < (kids A 0).length
      · rw [show decide ((k : Int) < ((kids A 0).length : Nat)) = true from decide_eq_true (by omega)]
        conv => whnf
        repeat (first | ((with_reducible refine hK _ _ _ ?_); clear hK) | (with_reducible refine seq_step fun K hK => ?_) | (with_reducible refine block_step ?_) | ((with_reducible refine cond_t ?_ ?_); focus rfl) | ((with_reducible refine cond_f ?_ ?_); focus rfl) | ((with_reducible refine code_id ?_); conv => whnf) | (clear hK; (with_reducible refine hK _ _ _ ?_); clear hK) | (clear hK; clear hK; (with_reducible refine hK _ _ _ ?_); clear hK) | (clear hK; clear hK; clear hK; (with_reducible refine hK _ _ _ ?_); clear hK) | (clear hK; clear hK; clear hK; clear hK; (with_reducible refine hK _ _ _ ?_); clear hK) | (clear hK; clear hK; clear hK; clear hK; clear hK; (with_reducible refine hK _ _ _ ?_); clear hK) | (clear hK; clear hK; clear hK; clear hK; clear hK; clear hK; (with_reducible refine hK _ _ _ ?_); clear hK) | (clear hK; clear hK; clear hK; clear hK; clear hK; clear hK; clear hK; (with_reducible refine hK _ _ _ ?_); clear hK))
        refine cond_dec (fun hlt2 => ?_) (fun hge3 => ?_)
        · obtain ⟨bb, o, cap', c, ty, z, he, hbb, hc⟩ := hg6.rdw (ys.length + 2) (at2 (its_end ys _ _)) (k := k) (v := iv (kids A 0)[k]) c1 (by rw [List.getElem?_map, List.getElem?_eq_getElem c1]; rfl)
          cases he
          repeat (first | ((with_reducible refine hK _ _ _ ?_); clear hK) | (with_reducible refine seq_step fun K hK => ?_) | (with_reducible refine block_step ?_) | ((with_reducible refine cond_t ?_ ?_); focus rfl) | ((with_reducible refine cond_f ?_ ?_); focus rfl) | ((with_reducible refine code_id ?_); conv => whnf) | (clear hK; (with_reducible refine hK _ _ _ ?_); clear hK) | (clear hK; clear hK; (with_reducible refine hK _ _ _ ?_); clear hK) | (clear hK; clear hK; clear hK; (with_reducible refine hK _ _ _ ?_); clear hK) | (clear hK; clear hK; clear hK; clear hK; (with_reducible refine hK _ _ _ ?_); clear hK) | (clear hK; clear hK; clear hK; clear hK; clear hK; (with_reducible refine hK _ _ _ ?_); clear hK) | (clear hK; clear hK; clear hK; clear hK; clear hK; clear hK; (with_reducible refine hK _ _ _ ?_); clear hK) | (clear hK; clear hK; clear hK; clear hK; clear hK; clear hK; clear hK; (with_reducible refine hK _ _ _ ?_); clear hK))
          refine opt_if ⟨by omega, by omega⟩ ?_
          conv => whnf
          refine opt_ld hbb (v := iv (kids A 0)[k]) (by show c[o + (k : Int).toNat * 1]? = _; rw [Int.toNat_natCast, Nat.mul_one]; exact hc) ?_
          conv => whnf
          refine asked41 hw (kids A 0)[k] (by omega) hg6 fun so3 y1 y2 g7 hg7 => ?_
          conv => whnf
          repeat (first | ((with_reducible refine hK _ _ _ ?_); clear hK) | (with_reducible refine seq_step fun K hK => ?_) | (with_reducible refine block_step ?_) | ((with_reducible refine cond_t ?_ ?_); focus rfl) | ((with_reducible refine cond_f ?_ ?_); focus rfl) | ((with_reducible refine code_id ?_); conv => whnf) | (clear hK; (with_reducible refine hK _ _ _ ?_); clear hK) | (clear hK; clear hK; (with_reducible refine hK _ _ _ ?_); clear hK) | (clear hK; clear hK; clear hK; (with_reducible refine hK _ _ _ ?_); clear hK) | (clear hK; clear hK; clear hK; clear hK; (with_reducible refine hK _ _ _ ?_); clear hK) | (clear hK; clear hK; clear hK; clear hK; clear hK; (with_reducible refine hK _ _ _ ?_); clear hK) | (clear hK; clear hK; clear hK; clear hK; clear hK; clear hK; (with_reducible refine hK _ _ _ ?_); clear hK) | (clear hK; clear hK; clear hK; clear hK; clear hK; clear hK; clear hK; (with_reducible refine hK _ _ _ ?_); clear hK))
          refine ⟨((k + 1, so3, _), g7), ⟨show k + 1 ≤ 3 by omega, show k + 1 ≤ _ by omega, by show (ys ++ [_, _]).length ≤ _; rw [List.length_append]; simp; omega, ?_, hg7⟩, by show 3 - (k + 1) < 3 - k; omega, subE_cons rfl (subE_cons rfl (subE_cons rfl (subE_cons rfl (subE_cons (int_eq hnext2 rfl) subE_nil)))), subB_nil, rfl⟩
          show (ys ++ [_, _]).map _ = _
          have ht : ((kids A 0).take (k + 1)).flatMap (askL A) = ((kids A 0).take k).flatMap (askL A) ++ askL A (kids A 0)[k] := by
            rw [← List.take_append_getElem c1, List.flatMap_append, List.flatMap_singleton]
          rw [List.map_append, hys, ht]
          simp [askL]
        · have hk9 : (kids A 0).take k = (kids A 0).take 3 := by rw [show k = 3 by omega]
          repeat (first | ((with_reducible refine hK _ _ _ ?_); clear hK) | (with_reducible refine seq_step fun K hK => ?_) | (with_reducible refine block_step ?_) | ((with_reducible refine cond_t ?_ ?_); focus rfl) | ((with_reducible refine cond_f ?_ ?_); focus rfl) | ((with_reducible refine code_id ?_); conv => whnf) | (clear hK; (with_reducible refine hK _ _ _ ?_); clear hK) | (clear hK; clear hK; (with_reducible refine hK _ _ _ ?_); clear hK) | (clear hK; clear hK; clear hK; (with_reducible refine hK _ _ _ ?_); clear hK) | (clear hK; clear hK; clear hK; clear hK; (with_reducible refine hK _ _ _ ?_); clear hK) | (clear hK; clear hK; clear hK; clear hK; clear hK; (with_reducible refine hK _ _ _ ?_); clear hK) | (clear hK; clear hK; clear hK; clear hK; clear hK; clear hK; (with_reducible refine hK _ _ _ ?_); clear hK) | (clear hK; clear hK; clear hK; clear hK; clear hK; clear hK; clear hK; (with_reducible refine hK _ _ _ ?_); clear hK))
          refine live38A hw hg6.swap fun sl g7 hg7 => ?_
          obtain ⟨bl, cl, hs⟩ := hg7.slv 0 rfl
          subst hs
          conv => whnf
          repeat (first | ((with_reducible refine hK _ _ _ ?_); clear hK) | (with_reducible refine seq_step fun K hK => ?_) | (with_reducible refine block_step ?_) | ((with_reducible refine cond_t ?_ ?_); focus rfl) | ((with_reducible refine cond_f ?_ ?_); focus rfl) | ((with_reducible refine code_id ?_); conv => whnf) | (clear hK; (with_reducible refine hK _ _ _ ?_); clear hK) | (clear hK; clear hK; (with_reducible refine hK _ _ _ ?_); clear hK) | (clear hK; clear hK; clear hK; (with_reducible refine hK _ _ _ ?_); clear hK) | (clear hK; clear hK; clear hK; clear hK; (with_reducible refine hK _ _ _ ?_); clear hK) | (clear hK; clear hK; clear hK; clear hK; clear hK; (with_reducible refine hK _ _ _ ?_); clear hK) | (clear hK; clear hK; clear hK; clear hK; clear hK; clear hK; (with_reducible refine hK _ _ _ ?_); clear hK) | (clear hK; clear hK; clear hK; clear hK; clear hK; clear hK; clear hK; (with_reducible refine hK _ _ _ ?_); clear hK))
          refine fresh_has hg7 fun b1 g8 _ _ _ hg8 => ?_
          conv => whnf
          refine out1 (i := 2) (so := so2) (xs := ys) (l := liveL A) hg8 rfl rfl (by omega) fun so3 g9 hg9 => ?_
          have hg10 : Has (OutP so3 (ys ++ [(.slice bl (liveL A).length cl, liveL A)]) :: EnvA t A last :: (Its (ys ++ [(.slice bl (liveL A).length cl, liveL A)]) ++ [IntsP (.slice bk (kids A 0).length ck) (kids A 0), Is h])) g9 :=
            ((hg9.pull 2 rfl).map_tail fun g hg => hg.swap).perm (List.Perm.cons _ (List.Perm.cons _ (its_snoc ys _ _).symm))
          conv => whnf
          repeat (first | ((with_reducible refine hK _ _ _ ?_); clear hK) | (with_reducible refine seq_step fun K hK => ?_) | (with_reducible refine block_step ?_) | ((with_reducible refine cond_t ?_ ?_); focus rfl) | ((with_reducible refine cond_f ?_ ?_); focus rfl) | ((with_reducible refine code_id ?_); conv => whnf) | (clear hK; (with_reducible refine hK _ _ _ ?_); clear hK) | (clear hK; clear hK; (with_reducible refine hK _ _ _ ?_); clear hK) | (clear hK; clear hK; clear hK; (with_reducible refine hK _ _ _ ?_); clear hK) | (clear hK; clear hK; clear hK; clear hK; (with_reducible refine hK _ _ _ ?_); clear hK) | (clear hK; clear hK; clear hK; clear hK; clear hK; (with_reducible refine hK _ _ _ ?_); clear hK) | (clear hK; clear hK; clear hK; clear hK; clear hK; clear hK; (with_reducible refine hK _ _ _ ?_); clear hK) | (clear hK; clear hK; clear hK; clear hK; clear hK; clear hK; clear hK; (with_reducible refine hK _ _ _ ?_); clear hK))
          refine ⟨((i + 1, so3, _), g9), ⟨show i + 1 ≤ 2 by omega, by show (ys ++ [_]).length ≤ _; rw [List.length_append]; simp; omega, ?_, hg10⟩, by show 2 - (i + 1) < 2 - i; omega, subE_cons rfl (subE_cons rfl (subE_cons rfl (subE_cons (int_eq hnext rfl) subE_nil))), subB_nil, rfl⟩
          show (ys ++ [_]).map _ = _
          rw [List.map_append, hys, hk9, List.replicate_succ', List.flatten_append]
          simp [roundL]
      · have hk9 : (kids A 0).take k = (kids A 0).take 3 := by rw [List.take_of_length_le (by omega), List.take_of_length_le (by omega)]
        rw [show decide ((k : Int) < ((kids A 0).length : Nat)) = false from decide_eq_false (by omega)]
        conv => whnf
        repeat (first | ((with_reducible refine hK _ _ _ ?_); clear hK) | (with_reducible refine seq_step fun K hK => ?_) | (with_reducible refine block_step ?_) | ((with_reducible refine cond_t ?_ ?_); focus rfl) | ((with_reducible refine cond_f ?_ ?_); focus rfl) | ((with_reducible refine code_id ?_); conv => whnf) | (clear hK; (with_reducible refine hK _ _ _ ?_); clear hK) | (clear hK; clear hK; (with_reducible refine hK _ _ _ ?_); clear hK) | (clear hK; clear hK; clear hK; (with_reducible refine hK _ _ _ ?_); clear hK) | (clear hK; clear hK; clear hK; clear hK; (with_reducible refine hK _ _ _ ?_); clear hK) | (clear hK; clear hK; clear hK; clear hK; clear hK; (with_reducible refine hK _ _ _ ?_); clear hK) | (clear hK; clear hK; clear hK; clear hK; clear hK; clear hK; (with_reducible refine hK _ _ _ ?_); clear hK) | (clear hK; clear hK; clear hK; clear hK; clear hK; clear hK; clear hK; (with_reducible refine hK _ _ _ ?_); clear hK))
        refine live38A hw hg6.swap fun sl g7 hg7 => ?_
        obtain ⟨bl, cl, hs⟩ := hg7.slv 0 rfl
        subst hs
        conv => whnf
        repeat (first | ((with_reducible refine hK _ _ _ ?_); clear hK) | (with_reducible refine seq_step fun K hK => ?_) | (with_reducible refine block_step ?_) | ((with_reducible refine cond_t ?_ ?_); focus rfl) | ((with_reducible refine cond_f ?_ ?_); focus rfl) | ((with_reducible refine code_id ?_); conv => whnf) | (clear hK; (with_reducible refine hK _ _ _ ?_); clear hK) | (clear hK; clear hK; (with_reducible refine hK _ _ _ ?_); clear hK) | (clear hK; clear hK; clear hK; (with_reducible refine hK _ _ _ ?_); clear hK) | (clear hK; clear hK; clear hK; clear hK; (with_reducible refine hK _ _ _ ?_); clear hK) | (clear hK; clear hK; clear hK; clear hK; clear hK; (with_reducible refine hK _ _ _ ?_); clear hK) | (clear hK; clear hK; clear hK; clear hK; clear hK; clear hK; (with_reducible refine hK _ _ _ ?_); clear hK) | (clear hK; clear hK; clear hK; clear hK; clear hK; clear hK; clear hK; (with_reducible refine hK _ _ _ ?_); clear hK))
        refine fresh_has hg7 fun b1 g8 _ _ _ hg8 => ?_
        conv => whnf
        refine out1 (i := 2) (so := so2) (xs := ys) (l := liveL A) hg8 rfl rfl (by omega) fun so3 g9 hg9 => ?_
        have hg10 : Has (OutP so3 (ys ++ [(.slice bl (liveL A).length cl, liveL A)]) :: EnvA t A last :: (Its (ys ++ [(.slice bl (liveL A).length cl, liveL A)]) ++ [IntsP (.slice bk (kids A 0).length ck) (kids A 0), Is h])) g9 :=
          ((hg9.pull 2 rfl).map_tail fun g hg => hg.swap).perm (List.Perm.cons _ (List.Perm.cons _ (its_snoc ys _ _).symm))
        conv => whnf
        repeat (first | ((with_reducible refine hK _ _ _ ?_); clear hK) | (with_reducible refine seq_step fun K hK => ?_) | (with_reducible refine block_step ?_) | ((with_reducible refine cond_t ?_ ?_); focus rfl) | ((with_reducible refine cond_f ?_ ?_); focus rfl) | ((with_reducible refine code_id ?_); conv => whnf) | (clear hK; (with_reducible refine hK _ _ _ ?_); clear hK) | (clear hK; clear hK; (with_reducible refine hK _ _ _ ?_); clear hK) | (clear hK; clear hK; clear hK; (with_reducible refine hK _ _ _ ?_); clear hK) | (clear hK; clear hK; clear hK; clear hK; (with_reducible refine hK _ _ _ ?_); clear hK) | (clear hK; clear hK; clear hK; clear hK; clear hK; (with_reducible refine hK _ _ _ ?_); clear hK) | (clear hK; clear hK; clear hK; clear hK; clear hK; clear hK; (with_reducible refine hK _ _ _ ?_); clear hK) | (clear hK; clear hK; clear hK; clear hK; clear hK; clear hK; clear hK; (with_reducible refine hK _ _ _ ?_); clear hK))
        refine ⟨((i + 1, so3, _), g9), ⟨show i + 1 ≤ 2 by omega, by show (ys ++ [_]).length ≤ _; rw [List.length_append]; simp; omega, ?_, hg10⟩, by show 2 - (i + 1) < 2 - i; omega, subE_cons rfl (subE_cons rfl (subE_cons rfl (subE_cons (int_eq hnext rfl) subE_nil))), subB_nil, rfl⟩
        show (ys ++ [_]).map _ = _
        rw [List.map_append, hys, hk9, List.replicate_succ', List.flatten_append]
        simp [roundL]
    · have hi3 : i = 2 := by omega
      subst hi3
      obtain ⟨bo, co, hs⟩ := hg4.slv 0 rfl
      subst hs
      have hRl := roundL_len A
      obtain ⟨R, hR9⟩ : ∃ R, R = roundL A := ⟨_, rfl⟩
      rw [← hR9] at hxs hRl
      have hxs2 : xs.map (·.2) = R ++ R := by rw [hxs]; simp [List.replicate_succ]
      have hxm : xs.length = R.length + R.length := by have := congrArg List.length hxs2; rwa [List.length_map, List.length_append] at this
      have hle9 : ∀ (n : Nat) (hn : n < xs.length), xs[n].2.length ≤ 16 := fun n hn => by
        have h1 : xs[n].2 ∈ R ++ R := by rw [← hxs2]; exact List.mem_map.2 ⟨_, List.getElem_mem hn, rfl⟩
        rw [hR9] at h1
        rcases List.mem_append.1 h1 with h1 | h1 <;> exact roundL_le hw _ h1
      have hhalf : IntKind.i64.wrap (((xs.length : Nat) : Int).tdiv 2) = (R.length : Int) := by
        have e1 : (((R.length + R.length : Nat) : Int).tdiv 2) = (R.length : Int) := by
          rw [show (2 : Int) = ((2 : Nat) : Int) from rfl, ← Int.ofNat_tdiv]; omega
        rw [hxm, e1, wrap_i64] <;> omega
      have hg5 := hg4.nilW 1
      repeat (first | ((with_reducible refine hK _ _ _ ?_); clear hK) | (with_reducible refine seq_step fun K hK => ?_) | (with_reducible refine block_step ?_) | ((with_reducible refine cond_t ?_ ?_); focus rfl) | ((with_reducible refine cond_f ?_ ?_); focus rfl) | ((with_reducible refine code_id ?_); conv => whnf) | (clear hK; (with_reducible refine hK _ _ _ ?_); clear hK) | (clear hK; clear hK; (with_reducible refine hK _ _ _ ?_); clear hK) | (clear hK; clear hK; clear hK; (with_reducible refine hK _ _ _ ?_); clear hK) | (clear hK; clear hK; clear hK; clear hK; (with_reducible refine hK _ _ _ ?_); clear hK) | (clear hK; clear hK; clear hK; clear hK; clear hK; (with_reducible refine hK _ _ _ ?_); clear hK) | (clear hK; clear hK; clear hK; clear hK; clear hK; clear hK; (with_reducible refine hK _ _ _ ?_); clear hK) | (clear hK; clear hK; clear hK; clear hK; clear hK; clear hK; clear hK; (with_reducible refine hK _ _ _ ?_); clear hK))
      refine loop_intro (σ := (Nat × Value × Ls) × Hp) (fun s => [(3, .v (ptr t)), (6, .v (.slice bk (kids A 0).length ck)), (8, .v (.slice bo xs.length co)), (11, .v (iv R.length)), (12, .v s.1.2.1), (13, .v (iv s.1.1))]) (fun _ => []) (fun s => s.2)
        (fun s => s.1.1 ≤ xs.length ∧ s.1.2.2.length = s.1.1 ∧ s.1.2.2.map (·.2) = (xs.map (·.2)).take s.1.1 ∧ Has (OutP s.1.2.1 s.1.2.2 :: OutP (.slice bo xs.length co) xs :: EnvA t A last :: (Its s.1.2.2 ++ (Its xs ++ [IntsP (.slice bk (kids A 0).length ck) (kids A 0), Is h]))) s.2)
        (fun s => xs.length - s.1.1) ((0, .slice none 0 0, []), g4) ⟨Nat.zero_le _, rfl, rfl, hg5⟩ (subE_cons rfl (subE_cons rfl (subE_cons rfl (subE_cons (int_eq hhalf rfl) (subE_cons rfl (subE_cons rfl subE_nil)))))) subB_nil rfl ?_
      rintro ⟨⟨i, sw, ws⟩, g6⟩ ⟨hiw, hwl, hws, hg6⟩
      dsimp only at hiw hwl hws hg6 ⊢
      have hnext2 : IntKind.i64.wrap ((i : Int) + 1) = ((i + 1 : Nat) : Int) := wrap_nat (by omega)
      repeat (first | ((with_reducible refine hK _ _ _ ?_); clear hK) | (with_reducible refine seq_step fun K hK => ?_) | (with_reducible refine block_step ?_) | ((with_reducible refine cond_t ?_ ?_); focus rfl) | ((with_reducible refine cond_f ?_ ?_); focus rfl) | ((with_reducible refine code_id ?_); conv => whnf) | (clear hK; (with_reducible refine hK _ _ _ ?_); clear hK) | (clear hK; clear hK; (with_reducible refine hK _ _ _ ?_); clear hK) | (clear hK; clear hK; clear hK; (with_reducible refine hK _ _ _ ?_); clear hK) | (clear hK; clear hK; clear hK; clear hK; (with_reducible refine hK _ _ _ ?_); clear hK) | (clear hK; clear hK; clear hK; clear hK; clear hK; (with_reducible refine hK _ _ _ ?_); clear hK) | (clear hK; clear hK; clear hK; clear hK; clear hK; clear hK; (with_reducible refine hK _ _ _ ?_); clear hK) | (clear hK; clear hK; clear hK; clear hK; clear hK; clear hK; clear hK; (with_reducible refine hK _ _ _ ?_); clear hK))
      refine cond_dec (fun hlt2 => ?_) (fun hge3 => ?_)
      · have hix : i < xs.length := by omega
        obtain ⟨bb, o, cap', c, ty, z, he, hbb, hc⟩ := hg6.rdw 1 rfl (k := i) (v := xs[i].1) hix (by rw [List.getElem?_map, List.getElem?_eq_getElem hix]; rfl)
        cases he
        have hat : (OutP sw ws :: OutP (.slice (some ⟨bb, o, none⟩) xs.length co) xs :: EnvA t A last :: (Its ws ++ (Its xs ++ [IntsP (.slice bk (kids A 0).length ck) (kids A 0), Is h])))[i + ws.length + 3]? = some (IntsP xs[i].1 xs[i].2) := by
          show (Its ws ++ _)[i + ws.length]? = _
          rw [List.getElem?_append_right (by simp [Its]), show i + ws.length - (Its ws).length = i by simp [Its]]
          exact its_get (List.getElem?_eq_getElem hix) _
        repeat (first | ((with_reducible refine hK _ _ _ ?_); clear hK) | (with_reducible refine seq_step fun K hK => ?_) | (with_reducible refine block_step ?_) | ((with_reducible refine cond_t ?_ ?_); focus rfl) | ((with_reducible refine cond_f ?_ ?_); focus rfl) | ((with_reducible refine code_id ?_); conv => whnf) | (clear hK; (with_reducible refine hK _ _ _ ?_); clear hK) | (clear hK; clear hK; (with_reducible refine hK _ _ _ ?_); clear hK) | (clear hK; clear hK; clear hK; (with_reducible refine hK _ _ _ ?_); clear hK) | (clear hK; clear hK; clear hK; clear hK; (with_reducible refine hK _ _ _ ?_); clear hK) | (clear hK; clear hK; clear hK; clear hK; clear hK; (with_reducible refine hK _ _ _ ?_); clear hK) | (clear hK; clear hK; clear hK; clear hK; clear hK; clear hK; (with_reducible refine hK _ _ _ ?_); clear hK) | (clear hK; clear hK; clear hK; clear hK; clear hK; clear hK; clear hK; (with_reducible refine hK _ _ _ ?_); clear hK))
        refine opt_if ⟨by omega, by omega⟩ ?_
        conv => whnf
        refine opt_ld hbb (v := xs[i].1) (by show c[o + (i : Int).toNat * 1]? = _; rw [Int.toNat_natCast, Nat.mul_one]; exact hc) ?_
        conv => whnf
        refine copied40 (l := xs[i].2) (by have := hle9 i hix; omega) (hg6.pull _ hat) fun s2 g7 hg7 => ?_
        obtain ⟨b2, c2, hs⟩ := hg7.slv 0 rfl
        subst hs
        have hg8 := hg7.map_tail fun g hg => Has.put hat hg
        rw [set_self9 hat] at hg8
        conv => whnf
        refine fresh_has hg8 fun b1 g9 _ _ _ hg9 => ?_
        conv => whnf
        refine out1 (i := 1) (so := sw) (xs := ws) (l := xs[i].2) hg9 rfl rfl (by omega) fun sw2 g10 hg10 => ?_
        have hg11 : Has (OutP sw2 (ws ++ [(.slice b2 xs[i].2.length c2, xs[i].2)]) :: OutP (.slice (some ⟨bb, o, none⟩) xs.length co) xs :: EnvA t A last :: (Its (ws ++ [(.slice b2 xs[i].2.length c2, xs[i].2)]) ++ (Its xs ++ [IntsP (.slice bk (kids A 0).length ck) (kids A 0), Is h]))) g10 :=
          ((hg10.pull 1 rfl).map_tail fun g hg => (hg.pull 1 rfl).map_tail fun g hg => hg.swap).perm (List.Perm.cons _ (List.Perm.cons _ (List.Perm.cons _ (its_snoc ws _ _).symm)))
        conv => whnf
        repeat (first | ((with_reducible refine hK _ _ _ ?_); clear hK) | (with_reducible refine seq_step fun K hK => ?_) | (with_reducible refine block_step ?_) | ((with_reducible refine cond_t ?_ ?_); focus rfl) | ((with_reducible refine cond_f ?_ ?_); focus rfl) | ((with_reducible refine code_id ?_); conv => whnf) | (clear hK; (with_reducible refine hK _ _ _ ?_); clear hK) | (clear hK; clear hK; (with_reducible refine hK _ _ _ ?_); clear hK) | (clear hK; clear hK; clear hK; (with_reducible refine hK _ _ _ ?_); clear hK) | (clear hK; clear hK; clear hK; clear hK; (with_reducible refine hK _ _ _ ?_); clear hK) | (clear hK; clear hK; clear hK; clear hK; clear hK; (with_reducible refine hK _ _ _ ?_); clear hK) | (clear hK; clear hK; clear hK; clear hK; clear hK; clear hK; (with_reducible refine hK _ _ _ ?_); clear hK) | (clear hK; clear hK; clear hK; clear hK; clear hK; clear hK; clear hK; (with_reducible refine hK _ _ _ ?_); clear hK))
        refine ⟨((i + 1, sw2, _), g10), ⟨hix, by show (ws ++ [_]).length = _; rw [List.length_append, hwl]; rfl, ?_, hg11⟩, by show xs.length - (i + 1) < xs.length - i; omega, subE_cons rfl (subE_cons rfl (subE_cons rfl (subE_cons rfl (subE_cons rfl (subE_cons (int_eq hnext2 rfl) subE_nil))))), subB_nil, rfl⟩
        show (ws ++ [_]).map _ = _
        rw [List.map_append, hws, ← List.take_append_getElem (show i < (xs.map (·.2)).length by rw [List.length_map]; exact hix)]
        simp
      · have hie : i = xs.length := by omega
        rw [hie, List.take_of_length_le (by rw [List.length_map]; omega), hxs2] at hws
        obtain ⟨bw, cw, hs⟩ := hg6.slv 0 rfl
        subst hs
        repeat (first | ((with_reducible refine hK _ _ _ ?_); clear hK) | (with_reducible refine seq_step fun K hK => ?_) | (with_reducible refine block_step ?_) | ((with_reducible refine cond_t ?_ ?_); focus rfl) | ((with_reducible refine cond_f ?_ ?_); focus rfl) | ((with_reducible refine code_id ?_); conv => whnf) | (clear hK; (with_reducible refine hK _ _ _ ?_); clear hK) | (clear hK; clear hK; (with_reducible refine hK _ _ _ ?_); clear hK) | (clear hK; clear hK; clear hK; (with_reducible refine hK _ _ _ ?_); clear hK) | (clear hK; clear hK; clear hK; clear hK; (with_reducible refine hK _ _ _ ?_); clear hK) | (clear hK; clear hK; clear hK; clear hK; clear hK; (with_reducible refine hK _ _ _ ?_); clear hK) | (clear hK; clear hK; clear hK; clear hK; clear hK; clear hK; (with_reducible refine hK _ _ _ ?_); clear hK) | (clear hK; clear hK; clear hK; clear hK; clear hK; clear hK; clear hK; (with_reducible refine hK _ _ _ ?_); clear hK))
        refine loop_intro (σ := Nat) (fun s => [(3, .v (ptr t)), (6, .v (.slice bk (kids A 0).length ck)), (8, .v (.slice bo xs.length co)), (11, .v (iv R.length)), (12, .v (.slice bw ws.length cw)), (14, .v (iv s))]) (fun _ => []) (fun _ => g6)
          (fun s => s ≤ R.length) (fun s => R.length - s) 0 (Nat.zero_le _) (subE_cons rfl (subE_cons rfl (subE_cons rfl (subE_cons rfl (subE_cons rfl (subE_cons rfl subE_nil)))))) subB_nil rfl ?_
        intro j hj
        have hnext3 : IntKind.i64.wrap ((j : Int) + 1) = ((j + 1 : Nat) : Int) := wrap_nat (by omega)
        repeat (first | ((with_reducible refine hK _ _ _ ?_); clear hK) | (with_reducible refine seq_step fun K hK => ?_) | (with_reducible refine block_step ?_) | ((with_reducible refine cond_t ?_ ?_); focus rfl) | ((with_reducible refine cond_f ?_ ?_); focus rfl) | ((with_reducible refine code_id ?_); conv => whnf) | (clear hK; (with_reducible refine hK _ _ _ ?_); clear hK) | (clear hK; clear hK; (with_reducible refine hK _ _ _ ?_); clear hK) | (clear hK; clear hK; clear hK; (with_reducible refine hK _ _ _ ?_); clear hK) | (clear hK; clear hK; clear hK; clear hK; (with_reducible refine hK _ _ _ ?_); clear hK) | (clear hK; clear hK; clear hK; clear hK; clear hK; (with_reducible refine hK _ _ _ ?_); clear hK) | (clear hK; clear hK; clear hK; clear hK; clear hK; clear hK; (with_reducible refine hK _ _ _ ?_); clear hK) | (clear hK; clear hK; clear hK; clear hK; clear hK; clear hK; clear hK; (with_reducible refine hK _ _ _ ?_); clear hK))
        refine cond_dec (fun hlt4 => ?_) (fun hge4 => ?_)
        · have hjR : j < R.length := by omega
          have hj1 : j < xs.length := by omega
          have hj2 : R.length + j < xs.length := by omega
          have hlx : ∀ (n : Nat) (hn : n < xs.length), (OutP (.slice bw ws.length cw) ws :: OutP (.slice bo xs.length co) xs :: EnvA t A last :: (Its ws ++ (Its xs ++ [IntsP (.slice bk (kids A 0).length ck) (kids A 0), Is h])))[n + ws.length + 3]? = some (IntsP xs[n].1 xs[n].2) := fun n hn => by
            show (Its ws ++ _)[n + ws.length]? = _
            rw [List.getElem?_append_right (by simp [Its]), show n + ws.length - (Its ws).length = n by simp [Its]]
            exact its_get (List.getElem?_eq_getElem hn) _
          have hsm : xs[R.length + j].2 = xs[j].2 := by
            have h1 : (xs.map (·.2))[R.length + j]? = (xs.map (·.2))[j]? := by
              rw [hxs2, List.getElem?_append_right (by omega), List.getElem?_append_left hjR, show R.length + j - R.length = j by omega]
            rw [List.getElem?_map, List.getElem?_map, List.getElem?_eq_getElem hj1, List.getElem?_eq_getElem hj2] at h1
            simpa using h1
          obtain ⟨bb, o, cap', c, ty, z, he, hbb, hc⟩ := hg6.rdw 1 rfl (k := j) (v := xs[j].1) hj1 (by rw [List.getElem?_map, List.getElem?_eq_getElem hj1]; rfl)
          cases he
          obtain ⟨bb2, o2, cap2, c2, ty2, z2, he, hbb2, hc2⟩ := hg6.rdw 1 rfl (k := R.length + j) (v := xs[R.length + j].1) hj2 (by rw [List.getElem?_map, List.getElem?_eq_getElem hj2]; rfl)
          cases he
          repeat (first | ((with_reducible refine hK _ _ _ ?_); clear hK) | (with_reducible refine seq_step fun K hK => ?_) | (with_reducible refine block_step ?_) | ((with_reducible refine cond_t ?_ ?_); focus rfl) | ((with_reducible refine cond_f ?_ ?_); focus rfl) | ((with_reducible refine code_id ?_); conv => whnf) | (clear hK; (with_reducible refine hK _ _ _ ?_); clear hK) | (clear hK; clear hK; (with_reducible refine hK _ _ _ ?_); clear hK) | (clear hK; clear hK; clear hK; (with_reducible refine hK _ _ _ ?_); clear hK) | (clear hK; clear hK; clear hK; clear hK; (with_reducible refine hK _ _ _ ?_); clear hK) | (clear hK; clear hK; clear hK; clear hK; clear hK; (with_reducible refine hK _ _ _ ?_); clear hK) | (clear hK; clear hK; clear hK; clear hK; clear hK; clear hK; (with_reducible refine hK _ _ _ ?_); clear hK) | (clear hK; clear hK; clear hK; clear hK; clear hK; clear hK; clear hK; (with_reducible refine hK _ _ _ ?_); clear hK) | (refine ⟨_, _, SubH.refl _, SubB.refl _, ?_⟩; conv => whnf) | (refine ⟨⟨SubH.refl _, SubB.refl _⟩, ?_⟩; conv => whnf) | (refine ⟨_, _, ⟨SubH.refl _, SubB.refl _⟩, SubH.refl _, SubB.refl _, ?_⟩; conv => whnf))
          refine opt_if ⟨by omega, by omega⟩ ?_
          conv => whnf
          refine opt_ld hbb (v := xs[j].1) (by show c[o + (j : Int).toNat * 1]? = _; rw [Int.toNat_natCast, Nat.mul_one]; exact hc) ?_
          conv => whnf
          rw [show IntKind.i64.wrap ((R.length : Int) + (j : Int)) = ((R.length + j : Nat) : Int) by rw [wrap_i64] <;> omega]
          refine opt_if ⟨by omega, by omega⟩ ?_
          conv => whnf
          refine opt_ld hbb2 (v := xs[R.length + j].1) (by show c2[o + ((R.length + j : Nat) : Int).toNat * 1]? = _; rw [Int.toNat_natCast, Nat.mul_one]; exact hc2) ?_
          conv => whnf
          refine same42 (l := xs[j].2) (by have := hle9 j hj1; omega) (i := j + ws.length + 3) (j := R.length + j + ws.length + 3) hg6 (hlx j hj1) (by rw [hlx _ hj2, hsm]) ?_
          conv => whnf
          repeat (first | ((with_reducible refine hK _ _ _ ?_); clear hK) | (with_reducible refine seq_step fun K hK => ?_) | (with_reducible refine block_step ?_) | ((with_reducible refine cond_t ?_ ?_); focus rfl) | ((with_reducible refine cond_f ?_ ?_); focus rfl) | ((with_reducible refine code_id ?_); conv => whnf) | (clear hK; (with_reducible refine hK _ _ _ ?_); clear hK) | (clear hK; clear hK; (with_reducible refine hK _ _ _ ?_); clear hK) | (clear hK; clear hK; clear hK; (with_reducible refine hK _ _ _ ?_); clear hK) | (clear hK; clear hK; clear hK; clear hK; (with_reducible refine hK _ _ _ ?_); clear hK) | (clear hK; clear hK; clear hK; clear hK; clear hK; (with_reducible refine hK _ _ _ ?_); clear hK) | (clear hK; clear hK; clear hK; clear hK; clear hK; clear hK; (with_reducible refine hK _ _ _ ?_); clear hK) | (clear hK; clear hK; clear hK; clear hK; clear hK; clear hK; clear hK; (with_reducible refine hK _ _ _ ?_); clear hK) | (refine ⟨_, _, SubH.refl _, SubB.refl _, ?_⟩; conv => whnf) | (refine ⟨⟨SubH.refl _, SubB.refl _⟩, ?_⟩; conv => whnf) | (refine ⟨_, _, ⟨SubH.refl _, SubB.refl _⟩, SubH.refl _, SubB.refl _, ?_⟩; conv => whnf))
          exact ⟨j + 1, hjR, by omega, subE_cons rfl (subE_cons rfl (subE_cons rfl (subE_cons rfl (subE_cons rfl (subE_cons (int_eq hnext3 rfl) subE_nil))))), subB_nil, rfl⟩
        · have hgE : EnvA t A last g6 := Has.get hg6 2 rfl fun _ _ => EnvP.sub
          repeat (first | ((with_reducible refine hK _ _ _ ?_); clear hK) | (with_reducible refine seq_step fun K hK => ?_) | (with_reducible refine block_step ?_) | ((with_reducible refine cond_t ?_ ?_); focus rfl) | ((with_reducible refine cond_f ?_ ?_); focus rfl) | ((with_reducible refine code_id ?_); conv => whnf) | (clear hK; (with_reducible refine hK _ _ _ ?_); clear hK) | (clear hK; clear hK; (with_reducible refine hK _ _ _ ?_); clear hK) | (clear hK; clear hK; clear hK; (with_reducible refine hK _ _ _ ?_); clear hK) | (clear hK; clear hK; clear hK; clear hK; (with_reducible refine hK _ _ _ ?_); clear hK) | (clear hK; clear hK; clear hK; clear hK; clear hK; (with_reducible refine hK _ _ _ ?_); clear hK) | (clear hK; clear hK; clear hK; clear hK; clear hK; clear hK; (with_reducible refine hK _ _ _ ?_); clear hK) | (clear hK; clear hK; clear hK; clear hK; clear hK; clear hK; clear hK; (with_reducible refine hK _ _ _ ?_); clear hK))
          refine told21 hw hgE ?_
          conv => whnf
          refine opt_stL rfl (by show (told A).toArray.size = 352; rw [List.size_toArray, told_l hw]) rfl (told_one _ _) ?_
          have hw0 : ∀ (n : Nat) (hn : n < ws.length), (OutP (.slice bw ws.length cw) ws :: OutP (.slice bo xs.length co) xs :: EnvA t A last :: (Its ws ++ (Its xs ++ [IntsP (.slice bk (kids A 0).length ck) (kids A 0), Is h])))[n + 3]? = some (IntsP ws[n].1 ws[n].2) := fun n hn => its_get (List.getElem?_eq_getElem hn) _
          have hwsl : ws.length = R.length + R.length := by omega
          have hwn : ∀ (n : Nat) (hn : n < ws.length) (l : List Int), n < R.length → R[n]? = some l → ws[n].2 = l := fun n hn l hnR hl => by
            have h1 : (ws.map (·.2))[n]? = R[n]? := by rw [hws, List.getElem?_append_left hnR]
            rw [hl, List.getElem?_map, List.getElem?_eq_getElem hn] at h1
            simpa using h1
          have hR3 : 3 ≤ R.length := by omega
          have hc0 : ws[0].2 = walk A 0 := (hwn 0 (by omega) _ (by omega) (by rw [hR9]; exact roundL_0 A)).trans (by unfold mTree; rw [hr0])
          have hc1 : ws[1].2 = kids A 0 := (hwn 1 (by omega) _ (by omega) (by rw [hR9]; exact roundL_1 A)).trans (by unfold mKids; rw [hr0])
          have hc2 : ws[R.length - 1].2 = liveL A := hwn (R.length - 1) (by omega) _ (by omega) (by rw [hR9]; exact roundL_last A)
          have hwl0 := walk_len hw hr0
          have hll := live_le A
          obtain ⟨bb, o, cap', c, ty, z, he, hbb, hc⟩ := hg6.rdw 0 rfl (k := 0) (v := ws[0].1) (by omega) (by rw [List.getElem?_map, List.getElem?_eq_getElem (by omega)]; rfl)
          cases he
          conv => whnf
          repeat (first | ((with_reducible refine hK _ _ _ ?_); clear hK) | (with_reducible refine seq_step fun K hK => ?_) | (with_reducible refine block_step ?_) | ((with_reducible refine cond_t ?_ ?_); focus rfl) | ((with_reducible refine cond_f ?_ ?_); focus rfl) | ((with_reducible refine code_id ?_); conv => whnf) | (clear hK; (with_reducible refine hK _ _ _ ?_); clear hK) | (clear hK; clear hK; (with_reducible refine hK _ _ _ ?_); clear hK) | (clear hK; clear hK; clear hK; (with_reducible refine hK _ _ _ ?_); clear hK) | (clear hK; clear hK; clear hK; clear hK; (with_reducible refine hK _ _ _ ?_); clear hK) | (clear hK; clear hK; clear hK; clear hK; clear hK; (with_reducible refine hK _ _ _ ?_); clear hK) | (clear hK; clear hK; clear hK; clear hK; clear hK; clear hK; (with_reducible refine hK _ _ _ ?_); clear hK) | (clear hK; clear hK; clear hK; clear hK; clear hK; clear hK; clear hK; (with_reducible refine hK _ _ _ ?_); clear hK) | (refine ⟨_, _, SubH.refl _, SubB.refl _, ?_⟩; conv => whnf) | (refine ⟨⟨SubH.refl _, SubB.refl _⟩, ?_⟩; conv => whnf) | (refine ⟨_, _, ⟨SubH.refl _, SubB.refl _⟩, SubH.refl _, SubB.refl _, ?_⟩; conv => whnf))
          refine opt_if ⟨by omega, by omega⟩ ?_
          conv => whnf
          refine opt_ld hbb (v := ws[0].1) hc ?_
          conv => whnf
          refine count43 (l := ws[0].2) 0 (by rw [hc0]; omega) (Has.get hg6 3 (hw0 0 (by omega)) fun _ _ => IntsP.sub) ?_
          rw [hc0, nodup_count (walk_nodup hw hr0) (self_walk A 0)]
          conv => whnf
          repeat (first | ((with_reducible refine hK _ _ _ ?_); clear hK) | (with_reducible refine seq_step fun K hK => ?_) | (with_reducible refine block_step ?_) | ((with_reducible refine cond_t ?_ ?_); focus rfl) | ((with_reducible refine cond_f ?_ ?_); focus rfl) | ((with_reducible refine code_id ?_); conv => whnf) | (clear hK; (with_reducible refine hK _ _ _ ?_); clear hK) | (clear hK; clear hK; (with_reducible refine hK _ _ _ ?_); clear hK) | (clear hK; clear hK; clear hK; (with_reducible refine hK _ _ _ ?_); clear hK) | (clear hK; clear hK; clear hK; clear hK; (with_reducible refine hK _ _ _ ?_); clear hK) | (clear hK; clear hK; clear hK; clear hK; clear hK; (with_reducible refine hK _ _ _ ?_); clear hK) | (clear hK; clear hK; clear hK; clear hK; clear hK; clear hK; (with_reducible refine hK _ _ _ ?_); clear hK) | (clear hK; clear hK; clear hK; clear hK; clear hK; clear hK; clear hK; (with_reducible refine hK _ _ _ ?_); clear hK) | (refine ⟨_, _, SubH.refl _, SubB.refl _, ?_⟩; conv => whnf) | (refine ⟨⟨SubH.refl _, SubB.refl _⟩, ?_⟩; conv => whnf) | (refine ⟨_, _, ⟨SubH.refl _, SubB.refl _⟩, SubH.refl _, SubB.refl _, ?_⟩; conv => whnf))
          rw [show IntKind.i64.wrap ((R.length : Int) - 1) = ((R.length - 1 : Nat) : Int) by rw [wrap_i64] <;> omega]
          obtain ⟨bb2, o2, cap2, c2, ty2, z2, he, hbb2, hc9⟩ := hg6.rdw 0 rfl (k := R.length - 1) (v := ws[R.length - 1].1) (by omega) (by rw [List.getElem?_map, List.getElem?_eq_getElem (by omega)]; rfl)
          cases he
          refine opt_if ⟨by omega, by omega⟩ ?_
          conv => whnf
          refine opt_ld hbb2 (v := ws[R.length - 1].1) (by show c2[o + ((R.length - 1 : Nat) : Int).toNat * 1]? = _; rw [Int.toNat_natCast, Nat.mul_one]; exact hc9) ?_
          conv => whnf
          refine count43 (l := ws[R.length - 1].2) 0 (by rw [hc2]; omega) (Has.get hg6 (R.length - 1 + 3) (hw0 (R.length - 1) (by omega)) fun _ _ => IntsP.sub) ?_
          rw [hc2, nodup_count (live_nodup A) (show (0 : Int) ∈ liveL A from mem_live.2 ⟨0, rfl, by decide, by rw [show ((0 : Nat) : Int) = 0 from rfl, hr0]; rfl⟩)]
          conv => whnf
          repeat (first | ((with_reducible refine hK _ _ _ ?_); clear hK) | (with_reducible refine seq_step fun K hK => ?_) | (with_reducible refine block_step ?_) | ((with_reducible refine cond_t ?_ ?_); focus rfl) | ((with_reducible refine cond_f ?_ ?_); focus rfl) | ((with_reducible refine code_id ?_); conv => whnf) | (clear hK; (with_reducible refine hK _ _ _ ?_); clear hK) | (clear hK; clear hK; (with_reducible refine hK _ _ _ ?_); clear hK) | (clear hK; clear hK; clear hK; (with_reducible refine hK _ _ _ ?_); clear hK) | (clear hK; clear hK; clear hK; clear hK; (with_reducible refine hK _ _ _ ?_); clear hK) | (clear hK; clear hK; clear hK; clear hK; clear hK; (with_reducible refine hK _ _ _ ?_); clear hK) | (clear hK; clear hK; clear hK; clear hK; clear hK; clear hK; (with_reducible refine hK _ _ _ ?_); clear hK) | (clear hK; clear hK; clear hK; clear hK; clear hK; clear hK; clear hK; (with_reducible refine hK _ _ _ ?_); clear hK) | (refine ⟨_, _, SubH.refl _, SubB.refl _, ?_⟩; conv => whnf) | (refine ⟨⟨SubH.refl _, SubB.refl _⟩, ?_⟩; conv => whnf) | (refine ⟨_, _, ⟨SubH.refl _, SubB.refl _⟩, SubH.refl _, SubB.refl _, ?_⟩; conv => whnf))
          obtain ⟨bb3, o3, cap3, c3, ty3, z3, he, hbb3, hc8⟩ := hg6.rdw 0 rfl (k := 1) (v := ws[1].1) (by omega) (by rw [List.getElem?_map, List.getElem?_eq_getElem (by omega)]; rfl)
          cases he
          refine opt_if ⟨by omega, by omega⟩ ?_
          conv => whnf
          refine opt_ld hbb3 (v := ws[1].1) hc8 ?_
          conv => whnf
          refine same42 (l := kids A 0) (by omega) (i := 1 + 3) (j := xs.length + ws.length + 3) hg6 (by rw [hw0 1 (by omega), hc1]) (by
            show (Its ws ++ _)[xs.length + ws.length]? = _
            rw [List.getElem?_append_right (by simp [Its]), show xs.length + ws.length - (Its ws).length = xs.length by simp [Its]]
            exact its_end xs _ _) ?_
          conv => whnf
          repeat (first | ((with_reducible refine hK _ _ _ ?_); clear hK) | (with_reducible refine seq_step fun K hK => ?_) | (with_reducible refine block_step ?_) | ((with_reducible refine cond_t ?_ ?_); focus rfl) | ((with_reducible refine cond_f ?_ ?_); focus rfl) | ((with_reducible refine code_id ?_); conv => whnf) | (clear hK; (with_reducible refine hK _ _ _ ?_); clear hK) | (clear hK; clear hK; (with_reducible refine hK _ _ _ ?_); clear hK) | (clear hK; clear hK; clear hK; (with_reducible refine hK _ _ _ ?_); clear hK) | (clear hK; clear hK; clear hK; clear hK; (with_reducible refine hK _ _ _ ?_); clear hK) | (clear hK; clear hK; clear hK; clear hK; clear hK; (with_reducible refine hK _ _ _ ?_); clear hK) | (clear hK; clear hK; clear hK; clear hK; clear hK; clear hK; (with_reducible refine hK _ _ _ ?_); clear hK) | (clear hK; clear hK; clear hK; clear hK; clear hK; clear hK; clear hK; (with_reducible refine hK _ _ _ ?_); clear hK) | (refine ⟨_, _, SubH.refl _, SubB.refl _, ?_⟩; conv => whnf) | (refine ⟨⟨SubH.refl _, SubB.refl _⟩, ?_⟩; conv => whnf) | (refine ⟨_, _, ⟨SubH.refl _, SubB.refl _⟩, SubH.refl _, SubB.refl _, ?_⟩; conv => whnf))
          have hg7 := hg6.perm (split9 _ _ _ (Its ws) (Its xs) [IntsP (.slice bk (kids A 0).length ck) (kids A 0), Is h])
          refine apart44 (xs0 := xs) (by omega) (fun x hx => ?_) hg7 fun g7 hg8 => ?_
          · obtain ⟨n, hn, rfl⟩ := List.getElem_of_mem hx
            have := hle9 n hn
            omega
          conv => whnf
          repeat (first | ((with_reducible refine hK _ _ _ ?_); clear hK) | (with_reducible refine seq_step fun K hK => ?_) | (with_reducible refine block_step ?_) | ((with_reducible refine cond_t ?_ ?_); focus rfl) | ((with_reducible refine cond_f ?_ ?_); focus rfl) | ((with_reducible refine code_id ?_); conv => whnf) | (clear hK; (with_reducible refine hK _ _ _ ?_); clear hK) | (clear hK; clear hK; (with_reducible refine hK _ _ _ ?_); clear hK) | (clear hK; clear hK; clear hK; (with_reducible refine hK _ _ _ ?_); clear hK) | (clear hK; clear hK; clear hK; clear hK; (with_reducible refine hK _ _ _ ?_); clear hK) | (clear hK; clear hK; clear hK; clear hK; clear hK; (with_reducible refine hK _ _ _ ?_); clear hK) | (clear hK; clear hK; clear hK; clear hK; clear hK; clear hK; (with_reducible refine hK _ _ _ ?_); clear hK) | (clear hK; clear hK; clear hK; clear hK; clear hK; clear hK; clear hK; (with_reducible refine hK _ _ _ ?_); clear hK) | (refine ⟨_, _, SubH.refl _, SubB.refl _, ?_⟩; conv => whnf) | (refine ⟨⟨SubH.refl _, SubB.refl _⟩, ?_⟩; conv => whnf) | (refine ⟨_, _, ⟨SubH.refl _, SubB.refl _⟩, SubH.refl _, SubB.refl _, ?_⟩; conv => whnf))
          have hgE8 : EnvA t A last g7 := Has.get hg8 1 rfl fun _ _ => EnvP.sub
          refine opt_ldL (cs := told A) rfl (told_l hw) ?_
          conv => whnf
          refine told21 hw hgE8 ?_
          conv => whnf
          refine ⟨⟨SubH.refl _, ?_⟩, ?_⟩
          · exact SubB.refl _
          conv => whnf
          refine opt_eqkd (X := told A) (Y := told A) (b := true) KTold rfl rfl (told_kd hw) (told_kd hw) (by simp) ?_
          conv => whnf
          refine branch45 (n := 0) hw hr0 hg8.swap fun g8 hg9 => ?_
          conv => whnf
          repeat (first | ((with_reducible refine hK _ _ _ ?_); clear hK) | (with_reducible refine seq_step fun K hK => ?_) | (with_reducible refine block_step ?_) | ((with_reducible refine cond_t ?_ ?_); focus rfl) | ((with_reducible refine cond_f ?_ ?_); focus rfl) | ((with_reducible refine code_id ?_); conv => whnf) | (clear hK; (with_reducible refine hK _ _ _ ?_); clear hK) | (clear hK; clear hK; (with_reducible refine hK _ _ _ ?_); clear hK) | (clear hK; clear hK; clear hK; (with_reducible refine hK _ _ _ ?_); clear hK) | (clear hK; clear hK; clear hK; clear hK; (with_reducible refine hK _ _ _ ?_); clear hK) | (clear hK; clear hK; clear hK; clear hK; clear hK; (with_reducible refine hK _ _ _ ?_); clear hK) | (clear hK; clear hK; clear hK; clear hK; clear hK; clear hK; (with_reducible refine hK _ _ _ ?_); clear hK) | (clear hK; clear hK; clear hK; clear hK; clear hK; clear hK; clear hK; (with_reducible refine hK _ _ _ ?_); clear hK) | (refine ⟨_, _, SubH.refl _, SubB.refl _, ?_⟩; conv => whnf) | (refine ⟨⟨SubH.refl _, SubB.refl _⟩, ?_⟩; conv => whnf) | (refine ⟨_, _, ⟨SubH.refl _, SubB.refl _⟩, SubH.refl _, SubB.refl _, ?_⟩; conv => whnf))
          have hg10 : Has (OutP (.slice none 0 0) [] :: EnvA t A last :: (Its [] ++ (OutP (.slice (some ⟨bb, o, none⟩) ws.length cw) ws :: (Its ws ++ [IntsP (.slice bk (kids A 0).length ck) (kids A 0), Is h])))) g8 := hg9.nilW 1
          have ht0 : (mTree A 0).1 = walk A 0 := by unfold mTree; rw [hr0]
          have hk0 : (mKids A 0).1 = kids A 0 := by unfold mKids; rw [hr0]
          refine asked41 (xs := []) hw 0 (show 0 < 1099511627776 by decide) hg10 fun so1 x1 x2 g10 hg11 => ?_
          conv => whnf
          repeat (first | ((with_reducible refine hK _ _ _ ?_); clear hK) | (with_reducible refine seq_step fun K hK => ?_) | (with_reducible refine block_step ?_) | ((with_reducible refine cond_t ?_ ?_); focus rfl) | ((with_reducible refine cond_f ?_ ?_); focus rfl) | ((with_reducible refine code_id ?_); conv => whnf) | (clear hK; (with_reducible refine hK _ _ _ ?_); clear hK) | (clear hK; clear hK; (with_reducible refine hK _ _ _ ?_); clear hK) | (clear hK; clear hK; clear hK; (with_reducible refine hK _ _ _ ?_); clear hK) | (clear hK; clear hK; clear hK; clear hK; (with_reducible refine hK _ _ _ ?_); clear hK) | (clear hK; clear hK; clear hK; clear hK; clear hK; (with_reducible refine hK _ _ _ ?_); clear hK) | (clear hK; clear hK; clear hK; clear hK; clear hK; clear hK; (with_reducible refine hK _ _ _ ?_); clear hK) | (clear hK; clear hK; clear hK; clear hK; clear hK; clear hK; clear hK; (with_reducible refine hK _ _ _ ?_); clear hK))
          refine live38A hw hg11.swap fun sl g11 hg12 => ?_
          obtain ⟨bl, cl, hs⟩ := hg12.slv 0 rfl
          subst hs
          conv => whnf
          repeat (first | ((with_reducible refine hK _ _ _ ?_); clear hK) | (with_reducible refine seq_step fun K hK => ?_) | (with_reducible refine block_step ?_) | ((with_reducible refine cond_t ?_ ?_); focus rfl) | ((with_reducible refine cond_f ?_ ?_); focus rfl) | ((with_reducible refine code_id ?_); conv => whnf) | (clear hK; (with_reducible refine hK _ _ _ ?_); clear hK) | (clear hK; clear hK; (with_reducible refine hK _ _ _ ?_); clear hK) | (clear hK; clear hK; clear hK; (with_reducible refine hK _ _ _ ?_); clear hK) | (clear hK; clear hK; clear hK; clear hK; (with_reducible refine hK _ _ _ ?_); clear hK) | (clear hK; clear hK; clear hK; clear hK; clear hK; (with_reducible refine hK _ _ _ ?_); clear hK) | (clear hK; clear hK; clear hK; clear hK; clear hK; clear hK; (with_reducible refine hK _ _ _ ?_); clear hK) | (clear hK; clear hK; clear hK; clear hK; clear hK; clear hK; clear hK; (with_reducible refine hK _ _ _ ?_); clear hK))
          refine fresh_has hg12 fun b1 g12 _ _ _ hg13 => ?_
          conv => whnf
          refine out1 (i := 2) (so := so1) (xs := [] ++ [(x1, (mTree A 0).1), (x2, (mKids A 0).1)]) (l := liveL A) hg13 rfl rfl (show 2 < 1099511627776 by decide) fun so2 g13 hg14 => ?_
          obtain ⟨b9, c9, hs⟩ := hg14.slv 2 rfl
          have hs : so2 = .slice b9 3 c9 := hs
          subst hs
          have hmW : ∀ (n : Nat) (hn : n < ws.length), (IntsP (.slice bl (liveL A).length cl) (liveL A) :: EnvA t A last :: OutP (.slice b9 3 c9) ([] ++ [(x1, (mTree A 0).1), (x2, (mKids A 0).1)] ++ [(.slice bl (liveL A).length cl, liveL A)]) :: IntsP x1 (mTree A 0).1 :: IntsP x2 (mKids A 0).1 :: OutP (.slice (some ⟨bb, o, none⟩) ws.length cw) ws :: (Its ws ++ [IntsP (.slice bk (kids A 0).length ck) (kids A 0), Is h]))[n + 6]? = some (IntsP ws[n].1 ws[n].2) := fun n hn => its_get (List.getElem?_eq_getElem hn) _
          obtain ⟨a1, o1, p1, d1, y1, w1, he, hb1, hd1⟩ := hg14.rdw 2 rfl (k := 0) (v := x1) (show 0 < 3 by decide) rfl
          injection he with he he2 he3
          subst he he3
          obtain ⟨a2, o2, p2, d2, y2, w2, he, hb2, hd2⟩ := hg14.rdw 2 rfl (k := 1) (v := x2) (show 1 < 3 by decide) rfl
          cases he
          obtain ⟨a3, o3, p3, d3, y3, w3, he, hb3, hd3⟩ := hg14.rdw 2 rfl (k := 2) (v := .slice bl (liveL A).length cl) (show 2 < 3 by decide) rfl
          cases he
          obtain ⟨u1, q1, z1, v1, t1, r1, he, hu1, hv1⟩ := hg14.rdw 5 rfl (k := 0) (v := ws[0].1) (by omega) (by rw [List.getElem?_map, List.getElem?_eq_getElem (by omega)]; rfl)
          cases he
          obtain ⟨u2, q2, z2, v2, t2, r2, he, hu2, hv2⟩ := hg14.rdw 5 rfl (k := 1) (v := ws[1].1) (by omega) (by rw [List.getElem?_map, List.getElem?_eq_getElem (by omega)]; rfl)
          cases he
          obtain ⟨u3, q3, z3, v3, t3, r3, he, hu3, hv3⟩ := hg14.rdw 5 rfl (k := R.length - 1) (v := ws[R.length - 1].1) (by omega) (by rw [List.getElem?_map, List.getElem?_eq_getElem (by omega)]; rfl)
          cases he
          conv => whnf
          repeat (first | ((with_reducible refine hK _ _ _ ?_); clear hK) | (with_reducible refine seq_step fun K hK => ?_) | (with_reducible refine block_step ?_) | ((with_reducible refine cond_t ?_ ?_); focus rfl) | ((with_reducible refine cond_f ?_ ?_); focus rfl) | ((with_reducible refine code_id ?_); conv => whnf) | (clear hK; (with_reducible refine hK _ _ _ ?_); clear hK) | (clear hK; clear hK; (with_reducible refine hK _ _ _ ?_); clear hK) | (clear hK; clear hK; clear hK; (with_reducible refine hK _ _ _ ?_); clear hK) | (clear hK; clear hK; clear hK; clear hK; (with_reducible refine hK _ _ _ ?_); clear hK) | (clear hK; clear hK; clear hK; clear hK; clear hK; (with_reducible refine hK _ _ _ ?_); clear hK) | (clear hK; clear hK; clear hK; clear hK; clear hK; clear hK; (with_reducible refine hK _ _ _ ?_); clear hK) | (clear hK; clear hK; clear hK; clear hK; clear hK; clear hK; clear hK; (with_reducible refine hK _ _ _ ?_); clear hK) | (refine ⟨_, _, SubH.refl _, SubB.refl _, ?_⟩; conv => whnf) | (refine ⟨⟨SubH.refl _, SubB.refl _⟩, ?_⟩; conv => whnf) | (refine ⟨_, _, ⟨SubH.refl _, SubB.refl _⟩, SubH.refl _, SubB.refl _, ?_⟩; conv => whnf))
          refine opt_ld hb1 (v := x1) hd1 ?_
          conv => whnf
          refine opt_if ⟨by omega, by omega⟩ ?_
          conv => whnf
          refine opt_ld hu1 (v := ws[0].1) hv1 ?_
          conv => whnf
          refine same42 (l := (mTree A 0).1) (by rw [ht0]; omega) (i := 3) (j := 0 + 6) hg14 rfl ((hmW 0 (by omega)).trans (by rw [hc0, ht0])) ?_
          conv => whnf
          repeat (first | ((with_reducible refine hK _ _ _ ?_); clear hK) | (with_reducible refine seq_step fun K hK => ?_) | (with_reducible refine block_step ?_) | ((with_reducible refine cond_t ?_ ?_); focus rfl) | ((with_reducible refine cond_f ?_ ?_); focus rfl) | ((with_reducible refine code_id ?_); conv => whnf) | (clear hK; (with_reducible refine hK _ _ _ ?_); clear hK) | (clear hK; clear hK; (with_reducible refine hK _ _ _ ?_); clear hK) | (clear hK; clear hK; clear hK; (with_reducible refine hK _ _ _ ?_); clear hK) | (clear hK; clear hK; clear hK; clear hK; (with_reducible refine hK _ _ _ ?_); clear hK) | (clear hK; clear hK; clear hK; clear hK; clear hK; (with_reducible refine hK _ _ _ ?_); clear hK) | (clear hK; clear hK; clear hK; clear hK; clear hK; clear hK; (with_reducible refine hK _ _ _ ?_); clear hK) | (clear hK; clear hK; clear hK; clear hK; clear hK; clear hK; clear hK; (with_reducible refine hK _ _ _ ?_); clear hK) | (refine ⟨_, _, SubH.refl _, SubB.refl _, ?_⟩; conv => whnf) | (refine ⟨⟨SubH.refl _, SubB.refl _⟩, ?_⟩; conv => whnf) | (refine ⟨_, _, ⟨SubH.refl _, SubB.refl _⟩, SubH.refl _, SubB.refl _, ?_⟩; conv => whnf))
          refine opt_ld hb2 (v := x2) hd2 ?_
          conv => whnf
          refine opt_if ⟨by omega, by omega⟩ ?_
          conv => whnf
          refine opt_ld hu2 (v := ws[1].1) hv2 ?_
          conv => whnf
          refine same42 (l := (mKids A 0).1) (by rw [hk0]; omega) (i := 4) (j := 1 + 6) hg14 rfl ((hmW 1 (by omega)).trans (by rw [hc1, hk0])) ?_
          conv => whnf
          repeat (first | ((with_reducible refine hK _ _ _ ?_); clear hK) | (with_reducible refine seq_step fun K hK => ?_) | (with_reducible refine block_step ?_) | ((with_reducible refine cond_t ?_ ?_); focus rfl) | ((with_reducible refine cond_f ?_ ?_); focus rfl) | ((with_reducible refine code_id ?_); conv => whnf) | (clear hK; (with_reducible refine hK _ _ _ ?_); clear hK) | (clear hK; clear hK; (with_reducible refine hK _ _ _ ?_); clear hK) | (clear hK; clear hK; clear hK; (with_reducible refine hK _ _ _ ?_); clear hK) | (clear hK; clear hK; clear hK; clear hK; (with_reducible refine hK _ _ _ ?_); clear hK) | (clear hK; clear hK; clear hK; clear hK; clear hK; (with_reducible refine hK _ _ _ ?_); clear hK) | (clear hK; clear hK; clear hK; clear hK; clear hK; clear hK; (with_reducible refine hK _ _ _ ?_); clear hK) | (clear hK; clear hK; clear hK; clear hK; clear hK; clear hK; clear hK; (with_reducible refine hK _ _ _ ?_); clear hK) | (refine ⟨_, _, SubH.refl _, SubB.refl _, ?_⟩; conv => whnf) | (refine ⟨⟨SubH.refl _, SubB.refl _⟩, ?_⟩; conv => whnf) | (refine ⟨_, _, ⟨SubH.refl _, SubB.refl _⟩, SubH.refl _, SubB.refl _, ?_⟩; conv => whnf))
          refine opt_ld hb3 (v := .slice bl (liveL A).length cl) hd3 ?_
          conv => whnf
          rw [show IntKind.i64.wrap ((R.length : Int) - 1) = ((R.length - 1 : Nat) : Int) by rw [wrap_i64] <;> omega]
          refine opt_if ⟨by omega, by omega⟩ ?_
          conv => whnf
          refine opt_ld hu3 (v := ws[R.length - 1].1) (by show v3[o + ((R.length - 1 : Nat) : Int).toNat * 1]? = _; rw [Int.toNat_natCast, Nat.mul_one]; exact hv3) ?_
          conv => whnf
          refine same42 (l := liveL A) (by omega) (i := 0) (j := R.length - 1 + 6) hg14 rfl ((hmW (R.length - 1) (by omega)).trans (by rw [hc2])) ?_
          conv => whnf
          repeat (first | ((with_reducible refine hK _ _ _ ?_); clear hK) | (with_reducible refine seq_step fun K hK => ?_) | (with_reducible refine block_step ?_) | ((with_reducible refine cond_t ?_ ?_); focus rfl) | ((with_reducible refine cond_f ?_ ?_); focus rfl) | ((with_reducible refine code_id ?_); conv => whnf) | (clear hK; (with_reducible refine hK _ _ _ ?_); clear hK) | (clear hK; clear hK; (with_reducible refine hK _ _ _ ?_); clear hK) | (clear hK; clear hK; clear hK; (with_reducible refine hK _ _ _ ?_); clear hK) | (clear hK; clear hK; clear hK; clear hK; (with_reducible refine hK _ _ _ ?_); clear hK) | (clear hK; clear hK; clear hK; clear hK; clear hK; (with_reducible refine hK _ _ _ ?_); clear hK) | (clear hK; clear hK; clear hK; clear hK; clear hK; clear hK; (with_reducible refine hK _ _ _ ?_); clear hK) | (clear hK; clear hK; clear hK; clear hK; clear hK; clear hK; clear hK; (with_reducible refine hK _ _ _ ?_); clear hK) | (refine ⟨_, _, SubH.refl _, SubB.refl _, ?_⟩; conv => whnf) | (refine ⟨⟨SubH.refl _, SubB.refl _⟩, ?_⟩; conv => whnf) | (refine ⟨_, _, ⟨SubH.refl _, SubB.refl _⟩, SubH.refl _, SubB.refl _, ?_⟩; conv => whnf))
          refine ends46 hw (hg14.perm (perm9 _ _ _ _ _ _ _ _ (Its ws))) fun g14 hg15 => ?_
          conv => whnf
          repeat (first | ((with_reducible refine hK _ _ _ ?_); clear hK) | (with_reducible refine seq_step fun K hK => ?_) | (with_reducible refine block_step ?_) | ((with_reducible refine cond_t ?_ ?_); focus rfl) | ((with_reducible refine cond_f ?_ ?_); focus rfl) | ((with_reducible refine code_id ?_); conv => whnf) | (clear hK; (with_reducible refine hK _ _ _ ?_); clear hK) | (clear hK; clear hK; (with_reducible refine hK _ _ _ ?_); clear hK) | (clear hK; clear hK; clear hK; (with_reducible refine hK _ _ _ ?_); clear hK) | (clear hK; clear hK; clear hK; clear hK; (with_reducible refine hK _ _ _ ?_); clear hK) | (clear hK; clear hK; clear hK; clear hK; clear hK; (with_reducible refine hK _ _ _ ?_); clear hK) | (clear hK; clear hK; clear hK; clear hK; clear hK; clear hK; (with_reducible refine hK _ _ _ ?_); clear hK) | (clear hK; clear hK; clear hK; clear hK; clear hK; clear hK; clear hK; (with_reducible refine hK _ _ _ ?_); clear hK) | (refine ⟨_, _, SubH.refl _, SubB.refl _, ?_⟩; conv => whnf) | (refine ⟨⟨SubH.refl _, SubB.refl _⟩, ?_⟩; conv => whnf) | (refine ⟨_, _, ⟨SubH.refl _, SubB.refl _⟩, SubH.refl _, SubB.refl _, ?_⟩; conv => whnf))
          exact hq _ (hg15.is 0 rfl)
end
end Go.Proofs.Ytljenppmdhldbaa.V
