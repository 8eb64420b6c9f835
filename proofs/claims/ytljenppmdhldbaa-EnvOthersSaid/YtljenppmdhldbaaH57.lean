/- Seat 09: EnvOthers. -/
import Derived.Test.YtljenppmdhldbaaH39
import Derived.Test.YtljenppmdhldbaaH55
import Derived.Test.YtljenppmdhldbaaH56
namespace Go.Proofs.Ytljenppmdhldbaa.V
set_option linter.unusedVariables false
set_option linter.unusedSimpArgs false
set_option linter.unusedSectionVars false
set_option linter.unusedSectionVars false
open Go

section
variable {h : Hp} {Q : Value → Hp → Prop} {L : List As}

theorem op_cells {o : OpE} (ho : o.regs.length = 8) : ∃ g0 g1 g2 g3 g4 g5 g6 g7, opC o = [iv o.kind, iv o.t, iv o.e, iv o.n, iv o.m, iv o.q.1, iv o.q.2.1, iv o.q.2.2, u32v g0, u32v g1, u32v g2, u32v g3, u32v g4, u32v g5, u32v g6, u32v g7, u32v o.pc, .bool o.on] := by
  obtain ⟨g0, g1, g2, g3, g4, g5, g6, g7, hg⟩ := eight ho
  obtain ⟨kind, t', e, n, m, ⟨q1, q2, q3'⟩, regs, pc, on⟩ := o
  dsimp only at hg
  subst hg
  exact ⟨_, _, _, _, _, _, _, _, rfl⟩

set_option maxRecDepth 100000 in
set_option maxHeartbeats 2000000 in
theorem law5 {a : Option Addr} {len cap : Nat} {l : List OpE} (hR : Scr h a len l) (hlen : len < 2 ^ 46) (hq : ∀ h', SubH h h' → Q (.bool true) h') : Ok PR 5 [.slice a len cap] h Q := by
  refine e5 rfl (seq_step fun K hK => ?_)
  repeat (first | ((with_reducible refine hK _ _ _ ?_); clear hK) | (with_reducible refine seq_step fun K hK => ?_) | (with_reducible refine block_step ?_) | ((with_reducible refine cond_t ?_ ?_); focus rfl) | ((with_reducible refine cond_f ?_ ?_); focus rfl) | ((with_reducible refine code_id ?_); conv => whnf) | (clear hK; (with_reducible refine hK _ _ _ ?_); clear hK) | (clear hK; clear hK; (with_reducible refine hK _ _ _ ?_); clear hK) | (clear hK; clear hK; clear hK; (with_reducible refine hK _ _ _ ?_); clear hK) | (clear hK; clear hK; clear hK; clear hK; (with_reducible refine hK _ _ _ ?_); clear hK) | (clear hK; clear hK; clear hK; clear hK; clear hK; (with_reducible refine hK _ _ _ ?_); clear hK) | (clear hK; clear hK; clear hK; clear hK; clear hK; clear hK; (with_reducible refine hK _ _ _ ?_); clear hK) | (clear hK; clear hK; clear hK; clear hK; clear hK; clear hK; clear hK; (with_reducible refine hK _ _ _ ?_); clear hK))
  refine first13 (Has.start h) fun t b h1 hh1 => ?_
  have hh1 : Has (EnvA t A0 3 :: BkP b A0 3 :: Is h :: []) h1 := hh1.map_tail fun g hg => hg.mono1 fun g' hg' => bkp0 hg'
  conv => whnf
  repeat (first | ((with_reducible refine hK _ _ _ ?_); clear hK) | (with_reducible refine seq_step fun K hK => ?_) | (with_reducible refine block_step ?_) | ((with_reducible refine cond_t ?_ ?_); focus rfl) | ((with_reducible refine cond_f ?_ ?_); focus rfl) | ((with_reducible refine code_id ?_); conv => whnf) | (clear hK; (with_reducible refine hK _ _ _ ?_); clear hK) | (clear hK; clear hK; (with_reducible refine hK _ _ _ ?_); clear hK) | (clear hK; clear hK; clear hK; (with_reducible refine hK _ _ _ ?_); clear hK) | (clear hK; clear hK; clear hK; clear hK; (with_reducible refine hK _ _ _ ?_); clear hK) | (clear hK; clear hK; clear hK; clear hK; clear hK; (with_reducible refine hK _ _ _ ?_); clear hK) | (clear hK; clear hK; clear hK; clear hK; clear hK; clear hK; (with_reducible refine hK _ _ _ ?_); clear hK) | (clear hK; clear hK; clear hK; clear hK; clear hK; clear hK; clear hK; (with_reducible refine hK _ _ _ ?_); clear hK))
  refine loop_intro (σ := (Nat × Rs × Int) × Hp) (fun s => [(0, .v (.slice a len cap)), (3, .v (ptr t)), (4, .v (ptr b)), (5, .v (iv s.1.1))]) (fun _ => []) (fun s => s.2)
    (fun s => s.1.1 ≤ len ∧ WF s.1.2.1 s.1.2.2 ∧ Has (EnvA t s.1.2.1 s.1.2.2 :: BkP b s.1.2.1 s.1.2.2 :: Is h :: []) s.2)
    (fun s => len - s.1.1) ((0, A0, 3), h1) ⟨Nat.zero_le _, wf0, hh1⟩ (subE_cons rfl (subE_cons rfl (subE_cons rfl (subE_cons rfl subE_nil)))) subB_nil rfl ?_
  rintro ⟨⟨i, A, last⟩, g⟩ ⟨hi, hw, hg⟩
  dsimp only at hi hw hg ⊢
  repeat (first | ((with_reducible refine hK _ _ _ ?_); clear hK) | (with_reducible refine seq_step fun K hK => ?_) | (with_reducible refine block_step ?_) | ((with_reducible refine cond_t ?_ ?_); focus rfl) | ((with_reducible refine cond_f ?_ ?_); focus rfl) | ((with_reducible refine code_id ?_); conv => whnf) | (clear hK; (with_reducible refine hK _ _ _ ?_); clear hK) | (clear hK; clear hK; (with_reducible refine hK _ _ _ ?_); clear hK) | (clear hK; clear hK; clear hK; (with_reducible refine hK _ _ _ ?_); clear hK) | (clear hK; clear hK; clear hK; clear hK; (with_reducible refine hK _ _ _ ?_); clear hK) | (clear hK; clear hK; clear hK; clear hK; clear hK; (with_reducible refine hK _ _ _ ?_); clear hK) | (clear hK; clear hK; clear hK; clear hK; clear hK; clear hK; (with_reducible refine hK _ _ _ ?_); clear hK) | (clear hK; clear hK; clear hK; clear hK; clear hK; clear hK; clear hK; (with_reducible refine hK _ _ _ ?_); clear hK))
  refine cond_dec (fun hlt => ?_) (fun hge => ?_)
  · have hil : i < len := by omega
    obtain ⟨o, bk, off, c, ty, z, ho, hregs, rfl, hb0, hrd, hkd, hnn⟩ := hR.at hil
    have hb : g bk = some (.cells c ty z) := hg.is 2 rfl bk _ hb0
    have ei : ((i : Int)).toNat = i := Int.toNat_natCast i
    have hnext : IntKind.i64.wrap ((i : Int) + 1) = ((i + 1 : Nat) : Int) := wrap_nat (by omega)
    have hcome := fun (Q : Value → Hp → Prop) (hk : o.kind = 2 ∨ o.kind = 3) => comes24 (Q := Q) (h := g) (t := t) (b := b) (L := [Is h]) hw o hregs hk hg
    have hnote := fun (Q : Value → Hp → Prop) => noted20 (Q := Q) (t := t) (b := b) (L := [Is h]) (h := g) hw o hregs hg
    have hto := step_to hw o
    have hset := fun (Q : Value → Hp → Prop) (h : Hp) (x y : Inf) hx hy hok => set26 (Q := Q) (h := h) o hregs x y hx hy hok
    have hw1 := hw.step o hregs
    obtain ⟨A1, hA1⟩ : ∃ A1, A1 = (step A last o).1 := ⟨_, rfl⟩
    obtain ⟨l1, hl1⟩ : ∃ l1, l1 = (step A last o).2 := ⟨_, rfl⟩
    rw [← hA1, ← hl1] at hw1
    simp only [← hA1, ← hl1] at hnote hcome hto
    obtain ⟨g0, g1, g2, g3, g4, g5, g6, g7, hop⟩ := op_cells hregs
    rw [hop] at hrd
    simp only [hop] at hnote hcome hset
    repeat (first | ((with_reducible refine hK _ _ _ ?_); clear hK) | (with_reducible refine seq_step fun K hK => ?_) | (with_reducible refine block_step ?_) | ((with_reducible refine cond_t ?_ ?_); focus rfl) | ((with_reducible refine cond_f ?_ ?_); focus rfl) | ((with_reducible refine code_id ?_); conv => whnf) | (clear hK; (with_reducible refine hK _ _ _ ?_); clear hK) | (clear hK; clear hK; (with_reducible refine hK _ _ _ ?_); clear hK) | (clear hK; clear hK; clear hK; (with_reducible refine hK _ _ _ ?_); clear hK) | (clear hK; clear hK; clear hK; clear hK; (with_reducible refine hK _ _ _ ?_); clear hK) | (clear hK; clear hK; clear hK; clear hK; clear hK; (with_reducible refine hK _ _ _ ?_); clear hK) | (clear hK; clear hK; clear hK; clear hK; clear hK; clear hK; (with_reducible refine hK _ _ _ ?_); clear hK) | (clear hK; clear hK; clear hK; clear hK; clear hK; clear hK; clear hK; (with_reducible refine hK _ _ _ ?_); clear hK))
    refine opt_if ⟨by omega, by omega⟩ ?_
    conv => whnf
    refine opt_ld hb (by rw [ei]; exact hrd) ?_
    conv => whnf
    repeat (first | ((with_reducible refine hK _ _ _ ?_); clear hK) | (with_reducible refine seq_step fun K hK => ?_) | (with_reducible refine block_step ?_) | ((with_reducible refine cond_t ?_ ?_); focus rfl) | ((with_reducible refine cond_f ?_ ?_); focus rfl) | ((with_reducible refine code_id ?_); conv => whnf) | (clear hK; (with_reducible refine hK _ _ _ ?_); clear hK) | (clear hK; clear hK; (with_reducible refine hK _ _ _ ?_); clear hK) | (clear hK; clear hK; clear hK; (with_reducible refine hK _ _ _ ?_); clear hK) | (clear hK; clear hK; clear hK; clear hK; (with_reducible refine hK _ _ _ ?_); clear hK) | (clear hK; clear hK; clear hK; clear hK; clear hK; (with_reducible refine hK _ _ _ ?_); clear hK) | (clear hK; clear hK; clear hK; clear hK; clear hK; clear hK; (with_reducible refine hK _ _ _ ?_); clear hK) | (clear hK; clear hK; clear hK; clear hK; clear hK; clear hK; clear hK; (with_reducible refine hK _ _ _ ?_); clear hK) | (refine ⟨_, _, SubH.refl _, SubB.refl _, ?_⟩; conv => whnf) | (refine ⟨⟨SubH.refl _, SubB.refl _⟩, ?_⟩; conv => whnf) | (refine ⟨_, _, ⟨SubH.refl _, SubB.refl _⟩, SubH.refl _, SubB.refl _, ?_⟩; conv => whnf))
    refine told21 hw (Has.get hg 0 rfl fun _ _ => EnvP.sub) ?_
    conv => whnf
    refine opt_stL rfl (by show (told A).toArray.size = 352; rw [List.size_toArray, told_l hw]) rfl (told_one _ _) ?_
    conv => whnf
    repeat (first | ((with_reducible refine hK _ _ _ ?_); clear hK) | (with_reducible refine seq_step fun K hK => ?_) | (with_reducible refine block_step ?_) | ((with_reducible refine cond_t ?_ ?_); focus rfl) | ((with_reducible refine cond_f ?_ ?_); focus rfl) | ((with_reducible refine code_id ?_); conv => whnf) | (clear hK; (with_reducible refine hK _ _ _ ?_); clear hK) | (clear hK; clear hK; (with_reducible refine hK _ _ _ ?_); clear hK) | (clear hK; clear hK; clear hK; (with_reducible refine hK _ _ _ ?_); clear hK) | (clear hK; clear hK; clear hK; clear hK; (with_reducible refine hK _ _ _ ?_); clear hK) | (clear hK; clear hK; clear hK; clear hK; clear hK; (with_reducible refine hK _ _ _ ?_); clear hK) | (clear hK; clear hK; clear hK; clear hK; clear hK; clear hK; (with_reducible refine hK _ _ _ ?_); clear hK) | (clear hK; clear hK; clear hK; clear hK; clear hK; clear hK; clear hK; (with_reducible refine hK _ _ _ ?_); clear hK) | (refine ⟨_, _, SubH.refl _, SubB.refl _, ?_⟩; conv => whnf) | (refine ⟨⟨SubH.refl _, SubB.refl _⟩, ?_⟩; conv => whnf) | (refine ⟨_, _, ⟨SubH.refl _, SubB.refl _⟩, SubH.refl _, SubB.refl _, ?_⟩; conv => whnf))
    have hgo : True := trivial
    by_cases hk2 : o.kind = 2
    · rw [show (o.kind == 2) = true from beq_iff_eq.2 hk2]
      conv => whnf
      repeat (first | ((with_reducible refine hK _ _ _ ?_); clear hK) | (with_reducible refine seq_step fun K hK => ?_) | (with_reducible refine block_step ?_) | ((with_reducible refine cond_t ?_ ?_); focus rfl) | ((with_reducible refine cond_f ?_ ?_); focus rfl) | ((with_reducible refine code_id ?_); conv => whnf) | (clear hK; (with_reducible refine hK _ _ _ ?_); clear hK) | (clear hK; clear hK; (with_reducible refine hK _ _ _ ?_); clear hK) | (clear hK; clear hK; clear hK; (with_reducible refine hK _ _ _ ?_); clear hK) | (clear hK; clear hK; clear hK; clear hK; (with_reducible refine hK _ _ _ ?_); clear hK) | (clear hK; clear hK; clear hK; clear hK; clear hK; (with_reducible refine hK _ _ _ ?_); clear hK) | (clear hK; clear hK; clear hK; clear hK; clear hK; clear hK; (with_reducible refine hK _ _ _ ?_); clear hK) | (clear hK; clear hK; clear hK; clear hK; clear hK; clear hK; clear hK; (with_reducible refine hK _ _ _ ?_); clear hK) | (refine ⟨_, _, SubH.refl _, SubB.refl _, ?_⟩; conv => whnf) | (refine ⟨⟨SubH.refl _, SubB.refl _⟩, ?_⟩; conv => whnf) | (refine ⟨_, _, ⟨SubH.refl _, SubB.refl _⟩, SubH.refl _, SubB.refl _, ?_⟩; conv => whnf))
      refine opt_ldL (cs := told A) rfl (told_l hw) ?_
      conv => whnf
      refine hcome _ (.inl hk2) fun g1 hg1 => ?_
      conv => whnf
      repeat (first | ((with_reducible refine hK _ _ _ ?_); clear hK) | (with_reducible refine seq_step fun K hK => ?_) | (with_reducible refine block_step ?_) | ((with_reducible refine cond_t ?_ ?_); focus rfl) | ((with_reducible refine cond_f ?_ ?_); focus rfl) | ((with_reducible refine code_id ?_); conv => whnf) | (clear hK; (with_reducible refine hK _ _ _ ?_); clear hK) | (clear hK; clear hK; (with_reducible refine hK _ _ _ ?_); clear hK) | (clear hK; clear hK; clear hK; (with_reducible refine hK _ _ _ ?_); clear hK) | (clear hK; clear hK; clear hK; clear hK; (with_reducible refine hK _ _ _ ?_); clear hK) | (clear hK; clear hK; clear hK; clear hK; clear hK; (with_reducible refine hK _ _ _ ?_); clear hK) | (clear hK; clear hK; clear hK; clear hK; clear hK; clear hK; (with_reducible refine hK _ _ _ ?_); clear hK) | (clear hK; clear hK; clear hK; clear hK; clear hK; clear hK; clear hK; (with_reducible refine hK _ _ _ ?_); clear hK) | (refine ⟨_, _, SubH.refl _, SubB.refl _, ?_⟩; conv => whnf) | (refine ⟨⟨SubH.refl _, SubB.refl _⟩, ?_⟩; conv => whnf) | (refine ⟨_, _, ⟨SubH.refl _, SubB.refl _⟩, SubH.refl _, SubB.refl _, ?_⟩; conv => whnf))
      exact ⟨((i + 1, A1, l1), g1), ⟨show i + 1 ≤ len by omega, hw1, hg1⟩, show len - (i + 1) < len - i by omega, subE_cons rfl (subE_cons rfl (subE_cons rfl (subE_cons (int_eq hnext rfl) subE_nil))), subB_nil, rfl⟩
    rw [show (o.kind == 2) = false from beq_eq_false_iff_ne.2 hk2]
    conv => whnf
    by_cases hk3 : o.kind = 3
    · rw [show (o.kind == 3) = true from beq_iff_eq.2 hk3]
      conv => whnf
      repeat (first | ((with_reducible refine hK _ _ _ ?_); clear hK) | (with_reducible refine seq_step fun K hK => ?_) | (with_reducible refine block_step ?_) | ((with_reducible refine cond_t ?_ ?_); focus rfl) | ((with_reducible refine cond_f ?_ ?_); focus rfl) | ((with_reducible refine code_id ?_); conv => whnf) | (clear hK; (with_reducible refine hK _ _ _ ?_); clear hK) | (clear hK; clear hK; (with_reducible refine hK _ _ _ ?_); clear hK) | (clear hK; clear hK; clear hK; (with_reducible refine hK _ _ _ ?_); clear hK) | (clear hK; clear hK; clear hK; clear hK; (with_reducible refine hK _ _ _ ?_); clear hK) | (clear hK; clear hK; clear hK; clear hK; clear hK; (with_reducible refine hK _ _ _ ?_); clear hK) | (clear hK; clear hK; clear hK; clear hK; clear hK; clear hK; (with_reducible refine hK _ _ _ ?_); clear hK) | (clear hK; clear hK; clear hK; clear hK; clear hK; clear hK; clear hK; (with_reducible refine hK _ _ _ ?_); clear hK) | (refine ⟨_, _, SubH.refl _, SubB.refl _, ?_⟩; conv => whnf) | (refine ⟨⟨SubH.refl _, SubB.refl _⟩, ?_⟩; conv => whnf) | (refine ⟨_, _, ⟨SubH.refl _, SubB.refl _⟩, SubH.refl _, SubB.refl _, ?_⟩; conv => whnf))
      refine opt_ldL (cs := told A) rfl (told_l hw) ?_
      conv => whnf
      refine hcome _ (.inr hk3) fun g1 hg1 => ?_
      conv => whnf
      repeat (first | ((with_reducible refine hK _ _ _ ?_); clear hK) | (with_reducible refine seq_step fun K hK => ?_) | (with_reducible refine block_step ?_) | ((with_reducible refine cond_t ?_ ?_); focus rfl) | ((with_reducible refine cond_f ?_ ?_); focus rfl) | ((with_reducible refine code_id ?_); conv => whnf) | (clear hK; (with_reducible refine hK _ _ _ ?_); clear hK) | (clear hK; clear hK; (with_reducible refine hK _ _ _ ?_); clear hK) | (clear hK; clear hK; clear hK; (with_reducible refine hK _ _ _ ?_); clear hK) | (clear hK; clear hK; clear hK; clear hK; (with_reducible refine hK _ _ _ ?_); clear hK) | (clear hK; clear hK; clear hK; clear hK; clear hK; (with_reducible refine hK _ _ _ ?_); clear hK) | (clear hK; clear hK; clear hK; clear hK; clear hK; clear hK; (with_reducible refine hK _ _ _ ?_); clear hK) | (clear hK; clear hK; clear hK; clear hK; clear hK; clear hK; clear hK; (with_reducible refine hK _ _ _ ?_); clear hK) | (refine ⟨_, _, SubH.refl _, SubB.refl _, ?_⟩; conv => whnf) | (refine ⟨⟨SubH.refl _, SubB.refl _⟩, ?_⟩; conv => whnf) | (refine ⟨_, _, ⟨SubH.refl _, SubB.refl _⟩, SubH.refl _, SubB.refl _, ?_⟩; conv => whnf))
      exact ⟨((i + 1, A1, l1), g1), ⟨show i + 1 ≤ len by omega, hw1, hg1⟩, show len - (i + 1) < len - i by omega, subE_cons rfl (subE_cons rfl (subE_cons rfl (subE_cons (int_eq hnext rfl) subE_nil))), subB_nil, rfl⟩
    rw [show (o.kind == 3) = false from beq_eq_false_iff_ne.2 hk3]
    conv => whnf
    repeat (first | ((with_reducible refine hK _ _ _ ?_); clear hK) | (with_reducible refine seq_step fun K hK => ?_) | (with_reducible refine block_step ?_) | ((with_reducible refine cond_t ?_ ?_); focus rfl) | ((with_reducible refine cond_f ?_ ?_); focus rfl) | ((with_reducible refine code_id ?_); conv => whnf) | (clear hK; (with_reducible refine hK _ _ _ ?_); clear hK) | (clear hK; clear hK; (with_reducible refine hK _ _ _ ?_); clear hK) | (clear hK; clear hK; clear hK; (with_reducible refine hK _ _ _ ?_); clear hK) | (clear hK; clear hK; clear hK; clear hK; (with_reducible refine hK _ _ _ ?_); clear hK) | (clear hK; clear hK; clear hK; clear hK; clear hK; (with_reducible refine hK _ _ _ ?_); clear hK) | (clear hK; clear hK; clear hK; clear hK; clear hK; clear hK; (with_reducible refine hK _ _ _ ?_); clear hK) | (clear hK; clear hK; clear hK; clear hK; clear hK; clear hK; clear hK; (with_reducible refine hK _ _ _ ?_); clear hK) | (refine ⟨_, _, SubH.refl _, SubB.refl _, ?_⟩; conv => whnf) | (refine ⟨⟨SubH.refl _, SubB.refl _⟩, ?_⟩; conv => whnf) | (refine ⟨_, _, ⟨SubH.refl _, SubB.refl _⟩, SubH.refl _, SubB.refl _, ?_⟩; conv => whnf))
    obtain ⟨hto1, hto2, hto3⟩ := hto hk2 hk3
    refine hnote _ fun g1 hg1 => ?_
    conv => whnf
    repeat (first | ((with_reducible refine hK _ _ _ ?_); clear hK) | (with_reducible refine seq_step fun K hK => ?_) | (with_reducible refine block_step ?_) | ((with_reducible refine cond_t ?_ ?_); focus rfl) | ((with_reducible refine cond_f ?_ ?_); focus rfl) | ((with_reducible refine code_id ?_); conv => whnf) | (clear hK; (with_reducible refine hK _ _ _ ?_); clear hK) | (clear hK; clear hK; (with_reducible refine hK _ _ _ ?_); clear hK) | (clear hK; clear hK; clear hK; (with_reducible refine hK _ _ _ ?_); clear hK) | (clear hK; clear hK; clear hK; clear hK; (with_reducible refine hK _ _ _ ?_); clear hK) | (clear hK; clear hK; clear hK; clear hK; clear hK; (with_reducible refine hK _ _ _ ?_); clear hK) | (clear hK; clear hK; clear hK; clear hK; clear hK; clear hK; (with_reducible refine hK _ _ _ ?_); clear hK) | (clear hK; clear hK; clear hK; clear hK; clear hK; clear hK; clear hK; (with_reducible refine hK _ _ _ ?_); clear hK) | (refine ⟨_, _, SubH.refl _, SubB.refl _, ?_⟩; conv => whnf) | (refine ⟨⟨SubH.refl _, SubB.refl _⟩, ?_⟩; conv => whnf) | (refine ⟨_, _, ⟨SubH.refl _, SubB.refl _⟩, SubH.refl _, SubB.refl _, ?_⟩; conv => whnf))
    refine opt_ldL (cs := told A) rfl (told_l hw) ?_
    conv => whnf
    refine told21 hw1 (Has.get hg1 0 rfl fun _ _ => EnvP.sub) ?_
    conv => whnf
    refine ⟨⟨SubH.refl _, SubB.refl _⟩, ?_⟩
    conv => whnf
    refine only25 hw hw1 o.e (fun n hn hne => (hto1 n hne).symm) ?_
    conv => whnf
    repeat (first | ((with_reducible refine hK _ _ _ ?_); clear hK) | (with_reducible refine seq_step fun K hK => ?_) | (with_reducible refine block_step ?_) | ((with_reducible refine cond_t ?_ ?_); focus rfl) | ((with_reducible refine cond_f ?_ ?_); focus rfl) | ((with_reducible refine code_id ?_); conv => whnf) | (clear hK; (with_reducible refine hK _ _ _ ?_); clear hK) | (clear hK; clear hK; (with_reducible refine hK _ _ _ ?_); clear hK) | (clear hK; clear hK; clear hK; (with_reducible refine hK _ _ _ ?_); clear hK) | (clear hK; clear hK; clear hK; clear hK; (with_reducible refine hK _ _ _ ?_); clear hK) | (clear hK; clear hK; clear hK; clear hK; clear hK; (with_reducible refine hK _ _ _ ?_); clear hK) | (clear hK; clear hK; clear hK; clear hK; clear hK; clear hK; (with_reducible refine hK _ _ _ ?_); clear hK) | (clear hK; clear hK; clear hK; clear hK; clear hK; clear hK; clear hK; (with_reducible refine hK _ _ _ ?_); clear hK) | (refine ⟨_, _, SubH.refl _, SubB.refl _, ?_⟩; conv => whnf) | (refine ⟨⟨SubH.refl _, SubB.refl _⟩, ?_⟩; conv => whnf) | (refine ⟨_, _, ⟨SubH.refl _, SubB.refl _⟩, SubH.refl _, SubB.refl _, ?_⟩; conv => whnf))
    refine info19A hw1 o.e hg1 ?_
    conv => whnf
    repeat (first | ((with_reducible refine hK _ _ _ ?_); clear hK) | (with_reducible refine seq_step fun K hK => ?_) | (with_reducible refine block_step ?_) | ((with_reducible refine cond_t ?_ ?_); focus rfl) | ((with_reducible refine cond_f ?_ ?_); focus rfl) | ((with_reducible refine code_id ?_); conv => whnf) | (clear hK; (with_reducible refine hK _ _ _ ?_); clear hK) | (clear hK; clear hK; (with_reducible refine hK _ _ _ ?_); clear hK) | (clear hK; clear hK; clear hK; (with_reducible refine hK _ _ _ ?_); clear hK) | (clear hK; clear hK; clear hK; clear hK; (with_reducible refine hK _ _ _ ?_); clear hK) | (clear hK; clear hK; clear hK; clear hK; clear hK; (with_reducible refine hK _ _ _ ?_); clear hK) | (clear hK; clear hK; clear hK; clear hK; clear hK; clear hK; (with_reducible refine hK _ _ _ ?_); clear hK) | (clear hK; clear hK; clear hK; clear hK; clear hK; clear hK; clear hK; (with_reducible refine hK _ _ _ ?_); clear hK) | (refine ⟨_, _, SubH.refl _, SubB.refl _, ?_⟩; conv => whnf) | (refine ⟨⟨SubH.refl _, SubB.refl _⟩, ?_⟩; conv => whnf) | (refine ⟨_, _, ⟨SubH.refl _, SubB.refl _⟩, SubH.refl _, SubB.refl _, ?_⟩; conv => whnf))
    have hix := info_ok hw1 o.e
    refine opt_stL rfl (by show (infC (mInfo A1 o.e).1).toArray.size = 21; rw [List.size_toArray, infC_len hix]) rfl (infC_one _) ?_
    conv => whnf
    repeat (first | ((with_reducible refine hK _ _ _ ?_); clear hK) | (with_reducible refine seq_step fun K hK => ?_) | (with_reducible refine block_step ?_) | ((with_reducible refine cond_t ?_ ?_); focus rfl) | ((with_reducible refine cond_f ?_ ?_); focus rfl) | ((with_reducible refine code_id ?_); conv => whnf) | (clear hK; (with_reducible refine hK _ _ _ ?_); clear hK) | (clear hK; clear hK; (with_reducible refine hK _ _ _ ?_); clear hK) | (clear hK; clear hK; clear hK; (with_reducible refine hK _ _ _ ?_); clear hK) | (clear hK; clear hK; clear hK; clear hK; (with_reducible refine hK _ _ _ ?_); clear hK) | (clear hK; clear hK; clear hK; clear hK; clear hK; (with_reducible refine hK _ _ _ ?_); clear hK) | (clear hK; clear hK; clear hK; clear hK; clear hK; clear hK; (with_reducible refine hK _ _ _ ?_); clear hK) | (clear hK; clear hK; clear hK; clear hK; clear hK; clear hK; clear hK; (with_reducible refine hK _ _ _ ?_); clear hK) | (refine ⟨_, _, SubH.refl _, SubB.refl _, ?_⟩; conv => whnf) | (refine ⟨⟨SubH.refl _, SubB.refl _⟩, ?_⟩; conv => whnf) | (refine ⟨_, _, ⟨SubH.refl _, SubB.refl _⟩, SubH.refl _, SubB.refl _, ?_⟩; conv => whnf))
    refine cond_bne (fun hne => ?_) (fun heq => ?_)
    · have hAA := hto2 hne
      repeat (first | ((with_reducible refine hK _ _ _ ?_); clear hK) | (with_reducible refine seq_step fun K hK => ?_) | (with_reducible refine block_step ?_) | ((with_reducible refine cond_t ?_ ?_); focus rfl) | ((with_reducible refine cond_f ?_ ?_); focus rfl) | ((with_reducible refine code_id ?_); conv => whnf) | (clear hK; (with_reducible refine hK _ _ _ ?_); clear hK) | (clear hK; clear hK; (with_reducible refine hK _ _ _ ?_); clear hK) | (clear hK; clear hK; clear hK; (with_reducible refine hK _ _ _ ?_); clear hK) | (clear hK; clear hK; clear hK; clear hK; (with_reducible refine hK _ _ _ ?_); clear hK) | (clear hK; clear hK; clear hK; clear hK; clear hK; (with_reducible refine hK _ _ _ ?_); clear hK) | (clear hK; clear hK; clear hK; clear hK; clear hK; clear hK; (with_reducible refine hK _ _ _ ?_); clear hK) | (clear hK; clear hK; clear hK; clear hK; clear hK; clear hK; clear hK; (with_reducible refine hK _ _ _ ?_); clear hK) | (refine ⟨_, _, SubH.refl _, SubB.refl _, ?_⟩; conv => whnf) | (refine ⟨⟨SubH.refl _, SubB.refl _⟩, ?_⟩; conv => whnf) | (refine ⟨_, _, ⟨SubH.refl _, SubB.refl _⟩, SubH.refl _, SubB.refl _, ?_⟩; conv => whnf))
      refine opt_ldL (cs := told A) rfl (told_l hw) ?_
      conv => whnf
      refine told21 hw1 (Has.get hg1 0 rfl fun _ _ => EnvP.sub) ?_
      conv => whnf
      refine ⟨⟨SubH.refl _, SubB.refl _⟩, ?_⟩
      conv => whnf
      refine opt_eqkd (X := told A1) (Y := told A) (b := true) KTold rfl rfl (told_kd hw1) (told_kd hw) (by rw [hAA]; simp) ?_
      conv => whnf
      repeat (first | ((with_reducible refine hK _ _ _ ?_); clear hK) | (with_reducible refine seq_step fun K hK => ?_) | (with_reducible refine block_step ?_) | ((with_reducible refine cond_t ?_ ?_); focus rfl) | ((with_reducible refine cond_f ?_ ?_); focus rfl) | ((with_reducible refine code_id ?_); conv => whnf) | (clear hK; (with_reducible refine hK _ _ _ ?_); clear hK) | (clear hK; clear hK; (with_reducible refine hK _ _ _ ?_); clear hK) | (clear hK; clear hK; clear hK; (with_reducible refine hK _ _ _ ?_); clear hK) | (clear hK; clear hK; clear hK; clear hK; (with_reducible refine hK _ _ _ ?_); clear hK) | (clear hK; clear hK; clear hK; clear hK; clear hK; (with_reducible refine hK _ _ _ ?_); clear hK) | (clear hK; clear hK; clear hK; clear hK; clear hK; clear hK; (with_reducible refine hK _ _ _ ?_); clear hK) | (clear hK; clear hK; clear hK; clear hK; clear hK; clear hK; clear hK; (with_reducible refine hK _ _ _ ?_); clear hK) | (refine ⟨_, _, SubH.refl _, SubB.refl _, ?_⟩; conv => whnf) | (refine ⟨⟨SubH.refl _, SubB.refl _⟩, ?_⟩; conv => whnf) | (refine ⟨_, _, ⟨SubH.refl _, SubB.refl _⟩, SubH.refl _, SubB.refl _, ?_⟩; conv => whnf))
      exact ⟨((i + 1, A1, l1), g1), ⟨show i + 1 ≤ len by omega, hw1, hg1⟩, show len - (i + 1) < len - i by omega, subE_cons rfl (subE_cons rfl (subE_cons rfl (subE_cons (int_eq hnext rfl) subE_nil))), subB_nil, rfl⟩
    · obtain ⟨⟨r, hr⟩, hok⟩ := hto3 heq
      have hrm := fnd_mem hr
      have hlt := hw.lt r hrm.1
      have hiA := info_ok hw o.e
      repeat (first | ((with_reducible refine hK _ _ _ ?_); clear hK) | (with_reducible refine seq_step fun K hK => ?_) | (with_reducible refine block_step ?_) | ((with_reducible refine cond_t ?_ ?_); focus rfl) | ((with_reducible refine cond_f ?_ ?_); focus rfl) | ((with_reducible refine code_id ?_); conv => whnf) | (clear hK; (with_reducible refine hK _ _ _ ?_); clear hK) | (clear hK; clear hK; (with_reducible refine hK _ _ _ ?_); clear hK) | (clear hK; clear hK; clear hK; (with_reducible refine hK _ _ _ ?_); clear hK) | (clear hK; clear hK; clear hK; clear hK; (with_reducible refine hK _ _ _ ?_); clear hK) | (clear hK; clear hK; clear hK; clear hK; clear hK; (with_reducible refine hK _ _ _ ?_); clear hK) | (clear hK; clear hK; clear hK; clear hK; clear hK; clear hK; (with_reducible refine hK _ _ _ ?_); clear hK) | (clear hK; clear hK; clear hK; clear hK; clear hK; clear hK; clear hK; (with_reducible refine hK _ _ _ ?_); clear hK) | (refine ⟨_, _, SubH.refl _, SubB.refl _, ?_⟩; conv => whnf) | (refine ⟨⟨SubH.refl _, SubB.refl _⟩, ?_⟩; conv => whnf) | (refine ⟨_, _, ⟨SubH.refl _, SubB.refl _⟩, SubH.refl _, SubB.refl _, ?_⟩; conv => whnf))
      refine opt_if ⟨by omega, by omega⟩ ?_
      conv => whnf
      refine opt_ldLo (v := .agg (infC (mInfo A o.e).1).toArray) rfl (by
        show rd (told A).toArray (0 + 0 + o.e.toNat * 21) 21 true = _
        have := told_rdX hw (n := o.e.toNat) (by omega)
        rw [Int.toNat_of_nonneg (by omega)] at this
        rw [show 0 + 0 + o.e.toNat * 21 = o.e.toNat * 21 by omega]; exact this) ?_
      conv => whnf
      refine opt_stL rfl (by show (infC (mInfo A o.e).1).toArray.size = 21; rw [List.size_toArray, infC_len hiA]) rfl (infC_one _) ?_
      conv => whnf
      repeat (first | ((with_reducible refine hK _ _ _ ?_); clear hK) | (with_reducible refine seq_step fun K hK => ?_) | (with_reducible refine block_step ?_) | ((with_reducible refine cond_t ?_ ?_); focus rfl) | ((with_reducible refine cond_f ?_ ?_); focus rfl) | ((with_reducible refine code_id ?_); conv => whnf) | (clear hK; (with_reducible refine hK _ _ _ ?_); clear hK) | (clear hK; clear hK; (with_reducible refine hK _ _ _ ?_); clear hK) | (clear hK; clear hK; clear hK; (with_reducible refine hK _ _ _ ?_); clear hK) | (clear hK; clear hK; clear hK; clear hK; (with_reducible refine hK _ _ _ ?_); clear hK) | (clear hK; clear hK; clear hK; clear hK; clear hK; (with_reducible refine hK _ _ _ ?_); clear hK) | (clear hK; clear hK; clear hK; clear hK; clear hK; clear hK; (with_reducible refine hK _ _ _ ?_); clear hK) | (clear hK; clear hK; clear hK; clear hK; clear hK; clear hK; clear hK; (with_reducible refine hK _ _ _ ?_); clear hK) | (refine ⟨_, _, SubH.refl _, SubB.refl _, ?_⟩; conv => whnf) | (refine ⟨⟨SubH.refl _, SubB.refl _⟩, ?_⟩; conv => whnf) | (refine ⟨_, _, ⟨SubH.refl _, SubB.refl _⟩, SubH.refl _, SubB.refl _, ?_⟩; conv => whnf))
      refine opt_ldL (cs := infC (mInfo A o.e).1) rfl (infC_len hiA) ?_
      conv => whnf
      refine opt_ldL (cs := infC (mInfo A1 o.e).1) rfl (infC_len hix) ?_
      conv => whnf
      refine hset _ _ _ _ hiA hix hok ?_
      conv => whnf
      repeat (first | ((with_reducible refine hK _ _ _ ?_); clear hK) | (with_reducible refine seq_step fun K hK => ?_) | (with_reducible refine block_step ?_) | ((with_reducible refine cond_t ?_ ?_); focus rfl) | ((with_reducible refine cond_f ?_ ?_); focus rfl) | ((with_reducible refine code_id ?_); conv => whnf) | (clear hK; (with_reducible refine hK _ _ _ ?_); clear hK) | (clear hK; clear hK; (with_reducible refine hK _ _ _ ?_); clear hK) | (clear hK; clear hK; clear hK; (with_reducible refine hK _ _ _ ?_); clear hK) | (clear hK; clear hK; clear hK; clear hK; (with_reducible refine hK _ _ _ ?_); clear hK) | (clear hK; clear hK; clear hK; clear hK; clear hK; (with_reducible refine hK _ _ _ ?_); clear hK) | (clear hK; clear hK; clear hK; clear hK; clear hK; clear hK; (with_reducible refine hK _ _ _ ?_); clear hK) | (clear hK; clear hK; clear hK; clear hK; clear hK; clear hK; clear hK; (with_reducible refine hK _ _ _ ?_); clear hK) | (refine ⟨_, _, SubH.refl _, SubB.refl _, ?_⟩; conv => whnf) | (refine ⟨⟨SubH.refl _, SubB.refl _⟩, ?_⟩; conv => whnf) | (refine ⟨_, _, ⟨SubH.refl _, SubB.refl _⟩, SubH.refl _, SubB.refl _, ?_⟩; conv => whnf))
      exact ⟨((i + 1, A1, l1), g1), ⟨show i + 1 ≤ len by omega, hw1, hg1⟩, show len - (i + 1) < len - i by omega, subE_cons rfl (subE_cons rfl (subE_cons rfl (subE_cons (int_eq hnext rfl) subE_nil))), subB_nil, rfl⟩
  · repeat (first | ((with_reducible refine hK _ _ _ ?_); clear hK) | (with_reducible refine seq_step fun K hK => ?_) | (with_reducible refine block_step ?_) | ((with_reducible refine cond_t ?_ ?_); focus rfl) | ((with_reducible refine cond_f ?_ ?_); focus rfl) | ((with_reducible refine code_id ?_); conv => whnf) | (clear hK; (with_reducible refine hK _ _ _ ?_); clear hK) | (clear hK; clear hK; (with_reducible refine hK _ _ _ ?_); clear hK) | (clear hK; clear hK; clear hK; (with_reducible refine hK _ _ _ ?_); clear hK) | (clear hK; clear hK; clear hK; clear hK; (with_reducible refine hK _ _ _ ?_); clear hK) | (clear hK; clear hK; clear hK; clear hK; clear hK; (with_reducible refine hK _ _ _ ?_); clear hK) | (clear hK; clear hK; clear hK; clear hK; clear hK; clear hK; (with_reducible refine hK _ _ _ ?_); clear hK) | (clear hK; clear hK; clear hK; clear hK; clear hK; clear hK; clear hK; (with_reducible refine hK _ _ _ ?_); clear hK))
    exact hq _ (hg.is 2 rfl)
end
end Go.Proofs.Ytljenppmdhldbaa.V
