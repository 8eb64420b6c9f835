/- Seat 08: begun. -/
import Derived.Test.YthpkgkoojhgedaaDoorK10
import Derived.Test.YthpkgkoojhgedaaDoorK2
import Derived.Test.YthpkgkoojhgedaaDoorK17
namespace Go.Proofs.YthpkgkoojhgedaaDoor.V
set_option linter.unusedVariables false
set_option linter.unusedSimpArgs false
set_option linter.unusedSectionVars false
set_option linter.unusedSectionVars false
open Go

def cp0 : Cp := ⟨1, 5, 7, 15⟩

structure Beg (S : Bs) (c : Cp) : Prop where
  wf : WF S
  cs : ∃ a, S.cs = [⟨a, 0, 0, c, none, []⟩]
  op : ∀ e, isOpen S.tb e = true ↔ 0 ≤ e ∧ e < 4

section
variable {h : Hp} {Q : Value → Hp → Prop} {L : List As}

set_option maxRecDepth 100000 in
set_option maxHeartbeats 2000000 in
theorem begun10 {c : Cp} (hc : okC c) (hh : Has L h) (hnone : NoneR h) (hq : ∀ b S h', Beg S c → NoneR h' → Has (CapsA b S :: L) h' → Q (ptr b) h') (hsub : ∀ g, Has L g → NoneR g) :
    Ok PR 10 [.agg #[iv c.kind, iv c.obj, iv c.serial, iv c.rights]] h Q := by
  refine e10 rfl (seq_step fun K hK => ?_)
  repeat (first | ((with_reducible refine hK _ _ _ ?_); clear hK) | (with_reducible refine seq_step fun K hK => ?_) | (with_reducible refine block_step ?_) | ((with_reducible refine cond_t ?_ ?_); focus rfl) | ((with_reducible refine cond_f ?_ ?_); focus rfl) | ((with_reducible refine code_id ?_); conv => whnf) | (clear hK; (with_reducible refine hK _ _ _ ?_); clear hK) | (clear hK; clear hK; (with_reducible refine hK _ _ _ ?_); clear hK) | (clear hK; clear hK; clear hK; (with_reducible refine hK _ _ _ ?_); clear hK) | (clear hK; clear hK; clear hK; clear hK; (with_reducible refine hK _ _ _ ?_); clear hK) | (clear hK; clear hK; clear hK; clear hK; clear hK; (with_reducible refine hK _ _ _ ?_); clear hK) | (clear hK; clear hK; clear hK; clear hK; clear hK; clear hK; (with_reducible refine hK _ _ _ ?_); clear hK) | (clear hK; clear hK; clear hK; clear hK; clear hK; clear hK; clear hK; (with_reducible refine hK _ _ _ ?_); clear hK))
  refine new31 hh fun b h1 hh1 => ?_
  conv => whnf
  repeat (first | ((with_reducible refine hK _ _ _ ?_); clear hK) | (with_reducible refine seq_step fun K hK => ?_) | (with_reducible refine block_step ?_) | ((with_reducible refine cond_t ?_ ?_); focus rfl) | ((with_reducible refine cond_f ?_ ?_); focus rfl) | ((with_reducible refine code_id ?_); conv => whnf) | (clear hK; (with_reducible refine hK _ _ _ ?_); clear hK) | (clear hK; clear hK; (with_reducible refine hK _ _ _ ?_); clear hK) | (clear hK; clear hK; clear hK; (with_reducible refine hK _ _ _ ?_); clear hK) | (clear hK; clear hK; clear hK; clear hK; (with_reducible refine hK _ _ _ ?_); clear hK) | (clear hK; clear hK; clear hK; clear hK; clear hK; (with_reducible refine hK _ _ _ ?_); clear hK) | (clear hK; clear hK; clear hK; clear hK; clear hK; clear hK; (with_reducible refine hK _ _ _ ?_); clear hK) | (clear hK; clear hK; clear hK; clear hK; clear hK; clear hK; clear hK; (with_reducible refine hK _ _ _ ?_); clear hK))
  refine loop_intro (σ := (Nat × Bs) × Hp) (fun s => [(1, .l 1 0), (3, .v (ptr b)), (4, .v (iv s.1.1))]) (fun _ => [(1, [iv c.kind, iv c.obj, iv c.serial, iv c.rights])]) (fun s => s.2)
    (fun s => s.1.1 ≤ 4 ∧ WF s.1.2 ∧ s.1.2.cs = [] ∧ (∀ e, isOpen s.1.2.tb e = true ↔ 0 ≤ e ∧ e < s.1.1) ∧ Has (CapsA b s.1.2 :: L) s.2)
    (fun s => 4 - s.1.1) ((0, st0), h1) ⟨Nat.zero_le _, wf0, rfl, fun e => ⟨fun h => (by
      obtain ⟨n, t, l, _, _, h3⟩ := got_open h
      have h3 : (List.replicate 16 none)[n]? = some (some (t, l)) := h3
      rw [List.getElem?_replicate] at h3
      split at h3 <;> cases h3), fun h => (by have h2 : e < ((0 : Nat) : Int) := h.2; have := h.1; omega)⟩, hh1⟩ (subE_cons rfl (subE_cons rfl (subE_cons rfl subE_nil))) (subB_cons rfl subB_nil) rfl ?_
  rintro ⟨⟨i, S⟩, g⟩ ⟨hi, hw, hcs, hop, hg⟩
  dsimp only at hi hw hcs hop hg ⊢
  have hnext : IntKind.i64.wrap ((i : Int) + 1) = ((i + 1 : Nat) : Int) := wrap_nat (by omega)
  repeat (first | ((with_reducible refine hK _ _ _ ?_); clear hK) | (with_reducible refine seq_step fun K hK => ?_) | (with_reducible refine block_step ?_) | ((with_reducible refine cond_t ?_ ?_); focus rfl) | ((with_reducible refine cond_f ?_ ?_); focus rfl) | ((with_reducible refine code_id ?_); conv => whnf) | (clear hK; (with_reducible refine hK _ _ _ ?_); clear hK) | (clear hK; clear hK; (with_reducible refine hK _ _ _ ?_); clear hK) | (clear hK; clear hK; clear hK; (with_reducible refine hK _ _ _ ?_); clear hK) | (clear hK; clear hK; clear hK; clear hK; (with_reducible refine hK _ _ _ ?_); clear hK) | (clear hK; clear hK; clear hK; clear hK; clear hK; (with_reducible refine hK _ _ _ ?_); clear hK) | (clear hK; clear hK; clear hK; clear hK; clear hK; clear hK; (with_reducible refine hK _ _ _ ?_); clear hK) | (clear hK; clear hK; clear hK; clear hK; clear hK; clear hK; clear hK; (with_reducible refine hK _ _ _ ?_); clear hK))
  refine cond_dec (fun hlt => ?_) (fun hge => ?_)
  · have hi4 : i < 4 := by omega
    repeat (first | ((with_reducible refine hK _ _ _ ?_); clear hK) | (with_reducible refine seq_step fun K hK => ?_) | (with_reducible refine block_step ?_) | ((with_reducible refine cond_t ?_ ?_); focus rfl) | ((with_reducible refine cond_f ?_ ?_); focus rfl) | ((with_reducible refine code_id ?_); conv => whnf) | (clear hK; (with_reducible refine hK _ _ _ ?_); clear hK) | (clear hK; clear hK; (with_reducible refine hK _ _ _ ?_); clear hK) | (clear hK; clear hK; clear hK; (with_reducible refine hK _ _ _ ?_); clear hK) | (clear hK; clear hK; clear hK; clear hK; (with_reducible refine hK _ _ _ ?_); clear hK) | (clear hK; clear hK; clear hK; clear hK; clear hK; (with_reducible refine hK _ _ _ ?_); clear hK) | (clear hK; clear hK; clear hK; clear hK; clear hK; clear hK; (with_reducible refine hK _ _ _ ?_); clear hK) | (clear hK; clear hK; clear hK; clear hK; clear hK; clear hK; clear hK; (with_reducible refine hK _ _ _ ?_); clear hK))
    refine open35 hw hg i (fun hbad => ?_) (fun n t h' he hn hh' => ?_)
    · exfalso
      rcases hbad with h | h | h
      · omega
      · omega
      · have := (hop i).1 h; omega
    · obtain rfl : i = n := by omega
      conv => whnf
      repeat (first | ((with_reducible refine hK _ _ _ ?_); clear hK) | (with_reducible refine seq_step fun K hK => ?_) | (with_reducible refine block_step ?_) | ((with_reducible refine cond_t ?_ ?_); focus rfl) | ((with_reducible refine cond_f ?_ ?_); focus rfl) | ((with_reducible refine code_id ?_); conv => whnf) | (clear hK; (with_reducible refine hK _ _ _ ?_); clear hK) | (clear hK; clear hK; (with_reducible refine hK _ _ _ ?_); clear hK) | (clear hK; clear hK; clear hK; (with_reducible refine hK _ _ _ ?_); clear hK) | (clear hK; clear hK; clear hK; clear hK; (with_reducible refine hK _ _ _ ?_); clear hK) | (clear hK; clear hK; clear hK; clear hK; clear hK; (with_reducible refine hK _ _ _ ?_); clear hK) | (clear hK; clear hK; clear hK; clear hK; clear hK; clear hK; (with_reducible refine hK _ _ _ ?_); clear hK) | (clear hK; clear hK; clear hK; clear hK; clear hK; clear hK; clear hK; (with_reducible refine hK _ _ _ ?_); clear hK))
      refine ⟨((i + 1, opn S i t), h'), ⟨hi4, hw.opn t hn, hcs, fun e => ?_, hh'⟩, by dsimp only; omega, subE_cons rfl (subE_cons rfl (subE_cons (int_eq hnext rfl) subE_nil)), subB_cons rfl subB_nil, rfl⟩
      dsimp only
      rw [opn_open i t (List.getElem?_eq_some_iff.1 hn).1, Bool.or_eq_true, hop, decide_eq_true_eq]
      omega
  · have hi4 : i = 4 := by omega
    subst hi4
    obtain ⟨n0, t0, l0, e0, g0, ht0⟩ := got_open ((hop 0).2 (by omega))
    obtain rfl : n0 = 0 := by omega
    obtain ⟨n3, t3, l3, e3, g3, ht3⟩ := got_open ((hop 3).2 (by omega))
    obtain rfl : n3 = 3 := by omega
    have hlow0 : low l0 = some 0 := low_is (hw.free ht0 (by decide) fun c hc => by rw [hcs] at hc; cases hc) fun j hj => by omega
    have hm0 : mMint S.tb 0 (-1) c = .inr 0 := by
      unfold mMint
      rw [g0]
      dsimp only
      rw [if_pos ⟨by decide, hc⟩]
      unfold mPlace
      rw [if_neg (by decide), hlow0]
    repeat (first | ((with_reducible refine hK _ _ _ ?_); clear hK) | (with_reducible refine seq_step fun K hK => ?_) | (with_reducible refine block_step ?_) | ((with_reducible refine cond_t ?_ ?_); focus rfl) | ((with_reducible refine cond_f ?_ ?_); focus rfl) | ((with_reducible refine code_id ?_); conv => whnf) | (clear hK; (with_reducible refine hK _ _ _ ?_); clear hK) | (clear hK; clear hK; (with_reducible refine hK _ _ _ ?_); clear hK) | (clear hK; clear hK; clear hK; (with_reducible refine hK _ _ _ ?_); clear hK) | (clear hK; clear hK; clear hK; clear hK; (with_reducible refine hK _ _ _ ?_); clear hK) | (clear hK; clear hK; clear hK; clear hK; clear hK; (with_reducible refine hK _ _ _ ?_); clear hK) | (clear hK; clear hK; clear hK; clear hK; clear hK; clear hK; (with_reducible refine hK _ _ _ ?_); clear hK) | (clear hK; clear hK; clear hK; clear hK; clear hK; clear hK; clear hK; (with_reducible refine hK _ _ _ ?_); clear hK))
    refine mint36 hw hg 0 (-1) c (fun k hk => by rw [hm0] at hk; cases hk) (fun n s a hs hn hw2 h2 hh2 => ?_)
    obtain rfl : n = 0 := by omega
    rw [hm0] at hs
    cases hs
    have hcs2 : (add S ⟨a, 0, 0, c, none, []⟩).cs = [⟨a, 0, 0, c, none, []⟩] := by
      unfold add
      dsimp only
      rw [addC_none _ rfl, hcs]; rfl
    have hop2 : ∀ e, isOpen (add S ⟨a, 0, 0, c, none, []⟩).tb e = true ↔ 0 ≤ e ∧ e < 4 := fun e => by
      unfold add
      dsimp only
      rw [setTab_open]; exact hop e
    obtain ⟨S2, hS2⟩ : ∃ S2, S2 = add S ⟨a, 0, 0, c, none, []⟩ := ⟨_, rfl⟩
    rw [← hS2] at hw2 hh2 hcs2 hop2
    conv => whnf
    repeat (first | ((with_reducible refine hK _ _ _ ?_); clear hK) | (with_reducible refine seq_step fun K hK => ?_) | (with_reducible refine block_step ?_) | ((with_reducible refine cond_t ?_ ?_); focus rfl) | ((with_reducible refine cond_f ?_ ?_); focus rfl) | ((with_reducible refine code_id ?_); conv => whnf) | (clear hK; (with_reducible refine hK _ _ _ ?_); clear hK) | (clear hK; clear hK; (with_reducible refine hK _ _ _ ?_); clear hK) | (clear hK; clear hK; clear hK; (with_reducible refine hK _ _ _ ?_); clear hK) | (clear hK; clear hK; clear hK; clear hK; (with_reducible refine hK _ _ _ ?_); clear hK) | (clear hK; clear hK; clear hK; clear hK; clear hK; (with_reducible refine hK _ _ _ ?_); clear hK) | (clear hK; clear hK; clear hK; clear hK; clear hK; clear hK; (with_reducible refine hK _ _ _ ?_); clear hK) | (clear hK; clear hK; clear hK; clear hK; clear hK; clear hK; clear hK; (with_reducible refine hK _ _ _ ?_); clear hK))
    rw [and4 _ hc.2.2.2.1 hc.2.2.2.2]
    by_cases c3 : grantR c.rights = true
    case neg =>
      rw [Bool.not_eq_true] at c3
      rw [c3]
      conv => whnf
      repeat (first | ((with_reducible refine hK _ _ _ ?_); clear hK) | (with_reducible refine seq_step fun K hK => ?_) | (with_reducible refine block_step ?_) | ((with_reducible refine cond_t ?_ ?_); focus rfl) | ((with_reducible refine cond_f ?_ ?_); focus rfl) | ((with_reducible refine code_id ?_); conv => whnf) | (clear hK; (with_reducible refine hK _ _ _ ?_); clear hK) | (clear hK; clear hK; (with_reducible refine hK _ _ _ ?_); clear hK) | (clear hK; clear hK; clear hK; (with_reducible refine hK _ _ _ ?_); clear hK) | (clear hK; clear hK; clear hK; clear hK; (with_reducible refine hK _ _ _ ?_); clear hK) | (clear hK; clear hK; clear hK; clear hK; clear hK; (with_reducible refine hK _ _ _ ?_); clear hK) | (clear hK; clear hK; clear hK; clear hK; clear hK; clear hK; (with_reducible refine hK _ _ _ ?_); clear hK) | (clear hK; clear hK; clear hK; clear hK; clear hK; clear hK; clear hK; (with_reducible refine hK _ _ _ ?_); clear hK))
      exact hq b S2 _ ⟨hw2, ⟨a, hcs2⟩, hop2⟩ (hsub _ hh2.tail) hh2
    rw [c3]
    have hmem : (⟨a, 0, 0, c, none, []⟩ : Ce) ∈ S2.cs := by rw [hcs2]; exact List.mem_singleton.2 rfl
    have hone : ∀ x ∈ S2.cs, x = ⟨a, 0, 0, c, none, []⟩ := fun x hx => by rw [hcs2] at hx; exact List.mem_singleton.1 hx
    obtain ⟨m0, u0, r0, f0, k0, hu0⟩ := got_open ((hop2 0).2 (by omega))
    obtain ⟨m3, u3, r3, f3, k3, hu3⟩ := got_open ((hop2 3).2 (by omega))
    obtain rfl : m3 = 3 := by omega
    have hr3 : r3[47]? = some none := hw2.free hu3 (by decide) fun x hx h => by rw [hone x hx] at h; have := h.1; simp at this
    have hmd : mDerive S2 0 0 3 47 c.rights = .inr 47 := by
      have hm := mLook_of hw2 hmem
      have hm : mLook S2.tb 0 0 = .inr a := hm
      unfold mDerive
      rw [k0, k3]
      dsimp only
      rw [hm]
      dsimp only
      rw [find_a hw2 hmem]
      dsimp only
      rw [if_pos ⟨by decide, hc.2.2.2.1, hc.2.2.2.2⟩, if_pos ⟨c3, subR_refl _⟩]
      unfold mPlace
      rw [if_pos (by decide), show got r3 47 = none by rw [show (47 : Int) = ((47 : Nat) : Int) from rfl, got_nat, hr3]]
      rfl
    conv => whnf
    repeat (first | ((with_reducible refine hK _ _ _ ?_); clear hK) | (with_reducible refine seq_step fun K hK => ?_) | (with_reducible refine block_step ?_) | ((with_reducible refine cond_t ?_ ?_); focus rfl) | ((with_reducible refine cond_f ?_ ?_); focus rfl) | ((with_reducible refine code_id ?_); conv => whnf) | (clear hK; (with_reducible refine hK _ _ _ ?_); clear hK) | (clear hK; clear hK; (with_reducible refine hK _ _ _ ?_); clear hK) | (clear hK; clear hK; clear hK; (with_reducible refine hK _ _ _ ?_); clear hK) | (clear hK; clear hK; clear hK; clear hK; (with_reducible refine hK _ _ _ ?_); clear hK) | (clear hK; clear hK; clear hK; clear hK; clear hK; (with_reducible refine hK _ _ _ ?_); clear hK) | (clear hK; clear hK; clear hK; clear hK; clear hK; clear hK; (with_reducible refine hK _ _ _ ?_); clear hK) | (clear hK; clear hK; clear hK; clear hK; clear hK; clear hK; clear hK; (with_reducible refine hK _ _ _ ?_); clear hK))
    refine derive11 hw2 hh2 0 0 3 47 c.rights (fun k hk => by rw [hmd] at hk; cases hk) (fun p hp n i a2 _ _ hn hi hw3 h3 hh3 => ?_)
    obtain rfl : n = 3 := by omega
    rw [hmd] at hi
    cases hi
    have hpe := hone p hp
    subst hpe
    have hne : a ≠ a2 := fun e => by
      have := hw3.nda
      unfold add addC at this
      dsimp only at this
      rw [hcs2] at this
      simp [e] at this
    have hcs3 : (add S2 ⟨a2, 3, 47, c, some a, []⟩).cs = [⟨a, 0, 0, c, none, [a2]⟩, ⟨a2, 3, 47, c, some a, []⟩] := by
      unfold add addC
      dsimp only
      rw [hcs2]; simp
    have hop3 : ∀ e, isOpen (add S2 ⟨a2, 3, 47, c, some a, []⟩).tb e = true ↔ 0 ≤ e ∧ e < 4 := fun e => by
      unfold add
      dsimp only
      rw [setTab_open]; exact hop2 e
    have hh3 : Has (CapsA b (add S2 ⟨a2, 3, 47, c, some a, []⟩) :: L) h3 := hh3
    have hw3 : WF (add S2 ⟨a2, 3, 47, c, some a, []⟩) := hw3
    obtain ⟨S3, hS3⟩ : ∃ S3, S3 = add S2 ⟨a2, 3, 47, c, some a, []⟩ := ⟨_, rfl⟩
    rw [← hS3] at hw3 hh3 hcs3 hop3
    have hm3 : (⟨a2, 3, 47, c, some a, []⟩ : Ce) ∈ S3.cs := by rw [hcs3]; simp
    have hm30 : (⟨a, 0, 0, c, none, [a2]⟩ : Ce) ∈ S3.cs := by rw [hcs3]; simp
    have hlk := mLook_of hw3 hm3
    have hlk : mLook S3.tb 3 47 = .inr a2 := hlk
    conv => whnf
    repeat (first | ((with_reducible refine hK _ _ _ ?_); clear hK) | (with_reducible refine seq_step fun K hK => ?_) | (with_reducible refine block_step ?_) | ((with_reducible refine cond_t ?_ ?_); focus rfl) | ((with_reducible refine cond_f ?_ ?_); focus rfl) | ((with_reducible refine code_id ?_); conv => whnf) | (clear hK; (with_reducible refine hK _ _ _ ?_); clear hK) | (clear hK; clear hK; (with_reducible refine hK _ _ _ ?_); clear hK) | (clear hK; clear hK; clear hK; (with_reducible refine hK _ _ _ ?_); clear hK) | (clear hK; clear hK; clear hK; clear hK; (with_reducible refine hK _ _ _ ?_); clear hK) | (clear hK; clear hK; clear hK; clear hK; clear hK; (with_reducible refine hK _ _ _ ?_); clear hK) | (clear hK; clear hK; clear hK; clear hK; clear hK; clear hK; (with_reducible refine hK _ _ _ ?_); clear hK) | (clear hK; clear hK; clear hK; clear hK; clear hK; clear hK; clear hK; (with_reducible refine hK _ _ _ ?_); clear hK))
    refine from13 hw3 (CapsA.rd0 hh3) (hsub _ hh3.tail) 3 47 (fun k hk => by rw [hlk] at hk; cases hk) (fun x hx he hs hp => ?_) (fun x hx p hp he hs hpar => ?_)
    · exfalso
      have := hw3.place hx hm3 (show x.env = 3 by omega) (show x.slot = 47 by omega)
      rw [this] at hp; cases hp
    · have hxe := hw3.place hx hm3 (show x.env = 3 by omega) (show x.slot = 47 by omega)
      subst hxe
      have hpe : p = ⟨a, 0, 0, c, none, [a2]⟩ := one_a hw3.nda hp hm30 (by cases hpar; rfl)
      subst hpe
      conv => whnf
      repeat (first | ((with_reducible refine hK _ _ _ ?_); clear hK) | (with_reducible refine seq_step fun K hK => ?_) | (with_reducible refine block_step ?_) | ((with_reducible refine cond_t ?_ ?_); focus rfl) | ((with_reducible refine cond_f ?_ ?_); focus rfl) | ((with_reducible refine code_id ?_); conv => whnf) | (clear hK; (with_reducible refine hK _ _ _ ?_); clear hK) | (clear hK; clear hK; (with_reducible refine hK _ _ _ ?_); clear hK) | (clear hK; clear hK; clear hK; (with_reducible refine hK _ _ _ ?_); clear hK) | (clear hK; clear hK; clear hK; clear hK; (with_reducible refine hK _ _ _ ?_); clear hK) | (clear hK; clear hK; clear hK; clear hK; clear hK; (with_reducible refine hK _ _ _ ?_); clear hK) | (clear hK; clear hK; clear hK; clear hK; clear hK; clear hK; (with_reducible refine hK _ _ _ ?_); clear hK) | (clear hK; clear hK; clear hK; clear hK; clear hK; clear hK; clear hK; (with_reducible refine hK _ _ _ ?_); clear hK))
      refine drop12 hw3 hh3 3 47 (fun k hk => by rw [hlk] at hk; cases hk) (fun x hx he hs h4 hh4 => ?_)
      have hxe := hw3.place hx hm3 (show x.env = 3 by omega) (show x.slot = 47 by omega)
      subst hxe
      have hw4 := hw3.rm hm3
      conv => whnf
      repeat (first | ((with_reducible refine hK _ _ _ ?_); clear hK) | (with_reducible refine seq_step fun K hK => ?_) | (with_reducible refine block_step ?_) | ((with_reducible refine cond_t ?_ ?_); focus rfl) | ((with_reducible refine cond_f ?_ ?_); focus rfl) | ((with_reducible refine code_id ?_); conv => whnf) | (clear hK; (with_reducible refine hK _ _ _ ?_); clear hK) | (clear hK; clear hK; (with_reducible refine hK _ _ _ ?_); clear hK) | (clear hK; clear hK; clear hK; (with_reducible refine hK _ _ _ ?_); clear hK) | (clear hK; clear hK; clear hK; clear hK; (with_reducible refine hK _ _ _ ?_); clear hK) | (clear hK; clear hK; clear hK; clear hK; clear hK; (with_reducible refine hK _ _ _ ?_); clear hK) | (clear hK; clear hK; clear hK; clear hK; clear hK; clear hK; (with_reducible refine hK _ _ _ ?_); clear hK) | (clear hK; clear hK; clear hK; clear hK; clear hK; clear hK; clear hK; (with_reducible refine hK _ _ _ ?_); clear hK))
      have eqc : ((c.kind == c.kind) && ((c.obj == c.obj) && ((c.serial == c.serial) && ((c.rights == c.rights) && true)))) = true := by simp
      rw [eqc]
      conv => whnf
      repeat (first | ((with_reducible refine hK _ _ _ ?_); clear hK) | (with_reducible refine seq_step fun K hK => ?_) | (with_reducible refine block_step ?_) | ((with_reducible refine cond_t ?_ ?_); focus rfl) | ((with_reducible refine cond_f ?_ ?_); focus rfl) | ((with_reducible refine code_id ?_); conv => whnf) | (clear hK; (with_reducible refine hK _ _ _ ?_); clear hK) | (clear hK; clear hK; (with_reducible refine hK _ _ _ ?_); clear hK) | (clear hK; clear hK; clear hK; (with_reducible refine hK _ _ _ ?_); clear hK) | (clear hK; clear hK; clear hK; clear hK; (with_reducible refine hK _ _ _ ?_); clear hK) | (clear hK; clear hK; clear hK; clear hK; clear hK; (with_reducible refine hK _ _ _ ?_); clear hK) | (clear hK; clear hK; clear hK; clear hK; clear hK; clear hK; (with_reducible refine hK _ _ _ ?_); clear hK) | (clear hK; clear hK; clear hK; clear hK; clear hK; clear hK; clear hK; (with_reducible refine hK _ _ _ ?_); clear hK))
      refine hq b _ _ ⟨hw4, ⟨a, ?_⟩, fun e => ?_⟩ (hsub _ hh4.tail) hh4
      · unfold rm rmC
        dsimp only
        rw [hcs3, List.filter_cons_of_pos (by simpa using hne), List.filter_cons_of_neg (by simp), List.filter_nil, List.map_cons, List.map_nil]
        unfold fR
        simp
      · unfold rm
        dsimp only
        rw [setTab_open]; exact hop3 e
end
end Go.Proofs.YthpkgkoojhgedaaDoor.V
