/- Seat 09: EnvTree. -/
import Derived.Test.YtljenppmdhldbaaH50
import Derived.Test.YtljenppmdhldbaaH51
import Derived.Test.YtljenppmdhldbaaH26
import Derived.Test.YtljenppmdhldbaaH43
namespace Go.Proofs.Ytljenppmdhldbaa.V
set_option linter.unusedVariables false
set_option linter.unusedSimpArgs false
set_option linter.unusedSectionVars false
set_option linter.unusedSectionVars false
open Go

section
variable {A : Rs} {last : Int}

theorem nodup_count : ∀ {l : List Int} {x : Int}, l.Nodup → x ∈ l → l.count x = 1
  | y :: l, x, hn, hx => by
    rw [List.nodup_cons] at hn
    rw [List.count_cons]
    by_cases h : y = x
    · subst h
      rw [List.count_eq_zero_of_not_mem hn.1]; simp
    · have hx2 : x ∈ l := by
        rcases List.mem_cons.1 hx with e | e
        · exact absurd e.symm h
        · exact e
      rw [nodup_count hn.2 hx2]; simp [h]

theorem root_chain (hw : WF A last) : ∀ (k : Int) (r : Row), fnd A k = some r → (0 : Int) ∈ chain A k := by
  have := up_ind hw (P := fun k => ∀ r, fnd A k = some r → (0 : Int) ∈ chain A k) (fun e h r hr => by rw [h] at hr; cases hr) (fun e r hr ih r' hr' => ?_)
  · exact this
  · rw [chain_some hw hr]
    have hrm := fnd_mem hr
    rcases hw.par r hrm.1 with ⟨h, _⟩ | ⟨_, p, hp, h2, _⟩
    · rw [show e = 0 by omega]; exact List.mem_cons_self ..
    · exact List.mem_cons_of_mem _ (ih p (by rw [h2]; exact fnd_of hw.nd hp))

theorem root_row (hw : WF A last) : ∃ r, fnd A 0 = some r := by
  obtain ⟨r, hr, h0⟩ := hw.root
  exact ⟨r, by have := fnd_of hw.nd hr; rw [h0] at this; exact this⟩

theorem mem_live {k : Int} : k ∈ liveL A ↔ ∃ n : Nat, k = n ∧ n < 16 ∧ (fnd A (n : Int)).isSome = true := by
  unfold liveL
  simp only [List.mem_map, List.mem_filter, List.mem_range]
  exact ⟨fun ⟨n, ⟨a, b⟩, c⟩ => ⟨n, c.symm, a, b⟩, fun ⟨n, c, a, b⟩ => ⟨n, ⟨a, b⟩, c.symm⟩⟩

theorem live_nodup (A : Rs) : (liveL A).Nodup := by
  unfold liveL
  exact List.pairwise_map.2 ((List.nodup_range.sublist List.filter_sublist).imp fun {a b} h => by omega)

theorem walk_live (hw : WF A last) : (walk A 0).Perm (liveL A) := by
  obtain ⟨r, hr⟩ := root_row hw
  refine (List.perm_ext_iff_of_nodup (walk_nodup hw hr) (live_nodup A)).2 fun k => ?_
  rw [mem_live]
  constructor
  · intro hk
    obtain ⟨x, hx, _⟩ := mem_walk hw hr k hk
    have hxm := fnd_mem hx
    exact ⟨x.num, hxm.2.symm, hw.lt x hxm.1, by rw [fnd_of hw.nd hxm.1]; rfl⟩
  · rintro ⟨n, rfl, _, hs⟩
    obtain ⟨x, hx⟩ := Option.isSome_iff_exists.1 hs
    exact (walk_chain hw hr).2 (root_chain hw _ x hx)

def cntL (A : Rs) (e : Nat) : Nat := ((List.range e).filter fun k : Nat => (fnd A (k : Int)).isSome).length

theorem live_at {e : Nat} (he : e < 16) (hs : (fnd A (e : Int)).isSome = true) : (liveL A)[cntL A e]? = some (e : Int) ∧ cntL A e < (liveL A).length := by
  have e1 : List.range 16 = List.range e ++ (e :: (List.range (16 - e - 1)).map (e + 1 + ·)) := by
    have h1 : List.range 16 = List.range (e + 1) ++ (List.range (16 - e - 1)).map (e + 1 + ·) := by rw [← List.range_add, show e + 1 + (16 - e - 1) = 16 by omega]
    rw [h1, List.range_succ, List.append_assoc]; rfl
  have e2 : liveL A = ((List.range e).filter fun k : Nat => (fnd A (k : Int)).isSome).map (fun k : Nat => (k : Int)) ++ ((e : Int) :: (((List.range (16 - e - 1)).map (e + 1 + ·)).filter fun k : Nat => (fnd A (k : Int)).isSome).map fun k : Nat => (k : Int)) := by
    unfold liveL
    rw [e1, List.filter_append, List.filter_cons_of_pos (p := fun k : Nat => (fnd A (k : Int)).isSome) hs, List.map_append, List.map_cons]
  rw [e2]
  unfold cntL
  constructor
  · rw [List.getElem?_append_right (by rw [List.length_map]; exact Nat.le_refl _), List.length_map, Nat.sub_self]; rfl
  · rw [List.length_append, List.length_map, List.length_cons]; omega

theorem cntL_succ (A : Rs) (e : Nat) : cntL A (e + 1) = cntL A e + (if (fnd A (e : Int)).isSome = true then 1 else 0) := by
  unfold cntL
  rw [List.range_succ, List.filter_append, List.length_append]
  congr 1
  by_cases h : (fnd A (e : Int)).isSome = true
  · rw [if_pos h, List.filter_cons_of_pos (p := fun k : Nat => (fnd A (k : Int)).isSome) h]; rfl
  · rw [if_neg h, List.filter_cons_of_neg (p := fun k : Nat => (fnd A (k : Int)).isSome) h]; rfl

theorem cntL_16 (A : Rs) : cntL A 16 = (liveL A).length := by unfold cntL liveL; rw [List.length_map]
theorem cntL_le (A : Rs) (e : Nat) : cntL A e ≤ e := by
  unfold cntL
  have := List.length_filter_le (fun k : Nat => (fnd A (k : Int)).isSome) (List.range e)
  rwa [List.length_range] at this

theorem find_of (hw : WF A last) {x : Row} (hx : x ∈ A) : mFind A x.serial = x.num := by
  unfold mFind
  cases hf : A.find? fun r => decide (r.serial = x.serial) with
  | none => have := List.find?_eq_none.1 hf x hx; simp at this
  | some y =>
    have h1 := List.mem_of_find?_eq_some hf
    have h2 : y.serial = x.serial := of_decide_eq_true (List.find?_some (p := fun r : Row => decide (r.serial = x.serial)) hf)
    have hxy : x = y := by
      have hp := hw.sr
      rcases List.getElem_of_mem hx with ⟨i, hi, e1⟩
      rcases List.getElem_of_mem h1 with ⟨j, hj, e2⟩
      rcases Nat.lt_trichotomy i j with hij | hij | hij
      · have := List.pairwise_iff_getElem.1 hp i j hi hj hij
        rw [e1, e2] at this; omega
      · subst hij; rw [← e1, ← e2]
      · have := List.pairwise_iff_getElem.1 hp j i hj hi hij
        rw [e1, e2] at this; omega
    rw [hxy]

theorem find_no (hw : WF A last) {s : Int} (hs : last < s) : mFind A s = -1 := by
  unfold mFind
  rw [List.find?_eq_none.2 fun x hx => by have := hw.sl x hx; simp; omega]
end

section
variable {h : Hp} {Q : Value → Hp → Prop} {L : List As}

set_option maxHeartbeats 1000000 in
theorem law12 {a : Option Addr} {len cap : Nat} {l : List OpE} (hR : Scr h a len l) (hlen : len < 2 ^ 46) (hq : ∀ h', SubH h h' → Q (.bool true) h') : Ok PR 12 [.slice a len cap] h Q := by
  refine e12 rfl (seq_step fun K hK => ?_)
  repeat (first | ((with_reducible refine hK _ _ _ ?_); clear hK) | (with_reducible refine seq_step fun K hK => ?_) | (with_reducible refine block_step ?_) | ((with_reducible refine cond_t ?_ ?_); focus rfl) | ((with_reducible refine cond_f ?_ ?_); focus rfl) | ((with_reducible refine code_id ?_); conv => whnf) | (clear hK; (with_reducible refine hK _ _ _ ?_); clear hK) | (clear hK; clear hK; (with_reducible refine hK _ _ _ ?_); clear hK) | (clear hK; clear hK; clear hK; (with_reducible refine hK _ _ _ ?_); clear hK) | (clear hK; clear hK; clear hK; clear hK; (with_reducible refine hK _ _ _ ?_); clear hK) | (clear hK; clear hK; clear hK; clear hK; clear hK; (with_reducible refine hK _ _ _ ?_); clear hK) | (clear hK; clear hK; clear hK; clear hK; clear hK; clear hK; (with_reducible refine hK _ _ _ ?_); clear hK) | (clear hK; clear hK; clear hK; clear hK; clear hK; clear hK; clear hK; (with_reducible refine hK _ _ _ ?_); clear hK))
  refine first13 (Has.start h) fun t b h1 hh1 => ?_
  have hh1 : Has (EnvA t A0 3 :: BkP b A0 3 :: Is h :: []) h1 := hh1.map_tail fun g hg => hg.mono1 fun g' hg' => bkp0 hg'
  conv => whnf
  repeat (first | ((with_reducible refine hK _ _ _ ?_); clear hK) | (with_reducible refine seq_step fun K hK => ?_) | (with_reducible refine block_step ?_) | ((with_reducible refine cond_t ?_ ?_); focus rfl) | ((with_reducible refine cond_f ?_ ?_); focus rfl) | ((with_reducible refine code_id ?_); conv => whnf) | (clear hK; (with_reducible refine hK _ _ _ ?_); clear hK) | (clear hK; clear hK; (with_reducible refine hK _ _ _ ?_); clear hK) | (clear hK; clear hK; clear hK; (with_reducible refine hK _ _ _ ?_); clear hK) | (clear hK; clear hK; clear hK; clear hK; (with_reducible refine hK _ _ _ ?_); clear hK) | (clear hK; clear hK; clear hK; clear hK; clear hK; (with_reducible refine hK _ _ _ ?_); clear hK) | (clear hK; clear hK; clear hK; clear hK; clear hK; clear hK; (with_reducible refine hK _ _ _ ?_); clear hK) | (clear hK; clear hK; clear hK; clear hK; clear hK; clear hK; clear hK; (with_reducible refine hK _ _ _ ?_); clear hK))
  refine loop_intro (σ := (Nat × Rs × Int) × Hp) (fun s => [(0, .v (.slice a len cap)), (3, .v (ptr t)), (4, .v (ptr b)), (5, .v (iv s.1.1))]) (fun _ => []) (fun s => s.2)
    (fun s => s.1.1 ≤ len + 1 ∧ WF s.1.2.1 s.1.2.2 ∧ 3 ≤ s.1.2.2 ∧ s.1.2.2 ≤ 4611686018427387903 ∧ Has (EnvA t s.1.2.1 s.1.2.2 :: BkP b s.1.2.1 s.1.2.2 :: Is h :: []) s.2)
    (fun s => len + 1 - s.1.1) ((0, A0, 3), h1) ⟨Nat.zero_le _, wf0, Int.le_refl _, by show (3 : Int) ≤ 4611686018427387903; decide, hh1⟩ (subE_cons rfl (subE_cons rfl (subE_cons rfl (subE_cons rfl subE_nil)))) subB_nil rfl ?_
  rintro ⟨⟨i, A, last⟩, g⟩ ⟨hi, hw, hl3, hlm, hg⟩
  dsimp only at hi hw hl3 hlm hg ⊢
  repeat (first | ((with_reducible refine hK _ _ _ ?_); clear hK) | (with_reducible refine seq_step fun K hK => ?_) | (with_reducible refine block_step ?_) | ((with_reducible refine cond_t ?_ ?_); focus rfl) | ((with_reducible refine cond_f ?_ ?_); focus rfl) | ((with_reducible refine code_id ?_); conv => whnf) | (clear hK; (with_reducible refine hK _ _ _ ?_); clear hK) | (clear hK; clear hK; (with_reducible refine hK _ _ _ ?_); clear hK) | (clear hK; clear hK; clear hK; (with_reducible refine hK _ _ _ ?_); clear hK) | (clear hK; clear hK; clear hK; clear hK; (with_reducible refine hK _ _ _ ?_); clear hK) | (clear hK; clear hK; clear hK; clear hK; clear hK; (with_reducible refine hK _ _ _ ?_); clear hK) | (clear hK; clear hK; clear hK; clear hK; clear hK; clear hK; (with_reducible refine hK _ _ _ ?_); clear hK) | (clear hK; clear hK; clear hK; clear hK; clear hK; clear hK; clear hK; (with_reducible refine hK _ _ _ ?_); clear hK))
  refine cond_dec (fun hlt => ?_) (fun hge => ?_)
  · have hil : i ≤ len := by omega
    obtain ⟨r0, hr0⟩ := root_row hw
    have hperm := walk_live hw
    have hwl := walk_len hw hr0
    have hwn := walk_nodup hw hr0
    obtain ⟨W, hW⟩ : ∃ W, W = walk A 0 := ⟨_, rfl⟩
    rw [← hW] at hperm hwl hwn
    have hll := hperm.length_eq
    have hcnt : ∀ e : Nat, e < 16 → (fnd A (e : Int)).isSome = true → W.count (e : Int) = 1 := fun e he hs => by
      have h1 : (e : Int) ∈ W := hperm.mem_iff.2 (mem_live.2 ⟨e, rfl, he, hs⟩)
      exact nodup_count hwn h1
    repeat (first | ((with_reducible refine hK _ _ _ ?_); clear hK) | (with_reducible refine seq_step fun K hK => ?_) | (with_reducible refine block_step ?_) | ((with_reducible refine cond_t ?_ ?_); focus rfl) | ((with_reducible refine cond_f ?_ ?_); focus rfl) | ((with_reducible refine code_id ?_); conv => whnf) | (clear hK; (with_reducible refine hK _ _ _ ?_); clear hK) | (clear hK; clear hK; (with_reducible refine hK _ _ _ ?_); clear hK) | (clear hK; clear hK; clear hK; (with_reducible refine hK _ _ _ ?_); clear hK) | (clear hK; clear hK; clear hK; clear hK; (with_reducible refine hK _ _ _ ?_); clear hK) | (clear hK; clear hK; clear hK; clear hK; clear hK; (with_reducible refine hK _ _ _ ?_); clear hK) | (clear hK; clear hK; clear hK; clear hK; clear hK; clear hK; (with_reducible refine hK _ _ _ ?_); clear hK) | (clear hK; clear hK; clear hK; clear hK; clear hK; clear hK; clear hK; (with_reducible refine hK _ _ _ ?_); clear hK))
    refine live38A hw hg fun s h3 hg3 => ?_
    obtain ⟨b1, c1, e1⟩ := hg3.slv 0 rfl
    subst e1
    have hl0 := live_at (A := A) (e := 0) (by decide) (by rw [show ((0 : Nat) : Int) = 0 from rfl, hr0]; rfl)
    obtain ⟨bb1, ob1, cx1, cc1, ty1, z1, he1, _, _⟩ := hg3.rdw 0 rfl (k := cntL A 0) (v := iv 0) hl0.2 (by rw [List.getElem?_map, hl0.1]; rfl)
    cases he1
    conv => whnf
    repeat (first | ((with_reducible refine hK _ _ _ ?_); clear hK) | (with_reducible refine seq_step fun K hK => ?_) | (with_reducible refine block_step ?_) | ((with_reducible refine cond_t ?_ ?_); focus rfl) | ((with_reducible refine cond_f ?_ ?_); focus rfl) | ((with_reducible refine code_id ?_); conv => whnf) | (clear hK; (with_reducible refine hK _ _ _ ?_); clear hK) | (clear hK; clear hK; (with_reducible refine hK _ _ _ ?_); clear hK) | (clear hK; clear hK; clear hK; (with_reducible refine hK _ _ _ ?_); clear hK) | (clear hK; clear hK; clear hK; clear hK; (with_reducible refine hK _ _ _ ?_); clear hK) | (clear hK; clear hK; clear hK; clear hK; clear hK; (with_reducible refine hK _ _ _ ?_); clear hK) | (clear hK; clear hK; clear hK; clear hK; clear hK; clear hK; (with_reducible refine hK _ _ _ ?_); clear hK) | (clear hK; clear hK; clear hK; clear hK; clear hK; clear hK; clear hK; (with_reducible refine hK _ _ _ ?_); clear hK))
    refine tree27A hw 0 hg3.swap fun s2 h4 hg4 => ?_
    rw [show mTree A 0 = (W, 0) by unfold mTree; rw [hr0, hW]] at hg4 ⊢
    dsimp only at hg4 ⊢
    obtain ⟨b2, c2, e2⟩ := hg4.slv 0 rfl
    subst e2
    conv => whnf
    repeat (first | ((with_reducible refine hK _ _ _ ?_); clear hK) | (with_reducible refine seq_step fun K hK => ?_) | (with_reducible refine block_step ?_) | ((with_reducible refine cond_t ?_ ?_); focus rfl) | ((with_reducible refine cond_f ?_ ?_); focus rfl) | ((with_reducible refine code_id ?_); conv => whnf) | (clear hK; (with_reducible refine hK _ _ _ ?_); clear hK) | (clear hK; clear hK; (with_reducible refine hK _ _ _ ?_); clear hK) | (clear hK; clear hK; clear hK; (with_reducible refine hK _ _ _ ?_); clear hK) | (clear hK; clear hK; clear hK; clear hK; (with_reducible refine hK _ _ _ ?_); clear hK) | (clear hK; clear hK; clear hK; clear hK; clear hK; (with_reducible refine hK _ _ _ ?_); clear hK) | (clear hK; clear hK; clear hK; clear hK; clear hK; clear hK; (with_reducible refine hK _ _ _ ?_); clear hK) | (clear hK; clear hK; clear hK; clear hK; clear hK; clear hK; clear hK; (with_reducible refine hK _ _ _ ?_); clear hK))
    rw [show (((W.length : Nat) : Int) != (liveL A).length) = false by rw [hll]; exact bne_self_eq_false _]
    conv => whnf
    repeat (first | ((with_reducible refine hK _ _ _ ?_); clear hK) | (with_reducible refine seq_step fun K hK => ?_) | (with_reducible refine block_step ?_) | ((with_reducible refine cond_t ?_ ?_); focus rfl) | ((with_reducible refine cond_f ?_ ?_); focus rfl) | ((with_reducible refine code_id ?_); conv => whnf) | (clear hK; (with_reducible refine hK _ _ _ ?_); clear hK) | (clear hK; clear hK; (with_reducible refine hK _ _ _ ?_); clear hK) | (clear hK; clear hK; clear hK; (with_reducible refine hK _ _ _ ?_); clear hK) | (clear hK; clear hK; clear hK; clear hK; (with_reducible refine hK _ _ _ ?_); clear hK) | (clear hK; clear hK; clear hK; clear hK; clear hK; (with_reducible refine hK _ _ _ ?_); clear hK) | (clear hK; clear hK; clear hK; clear hK; clear hK; clear hK; (with_reducible refine hK _ _ _ ?_); clear hK) | (clear hK; clear hK; clear hK; clear hK; clear hK; clear hK; clear hK; (with_reducible refine hK _ _ _ ?_); clear hK))
    refine loop_intro (σ := Nat × Hp) (fun s => [(0, .v (.slice a len cap)), (3, .v (ptr t)), (4, .v (ptr b)), (5, .v (iv i)), (6, .v (.slice (some ⟨bb1, ob1, none⟩) (liveL A).length c1)), (7, .v (.slice b2 W.length c2)), (9, .v (iv (cntL A s.1))), (10, .v (iv s.1))]) (fun _ => []) (fun s => s.2)
      (fun s => s.1 ≤ 16 ∧ Has (EnvA t A last :: IntsP (.slice b2 W.length c2) W :: IntsP (.slice (some ⟨bb1, ob1, none⟩) (liveL A).length c1) (liveL A) :: BkP b A last :: Is h :: []) s.2) (fun s => 16 - s.1) (0, h4) ⟨Nat.zero_le _, hg4.swap⟩
      (subE_cons rfl (subE_cons rfl (subE_cons rfl (subE_cons rfl (subE_cons rfl (subE_cons rfl (subE_cons rfl (subE_cons rfl subE_nil)))))))) subB_nil rfl ?_
    rintro ⟨e, g2⟩ ⟨he, hg2⟩
    dsimp only at he hg2 ⊢
    obtain ⟨pd, hpd, hg3⟩ := BkP.opn (hg2.pull 3 rfl)
    have hcs := cntL_succ A e
    have hcle := cntL_le A e
    repeat (first | ((with_reducible refine hK _ _ _ ?_); clear hK) | (with_reducible refine seq_step fun K hK => ?_) | (with_reducible refine block_step ?_) | ((with_reducible refine cond_t ?_ ?_); focus rfl) | ((with_reducible refine cond_f ?_ ?_); focus rfl) | ((with_reducible refine code_id ?_); conv => whnf) | (clear hK; (with_reducible refine hK _ _ _ ?_); clear hK) | (clear hK; clear hK; (with_reducible refine hK _ _ _ ?_); clear hK) | (clear hK; clear hK; clear hK; (with_reducible refine hK _ _ _ ?_); clear hK) | (clear hK; clear hK; clear hK; clear hK; (with_reducible refine hK _ _ _ ?_); clear hK) | (clear hK; clear hK; clear hK; clear hK; clear hK; (with_reducible refine hK _ _ _ ?_); clear hK) | (clear hK; clear hK; clear hK; clear hK; clear hK; clear hK; (with_reducible refine hK _ _ _ ?_); clear hK) | (clear hK; clear hK; clear hK; clear hK; clear hK; clear hK; clear hK; (with_reducible refine hK _ _ _ ?_); clear hK))
    refine cond_dec (fun hlt2 => ?_) (fun hge2 => ?_)
    · have he16 : e < 16 := by omega
      repeat (first | ((with_reducible refine hK _ _ _ ?_); clear hK) | (with_reducible refine seq_step fun K hK => ?_) | (with_reducible refine block_step ?_) | ((with_reducible refine cond_t ?_ ?_); focus rfl) | ((with_reducible refine cond_f ?_ ?_); focus rfl) | ((with_reducible refine code_id ?_); conv => whnf) | (clear hK; (with_reducible refine hK _ _ _ ?_); clear hK) | (clear hK; clear hK; (with_reducible refine hK _ _ _ ?_); clear hK) | (clear hK; clear hK; clear hK; (with_reducible refine hK _ _ _ ?_); clear hK) | (clear hK; clear hK; clear hK; clear hK; (with_reducible refine hK _ _ _ ?_); clear hK) | (clear hK; clear hK; clear hK; clear hK; clear hK; (with_reducible refine hK _ _ _ ?_); clear hK) | (clear hK; clear hK; clear hK; clear hK; clear hK; clear hK; (with_reducible refine hK _ _ _ ?_); clear hK) | (clear hK; clear hK; clear hK; clear hK; clear hK; clear hK; clear hK; (with_reducible refine hK _ _ _ ?_); clear hK))
      refine opt_if ⟨by omega, by omega⟩ ?_
      conv => whnf
      refine opt_ld (hg3.pt 0 rfl) (v := .bool (livesF A e)) ?_ ?_
      · show (bookC (lvG (livesF A)) pd last).toArray[0 + 0 + (e : Int).toNat * 1]? = _
        rw [show 0 + 0 + (e : Int).toNat * 1 = e by omega]
        exact bk_lv (lvG_len _) he16 (lvG_get _ he16)
      cases hl : livesF A e with
      | false =>
        have hf : fnd A (e : Int) = none := by unfold livesF at hl; cases hx : fnd A (e : Int) with | none => rfl | some y => rw [hx] at hl; cases hl
        rw [hf] at hcs
        conv => whnf
        repeat (first | ((with_reducible refine hK _ _ _ ?_); clear hK) | (with_reducible refine seq_step fun K hK => ?_) | (with_reducible refine block_step ?_) | ((with_reducible refine cond_t ?_ ?_); focus rfl) | ((with_reducible refine cond_f ?_ ?_); focus rfl) | ((with_reducible refine code_id ?_); conv => whnf) | (clear hK; (with_reducible refine hK _ _ _ ?_); clear hK) | (clear hK; clear hK; (with_reducible refine hK _ _ _ ?_); clear hK) | (clear hK; clear hK; clear hK; (with_reducible refine hK _ _ _ ?_); clear hK) | (clear hK; clear hK; clear hK; clear hK; (with_reducible refine hK _ _ _ ?_); clear hK) | (clear hK; clear hK; clear hK; clear hK; clear hK; (with_reducible refine hK _ _ _ ?_); clear hK) | (clear hK; clear hK; clear hK; clear hK; clear hK; clear hK; (with_reducible refine hK _ _ _ ?_); clear hK) | (clear hK; clear hK; clear hK; clear hK; clear hK; clear hK; clear hK; (with_reducible refine hK _ _ _ ?_); clear hK))
        refine info19A hw e hg2 ?_
        rw [show mInfo A (e : Int) = (infZ, 90) by unfold mInfo; rw [hf]]
        conv => whnf
        repeat (first | ((with_reducible refine hK _ _ _ ?_); clear hK) | (with_reducible refine seq_step fun K hK => ?_) | (with_reducible refine block_step ?_) | ((with_reducible refine cond_t ?_ ?_); focus rfl) | ((with_reducible refine cond_f ?_ ?_); focus rfl) | ((with_reducible refine code_id ?_); conv => whnf) | (clear hK; (with_reducible refine hK _ _ _ ?_); clear hK) | (clear hK; clear hK; (with_reducible refine hK _ _ _ ?_); clear hK) | (clear hK; clear hK; clear hK; (with_reducible refine hK _ _ _ ?_); clear hK) | (clear hK; clear hK; clear hK; clear hK; (with_reducible refine hK _ _ _ ?_); clear hK) | (clear hK; clear hK; clear hK; clear hK; clear hK; (with_reducible refine hK _ _ _ ?_); clear hK) | (clear hK; clear hK; clear hK; clear hK; clear hK; clear hK; (with_reducible refine hK _ _ _ ?_); clear hK) | (clear hK; clear hK; clear hK; clear hK; clear hK; clear hK; clear hK; (with_reducible refine hK _ _ _ ?_); clear hK))
        refine runs17A hw e hg2 ?_
        rw [show mRuns A e = false by unfold mRuns; rw [hf]; rfl]
        conv => whnf
        refine inside35A hw 0 e hg2 ?_
        rw [show mInside A 0 e = false by unfold mInside; rw [chain_none hf]; simp]
        conv => whnf
        repeat (first | ((with_reducible refine hK _ _ _ ?_); clear hK) | (with_reducible refine seq_step fun K hK => ?_) | (with_reducible refine block_step ?_) | ((with_reducible refine cond_t ?_ ?_); focus rfl) | ((with_reducible refine cond_f ?_ ?_); focus rfl) | ((with_reducible refine code_id ?_); conv => whnf) | (clear hK; (with_reducible refine hK _ _ _ ?_); clear hK) | (clear hK; clear hK; (with_reducible refine hK _ _ _ ?_); clear hK) | (clear hK; clear hK; clear hK; (with_reducible refine hK _ _ _ ?_); clear hK) | (clear hK; clear hK; clear hK; clear hK; (with_reducible refine hK _ _ _ ?_); clear hK) | (clear hK; clear hK; clear hK; clear hK; clear hK; (with_reducible refine hK _ _ _ ?_); clear hK) | (clear hK; clear hK; clear hK; clear hK; clear hK; clear hK; (with_reducible refine hK _ _ _ ?_); clear hK) | (clear hK; clear hK; clear hK; clear hK; clear hK; clear hK; clear hK; (with_reducible refine hK _ _ _ ?_); clear hK))
        exact ⟨(e + 1, g2), ⟨by show e + 1 ≤ 16; omega, hg2⟩, by show 16 - (e + 1) < 16 - e; omega, subE_cons rfl (subE_cons rfl (subE_cons rfl (subE_cons rfl (subE_cons rfl (subE_cons rfl (subE_cons (int_eq (by rw [hcs]; simp) rfl) (subE_cons (int_eq (wrap_nat (by omega)) rfl) subE_nil))))))), subB_nil, rfl⟩
      | true =>
        obtain ⟨r, hr⟩ := Option.isSome_iff_exists.1 hl
        have hrm := fnd_mem hr
        have hs : (fnd A (e : Int)).isSome = true := hl
        obtain ⟨hat, hatl⟩ := live_at he16 hs
        rw [if_pos hs] at hcs
        obtain ⟨bb, o, capx, cx, ty, z, hee, hbb, hcx⟩ := hg2.rdw 2 rfl (k := cntL A e) (v := iv e) hatl (by rw [List.getElem?_map, hat]; rfl)
        cases hee
        conv => whnf
        repeat (first | ((with_reducible refine hK _ _ _ ?_); clear hK) | (with_reducible refine seq_step fun K hK => ?_) | (with_reducible refine block_step ?_) | ((with_reducible refine cond_t ?_ ?_); focus rfl) | ((with_reducible refine cond_f ?_ ?_); focus rfl) | ((with_reducible refine code_id ?_); conv => whnf) | (clear hK; (with_reducible refine hK _ _ _ ?_); clear hK) | (clear hK; clear hK; (with_reducible refine hK _ _ _ ?_); clear hK) | (clear hK; clear hK; clear hK; (with_reducible refine hK _ _ _ ?_); clear hK) | (clear hK; clear hK; clear hK; clear hK; (with_reducible refine hK _ _ _ ?_); clear hK) | (clear hK; clear hK; clear hK; clear hK; clear hK; (with_reducible refine hK _ _ _ ?_); clear hK) | (clear hK; clear hK; clear hK; clear hK; clear hK; clear hK; (with_reducible refine hK _ _ _ ?_); clear hK) | (clear hK; clear hK; clear hK; clear hK; clear hK; clear hK; clear hK; (with_reducible refine hK _ _ _ ?_); clear hK))
        refine info_lit hw hr hg2 fun k0 k1 k2 k3 k4 k5 k6 k7 => ?_
        conv => whnf
        repeat (first | ((with_reducible refine hK _ _ _ ?_); clear hK) | (with_reducible refine seq_step fun K hK => ?_) | (with_reducible refine block_step ?_) | ((with_reducible refine cond_t ?_ ?_); focus rfl) | ((with_reducible refine cond_f ?_ ?_); focus rfl) | ((with_reducible refine code_id ?_); conv => whnf) | (clear hK; (with_reducible refine hK _ _ _ ?_); clear hK) | (clear hK; clear hK; (with_reducible refine hK _ _ _ ?_); clear hK) | (clear hK; clear hK; clear hK; (with_reducible refine hK _ _ _ ?_); clear hK) | (clear hK; clear hK; clear hK; clear hK; (with_reducible refine hK _ _ _ ?_); clear hK) | (clear hK; clear hK; clear hK; clear hK; clear hK; (with_reducible refine hK _ _ _ ?_); clear hK) | (clear hK; clear hK; clear hK; clear hK; clear hK; clear hK; (with_reducible refine hK _ _ _ ?_); clear hK) | (clear hK; clear hK; clear hK; clear hK; clear hK; clear hK; clear hK; (with_reducible refine hK _ _ _ ?_); clear hK))
        rw [show decide (((cntL A e : Nat) : Int) ≥ (liveL A).length) = false from decide_eq_false (by omega)]
        conv => whnf
        refine opt_if ⟨by omega, by omega⟩ ?_
        conv => whnf
        refine opt_ld hbb (v := iv e) (by rw [Int.toNat_natCast, Nat.mul_one]; exact hcx) ?_
        conv => whnf
        rw [show (((e : Nat) : Int) != e) = false from bne_self_eq_false _]
        conv => whnf
        refine count43 (l := W) (e : Int) (by omega) (Has.get hg2 1 rfl fun _ _ => IntsP.sub) ?_
        rw [hcnt e he16 hs]
        conv => whnf
        refine branch45 hw hr hg2 fun g5 hg5 => ?_
        conv => whnf
        refine find54A hw r.serial hg5 fun g6 hg6 => ?_
        rw [find_of hw hrm.1, hrm.2]
        conv => whnf
        rw [show (((e : Nat) : Int) != e) = false from bne_self_eq_false _]
        conv => whnf
        repeat (first | ((with_reducible refine hK _ _ _ ?_); clear hK) | (with_reducible refine seq_step fun K hK => ?_) | (with_reducible refine block_step ?_) | ((with_reducible refine cond_t ?_ ?_); focus rfl) | ((with_reducible refine cond_f ?_ ?_); focus rfl) | ((with_reducible refine code_id ?_); conv => whnf) | (clear hK; (with_reducible refine hK _ _ _ ?_); clear hK) | (clear hK; clear hK; (with_reducible refine hK _ _ _ ?_); clear hK) | (clear hK; clear hK; clear hK; (with_reducible refine hK _ _ _ ?_); clear hK) | (clear hK; clear hK; clear hK; clear hK; (with_reducible refine hK _ _ _ ?_); clear hK) | (clear hK; clear hK; clear hK; clear hK; clear hK; (with_reducible refine hK _ _ _ ?_); clear hK) | (clear hK; clear hK; clear hK; clear hK; clear hK; clear hK; (with_reducible refine hK _ _ _ ?_); clear hK) | (clear hK; clear hK; clear hK; clear hK; clear hK; clear hK; clear hK; (with_reducible refine hK _ _ _ ?_); clear hK))
        exact ⟨(e + 1, g6), ⟨by show e + 1 ≤ 16; omega, hg6⟩, by show 16 - (e + 1) < 16 - e; omega, subE_cons rfl (subE_cons rfl (subE_cons rfl (subE_cons rfl (subE_cons rfl (subE_cons rfl (subE_cons (int_eq (by rw [hcs]; exact wrap_nat (by omega)) rfl) (subE_cons (int_eq (wrap_nat (by omega)) rfl) subE_nil))))))), subB_nil, rfl⟩
    · have he16 : e = 16 := by omega
      have hc16 : cntL A e = (liveL A).length := by rw [he16]; exact cntL_16 A
      rw [hc16]
      repeat (first | ((with_reducible refine hK _ _ _ ?_); clear hK) | (with_reducible refine seq_step fun K hK => ?_) | (with_reducible refine block_step ?_) | ((with_reducible refine cond_t ?_ ?_); focus rfl) | ((with_reducible refine cond_f ?_ ?_); focus rfl) | ((with_reducible refine code_id ?_); conv => whnf) | (clear hK; (with_reducible refine hK _ _ _ ?_); clear hK) | (clear hK; clear hK; (with_reducible refine hK _ _ _ ?_); clear hK) | (clear hK; clear hK; clear hK; (with_reducible refine hK _ _ _ ?_); clear hK) | (clear hK; clear hK; clear hK; clear hK; (with_reducible refine hK _ _ _ ?_); clear hK) | (clear hK; clear hK; clear hK; clear hK; clear hK; (with_reducible refine hK _ _ _ ?_); clear hK) | (clear hK; clear hK; clear hK; clear hK; clear hK; clear hK; (with_reducible refine hK _ _ _ ?_); clear hK) | (clear hK; clear hK; clear hK; clear hK; clear hK; clear hK; clear hK; (with_reducible refine hK _ _ _ ?_); clear hK))
      rw [show ((((liveL A).length : Nat) : Int) != (liveL A).length) = false from bne_self_eq_false _]
      conv => whnf
      refine opt_ld (hg3.pt 0 rfl) (v := iv last) (bk_last (lvG_len _) hpd.1) ?_
      conv => whnf
      rw [wrap_i64 (x := last + 1) (by omega) (by omega)]
      refine find54A hw (last + 1) hg2 fun g6 hg6 => ?_
      rw [find_no hw (by omega)]
      conv => whnf
      repeat (first | ((with_reducible refine hK _ _ _ ?_); clear hK) | (with_reducible refine seq_step fun K hK => ?_) | (with_reducible refine block_step ?_) | ((with_reducible refine cond_t ?_ ?_); focus rfl) | ((with_reducible refine cond_f ?_ ?_); focus rfl) | ((with_reducible refine code_id ?_); conv => whnf) | (clear hK; (with_reducible refine hK _ _ _ ?_); clear hK) | (clear hK; clear hK; (with_reducible refine hK _ _ _ ?_); clear hK) | (clear hK; clear hK; clear hK; (with_reducible refine hK _ _ _ ?_); clear hK) | (clear hK; clear hK; clear hK; clear hK; (with_reducible refine hK _ _ _ ?_); clear hK) | (clear hK; clear hK; clear hK; clear hK; clear hK; (with_reducible refine hK _ _ _ ?_); clear hK) | (clear hK; clear hK; clear hK; clear hK; clear hK; clear hK; (with_reducible refine hK _ _ _ ?_); clear hK) | (clear hK; clear hK; clear hK; clear hK; clear hK; clear hK; clear hK; (with_reducible refine hK _ _ _ ?_); clear hK))
      have hgo : Has (EnvA t A last :: BkP b A last :: Is h :: []) g6 := ((hg6.erase 1).erase 1)
      refine cond_dec (fun hlt3 => ?_) (fun hge3 => ?_)
      · have hil2 : i < len := by omega
        obtain ⟨o, bk, off, c, ty, z, ho, hregs, rfl, hb0, hrd, hkd, hnn⟩ := hR.at hil2
        have hb : g6 bk = some (.cells c ty z) := hgo.is 2 rfl bk _ hb0
        have ei : ((i : Int)).toNat = i := Int.toNat_natCast i
        have hst : 3 ≤ (step A last o).2 ∧ (step A last o).2 ≤ 4611686018427387903 := by
          rcases step_last A last o with e | ⟨e, hk, h1, h2⟩
          · rw [e]; exact ⟨hl3, hlm⟩
          · rw [e]; exact ⟨by omega, h2⟩
        repeat (first | ((with_reducible refine hK _ _ _ ?_); clear hK) | (with_reducible refine seq_step fun K hK => ?_) | (with_reducible refine block_step ?_) | ((with_reducible refine cond_t ?_ ?_); focus rfl) | ((with_reducible refine cond_f ?_ ?_); focus rfl) | ((with_reducible refine code_id ?_); conv => whnf) | (clear hK; (with_reducible refine hK _ _ _ ?_); clear hK) | (clear hK; clear hK; (with_reducible refine hK _ _ _ ?_); clear hK) | (clear hK; clear hK; clear hK; (with_reducible refine hK _ _ _ ?_); clear hK) | (clear hK; clear hK; clear hK; clear hK; (with_reducible refine hK _ _ _ ?_); clear hK) | (clear hK; clear hK; clear hK; clear hK; clear hK; (with_reducible refine hK _ _ _ ?_); clear hK) | (clear hK; clear hK; clear hK; clear hK; clear hK; clear hK; (with_reducible refine hK _ _ _ ?_); clear hK) | (clear hK; clear hK; clear hK; clear hK; clear hK; clear hK; clear hK; (with_reducible refine hK _ _ _ ?_); clear hK))
        refine opt_if ⟨by omega, by omega⟩ ?_
        conv => whnf
        refine opt_ld hb (v := .agg (opC o).toArray) (by rw [ei]; exact hrd) ?_
        conv => whnf
        refine noted20 hw o hregs hgo fun g7 hg7 => ?_
        have hw1 := hw.step o hregs
        conv => whnf
        repeat (first | ((with_reducible refine hK _ _ _ ?_); clear hK) | (with_reducible refine seq_step fun K hK => ?_) | (with_reducible refine block_step ?_) | ((with_reducible refine cond_t ?_ ?_); focus rfl) | ((with_reducible refine cond_f ?_ ?_); focus rfl) | ((with_reducible refine code_id ?_); conv => whnf) | (clear hK; (with_reducible refine hK _ _ _ ?_); clear hK) | (clear hK; clear hK; (with_reducible refine hK _ _ _ ?_); clear hK) | (clear hK; clear hK; clear hK; (with_reducible refine hK _ _ _ ?_); clear hK) | (clear hK; clear hK; clear hK; clear hK; (with_reducible refine hK _ _ _ ?_); clear hK) | (clear hK; clear hK; clear hK; clear hK; clear hK; (with_reducible refine hK _ _ _ ?_); clear hK) | (clear hK; clear hK; clear hK; clear hK; clear hK; clear hK; (with_reducible refine hK _ _ _ ?_); clear hK) | (clear hK; clear hK; clear hK; clear hK; clear hK; clear hK; clear hK; (with_reducible refine hK _ _ _ ?_); clear hK))
        exact ⟨((i + 1, _, _), g7), ⟨show i + 1 ≤ len + 1 by omega, hw1, hst.1, hst.2, hg7⟩, show len + 1 - (i + 1) < len + 1 - i by omega, subE_cons rfl (subE_cons rfl (subE_cons rfl (subE_cons (int_eq (wrap_nat (by omega)) rfl) subE_nil))), subB_nil, rfl⟩
      · repeat (first | ((with_reducible refine hK _ _ _ ?_); clear hK) | (with_reducible refine seq_step fun K hK => ?_) | (with_reducible refine block_step ?_) | ((with_reducible refine cond_t ?_ ?_); focus rfl) | ((with_reducible refine cond_f ?_ ?_); focus rfl) | ((with_reducible refine code_id ?_); conv => whnf) | (clear hK; (with_reducible refine hK _ _ _ ?_); clear hK) | (clear hK; clear hK; (with_reducible refine hK _ _ _ ?_); clear hK) | (clear hK; clear hK; clear hK; (with_reducible refine hK _ _ _ ?_); clear hK) | (clear hK; clear hK; clear hK; clear hK; (with_reducible refine hK _ _ _ ?_); clear hK) | (clear hK; clear hK; clear hK; clear hK; clear hK; (with_reducible refine hK _ _ _ ?_); clear hK) | (clear hK; clear hK; clear hK; clear hK; clear hK; clear hK; (with_reducible refine hK _ _ _ ?_); clear hK) | (clear hK; clear hK; clear hK; clear hK; clear hK; clear hK; clear hK; (with_reducible refine hK _ _ _ ?_); clear hK))
        exact ⟨((i + 1, A, last), g6), ⟨show i + 1 ≤ len + 1 by omega, hw, hl3, hlm, hgo⟩, show len + 1 - (i + 1) < len + 1 - i by omega, subE_cons rfl (subE_cons rfl (subE_cons rfl (subE_cons (int_eq (wrap_nat (by omega)) rfl) subE_nil))), subB_nil, rfl⟩
  · repeat (first | ((with_reducible refine hK _ _ _ ?_); clear hK) | (with_reducible refine seq_step fun K hK => ?_) | (with_reducible refine block_step ?_) | ((with_reducible refine cond_t ?_ ?_); focus rfl) | ((with_reducible refine cond_f ?_ ?_); focus rfl) | ((with_reducible refine code_id ?_); conv => whnf) | (clear hK; (with_reducible refine hK _ _ _ ?_); clear hK) | (clear hK; clear hK; (with_reducible refine hK _ _ _ ?_); clear hK) | (clear hK; clear hK; clear hK; (with_reducible refine hK _ _ _ ?_); clear hK) | (clear hK; clear hK; clear hK; clear hK; (with_reducible refine hK _ _ _ ?_); clear hK) | (clear hK; clear hK; clear hK; clear hK; clear hK; (with_reducible refine hK _ _ _ ?_); clear hK) | (clear hK; clear hK; clear hK; clear hK; clear hK; clear hK; (with_reducible refine hK _ _ _ ?_); clear hK) | (clear hK; clear hK; clear hK; clear hK; clear hK; clear hK; clear hK; (with_reducible refine hK _ _ _ ?_); clear hK))
    exact hq _ (hg.is 2 rfl)

end
end Go.Proofs.Ytljenppmdhldbaa.V
