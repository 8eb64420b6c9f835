/- Seat 08: List and Shut. -/
import Derived.Test.YthpkgkoojhgedaaDoorK23
namespace Go.Proofs.YthpkgkoojhgedaaDoor.V
set_option linter.unusedVariables false
set_option linter.unusedSimpArgs false
set_option linter.unusedSectionVars false
set_option linter.unusedSectionVars false
open Go

/-- What lies in list n at slots below c. -/
def lsTo (S : Bs) (n c : Nat) : List Hd := (List.range c).filterMap fun s => (atP S (n * 48 + s)).map hdOf
def lsOf (S : Bs) (n : Nat) : List Hd := lsTo S n 48

theorem lsTo_le (S : Bs) (n c : Nat) : (lsTo S n c).length ≤ c := by
  unfold lsTo
  have := List.length_filterMap_le (fun s => (atP S (n * 48 + s)).map hdOf) (List.range c)
  rwa [List.length_range] at this

theorem lsTo_succ (S : Bs) (n c : Nat) : lsTo S n (c + 1) = lsTo S n c ++ (match atP S (n * 48 + c) with | some x => [hdOf x] | none => []) := by
  unfold lsTo
  rw [List.range_succ, List.filterMap_append]
  congr 1
  cases h : atP S (n * 48 + c) with
  | none => simp [h]
  | some x => simp [h]

def LsX (b7 : Nat) (l : List Hd) : As := fun h => ∃ s, Has [Pt b7 (.cells #[s] 41 (0, 0)), HsP s l] h

section
variable {h : Hp} {Q : Value → Hp → Prop} {L : List As} {b : Nat} {S : Bs}

theorem LsX.opn {b7 : Nat} {l : List Hd} (hh : Has (LsX b7 l :: L) h) : ∃ s, Has (Pt b7 (.cells #[s] 41 (0, 0)) :: HsP s l :: L) h := by
  obtain ⟨h1, h2, e, ap, ⟨s, hs⟩, hL⟩ := hh
  exact ⟨s, Has.flat (L1 := [_, _]) ⟨h1, h2, e, ap, hs, hL⟩⟩
theorem LsX.cls {b7 : Nat} {l : List Hd} {s : Value} (hh : Has (Pt b7 (.cells #[s] 41 (0, 0)) :: HsP s l :: L) h) : Has (LsX b7 l :: L) h := by
  obtain ⟨h1, h2, e, ap, hs, hL⟩ := Has.group (L1 := [_, _]) hh
  exact ⟨h1, h2, e, ap, ⟨s, hs⟩, hL⟩

set_option maxRecDepth 100000 in
set_option maxHeartbeats 2000000 in
theorem list23 (hw : WF S) (hh : Has (CapsA b S :: L) h) (e : Int) (h1 : got S.tb e = none → Q (.tuple #[.slice none 0 0, iv 83]) h)
    (h2 : ∀ n : Nat, e = n → isOpen S.tb e = true → ∀ s h', Has (HsP s (lsOf S n) :: CapsA b S :: L) h' → Q (.tuple #[s, iv 0]) h') : Ok PR 23 [ptr b, iv e] h Q := by
  have hr := CapsA.rd0 hh
  refine e23 rfl (seq_step fun K hK => ?_)
  repeat (first | ((with_reducible refine hK _ _ _ ?_); clear hK) | (with_reducible refine seq_step fun K hK => ?_) | (with_reducible refine block_step ?_) | ((with_reducible refine cond_t ?_ ?_); focus rfl) | ((with_reducible refine cond_f ?_ ?_); focus rfl) | ((with_reducible refine code_id ?_); conv => whnf) | (clear hK; (with_reducible refine hK _ _ _ ?_); clear hK) | (clear hK; clear hK; (with_reducible refine hK _ _ _ ?_); clear hK) | (clear hK; clear hK; clear hK; (with_reducible refine hK _ _ _ ?_); clear hK) | (clear hK; clear hK; clear hK; clear hK; (with_reducible refine hK _ _ _ ?_); clear hK) | (clear hK; clear hK; clear hK; clear hK; clear hK; (with_reducible refine hK _ _ _ ?_); clear hK) | (clear hK; clear hK; clear hK; clear hK; clear hK; clear hK; (with_reducible refine hK _ _ _ ?_); clear hK) | (clear hK; clear hK; clear hK; clear hK; clear hK; clear hK; clear hK; (with_reducible refine hK _ _ _ ?_); clear hK))
  refine list37 hr hw.len e ?_
  cases hge : got S.tb e with
  | none =>
    conv => whnf
    repeat (first | ((with_reducible refine hK _ _ _ ?_); clear hK) | (with_reducible refine seq_step fun K hK => ?_) | (with_reducible refine block_step ?_) | ((with_reducible refine cond_t ?_ ?_); focus rfl) | ((with_reducible refine cond_f ?_ ?_); focus rfl) | ((with_reducible refine code_id ?_); conv => whnf) | (clear hK; (with_reducible refine hK _ _ _ ?_); clear hK) | (clear hK; clear hK; (with_reducible refine hK _ _ _ ?_); clear hK) | (clear hK; clear hK; clear hK; (with_reducible refine hK _ _ _ ?_); clear hK) | (clear hK; clear hK; clear hK; clear hK; (with_reducible refine hK _ _ _ ?_); clear hK) | (clear hK; clear hK; clear hK; clear hK; clear hK; (with_reducible refine hK _ _ _ ?_); clear hK) | (clear hK; clear hK; clear hK; clear hK; clear hK; clear hK; (with_reducible refine hK _ _ _ ?_); clear hK) | (clear hK; clear hK; clear hK; clear hK; clear hK; clear hK; clear hK; (with_reducible refine hK _ _ _ ?_); clear hK))
    exact h1 hge
  | some y =>
    obtain ⟨t, l0⟩ := y
    obtain ⟨n, rfl, ht0⟩ := got_at hge
    have hn16 : n < 16 := by rw [← hw.len]; exact (List.getElem?_eq_some_iff.1 ht0).1
    have hop : isOpen S.tb (n : Int) = true := by unfold isOpen; rw [hge]; rfl
    have hgt : (got S.tb (n : Int)).map (·.1) = some t := by rw [hge]; rfl
    conv => whnf
    repeat (first | ((with_reducible refine hK _ _ _ ?_); clear hK) | (with_reducible refine seq_step fun K hK => ?_) | (with_reducible refine block_step ?_) | ((with_reducible refine cond_t ?_ ?_); focus rfl) | ((with_reducible refine cond_f ?_ ?_); focus rfl) | ((with_reducible refine code_id ?_); conv => whnf) | (clear hK; (with_reducible refine hK _ _ _ ?_); clear hK) | (clear hK; clear hK; (with_reducible refine hK _ _ _ ?_); clear hK) | (clear hK; clear hK; clear hK; (with_reducible refine hK _ _ _ ?_); clear hK) | (clear hK; clear hK; clear hK; clear hK; (with_reducible refine hK _ _ _ ?_); clear hK) | (clear hK; clear hK; clear hK; clear hK; clear hK; (with_reducible refine hK _ _ _ ?_); clear hK) | (clear hK; clear hK; clear hK; clear hK; clear hK; clear hK; (with_reducible refine hK _ _ _ ?_); clear hK) | (clear hK; clear hK; clear hK; clear hK; clear hK; clear hK; clear hK; (with_reducible refine hK _ _ _ ?_); clear hK))
    refine fresh_has hh fun b7 h3 _ _ _ hh3 => ?_
    conv => whnf
    repeat (first | ((with_reducible refine hK _ _ _ ?_); clear hK) | (with_reducible refine seq_step fun K hK => ?_) | (with_reducible refine block_step ?_) | ((with_reducible refine cond_t ?_ ?_); focus rfl) | ((with_reducible refine cond_f ?_ ?_); focus rfl) | ((with_reducible refine code_id ?_); conv => whnf) | (clear hK; (with_reducible refine hK _ _ _ ?_); clear hK) | (clear hK; clear hK; (with_reducible refine hK _ _ _ ?_); clear hK) | (clear hK; clear hK; clear hK; (with_reducible refine hK _ _ _ ?_); clear hK) | (clear hK; clear hK; clear hK; clear hK; (with_reducible refine hK _ _ _ ?_); clear hK) | (clear hK; clear hK; clear hK; clear hK; clear hK; (with_reducible refine hK _ _ _ ?_); clear hK) | (clear hK; clear hK; clear hK; clear hK; clear hK; clear hK; (with_reducible refine hK _ _ _ ?_); clear hK) | (clear hK; clear hK; clear hK; clear hK; clear hK; clear hK; clear hK; (with_reducible refine hK _ _ _ ?_); clear hK))
    refine tallH hh3 fun b4 g2 hg2 _ _ => ?_
    conv => whnf
    repeat (first | ((with_reducible refine hK _ _ _ ?_); clear hK) | (with_reducible refine seq_step fun K hK => ?_) | (with_reducible refine block_step ?_) | ((with_reducible refine cond_t ?_ ?_); focus rfl) | ((with_reducible refine cond_f ?_ ?_); focus rfl) | ((with_reducible refine code_id ?_); conv => whnf) | (clear hK; (with_reducible refine hK _ _ _ ?_); clear hK) | (clear hK; clear hK; (with_reducible refine hK _ _ _ ?_); clear hK) | (clear hK; clear hK; clear hK; (with_reducible refine hK _ _ _ ?_); clear hK) | (clear hK; clear hK; clear hK; clear hK; (with_reducible refine hK _ _ _ ?_); clear hK) | (clear hK; clear hK; clear hK; clear hK; clear hK; (with_reducible refine hK _ _ _ ?_); clear hK) | (clear hK; clear hK; clear hK; clear hK; clear hK; clear hK; (with_reducible refine hK _ _ _ ?_); clear hK) | (clear hK; clear hK; clear hK; clear hK; clear hK; clear hK; clear hK; (with_reducible refine hK _ _ _ ?_); clear hK))
    obtain ⟨Sp, hSp⟩ : ∃ Sp : Nat → Bs, Sp = fun _ => S := ⟨_, rfl⟩
    obtain ⟨X, hX⟩ : ∃ X : Nat → As, X = fun p => LsX b7 (lsTo S n (p - n * 48)) := ⟨_, rfl⟩
    have hSp0 : Sp 0 = S := by rw [hSp]
    have hsp : Swp b Sp X := ⟨fun p => by rw [hSp]; exact hw, fun p => by rw [hSp], fun p hp hno => ⟨by rw [hSp], by
      rw [hSp] at hno
      rw [hX]
      dsimp only
      by_cases hpn : n * 48 ≤ p
      · rw [show p + 1 - n * 48 = (p - n * 48) + 1 by omega, lsTo_succ, show n * 48 + (p - n * 48) = p by omega, atP_none hno, List.append_nil]
      · rw [show p + 1 - n * 48 = p - n * 48 by omega]⟩⟩
    have hg2 : Has (Pt b4 (.cells #[ptr t] 77 (0, 0)) :: CapsA b (Sp (n * 48 + 0)) :: X (n * 48 + 0) :: L) g2 := by
      rw [hSp, hX]
      dsimp only
      rw [show n * 48 + 0 - n * 48 = 0 by omega]
      refine hg2.map_tail fun g hg => ((LsX.cls (l := []) (s := .slice none 0 0) (hg.map_tail fun g hg => hg.nilW 6)).swap)
    refine rf_intro trivial callableAll fun r R hr hR hY => ?_
    have hg3 := hg2.new hr (o := R .ready)
    have htab : ∀ p, ∃ l, got (Sp p).tb (n : Int) = some (t, l) ∧ (Sp p).tb[n]? = some (some (t, l)) := fun p => by
      have h1 := hsp.tab p hn16
      rw [hSp0, hgt] at h1
      obtain ⟨⟨t', l⟩, hx, ht⟩ := Option.map_eq_some_iff.1 h1
      obtain rfl : t' = t := ht
      obtain ⟨n', e1, e2⟩ := got_at hx
      obtain rfl : n = n' := by omega
      exact ⟨l, hx, e2⟩
    have hsk : ∀ p q, n * 48 ≤ p → p ≤ q → q ≤ n * 48 + 48 → (∀ c ∈ (Sp p).cs, c.env = n → ¬ (p ≤ n * 48 + c.slot ∧ n * 48 + c.slot < q)) → Sp q = Sp p ∧ X q = X p := fun p q h1 h2 h3 h4 =>
      hsp.skip h2 (by omega) fun c hc h => by
        have := pos_lt (hsp.wf p) hc
        unfold posC at h
        have : c.env = n := by omega
        exact h4 c hc this (by rw [this] at h; exact h)
    refine Ok.mono (twalk (p := t) (ty := 77) (Qd := fun h' => Has (Pt r (R .ready) :: Pt b4 (.cells #[ptr t] 77 (0, 0)) :: CapsA b (Sp (n * 48 + 48)) :: X (n * 48 + 48) :: L) h')
      (fun c h' => 0 ≤ c ∧ c ≤ 48 ∧ Has (Pt r (R .ready) :: Pt b4 (.cells #[ptr t] 77 (0, 0)) :: CapsA b (Sp (n * 48 + c.toNat)) :: X (n * 48 + c.toNat) :: L) h')
      (fun c g4 ⟨hc0, hc48, hg4⟩ => ?_) ⟨Int.le_refl _, by decide, hg3⟩) ?_
    · obtain ⟨l, hgl, htl⟩ := htab (n * 48 + c.toNat)
      have hwc := hsp.wf (n * 48 + c.toNat)
      have hll := hwc.tl htl
      refine ⟨hc0, hg4.pt 1 rfl, l, (CapsA.rd hg4 2 rfl).tab htl, fun hn => ?_, fun j v hj hv => ?_⟩
      · have hno : ∀ j : Nat, c ≤ j → j < l.length → l[j]? = some none := by
          rcases nextR_spec l c with ⟨_, h1⟩ | ⟨k, w, e, _⟩
          · exact h1
          · rw [hn] at e; omega
        obtain ⟨e1, e2⟩ := hsk (n * 48 + c.toNat) (n * 48 + 48) (by omega) (by omega) (Nat.le_refl _) fun x hx h1 h2 => by
          have h3 := hwc.taken htl hx h1
          rw [hno x.slot (by omega) (by omega)] at h3
          cases h3
        rw [e1, e2]; exact hg4
      · obtain ⟨hcj, hno⟩ : c ≤ (j : Int) ∧ ∀ i : Nat, c ≤ i → i < j → l[i]? = some none := by
          rcases nextR_spec l c with ⟨e, _⟩ | ⟨k2, w2, e, h1, h2, h3⟩
          · rw [hj] at e; omega
          · rw [hj] at e
            have : k2 = j := by omega
            subst this
            exact ⟨h1, h2⟩
        have hj48 : j < 48 := by have := (List.getElem?_eq_some_iff.1 hv).1; omega
        obtain ⟨e1, e2⟩ := hsk (n * 48 + c.toNat) (n * 48 + j) (by omega) (by omega) (by omega) fun x hx h1 h2 => by
          have h3 := hwc.taken htl hx h1
          rw [hno x.slot (by omega) (by omega)] at h3
          cases h3
        obtain ⟨x, hx, x1, x2, x3⟩ := hwc.t1 htl hv
        rw [← e1] at hx
        have hg5 : Has (Pt r (R .ready) :: Pt b4 (.cells #[ptr t] 77 (0, 0)) :: CapsA b (Sp (n * 48 + j)) :: X (n * 48 + j) :: L) g4 := by rw [e1, e2]; exact hg4
        subst x1
        have hpx : posC x = n * 48 + j := by unfold posC; omega
        refine hY _ g4 _ rfl (hg5.pt 0 rfl) ?_
        conv => whnf
        refine ⟨hg5.pt 0 rfl, ?_⟩
        have hg6 := hg5.st 0 rfl (R .busy)
        conv => whnf
        rw [hX] at hg6
        dsimp only at hg6
        obtain ⟨sc, hcc, _⟩ := (CapsA.rd hg6 2 rfl).cell x hx
        obtain ⟨s, hg7⟩ := LsX.opn (hg6.pull 3 rfl)
        obtain ⟨bs, cs, hs⟩ := hg7.slv 1 rfl
        subst hs
        repeat (first | ((with_reducible refine hK _ _ _ ?_); clear hK) | (with_reducible refine seq_step fun K hK => ?_) | (with_reducible refine block_step ?_) | ((with_reducible refine cond_t ?_ ?_); focus rfl) | ((with_reducible refine cond_f ?_ ?_); focus rfl) | ((with_reducible refine code_id ?_); conv => whnf) | (clear hK; (with_reducible refine hK _ _ _ ?_); clear hK) | (clear hK; clear hK; (with_reducible refine hK _ _ _ ?_); clear hK) | (clear hK; clear hK; clear hK; (with_reducible refine hK _ _ _ ?_); clear hK) | (clear hK; clear hK; clear hK; clear hK; (with_reducible refine hK _ _ _ ?_); clear hK) | (clear hK; clear hK; clear hK; clear hK; clear hK; (with_reducible refine hK _ _ _ ?_); clear hK) | (clear hK; clear hK; clear hK; clear hK; clear hK; clear hK; (with_reducible refine hK _ _ _ ?_); clear hK) | (clear hK; clear hK; clear hK; clear hK; clear hK; clear hK; clear hK; (with_reducible refine hK _ _ _ ?_); clear hK) | (refine ⟨_, _, SubH.refl _, SubB.refl _, ?_⟩; conv => whnf) | (refine ⟨⟨SubH.refl _, SubB.refl _⟩, ?_⟩; conv => whnf) | (refine ⟨_, _, ⟨SubH.refl _, SubB.refl _⟩, SubH.refl _, SubB.refl _, ?_⟩; conv => whnf))
        refine opt_ld (hg7.pt 0 rfl) (v := .slice bs (lsTo S n (n * 48 + j - n * 48)).length cs) rfl ?_
        conv => whnf
        refine held50 hcc ?_
        conv => whnf
        refine ⟨_, _, ⟨SubH.refl _, SubB.refl _⟩, SubH.refl _, SubB.refl _, ?_⟩
        conv => whnf
        refine fresh_has hg7 fun b8 g8 _ _ hs8 hg8 => ?_
        conv => whnf
        refine ⟨⟨hs8, SubB.refl _⟩, ?_⟩
        conv => whnf
        refine app1h (x := hdOf x) (hg8.map_tail fun g hg => hg.swap) (by have := lsTo_le S n (n * 48 + j - n * 48); omega) fun s9 g9 hg9 => ?_
        obtain ⟨b9, c9, hs9⟩ := hg9.slv 0 rfl
        subst hs9
        conv => whnf
        refine st_has hg9 1 rfl rfl (show 0 + 1 ≤ 1 by decide) rfl fun g10 _ _ hg10 => ?_
        conv => whnf
        repeat (first | ((with_reducible refine hK _ _ _ ?_); clear hK) | (with_reducible refine seq_step fun K hK => ?_) | (with_reducible refine block_step ?_) | ((with_reducible refine cond_t ?_ ?_); focus rfl) | ((with_reducible refine cond_f ?_ ?_); focus rfl) | ((with_reducible refine code_id ?_); conv => whnf) | (clear hK; (with_reducible refine hK _ _ _ ?_); clear hK) | (clear hK; clear hK; (with_reducible refine hK _ _ _ ?_); clear hK) | (clear hK; clear hK; clear hK; (with_reducible refine hK _ _ _ ?_); clear hK) | (clear hK; clear hK; clear hK; clear hK; (with_reducible refine hK _ _ _ ?_); clear hK) | (clear hK; clear hK; clear hK; clear hK; clear hK; (with_reducible refine hK _ _ _ ?_); clear hK) | (clear hK; clear hK; clear hK; clear hK; clear hK; clear hK; (with_reducible refine hK _ _ _ ?_); clear hK) | (clear hK; clear hK; clear hK; clear hK; clear hK; clear hK; clear hK; (with_reducible refine hK _ _ _ ?_); clear hK) | (refine ⟨_, _, SubH.refl _, SubB.refl _, ?_⟩; conv => whnf) | (refine ⟨⟨SubH.refl _, SubB.refl _⟩, ?_⟩; conv => whnf) | (refine ⟨_, _, ⟨SubH.refl _, SubB.refl _⟩, SubH.refl _, SubB.refl _, ?_⟩; conv => whnf))
        have hfin : Has (Pt r (R .busy) :: Pt b4 (.cells #[ptr t] 77 (0, 0)) :: CapsA b (Sp (n * 48 + j + 1)) :: X (n * 48 + j + 1) :: L) g10 := by
          rw [hSp] at hg10 hx ⊢
          rw [hX]
          dsimp only at hg10 ⊢
          have ha := atP_some hw hx
          rw [hpx] at ha
          rw [show n * 48 + j + 1 - n * 48 = (n * 48 + j - n * 48) + 1 by omega, lsTo_succ, show n * 48 + (n * 48 + j - n * 48) = n * 48 + j by omega, ha]
          dsimp only
          have h4 := LsX.cls (b7 := b7) (hg10.pull 1 rfl)
          exact (h4.pull 1 rfl).map_tail fun g hg => (hg.pull 1 rfl).map_tail fun g hg => hg.swap
        refine ⟨hfin.pt 0 rfl, .inl ⟨rfl, by omega, by omega, ?_⟩⟩
        have hg12 := hfin.st 0 rfl (R .ready)
        rw [show n * 48 + ((j : Int) + 1).toNat = n * 48 + j + 1 by omega]
        exact hg12
    · rintro v' h' hg4
      refine ⟨.ready, hg4.pt 0 rfl, fun o => ?_⟩
      have hg5 := hg4.st 0 rfl o
      rw [hX, hSp] at hg5
      dsimp only at hg5
      rw [show n * 48 + 48 - n * 48 = 48 by omega] at hg5
      obtain ⟨s, hg6⟩ := LsX.opn (hg5.pull 3 rfl)
      repeat (first | ((with_reducible refine hK _ _ _ ?_); clear hK) | (with_reducible refine seq_step fun K hK => ?_) | (with_reducible refine block_step ?_) | ((with_reducible refine cond_t ?_ ?_); focus rfl) | ((with_reducible refine cond_f ?_ ?_); focus rfl) | ((with_reducible refine code_id ?_); conv => whnf) | (clear hK; (with_reducible refine hK _ _ _ ?_); clear hK) | (clear hK; clear hK; (with_reducible refine hK _ _ _ ?_); clear hK) | (clear hK; clear hK; clear hK; (with_reducible refine hK _ _ _ ?_); clear hK) | (clear hK; clear hK; clear hK; clear hK; (with_reducible refine hK _ _ _ ?_); clear hK) | (clear hK; clear hK; clear hK; clear hK; clear hK; (with_reducible refine hK _ _ _ ?_); clear hK) | (clear hK; clear hK; clear hK; clear hK; clear hK; clear hK; (with_reducible refine hK _ _ _ ?_); clear hK) | (clear hK; clear hK; clear hK; clear hK; clear hK; clear hK; clear hK; (with_reducible refine hK _ _ _ ?_); clear hK))
      refine opt_ld (hg6.pt 0 rfl) (v := s) rfl ?_
      conv => whnf
      repeat (first | ((with_reducible refine hK _ _ _ ?_); clear hK) | (with_reducible refine seq_step fun K hK => ?_) | (with_reducible refine block_step ?_) | ((with_reducible refine cond_t ?_ ?_); focus rfl) | ((with_reducible refine cond_f ?_ ?_); focus rfl) | ((with_reducible refine code_id ?_); conv => whnf) | (clear hK; (with_reducible refine hK _ _ _ ?_); clear hK) | (clear hK; clear hK; (with_reducible refine hK _ _ _ ?_); clear hK) | (clear hK; clear hK; clear hK; (with_reducible refine hK _ _ _ ?_); clear hK) | (clear hK; clear hK; clear hK; clear hK; (with_reducible refine hK _ _ _ ?_); clear hK) | (clear hK; clear hK; clear hK; clear hK; clear hK; (with_reducible refine hK _ _ _ ?_); clear hK) | (clear hK; clear hK; clear hK; clear hK; clear hK; clear hK; (with_reducible refine hK _ _ _ ?_); clear hK) | (clear hK; clear hK; clear hK; clear hK; clear hK; clear hK; clear hK; (with_reducible refine hK _ _ _ ?_); clear hK))
      exact h2 n rfl hop s _ (hg6.tail.map_tail fun g hg => hg.tail.tail)

end
end Go.Proofs.YthpkgkoojhgedaaDoor.V
