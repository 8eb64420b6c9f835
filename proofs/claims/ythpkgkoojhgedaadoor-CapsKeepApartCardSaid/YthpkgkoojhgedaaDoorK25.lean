/- Seat 08: Shut. -/
import Derived.Test.YthpkgkoojhgedaaDoorK24
namespace Go.Proofs.YthpkgkoojhgedaaDoor.V
set_option linter.unusedVariables false
set_option linter.unusedSimpArgs false
set_option linter.unusedSectionVars false
set_option linter.unusedSectionVars false
open Go

def inE (n : Nat) (c : Ce) : Bool := decide (c.env = n)
theorem inE_sim (n : Nat) : ∀ c d, Sim c d → inE n c = inE n d := fun c d h => by unfold inE; rw [h.2.1]

theorem sw_skip {m : Ce → Bool} {S : Bs} (hw : WF S) : ∀ p, (∀ c ∈ S.cs, posC c < p → m c = false) → sw m S p = S ∧ swL m S p = []
  | 0, _ => ⟨rfl, rfl⟩
  | p + 1, h => by
    obtain ⟨e1, e2⟩ := sw_skip hw p fun c hc hp => h c hc (by omega)
    have g1 : sw m S (p + 1) = sw1 m (sw m S p) p := rfl
    have g2 : swL m S (p + 1) = swL m S p ++ (match atP (sw m S p) p with | some c => if m c then [c] else [] | none => []) := rfl
    rw [g1, g2, e1, e2]
    unfold sw1
    cases ha : atP S p with
    | none => exact ⟨rfl, rfl⟩
    | some c =>
      obtain ⟨hc, hp⟩ := atP_spec ha
      dsimp only
      rw [h c hc (by omega)]
      exact ⟨rfl, rfl⟩

/-- A list shut. -/
def shut (S : Bs) (n : Nat) : Bs := ⟨(sw (inE n) S (n * 48 + 48)).tb.set n none, (sw (inE n) S (n * 48 + 48)).cs⟩

theorem shut_noP {S : Bs} (hw : WF S) (n P : Nat) (hP : P = n * 48 + 48) : ∀ c ∈ (sw (inE n) S P).cs, c.env ≠ n := fun c hc e => by
  obtain ⟨d, hd, hs, hn⟩ := (sw_cells (m := inE n) hw (inE_sim n) P).1 c hc
  have h1 := pos_lt (hw.sw (m := inE n) P) hc
  refine hn ⟨?_, decide_eq_true (by rw [← hs.2.1]; exact e)⟩
  rw [← hs.pos, hP]
  unfold posC
  rw [e]; omega
theorem shut_no {S : Bs} (hw : WF S) (n : Nat) : ∀ c ∈ (sw (inE n) S (n * 48 + 48)).cs, c.env ≠ n := shut_noP hw n _ rfl

theorem WF.shutG {S : Bs} (h : WF S) (n : Nat) (hno : ∀ c ∈ S.cs, c.env ≠ n) : WF ⟨S.tb.set n none, S.cs⟩ := by
  refine ⟨by show (List.set _ _ _).length = _; rw [List.length_set]; exact h.len, fun {e t l} he => ?_, fun {e t l s a} he hl => ?_, fun c hc => ?_, h.nda, h.k1, h.k2, h.ndk, h.ord, h.okc, h.up⟩
  · replace he : (List.set _ n none)[e]? = _ := he
    rw [List.getElem?_set] at he
    split at he
    · split at he <;> cases he
    · exact h.tl he
  · replace he : (List.set _ n none)[e]? = _ := he
    rw [List.getElem?_set] at he
    split at he
    · split at he <;> cases he
    · exact h.t1 he hl
  · obtain ⟨t, l, a1, a2⟩ := h.t2 c hc
    refine ⟨t, l, ?_, a2⟩
    show (List.set _ n none)[c.env]? = _
    rw [List.getElem?_set_ne (fun e => hno c hc e.symm)]
    exact a1
theorem WF.shut {S : Bs} (hw : WF S) (n : Nat) : WF (shut S n) := WF.shutG (hw.sw (m := inE n) (n * 48 + 48)) n (shut_no hw n)

def ShX (b b2 b7 : Nat) (l : List Hd) : As := fun h => ∃ s, Has [Pt b7 (.cells #[s] 41 (0, 0)), HsP s l, Pt b2 (.cells #[ptr b] 23 (0, 0))] h

section
variable {h : Hp} {Q : Value → Hp → Prop} {L : List As} {b : Nat} {S : Bs}

theorem ShX.opn {b2 b7 : Nat} {l : List Hd} (hh : Has (ShX b b2 b7 l :: L) h) : ∃ s, Has (Pt b7 (.cells #[s] 41 (0, 0)) :: HsP s l :: Pt b2 (.cells #[ptr b] 23 (0, 0)) :: L) h := by
  obtain ⟨h1, h2, e, ap, ⟨s, hs⟩, hL⟩ := hh
  exact ⟨s, Has.flat (L1 := [_, _, _]) ⟨h1, h2, e, ap, hs, hL⟩⟩
theorem ShX.cls {b2 b7 : Nat} {l : List Hd} {s : Value} (hh : Has (Pt b7 (.cells #[s] 41 (0, 0)) :: HsP s l :: Pt b2 (.cells #[ptr b] 23 (0, 0)) :: L) h) : Has (ShX b b2 b7 l :: L) h := by
  obtain ⟨h1, h2, e, ap, hs, hL⟩ := Has.group (L1 := [_, _, _]) hh
  exact ⟨h1, h2, e, ap, ⟨s, hs⟩, hL⟩

set_option maxRecDepth 100000 in
set_option maxHeartbeats 2000000 in
theorem shut42 (hw : WF S) (hh : Has (CapsA b S :: L) h) (e : Int) (h1 : got S.tb e = none → ∀ h', Has (CapsA b S :: L) h' → Q (.tuple #[.slice none 0 0, iv 83]) h')
    (h2 : ∀ n : Nat, e = n → n < 16 → isOpen S.tb e = true → ∀ s h', Has (CapsA b (shut S n) :: HsP s ((swL (inE n) S (n * 48 + 48)).map hdOf) :: L) h' → Q (.tuple #[s, iv 0]) h') : Ok PR 42 [ptr b, iv e] h Q := by
  refine e42 rfl (seq_step fun K hK => ?_)
  repeat (first | ((with_reducible refine hK _ _ _ ?_); clear hK) | (with_reducible refine seq_step fun K hK => ?_) | (with_reducible refine block_step ?_) | ((with_reducible refine cond_t ?_ ?_); focus rfl) | ((with_reducible refine cond_f ?_ ?_); focus rfl) | ((with_reducible refine code_id ?_); conv => whnf) | (clear hK; (with_reducible refine hK _ _ _ ?_); clear hK) | (clear hK; clear hK; (with_reducible refine hK _ _ _ ?_); clear hK) | (clear hK; clear hK; clear hK; (with_reducible refine hK _ _ _ ?_); clear hK) | (clear hK; clear hK; clear hK; clear hK; (with_reducible refine hK _ _ _ ?_); clear hK) | (clear hK; clear hK; clear hK; clear hK; clear hK; (with_reducible refine hK _ _ _ ?_); clear hK) | (clear hK; clear hK; clear hK; clear hK; clear hK; clear hK; (with_reducible refine hK _ _ _ ?_); clear hK) | (clear hK; clear hK; clear hK; clear hK; clear hK; clear hK; clear hK; (with_reducible refine hK _ _ _ ?_); clear hK))
  refine fresh_has hh fun b2 h3 _ _ _ hh3 => ?_
  conv => whnf
  repeat (first | ((with_reducible refine hK _ _ _ ?_); clear hK) | (with_reducible refine seq_step fun K hK => ?_) | (with_reducible refine block_step ?_) | ((with_reducible refine cond_t ?_ ?_); focus rfl) | ((with_reducible refine cond_f ?_ ?_); focus rfl) | ((with_reducible refine code_id ?_); conv => whnf) | (clear hK; (with_reducible refine hK _ _ _ ?_); clear hK) | (clear hK; clear hK; (with_reducible refine hK _ _ _ ?_); clear hK) | (clear hK; clear hK; clear hK; (with_reducible refine hK _ _ _ ?_); clear hK) | (clear hK; clear hK; clear hK; clear hK; (with_reducible refine hK _ _ _ ?_); clear hK) | (clear hK; clear hK; clear hK; clear hK; clear hK; (with_reducible refine hK _ _ _ ?_); clear hK) | (clear hK; clear hK; clear hK; clear hK; clear hK; clear hK; (with_reducible refine hK _ _ _ ?_); clear hK) | (clear hK; clear hK; clear hK; clear hK; clear hK; clear hK; clear hK; (with_reducible refine hK _ _ _ ?_); clear hK))
  refine opt_ld (hh3.pt 0 rfl) (v := ptr b) rfl ?_
  conv => whnf
  refine list37 (CapsA.rd hh3 1 rfl) hw.len e ?_
  cases hge : got S.tb e with
  | none =>
    conv => whnf
    repeat (first | ((with_reducible refine hK _ _ _ ?_); clear hK) | (with_reducible refine seq_step fun K hK => ?_) | (with_reducible refine block_step ?_) | ((with_reducible refine cond_t ?_ ?_); focus rfl) | ((with_reducible refine cond_f ?_ ?_); focus rfl) | ((with_reducible refine code_id ?_); conv => whnf) | (clear hK; (with_reducible refine hK _ _ _ ?_); clear hK) | (clear hK; clear hK; (with_reducible refine hK _ _ _ ?_); clear hK) | (clear hK; clear hK; clear hK; (with_reducible refine hK _ _ _ ?_); clear hK) | (clear hK; clear hK; clear hK; clear hK; (with_reducible refine hK _ _ _ ?_); clear hK) | (clear hK; clear hK; clear hK; clear hK; clear hK; (with_reducible refine hK _ _ _ ?_); clear hK) | (clear hK; clear hK; clear hK; clear hK; clear hK; clear hK; (with_reducible refine hK _ _ _ ?_); clear hK) | (clear hK; clear hK; clear hK; clear hK; clear hK; clear hK; clear hK; (with_reducible refine hK _ _ _ ?_); clear hK))
    exact h1 hge _ hh3.tail
  | some y =>
    obtain ⟨t, l0⟩ := y
    obtain ⟨n, rfl, ht0⟩ := got_at hge
    have hn16 : n < 16 := by rw [← hw.len]; exact (List.getElem?_eq_some_iff.1 ht0).1
    have hop : isOpen S.tb (n : Int) = true := by unfold isOpen; rw [hge]; rfl
    have hgt : (got S.tb (n : Int)).map (·.1) = some t := by rw [hge]; rfl
    conv => whnf
    repeat (first | ((with_reducible refine hK _ _ _ ?_); clear hK) | (with_reducible refine seq_step fun K hK => ?_) | (with_reducible refine block_step ?_) | ((with_reducible refine cond_t ?_ ?_); focus rfl) | ((with_reducible refine cond_f ?_ ?_); focus rfl) | ((with_reducible refine code_id ?_); conv => whnf) | (clear hK; (with_reducible refine hK _ _ _ ?_); clear hK) | (clear hK; clear hK; (with_reducible refine hK _ _ _ ?_); clear hK) | (clear hK; clear hK; clear hK; (with_reducible refine hK _ _ _ ?_); clear hK) | (clear hK; clear hK; clear hK; clear hK; (with_reducible refine hK _ _ _ ?_); clear hK) | (clear hK; clear hK; clear hK; clear hK; clear hK; (with_reducible refine hK _ _ _ ?_); clear hK) | (clear hK; clear hK; clear hK; clear hK; clear hK; clear hK; (with_reducible refine hK _ _ _ ?_); clear hK) | (clear hK; clear hK; clear hK; clear hK; clear hK; clear hK; clear hK; (with_reducible refine hK _ _ _ ?_); clear hK))
    refine fresh_has hh3 fun b7 h5 _ _ _ hh5 => ?_
    conv => whnf
    repeat (first | ((with_reducible refine hK _ _ _ ?_); clear hK) | (with_reducible refine seq_step fun K hK => ?_) | (with_reducible refine block_step ?_) | ((with_reducible refine cond_t ?_ ?_); focus rfl) | ((with_reducible refine cond_f ?_ ?_); focus rfl) | ((with_reducible refine code_id ?_); conv => whnf) | (clear hK; (with_reducible refine hK _ _ _ ?_); clear hK) | (clear hK; clear hK; (with_reducible refine hK _ _ _ ?_); clear hK) | (clear hK; clear hK; clear hK; (with_reducible refine hK _ _ _ ?_); clear hK) | (clear hK; clear hK; clear hK; clear hK; (with_reducible refine hK _ _ _ ?_); clear hK) | (clear hK; clear hK; clear hK; clear hK; clear hK; (with_reducible refine hK _ _ _ ?_); clear hK) | (clear hK; clear hK; clear hK; clear hK; clear hK; clear hK; (with_reducible refine hK _ _ _ ?_); clear hK) | (clear hK; clear hK; clear hK; clear hK; clear hK; clear hK; clear hK; (with_reducible refine hK _ _ _ ?_); clear hK))
    refine tallH hh5 fun b4 g2 hg2 _ _ => ?_
    conv => whnf
    repeat (first | ((with_reducible refine hK _ _ _ ?_); clear hK) | (with_reducible refine seq_step fun K hK => ?_) | (with_reducible refine block_step ?_) | ((with_reducible refine cond_t ?_ ?_); focus rfl) | ((with_reducible refine cond_f ?_ ?_); focus rfl) | ((with_reducible refine code_id ?_); conv => whnf) | (clear hK; (with_reducible refine hK _ _ _ ?_); clear hK) | (clear hK; clear hK; (with_reducible refine hK _ _ _ ?_); clear hK) | (clear hK; clear hK; clear hK; (with_reducible refine hK _ _ _ ?_); clear hK) | (clear hK; clear hK; clear hK; clear hK; (with_reducible refine hK _ _ _ ?_); clear hK) | (clear hK; clear hK; clear hK; clear hK; clear hK; (with_reducible refine hK _ _ _ ?_); clear hK) | (clear hK; clear hK; clear hK; clear hK; clear hK; clear hK; (with_reducible refine hK _ _ _ ?_); clear hK) | (clear hK; clear hK; clear hK; clear hK; clear hK; clear hK; clear hK; (with_reducible refine hK _ _ _ ?_); clear hK))
    obtain ⟨m, hmE⟩ : ∃ m, m = inE n := ⟨_, rfl⟩
    have hm : ∀ c d, Sim c d → m c = m d := by rw [hmE]; exact inE_sim n
    obtain ⟨Sp, hSp⟩ : ∃ Sp : Nat → Bs, Sp = sw m S := ⟨_, rfl⟩
    obtain ⟨X, hX⟩ : ∃ X : Nat → As, X = fun p => ShX b b2 b7 ((swL m S p).map hdOf) := ⟨_, rfl⟩
    have hSp0 : Sp 0 = S := by rw [hSp]; rfl
    have hsp : Swp b Sp X := ⟨fun p => by rw [hSp]; exact hw.sw p, fun p => by rw [hSp]; exact sw_shape S p, fun p hp hno => by
      rw [hSp] at hno
      have ha := atP_none hno
      have g1 : sw m S (p + 1) = sw1 m (sw m S p) p := rfl
      have g2 : swL m S (p + 1) = swL m S p ++ (match atP (sw m S p) p with | some c => if m c then [c] else [] | none => []) := rfl
      rw [hSp, hX]
      dsimp only
      rw [g1, g2, ha]
      unfold sw1
      rw [ha]
      simp⟩
    have hsk0 := sw_skip (m := m) hw (n * 48) fun c hc hp => by
      rw [hmE]
      unfold inE
      refine decide_eq_false fun e => ?_
      unfold posC at hp
      omega
    have hg2 : Has (Pt b4 (.cells #[ptr t] 77 (0, 0)) :: CapsA b (Sp (n * 48 + 0)) :: X (n * 48 + 0) :: L) g2 := by
      rw [hSp, hX]
      dsimp only
      rw [Nat.add_zero, hsk0.1, hsk0.2]
      refine hg2.map_tail fun g hg => ((ShX.cls (l := []) (s := .slice none 0 0) (hg.map_tail fun g hg => hg.nilW 6)).swap)
    refine rf_intro trivial callableAll fun r R hr hR hY => ?_
    have hg3 := hg2.new hr (o := R .ready)
    have htab : ∀ p, ∃ l, got (Sp p).tb (n : Int) = some (t, l) ∧ (Sp p).tb[n]? = some (some (t, l)) := fun p => by
      have h1 := hsp.tab p hn16
      rw [hSp0, hgt] at h1
      obtain ⟨⟨t', l⟩, hx, ht⟩ := Option.map_eq_some_iff.1 h1
      obtain rfl : t' = t := ht
      obtain ⟨n', e1, e2⟩ := got_at hx
      obtain rfl : n = n' := by omega
      exact ⟨l, hx, e2⟩
    have hsk : ∀ p q, n * 48 ≤ p → p ≤ q → q ≤ n * 48 + 48 → (∀ c ∈ (Sp p).cs, c.env = n → ¬ (p ≤ n * 48 + c.slot ∧ n * 48 + c.slot < q)) → Sp q = Sp p ∧ X q = X p := fun p q h1 h2 h3 h4 =>
      hsp.skip h2 (by omega) fun c hc h => by
        have := pos_lt (hsp.wf p) hc
        unfold posC at h
        have : c.env = n := by omega
        exact h4 c hc this (by rw [this] at h; exact h)
    refine Ok.mono (twalk (p := t) (ty := 77) (Qd := fun h' => Has (Pt r (R .ready) :: Pt b4 (.cells #[ptr t] 77 (0, 0)) :: CapsA b (Sp (n * 48 + 48)) :: X (n * 48 + 48) :: L) h')
      (fun c h' => 0 ≤ c ∧ c ≤ 48 ∧ Has (Pt r (R .ready) :: Pt b4 (.cells #[ptr t] 77 (0, 0)) :: CapsA b (Sp (n * 48 + c.toNat)) :: X (n * 48 + c.toNat) :: L) h')
      (fun c g4 ⟨hc0, hc48, hg4⟩ => ?_) ⟨Int.le_refl _, by decide, hg3⟩) ?_
    · obtain ⟨l, hgl, htl⟩ := htab (n * 48 + c.toNat)
      have hwc := hsp.wf (n * 48 + c.toNat)
      have hll := hwc.tl htl
      refine ⟨hc0, hg4.pt 1 rfl, l, (CapsA.rd hg4 2 rfl).tab htl, fun hn => ?_, fun j v hj hv => ?_⟩
      · have hno : ∀ j : Nat, c ≤ j → j < l.length → l[j]? = some none := by
          rcases nextR_spec l c with ⟨_, h1⟩ | ⟨k, w, e, _⟩
          · exact h1
          · rw [hn] at e; omega
        obtain ⟨e1, e2⟩ := hsk (n * 48 + c.toNat) (n * 48 + 48) (by omega) (by omega) (Nat.le_refl _) fun x hx h1 h2 => by
          have h3 := hwc.taken htl hx h1
          rw [hno x.slot (by omega) (by omega)] at h3
          cases h3
        rw [e1, e2]; exact hg4
      · obtain ⟨hcj, hno⟩ : c ≤ (j : Int) ∧ ∀ i : Nat, c ≤ i → i < j → l[i]? = some none := by
          rcases nextR_spec l c with ⟨e, _⟩ | ⟨k2, w2, e, h1, h2, h3⟩
          · rw [hj] at e; omega
          · rw [hj] at e
            have : k2 = j := by omega
            subst this
            exact ⟨h1, h2⟩
        have hj48 : j < 48 := by have := (List.getElem?_eq_some_iff.1 hv).1; omega
        obtain ⟨e1, e2⟩ := hsk (n * 48 + c.toNat) (n * 48 + j) (by omega) (by omega) (by omega) fun x hx h1 h2 => by
          have h3 := hwc.taken htl hx h1
          rw [hno x.slot (by omega) (by omega)] at h3
          cases h3
        obtain ⟨x, hx, x1, x2, x3⟩ := hwc.t1 htl hv
        rw [← e1] at hx
        have hg5 : Has (Pt r (R .ready) :: Pt b4 (.cells #[ptr t] 77 (0, 0)) :: CapsA b (Sp (n * 48 + j)) :: X (n * 48 + j) :: L) g4 := by rw [e1, e2]; exact hg4
        subst x1
        have hpx : posC x = n * 48 + j := by unfold posC; omega
        refine hY _ g4 _ rfl (hg5.pt 0 rfl) ?_
        conv => whnf
        refine ⟨hg5.pt 0 rfl, ?_⟩
        have hg6 := hg5.st 0 rfl (R .busy)
        conv => whnf
        rw [hX] at hg6
        dsimp only at hg6
        obtain ⟨sc, hcc, _⟩ := (CapsA.rd hg6 2 rfl).cell x hx
        obtain ⟨s, hg7⟩ := ShX.opn (hg6.pull 3 rfl)
        obtain ⟨bs, cs, hs⟩ := hg7.slv 1 rfl
        subst hs
        repeat (first | ((with_reducible refine hK _ _ _ ?_); clear hK) | (with_reducible refine seq_step fun K hK => ?_) | (with_reducible refine block_step ?_) | ((with_reducible refine cond_t ?_ ?_); focus rfl) | ((with_reducible refine cond_f ?_ ?_); focus rfl) | ((with_reducible refine code_id ?_); conv => whnf) | (clear hK; (with_reducible refine hK _ _ _ ?_); clear hK) | (clear hK; clear hK; (with_reducible refine hK _ _ _ ?_); clear hK) | (clear hK; clear hK; clear hK; (with_reducible refine hK _ _ _ ?_); clear hK) | (clear hK; clear hK; clear hK; clear hK; (with_reducible refine hK _ _ _ ?_); clear hK) | (clear hK; clear hK; clear hK; clear hK; clear hK; (with_reducible refine hK _ _ _ ?_); clear hK) | (clear hK; clear hK; clear hK; clear hK; clear hK; clear hK; (with_reducible refine hK _ _ _ ?_); clear hK) | (clear hK; clear hK; clear hK; clear hK; clear hK; clear hK; clear hK; (with_reducible refine hK _ _ _ ?_); clear hK) | (refine ⟨_, _, SubH.refl _, SubB.refl _, ?_⟩; conv => whnf) | (refine ⟨⟨SubH.refl _, SubB.refl _⟩, ?_⟩; conv => whnf) | (refine ⟨_, _, ⟨SubH.refl _, SubB.refl _⟩, SubH.refl _, SubB.refl _, ?_⟩; conv => whnf))
        refine opt_ld (hg7.pt 0 rfl) (v := .slice bs ((swL m S (n * 48 + j)).map hdOf).length cs) rfl ?_
        conv => whnf
        refine held50 hcc ?_
        conv => whnf
        refine ⟨_, _, ⟨SubH.refl _, SubB.refl _⟩, SubH.refl _, SubB.refl _, ?_⟩
        conv => whnf
        refine fresh_has hg7 fun b8 g8 _ _ hs8 hg8 => ?_
        conv => whnf
        refine ⟨⟨hs8, SubB.refl _⟩, ?_⟩
        conv => whnf
        refine app1h (x := hdOf x) (hg8.map_tail fun g hg => hg.swap) (by rw [List.length_map]; have := (swL_mem hw hm (n * 48 + j)).2.2.2; have := hw.small; omega) fun s9 g9 hg9 => ?_
        obtain ⟨b9, c9, hs9⟩ := hg9.slv 0 rfl
        subst hs9
        conv => whnf
        refine st_has hg9 1 rfl rfl (show 0 + 1 ≤ 1 by decide) rfl fun g10 _ _ hg10 => ?_
        conv => whnf
        repeat (first | ((with_reducible refine hK _ _ _ ?_); clear hK) | (with_reducible refine seq_step fun K hK => ?_) | (with_reducible refine block_step ?_) | ((with_reducible refine cond_t ?_ ?_); focus rfl) | ((with_reducible refine cond_f ?_ ?_); focus rfl) | ((with_reducible refine code_id ?_); conv => whnf) | (clear hK; (with_reducible refine hK _ _ _ ?_); clear hK) | (clear hK; clear hK; (with_reducible refine hK _ _ _ ?_); clear hK) | (clear hK; clear hK; clear hK; (with_reducible refine hK _ _ _ ?_); clear hK) | (clear hK; clear hK; clear hK; clear hK; (with_reducible refine hK _ _ _ ?_); clear hK) | (clear hK; clear hK; clear hK; clear hK; clear hK; (with_reducible refine hK _ _ _ ?_); clear hK) | (clear hK; clear hK; clear hK; clear hK; clear hK; clear hK; (with_reducible refine hK _ _ _ ?_); clear hK) | (clear hK; clear hK; clear hK; clear hK; clear hK; clear hK; clear hK; (with_reducible refine hK _ _ _ ?_); clear hK) | (refine ⟨_, _, SubH.refl _, SubB.refl _, ?_⟩; conv => whnf) | (refine ⟨⟨SubH.refl _, SubB.refl _⟩, ?_⟩; conv => whnf) | (refine ⟨_, _, ⟨SubH.refl _, SubB.refl _⟩, SubH.refl _, SubB.refl _, ?_⟩; conv => whnf))
        refine opt_ld (hg10.pt 2 rfl) (v := ptr b) rfl ?_
        conv => whnf
        refine remove41 (hsp.wf (n * 48 + j)) hx (hg10.pull 5 rfl) fun g11 hg11 => ?_
        conv => whnf
        repeat (first | ((with_reducible refine hK _ _ _ ?_); clear hK) | (with_reducible refine seq_step fun K hK => ?_) | (with_reducible refine block_step ?_) | ((with_reducible refine cond_t ?_ ?_); focus rfl) | ((with_reducible refine cond_f ?_ ?_); focus rfl) | ((with_reducible refine code_id ?_); conv => whnf) | (clear hK; (with_reducible refine hK _ _ _ ?_); clear hK) | (clear hK; clear hK; (with_reducible refine hK _ _ _ ?_); clear hK) | (clear hK; clear hK; clear hK; (with_reducible refine hK _ _ _ ?_); clear hK) | (clear hK; clear hK; clear hK; clear hK; (with_reducible refine hK _ _ _ ?_); clear hK) | (clear hK; clear hK; clear hK; clear hK; clear hK; (with_reducible refine hK _ _ _ ?_); clear hK) | (clear hK; clear hK; clear hK; clear hK; clear hK; clear hK; (with_reducible refine hK _ _ _ ?_); clear hK) | (clear hK; clear hK; clear hK; clear hK; clear hK; clear hK; clear hK; (with_reducible refine hK _ _ _ ?_); clear hK) | (refine ⟨_, _, SubH.refl _, SubB.refl _, ?_⟩; conv => whnf) | (refine ⟨⟨SubH.refl _, SubB.refl _⟩, ?_⟩; conv => whnf) | (refine ⟨_, _, ⟨SubH.refl _, SubB.refl _⟩, SubH.refl _, SubB.refl _, ?_⟩; conv => whnf))
        have hfin : Has (Pt r (R .busy) :: Pt b4 (.cells #[ptr t] 77 (0, 0)) :: CapsA b (Sp (n * 48 + j + 1)) :: X (n * 48 + j + 1) :: L) g11 := by
          rw [hSp] at hg11 hx ⊢
          rw [hX]
          dsimp only at hg11 ⊢
          have hx9 := hx
          have ha := atP_some (hw.sw (m := m) (n * 48 + j)) hx9
          rw [hpx] at ha
          have g1 : sw m S (n * 48 + j + 1) = sw1 m (sw m S (n * 48 + j)) (n * 48 + j) := rfl
          have g2 : swL m S (n * 48 + j + 1) = swL m S (n * 48 + j) ++ (match atP (sw m S (n * 48 + j)) (n * 48 + j) with | some c => if m c then [c] else [] | none => []) := rfl
          have hmx : m x = true := by rw [hmE]; exact decide_eq_true x2
          rw [g1, g2]
          unfold sw1
          rw [ha]
          dsimp only
          rw [if_pos hmx, if_pos hmx, List.map_append]
          have h4 := ShX.cls (b := b) (b2 := b2) (b7 := b7) (((hg11.pull 3 rfl).map_tail fun g hg => (hg.pull 2 rfl).map_tail fun g hg => hg.pull 2 rfl))
          exact (h4.pull 3 rfl).map_tail fun g hg => (hg.pull 3 rfl).map_tail fun g hg => ((hg.pull 1 rfl).map_tail fun g hg => hg.erase 1)
        refine ⟨hfin.pt 0 rfl, .inl ⟨rfl, by omega, by omega, ?_⟩⟩
        have hg12 := hfin.st 0 rfl (R .ready)
        rw [show n * 48 + ((j : Int) + 1).toNat = n * 48 + j + 1 by omega]
        exact hg12
    · rintro v' h' hg4
      refine ⟨.ready, hg4.pt 0 rfl, fun o => ?_⟩
      have hg5 := hg4.st 0 rfl o
      rw [hX] at hg5
      dsimp only at hg5
      obtain ⟨s, hg6⟩ := ShX.opn (hg5.pull 3 rfl)
      have hw9 := hsp.wf (n * 48 + 48)
      obtain ⟨l9, _, ht9⟩ := htab (n * 48 + 48)
      repeat (first | ((with_reducible refine hK _ _ _ ?_); clear hK) | (with_reducible refine seq_step fun K hK => ?_) | (with_reducible refine block_step ?_) | ((with_reducible refine cond_t ?_ ?_); focus rfl) | ((with_reducible refine cond_f ?_ ?_); focus rfl) | ((with_reducible refine code_id ?_); conv => whnf) | (clear hK; (with_reducible refine hK _ _ _ ?_); clear hK) | (clear hK; clear hK; (with_reducible refine hK _ _ _ ?_); clear hK) | (clear hK; clear hK; clear hK; (with_reducible refine hK _ _ _ ?_); clear hK) | (clear hK; clear hK; clear hK; clear hK; (with_reducible refine hK _ _ _ ?_); clear hK) | (clear hK; clear hK; clear hK; clear hK; clear hK; (with_reducible refine hK _ _ _ ?_); clear hK) | (clear hK; clear hK; clear hK; clear hK; clear hK; clear hK; (with_reducible refine hK _ _ _ ?_); clear hK) | (clear hK; clear hK; clear hK; clear hK; clear hK; clear hK; clear hK; (with_reducible refine hK _ _ _ ?_); clear hK))
      refine opt_ld (hg6.pt 2 rfl) (v := ptr b) rfl ?_
      conv => whnf
      refine opt_if ⟨by omega, by omega⟩ ?_
      conv => whnf
      have hg7 := CapsA.opn (hg6.pull 5 rfl)
      refine st_has hg7 0 rfl rfl (by rw [List.size_toArray]; unfold bookC; rw [List.length_map, hw9.len, Int.toNat_natCast]; omega) rfl fun g8 _ _ hg8 => ?_
      conv => whnf
      repeat (first | ((with_reducible refine hK _ _ _ ?_); clear hK) | (with_reducible refine seq_step fun K hK => ?_) | (with_reducible refine block_step ?_) | ((with_reducible refine cond_t ?_ ?_); focus rfl) | ((with_reducible refine cond_f ?_ ?_); focus rfl) | ((with_reducible refine code_id ?_); conv => whnf) | (clear hK; (with_reducible refine hK _ _ _ ?_); clear hK) | (clear hK; clear hK; (with_reducible refine hK _ _ _ ?_); clear hK) | (clear hK; clear hK; clear hK; (with_reducible refine hK _ _ _ ?_); clear hK) | (clear hK; clear hK; clear hK; clear hK; (with_reducible refine hK _ _ _ ?_); clear hK) | (clear hK; clear hK; clear hK; clear hK; clear hK; (with_reducible refine hK _ _ _ ?_); clear hK) | (clear hK; clear hK; clear hK; clear hK; clear hK; clear hK; (with_reducible refine hK _ _ _ ?_); clear hK) | (clear hK; clear hK; clear hK; clear hK; clear hK; clear hK; clear hK; (with_reducible refine hK _ _ _ ?_); clear hK))
      have e1 : wr (bookC (Sp (n * 48 + 48)).tb).toArray (0 + (n : Int).toNat * 1) [.pointer none] = (bookC ((Sp (n * 48 + 48)).tb.set n none)).toArray := by
        rw [Int.toNat_natCast, Nat.mul_one, Nat.zero_add]
        exact bookC_set _ n (by rw [hw9.len]; exact hn16) none
      have hg9 : Has (BkA b ((Sp (n * 48 + 48)).tb.set n none) :: TabsP (Sp (n * 48 + 48)).tb :: CellsP (Sp (n * 48 + 48)).cs :: Pt b7 (.cells #[s] 41 (0, 0)) :: HsP s ((swL m S (n * 48 + 48)).map hdOf) :: L) g8 := by
        unfold BkA
        rw [← e1]
        exact (hg8.map_tail fun g hg => hg.map_tail fun g hg => hg.map_tail fun g hg => hg.map_tail fun g hg => hg.map_tail fun g hg => ((hg.erase 0).erase 0).erase 0)
      have hg10 : Has (CapsA b (shut S n) :: Pt b7 (.cells #[s] 41 (0, 0)) :: HsP s ((swL (inE n) S (n * 48 + 48)).map hdOf) :: L) g8 := by
        unfold shut
        rw [← hmE, ← hSp]
        exact CapsA.cls (hg9.map_tail fun g hg => TabsP.shut ht9 hg)
      refine opt_ld (hg10.pt 1 rfl) (v := s) rfl ?_
      conv => whnf
      repeat (first | ((with_reducible refine hK _ _ _ ?_); clear hK) | (with_reducible refine seq_step fun K hK => ?_) | (with_reducible refine block_step ?_) | ((with_reducible refine cond_t ?_ ?_); focus rfl) | ((with_reducible refine cond_f ?_ ?_); focus rfl) | ((with_reducible refine code_id ?_); conv => whnf) | (clear hK; (with_reducible refine hK _ _ _ ?_); clear hK) | (clear hK; clear hK; (with_reducible refine hK _ _ _ ?_); clear hK) | (clear hK; clear hK; clear hK; (with_reducible refine hK _ _ _ ?_); clear hK) | (clear hK; clear hK; clear hK; clear hK; (with_reducible refine hK _ _ _ ?_); clear hK) | (clear hK; clear hK; clear hK; clear hK; clear hK; (with_reducible refine hK _ _ _ ?_); clear hK) | (clear hK; clear hK; clear hK; clear hK; clear hK; clear hK; (with_reducible refine hK _ _ _ ?_); clear hK) | (clear hK; clear hK; clear hK; clear hK; clear hK; clear hK; clear hK; (with_reducible refine hK _ _ _ ?_); clear hK))
      exact h2 n rfl hn16 hop s _ (hg10.map_tail fun g hg => hg.tail)
end
end Go.Proofs.YthpkgkoojhgedaaDoor.V
