/- Seat 08: Count. -/
import Derived.Test.YthpkgkoojhgedaaDoorK30
namespace Go.Proofs.YthpkgkoojhgedaaDoor.V
set_option linter.unusedVariables false
set_option linter.unusedSimpArgs false
set_option linter.unusedSectionVars false
set_option linter.unusedSectionVars false
open Go

section
variable {h : Hp} {Q : Value → Hp → Prop} {L : List As} {b : Nat} {S : Bs}

theorem fitsK {c : Ce} {sc : Value} (hc : h c.a = some (.cells (cellC c sc).toArray 84 (0, 0))) {bw : Nat} {ty : TypeId} {kind : Int}
    (hb : h bw = some (.cells #[.func (.func 53) #[] #[], iv kind] ty (0, 0))) (hq : Q (.bool (decide (c.cap.kind = kind))) h) : Ok PR 52 [ptr c.a, .slice (some ⟨bw, 0, none⟩) 1 1] h Q := by
  have hv : Vw 2 h (.slice (some ⟨bw, 0, none⟩) 1 1) 1 [.func (.func 53) #[] #[], iv kind] := (pt_wn (e := 2) (n := 1) (cap := 1) (cs := [.func (.func 53) #[] #[], iv kind]) rfl (Nat.le_refl _) rfl hb).vw
  refine fits52 (ws := [(53, kind)]) (fun k => c.cap.kind) (show 1 < 100 by decide) hv (fun w hw => ?_) ?_
  · rw [List.mem_singleton.1 hw]
    exact ⟨callableKind, fun Q hQ => kind53 hc hQ⟩
  · have e : ([((53 : Nat), kind)].all fun w => decide (c.cap.kind = w.2)) = decide (c.cap.kind = kind) := by simp
    rw [e]; exact hq

set_option maxRecDepth 100000 in
set_option maxHeartbeats 2000000 in
theorem count29 (hw : WF S) (hh : Has (CapsA b S :: L) h) (e kind : Int) (h1 : got S.tb e = none → ∀ h', Has (CapsA b S :: L) h' → Q (iv 0) h')
    (h2 : ∀ n : Nat, e = n → ∀ h', Has (CapsA b S :: L) h' → Q (iv (S.cs.countP fun c => decide (c.env = n) && decide (c.cap.kind = kind) : Nat)) h') : Ok PR 29 [ptr b, iv e, iv kind] h Q := by
  refine e29 rfl (seq_step fun K hK => ?_)
  repeat (first | ((with_reducible refine hK _ _ _ ?_); clear hK) | (with_reducible refine seq_step fun K hK => ?_) | (with_reducible refine block_step ?_) | ((with_reducible refine cond_t ?_ ?_); focus rfl) | ((with_reducible refine cond_f ?_ ?_); focus rfl) | ((with_reducible refine code_id ?_); conv => whnf) | (clear hK; (with_reducible refine hK _ _ _ ?_); clear hK) | (clear hK; clear hK; (with_reducible refine hK _ _ _ ?_); clear hK) | (clear hK; clear hK; clear hK; (with_reducible refine hK _ _ _ ?_); clear hK) | (clear hK; clear hK; clear hK; clear hK; (with_reducible refine hK _ _ _ ?_); clear hK) | (clear hK; clear hK; clear hK; clear hK; clear hK; (with_reducible refine hK _ _ _ ?_); clear hK) | (clear hK; clear hK; clear hK; clear hK; clear hK; clear hK; (with_reducible refine hK _ _ _ ?_); clear hK) | (clear hK; clear hK; clear hK; clear hK; clear hK; clear hK; clear hK; (with_reducible refine hK _ _ _ ?_); clear hK))
  refine fresh_has hh fun b5 h3 _ _ _ hh3 => ?_
  conv => whnf
  repeat (first | ((with_reducible refine hK _ _ _ ?_); clear hK) | (with_reducible refine seq_step fun K hK => ?_) | (with_reducible refine block_step ?_) | ((with_reducible refine cond_t ?_ ?_); focus rfl) | ((with_reducible refine cond_f ?_ ?_); focus rfl) | ((with_reducible refine code_id ?_); conv => whnf) | (clear hK; (with_reducible refine hK _ _ _ ?_); clear hK) | (clear hK; clear hK; (with_reducible refine hK _ _ _ ?_); clear hK) | (clear hK; clear hK; clear hK; (with_reducible refine hK _ _ _ ?_); clear hK) | (clear hK; clear hK; clear hK; clear hK; (with_reducible refine hK _ _ _ ?_); clear hK) | (clear hK; clear hK; clear hK; clear hK; clear hK; (with_reducible refine hK _ _ _ ?_); clear hK) | (clear hK; clear hK; clear hK; clear hK; clear hK; clear hK; (with_reducible refine hK _ _ _ ?_); clear hK) | (clear hK; clear hK; clear hK; clear hK; clear hK; clear hK; clear hK; (with_reducible refine hK _ _ _ ?_); clear hK))
  refine list37 (CapsA.rd hh3 1 rfl) hw.len e ?_
  conv => whnf
  refine fresh_has hh3 fun b8 h4 _ _ _ hh4 => ?_
  conv => whnf
  refine st_has hh4 0 rfl rfl (by decide) rfl fun h5 _ _ hh5 => ?_
  cases hge : got S.tb e with
  | none =>
    conv => whnf
    repeat (first | ((with_reducible refine hK _ _ _ ?_); clear hK) | (with_reducible refine seq_step fun K hK => ?_) | (with_reducible refine block_step ?_) | ((with_reducible refine cond_t ?_ ?_); focus rfl) | ((with_reducible refine cond_f ?_ ?_); focus rfl) | ((with_reducible refine code_id ?_); conv => whnf) | (clear hK; (with_reducible refine hK _ _ _ ?_); clear hK) | (clear hK; clear hK; (with_reducible refine hK _ _ _ ?_); clear hK) | (clear hK; clear hK; clear hK; (with_reducible refine hK _ _ _ ?_); clear hK) | (clear hK; clear hK; clear hK; clear hK; (with_reducible refine hK _ _ _ ?_); clear hK) | (clear hK; clear hK; clear hK; clear hK; clear hK; (with_reducible refine hK _ _ _ ?_); clear hK) | (clear hK; clear hK; clear hK; clear hK; clear hK; clear hK; (with_reducible refine hK _ _ _ ?_); clear hK) | (clear hK; clear hK; clear hK; clear hK; clear hK; clear hK; clear hK; (with_reducible refine hK _ _ _ ?_); clear hK))
    exact h1 hge _ hh5.tail.tail
  | some y =>
    obtain ⟨t, l0⟩ := y
    obtain ⟨n, rfl, ht0⟩ := got_at hge
    have hn16 : n < 16 := by rw [← hw.len]; exact (List.getElem?_eq_some_iff.1 ht0).1
    have hgt : (got S.tb (n : Int)).map (·.1) = some t := by rw [hge]; rfl
    conv => whnf
    repeat (first | ((with_reducible refine hK _ _ _ ?_); clear hK) | (with_reducible refine seq_step fun K hK => ?_) | (with_reducible refine block_step ?_) | ((with_reducible refine cond_t ?_ ?_); focus rfl) | ((with_reducible refine cond_f ?_ ?_); focus rfl) | ((with_reducible refine code_id ?_); conv => whnf) | (clear hK; (with_reducible refine hK _ _ _ ?_); clear hK) | (clear hK; clear hK; (with_reducible refine hK _ _ _ ?_); clear hK) | (clear hK; clear hK; clear hK; (with_reducible refine hK _ _ _ ?_); clear hK) | (clear hK; clear hK; clear hK; clear hK; (with_reducible refine hK _ _ _ ?_); clear hK) | (clear hK; clear hK; clear hK; clear hK; clear hK; (with_reducible refine hK _ _ _ ?_); clear hK) | (clear hK; clear hK; clear hK; clear hK; clear hK; clear hK; (with_reducible refine hK _ _ _ ?_); clear hK) | (clear hK; clear hK; clear hK; clear hK; clear hK; clear hK; clear hK; (with_reducible refine hK _ _ _ ?_); clear hK))
    refine tallH hh5 fun b4 g2 hg2 _ _ => ?_
    conv => whnf
    repeat (first | ((with_reducible refine hK _ _ _ ?_); clear hK) | (with_reducible refine seq_step fun K hK => ?_) | (with_reducible refine block_step ?_) | ((with_reducible refine cond_t ?_ ?_); focus rfl) | ((with_reducible refine cond_f ?_ ?_); focus rfl) | ((with_reducible refine code_id ?_); conv => whnf) | (clear hK; (with_reducible refine hK _ _ _ ?_); clear hK) | (clear hK; clear hK; (with_reducible refine hK _ _ _ ?_); clear hK) | (clear hK; clear hK; clear hK; (with_reducible refine hK _ _ _ ?_); clear hK) | (clear hK; clear hK; clear hK; clear hK; (with_reducible refine hK _ _ _ ?_); clear hK) | (clear hK; clear hK; clear hK; clear hK; clear hK; (with_reducible refine hK _ _ _ ?_); clear hK) | (clear hK; clear hK; clear hK; clear hK; clear hK; clear hK; (with_reducible refine hK _ _ _ ?_); clear hK) | (clear hK; clear hK; clear hK; clear hK; clear hK; clear hK; clear hK; (with_reducible refine hK _ _ _ ?_); clear hK))
    obtain ⟨m, hmE⟩ : ∃ m : Ce → Bool, m = fun c => decide (c.env = n) && decide (c.cap.kind = kind) := ⟨_, rfl⟩
    obtain ⟨Sp, hSp⟩ : ∃ Sp : Nat → Bs, Sp = fun _ => S := ⟨_, rfl⟩
    obtain ⟨X, hX⟩ : ∃ X : Nat → As, X = fun p => Has [Pt b8 (.cells #[iv (cntP S.cs m p : Nat)] 3 (0, 0)), Pt b5 (.cells #[iv kind] 3 (0, 0))] := ⟨_, rfl⟩
    have hSp0 : Sp 0 = S := by rw [hSp]
    have hsp : Swp b Sp X := ⟨fun p => by rw [hSp]; exact hw, fun p => by rw [hSp], fun p hp hno => ⟨by rw [hSp], by
      rw [hSp] at hno
      rw [hX]
      dsimp only
      rw [cntP_gap hno]⟩⟩
    have hg2 : Has (Pt b4 (.cells #[ptr t] 77 (0, 0)) :: CapsA b (Sp (n * 48 + 0)) :: X (n * 48 + 0) :: L) g2 := by
      rw [hSp, hX]
      dsimp only
      have e0 : cntP S.cs m (n * 48 + 0) = 0 := by
        unfold cntP
        rw [List.countP_eq_zero]
        intro c hc
        rw [hmE]
        simp only [Bool.and_eq_true, decide_eq_true_eq]
        unfold posC
        rintro ⟨h1, h2, _⟩
        rw [h2] at h1
        omega
      rw [e0]
      exact hg2.map_tail fun g hg => (hg.pull 2 rfl).map_tail fun g hg => Has.group (L1 := [_, _]) hg
    refine rf_intro trivial callableAll fun r R hr hR hY => ?_
    have hg3 := hg2.new hr (o := R .ready)
    have htab : ∀ p, ∃ l, got (Sp p).tb (n : Int) = some (t, l) ∧ (Sp p).tb[n]? = some (some (t, l)) := fun p => by
      have h1 := hsp.tab p hn16
      rw [hSp0, hgt] at h1
      obtain ⟨⟨t', l⟩, hx, ht⟩ := Option.map_eq_some_iff.1 h1
      obtain rfl : t' = t := ht
      obtain ⟨n', e1, e2⟩ := got_at hx
      obtain rfl : n = n' := by omega
      exact ⟨l, hx, e2⟩
    have hsk : ∀ p q, n * 48 ≤ p → p ≤ q → q ≤ n * 48 + 48 → (∀ c ∈ (Sp p).cs, c.env = n → ¬ (p ≤ n * 48 + c.slot ∧ n * 48 + c.slot < q)) → Sp q = Sp p ∧ X q = X p := fun p q h1 h2 h3 h4 =>
      hsp.skip h2 (by omega) fun c hc h => by
        have := pos_lt (hsp.wf p) hc
        unfold posC at h
        have : c.env = n := by omega
        exact h4 c hc this (by rw [this] at h; exact h)
    refine Ok.mono (twalk (p := t) (ty := 77) (Qd := fun h' => Has (Pt r (R .ready) :: Pt b4 (.cells #[ptr t] 77 (0, 0)) :: CapsA b (Sp (n * 48 + 48)) :: X (n * 48 + 48) :: L) h')
      (fun c h' => 0 ≤ c ∧ c ≤ 48 ∧ Has (Pt r (R .ready) :: Pt b4 (.cells #[ptr t] 77 (0, 0)) :: CapsA b (Sp (n * 48 + c.toNat)) :: X (n * 48 + c.toNat) :: L) h')
      (fun c g4 ⟨hc0, hc48, hg4⟩ => ?_) ⟨Int.le_refl _, by decide, hg3⟩) ?_
    · obtain ⟨l, hgl, htl⟩ := htab (n * 48 + c.toNat)
      have hwc := hsp.wf (n * 48 + c.toNat)
      have hll := hwc.tl htl
      refine ⟨hc0, hg4.pt 1 rfl, l, (CapsA.rd hg4 2 rfl).tab htl, fun hn => ?_, fun j v hj hv => ?_⟩
      · have hno : ∀ j : Nat, c ≤ j → j < l.length → l[j]? = some none := by
          rcases nextR_spec l c with ⟨_, h1⟩ | ⟨k, w, e, _⟩
          · exact h1
          · rw [hn] at e; omega
        obtain ⟨e1, e2⟩ := hsk (n * 48 + c.toNat) (n * 48 + 48) (by omega) (by omega) (Nat.le_refl _) fun x hx h1 h2 => by
          have h3 := hwc.taken htl hx h1
          rw [hno x.slot (by omega) (by omega)] at h3
          cases h3
        rw [e1, e2]; exact hg4
      · obtain ⟨hcj, hno⟩ : c ≤ (j : Int) ∧ ∀ i : Nat, c ≤ i → i < j → l[i]? = some none := by
          rcases nextR_spec l c with ⟨e, _⟩ | ⟨k2, w2, e, h1, h2, h3⟩
          · rw [hj] at e; omega
          · rw [hj] at e
            have : k2 = j := by omega
            subst this
            exact ⟨h1, h2⟩
        have hj48 : j < 48 := by have := (List.getElem?_eq_some_iff.1 hv).1; omega
        obtain ⟨e1, e2⟩ := hsk (n * 48 + c.toNat) (n * 48 + j) (by omega) (by omega) (by omega) fun x hx h1 h2 => by
          have h3 := hwc.taken htl hx h1
          rw [hno x.slot (by omega) (by omega)] at h3
          cases h3
        obtain ⟨x, hx, x1, x2, x3⟩ := hwc.t1 htl hv
        rw [← e1] at hx
        have hg5 : Has (Pt r (R .ready) :: Pt b4 (.cells #[ptr t] 77 (0, 0)) :: CapsA b (Sp (n * 48 + j)) :: X (n * 48 + j) :: L) g4 := by rw [e1, e2]; exact hg4
        subst x1
        have hpx : posC x = n * 48 + j := by unfold posC; omega
        refine hY _ g4 _ rfl (hg5.pt 0 rfl) ?_
        conv => whnf
        refine ⟨hg5.pt 0 rfl, ?_⟩
        have hg6 := hg5.st 0 rfl (R .busy)
        conv => whnf
        obtain ⟨sc, hcc, _⟩ := (CapsA.rd hg6 2 rfl).cell x hx
        rw [hX] at hg6
        dsimp only at hg6
        have hg7 : Has (Pt b8 (.cells #[iv (cntP S.cs m (n * 48 + j) : Nat)] 3 (0, 0)) :: Pt b5 (.cells #[iv kind] 3 (0, 0)) :: Pt r (R .busy) :: Pt b4 (.cells #[ptr t] 77 (0, 0)) :: CapsA b (Sp (n * 48 + j)) :: L) _ := Has.flat (L1 := [_, _]) (hg6.pull 3 rfl)
        refine opt_ld (hg7.pt 1 rfl) (v := iv kind) rfl ?_
        conv => whnf
        refine fresh_has hg7 fun bw g8 hbw _ hs8 hg8 => ?_
        conv => whnf
        refine fitsK (hs8 _ _ hcc) hbw ?_
        rw [hSp] at hx
        have hstep := cntP_step hw.pos (m := m) hx
        rw [hpx] at hstep
        have hle := cntP_le hw m (n * 48 + j)
        have hfin : ∀ g, Has (Pt b8 (.cells #[iv (cntP S.cs m (n * 48 + j + 1) : Nat)] 3 (0, 0)) :: Pt b5 (.cells #[iv kind] 3 (0, 0)) :: Pt r (R .busy) :: Pt b4 (.cells #[ptr t] 77 (0, 0)) :: CapsA b (Sp (n * 48 + j)) :: L) g → Has (Pt r (R .busy) :: Pt b4 (.cells #[ptr t] 77 (0, 0)) :: CapsA b (Sp (n * 48 + j + 1)) :: X (n * 48 + j + 1) :: L) g := fun g hg => by
          rw [hX]
          rw [hSp] at hg ⊢
          dsimp only at hg ⊢
          have h4 := Has.group (L1 := [_, _]) hg
          exact (h4.pull 1 rfl).map_tail fun g hg => (hg.pull 1 rfl).map_tail fun g hg => hg.swap
        have hmx : m x = decide (x.cap.kind = kind) := by rw [hmE]; dsimp only; rw [decide_eq_true x2, Bool.true_and]
        cases hk : decide (x.cap.kind = kind) with
        | true =>
          rw [hmx, hk, if_pos rfl] at hstep
          conv => whnf
          repeat (first | ((with_reducible refine hK _ _ _ ?_); clear hK) | (with_reducible refine seq_step fun K hK => ?_) | (with_reducible refine block_step ?_) | ((with_reducible refine cond_t ?_ ?_); focus rfl) | ((with_reducible refine cond_f ?_ ?_); focus rfl) | ((with_reducible refine code_id ?_); conv => whnf) | (clear hK; (with_reducible refine hK _ _ _ ?_); clear hK) | (clear hK; clear hK; (with_reducible refine hK _ _ _ ?_); clear hK) | (clear hK; clear hK; clear hK; (with_reducible refine hK _ _ _ ?_); clear hK) | (clear hK; clear hK; clear hK; clear hK; (with_reducible refine hK _ _ _ ?_); clear hK) | (clear hK; clear hK; clear hK; clear hK; clear hK; (with_reducible refine hK _ _ _ ?_); clear hK) | (clear hK; clear hK; clear hK; clear hK; clear hK; clear hK; (with_reducible refine hK _ _ _ ?_); clear hK) | (clear hK; clear hK; clear hK; clear hK; clear hK; clear hK; clear hK; (with_reducible refine hK _ _ _ ?_); clear hK))
          refine opt_ld (hg8.pt 1 rfl) (v := iv (cntP S.cs m (n * 48 + j) : Nat)) rfl ?_
          conv => whnf
          refine st_has hg8 1 rfl rfl (show 0 + 1 ≤ 1 by decide) rfl fun g9 _ _ hg9 => ?_
          conv => whnf
          repeat (first | ((with_reducible refine hK _ _ _ ?_); clear hK) | (with_reducible refine seq_step fun K hK => ?_) | (with_reducible refine block_step ?_) | ((with_reducible refine cond_t ?_ ?_); focus rfl) | ((with_reducible refine cond_f ?_ ?_); focus rfl) | ((with_reducible refine code_id ?_); conv => whnf) | (clear hK; (with_reducible refine hK _ _ _ ?_); clear hK) | (clear hK; clear hK; (with_reducible refine hK _ _ _ ?_); clear hK) | (clear hK; clear hK; clear hK; (with_reducible refine hK _ _ _ ?_); clear hK) | (clear hK; clear hK; clear hK; clear hK; (with_reducible refine hK _ _ _ ?_); clear hK) | (clear hK; clear hK; clear hK; clear hK; clear hK; (with_reducible refine hK _ _ _ ?_); clear hK) | (clear hK; clear hK; clear hK; clear hK; clear hK; clear hK; (with_reducible refine hK _ _ _ ?_); clear hK) | (clear hK; clear hK; clear hK; clear hK; clear hK; clear hK; clear hK; (with_reducible refine hK _ _ _ ?_); clear hK) | (refine ⟨_, _, SubH.refl _, SubB.refl _, ?_⟩; conv => whnf) | (refine ⟨⟨SubH.refl _, SubB.refl _⟩, ?_⟩; conv => whnf) | (refine ⟨_, _, ⟨SubH.refl _, SubB.refl _⟩, SubH.refl _, SubB.refl _, ?_⟩; conv => whnf))
          have hg10 := hfin _ (by
            rw [hstep, show ((cntP S.cs m (n * 48 + j) + 1 : Nat) : Int) = IntKind.i64.wrap ((cntP S.cs m (n * 48 + j) : Nat) + 1) by rw [wrap_nat (by omega)]]
            exact hg9.tail)
          refine ⟨hg10.pt 0 rfl, .inl ⟨rfl, by omega, by omega, ?_⟩⟩
          have hg12 := hg10.st 0 rfl (R .ready)
          rw [show n * 48 + ((j : Int) + 1).toNat = n * 48 + j + 1 by omega]
          exact hg12
        | false =>
          rw [hmx, hk] at hstep
          replace hstep : cntP S.cs m (n * 48 + j + 1) = cntP S.cs m (n * 48 + j) := hstep
          conv => whnf
          repeat (first | ((with_reducible refine hK _ _ _ ?_); clear hK) | (with_reducible refine seq_step fun K hK => ?_) | (with_reducible refine block_step ?_) | ((with_reducible refine cond_t ?_ ?_); focus rfl) | ((with_reducible refine cond_f ?_ ?_); focus rfl) | ((with_reducible refine code_id ?_); conv => whnf) | (clear hK; (with_reducible refine hK _ _ _ ?_); clear hK) | (clear hK; clear hK; (with_reducible refine hK _ _ _ ?_); clear hK) | (clear hK; clear hK; clear hK; (with_reducible refine hK _ _ _ ?_); clear hK) | (clear hK; clear hK; clear hK; clear hK; (with_reducible refine hK _ _ _ ?_); clear hK) | (clear hK; clear hK; clear hK; clear hK; clear hK; (with_reducible refine hK _ _ _ ?_); clear hK) | (clear hK; clear hK; clear hK; clear hK; clear hK; clear hK; (with_reducible refine hK _ _ _ ?_); clear hK) | (clear hK; clear hK; clear hK; clear hK; clear hK; clear hK; clear hK; (with_reducible refine hK _ _ _ ?_); clear hK) | (refine ⟨_, _, SubH.refl _, SubB.refl _, ?_⟩; conv => whnf) | (refine ⟨⟨SubH.refl _, SubB.refl _⟩, ?_⟩; conv => whnf) | (refine ⟨_, _, ⟨SubH.refl _, SubB.refl _⟩, SubH.refl _, SubB.refl _, ?_⟩; conv => whnf))
          have hg10 := hfin _ (by rw [hstep]; exact hg8.tail)
          refine ⟨hg10.pt 0 rfl, .inl ⟨rfl, by omega, by omega, ?_⟩⟩
          have hg12 := hg10.st 0 rfl (R .ready)
          rw [show n * 48 + ((j : Int) + 1).toNat = n * 48 + j + 1 by omega]
          exact hg12
    · rintro v' h' hg4
      refine ⟨.ready, hg4.pt 0 rfl, fun o => ?_⟩
      have hg5 := hg4.st 0 rfl o
      rw [hX, hSp] at hg5
      dsimp only at hg5
      have hg6 : Has (Pt b8 (.cells #[iv (cntP S.cs m (n * 48 + 48) : Nat)] 3 (0, 0)) :: Pt b5 (.cells #[iv kind] 3 (0, 0)) :: Pt r o :: Pt b4 (.cells #[ptr t] 77 (0, 0)) :: CapsA b S :: L) _ := Has.flat (L1 := [_, _]) (hg5.pull 3 rfl)
      repeat (first | ((with_reducible refine hK _ _ _ ?_); clear hK) | (with_reducible refine seq_step fun K hK => ?_) | (with_reducible refine block_step ?_) | ((with_reducible refine cond_t ?_ ?_); focus rfl) | ((with_reducible refine cond_f ?_ ?_); focus rfl) | ((with_reducible refine code_id ?_); conv => whnf) | (clear hK; (with_reducible refine hK _ _ _ ?_); clear hK) | (clear hK; clear hK; (with_reducible refine hK _ _ _ ?_); clear hK) | (clear hK; clear hK; clear hK; (with_reducible refine hK _ _ _ ?_); clear hK) | (clear hK; clear hK; clear hK; clear hK; (with_reducible refine hK _ _ _ ?_); clear hK) | (clear hK; clear hK; clear hK; clear hK; clear hK; (with_reducible refine hK _ _ _ ?_); clear hK) | (clear hK; clear hK; clear hK; clear hK; clear hK; clear hK; (with_reducible refine hK _ _ _ ?_); clear hK) | (clear hK; clear hK; clear hK; clear hK; clear hK; clear hK; clear hK; (with_reducible refine hK _ _ _ ?_); clear hK))
      refine opt_ld (hg6.pt 0 rfl) (v := iv (cntP S.cs m (n * 48 + 48) : Nat)) rfl ?_
      conv => whnf
      repeat (first | ((with_reducible refine hK _ _ _ ?_); clear hK) | (with_reducible refine seq_step fun K hK => ?_) | (with_reducible refine block_step ?_) | ((with_reducible refine cond_t ?_ ?_); focus rfl) | ((with_reducible refine cond_f ?_ ?_); focus rfl) | ((with_reducible refine code_id ?_); conv => whnf) | (clear hK; (with_reducible refine hK _ _ _ ?_); clear hK) | (clear hK; clear hK; (with_reducible refine hK _ _ _ ?_); clear hK) | (clear hK; clear hK; clear hK; (with_reducible refine hK _ _ _ ?_); clear hK) | (clear hK; clear hK; clear hK; clear hK; (with_reducible refine hK _ _ _ ?_); clear hK) | (clear hK; clear hK; clear hK; clear hK; clear hK; (with_reducible refine hK _ _ _ ?_); clear hK) | (clear hK; clear hK; clear hK; clear hK; clear hK; clear hK; (with_reducible refine hK _ _ _ ?_); clear hK) | (clear hK; clear hK; clear hK; clear hK; clear hK; clear hK; clear hK; (with_reducible refine hK _ _ _ ?_); clear hK))
      have e9 : cntP S.cs m (n * 48 + 48) = S.cs.countP m := by
        unfold cntP
        refine List.countP_congr fun c hc => ?_
        have := pos_lt hw hc
        rw [hmE]
        simp only [Bool.and_eq_true, decide_eq_true_eq]
        unfold posC
        constructor
        · exact fun h => h.2
        · exact fun h => ⟨by rw [h.1]; omega, h⟩
      rw [e9, hmE]
      exact h2 n rfl _ (hg6.pull 4 rfl |>.map_tail fun g hg => ((hg.tail).tail).tail.tail)
end
end Go.Proofs.YthpkgkoojhgedaaDoor.V
