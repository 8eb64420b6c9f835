/- Seat 08: each; fits; On; Room. -/
import Derived.Test.YthpkgkoojhgedaaDoorK15
namespace Go.Proofs.YthpkgkoojhgedaaDoor.V
set_option linter.unusedVariables false
set_option linter.unusedSimpArgs false
set_option linter.unusedSectionVars false
set_option linter.unusedSectionVars false
open Go

section
variable {h : Hp} {Q : Value → Hp → Prop} {L : List As} {b : Nat} {Sp : Nat → Bs} {X : Nat → As}

theorem book_rd {tb : Tb} (hl : tb.length = 16) : rd (bookC tb).toArray (0 + 0) 16 true = some (.agg (bookC tb).toArray) :=
  agg_rd (row := bookC tb) (by unfold bookC; rw [List.length_map]; exact hl) (by rw [List.size_toArray]; unfold bookC; rw [List.length_map, hl]; decide) fun j v hj => by rw [Nat.add_zero, Nat.zero_add, List.getElem?_toArray]; exact hj

set_option maxRecDepth 100000 in
set_option maxHeartbeats 2000000 in
theorem each57 (hs : Swp b Sp X) {k : FuncId} {cap : List Value} (hcall : callable PR k = true)
    (hc : ∀ p, p < 768 → ∀ c ∈ (Sp p).cs, posC c = p → ∀ (L : List As) (h : Hp) (Q : Value → Hp → Prop), Has (CapsA b (Sp p) :: X p :: L) h → (∀ h', Has (CapsA b (Sp (p + 1)) :: X (p + 1) :: L) h' → Q (.tuple #[]) h') → Ok PR k ([ptr c.a] ++ cap) h Q)
    (hh : Has (CapsA b (Sp 0) :: X 0 :: L) h) (hq : ∀ h', Has (CapsA b (Sp 768) :: X 768 :: L) h' → Q (.tuple #[]) h') : Ok PR 57 [ptr b, .func (.func k) #[] cap.toArray] h Q := by
  have hl0 := (hs.wf 0).len
  obtain ⟨tb0, htb0⟩ : ∃ tb0, tb0 = (Sp 0).tb := ⟨_, rfl⟩
  have hl : tb0.length = 16 := by rw [htb0]; exact hl0
  have hbk : h b = some (.cells (bookC tb0).toArray 107 (0, 0)) := by rw [htb0]; exact (CapsA.rd0 hh).bk
  have hsh : ∀ p {e : Nat}, e < 16 → (got (Sp p).tb (e : Int)).map (·.1) = (got tb0 (e : Int)).map (·.1) := fun p e he => by rw [htb0]; exact hs.tab p he
  refine e57 rfl (seq_step fun K hK => ?_)
  repeat (first | ((with_reducible refine hK _ _ _ ?_); clear hK) | (with_reducible refine seq_step fun K hK => ?_) | (with_reducible refine block_step ?_) | ((with_reducible refine cond_t ?_ ?_); focus rfl) | ((with_reducible refine cond_f ?_ ?_); focus rfl) | ((with_reducible refine code_id ?_); conv => whnf) | (clear hK; (with_reducible refine hK _ _ _ ?_); clear hK) | (clear hK; clear hK; (with_reducible refine hK _ _ _ ?_); clear hK) | (clear hK; clear hK; clear hK; (with_reducible refine hK _ _ _ ?_); clear hK) | (clear hK; clear hK; clear hK; clear hK; (with_reducible refine hK _ _ _ ?_); clear hK) | (clear hK; clear hK; clear hK; clear hK; clear hK; (with_reducible refine hK _ _ _ ?_); clear hK) | (clear hK; clear hK; clear hK; clear hK; clear hK; clear hK; (with_reducible refine hK _ _ _ ?_); clear hK) | (clear hK; clear hK; clear hK; clear hK; clear hK; clear hK; clear hK; (with_reducible refine hK _ _ _ ?_); clear hK))
  refine fresh_has hh fun b3 h1 _ _ hs1 hh1 => ?_
  conv => whnf
  repeat (first | ((with_reducible refine hK _ _ _ ?_); clear hK) | (with_reducible refine seq_step fun K hK => ?_) | (with_reducible refine block_step ?_) | ((with_reducible refine cond_t ?_ ?_); focus rfl) | ((with_reducible refine cond_f ?_ ?_); focus rfl) | ((with_reducible refine code_id ?_); conv => whnf) | (clear hK; (with_reducible refine hK _ _ _ ?_); clear hK) | (clear hK; clear hK; (with_reducible refine hK _ _ _ ?_); clear hK) | (clear hK; clear hK; clear hK; (with_reducible refine hK _ _ _ ?_); clear hK) | (clear hK; clear hK; clear hK; clear hK; (with_reducible refine hK _ _ _ ?_); clear hK) | (clear hK; clear hK; clear hK; clear hK; clear hK; (with_reducible refine hK _ _ _ ?_); clear hK) | (clear hK; clear hK; clear hK; clear hK; clear hK; clear hK; (with_reducible refine hK _ _ _ ?_); clear hK) | (clear hK; clear hK; clear hK; clear hK; clear hK; clear hK; clear hK; (with_reducible refine hK _ _ _ ?_); clear hK))
  refine opt_ld (hs1 _ _ hbk) (v := .agg (bookC tb0).toArray) (book_rd hl) ?_
  conv => whnf
  repeat (first | ((with_reducible refine hK _ _ _ ?_); clear hK) | (with_reducible refine seq_step fun K hK => ?_) | (with_reducible refine block_step ?_) | ((with_reducible refine cond_t ?_ ?_); focus rfl) | ((with_reducible refine cond_f ?_ ?_); focus rfl) | ((with_reducible refine code_id ?_); conv => whnf) | (clear hK; (with_reducible refine hK _ _ _ ?_); clear hK) | (clear hK; clear hK; (with_reducible refine hK _ _ _ ?_); clear hK) | (clear hK; clear hK; clear hK; (with_reducible refine hK _ _ _ ?_); clear hK) | (clear hK; clear hK; clear hK; clear hK; (with_reducible refine hK _ _ _ ?_); clear hK) | (clear hK; clear hK; clear hK; clear hK; clear hK; (with_reducible refine hK _ _ _ ?_); clear hK) | (clear hK; clear hK; clear hK; clear hK; clear hK; clear hK; (with_reducible refine hK _ _ _ ?_); clear hK) | (clear hK; clear hK; clear hK; clear hK; clear hK; clear hK; clear hK; (with_reducible refine hK _ _ _ ?_); clear hK))
  refine loop_intro (σ := Nat × Hp) (fun s => [(0, .v (ptr b)), (3, .v (ptr b3)), (11, .v (.agg (bookC tb0).toArray)), (12, .v (iv s.1))]) (fun _ => []) (fun s => s.2)
    (fun s => s.1 ≤ 16 ∧ Has (Pt b3 (.cells #[.func (.func k) #[] cap.toArray] 86 (0, 0)) :: CapsA b (Sp (s.1 * 48)) :: X (s.1 * 48) :: L) s.2)
    (fun s => 16 - s.1) (0, h1) ⟨Nat.zero_le _, hh1⟩ (subE_cons rfl (subE_cons rfl (subE_cons rfl (subE_cons rfl subE_nil)))) subB_nil rfl ?_
  rintro ⟨e, g⟩ ⟨he, hg⟩
  dsimp only at he hg ⊢
  have hnext : IntKind.i64.wrap ((e : Int) + 1) = ((e + 1 : Nat) : Int) := wrap_nat (by omega)
  repeat (first | ((with_reducible refine hK _ _ _ ?_); clear hK) | (with_reducible refine seq_step fun K hK => ?_) | (with_reducible refine block_step ?_) | ((with_reducible refine cond_t ?_ ?_); focus rfl) | ((with_reducible refine cond_f ?_ ?_); focus rfl) | ((with_reducible refine code_id ?_); conv => whnf) | (clear hK; (with_reducible refine hK _ _ _ ?_); clear hK) | (clear hK; clear hK; (with_reducible refine hK _ _ _ ?_); clear hK) | (clear hK; clear hK; clear hK; (with_reducible refine hK _ _ _ ?_); clear hK) | (clear hK; clear hK; clear hK; clear hK; (with_reducible refine hK _ _ _ ?_); clear hK) | (clear hK; clear hK; clear hK; clear hK; clear hK; (with_reducible refine hK _ _ _ ?_); clear hK) | (clear hK; clear hK; clear hK; clear hK; clear hK; clear hK; (with_reducible refine hK _ _ _ ?_); clear hK) | (clear hK; clear hK; clear hK; clear hK; clear hK; clear hK; clear hK; (with_reducible refine hK _ _ _ ?_); clear hK))
  refine cond_dec (fun hlt => ?_) (fun hge => ?_)
  · have he16 : e < 16 := by omega
    repeat (first | ((with_reducible refine hK _ _ _ ?_); clear hK) | (with_reducible refine seq_step fun K hK => ?_) | (with_reducible refine block_step ?_) | ((with_reducible refine cond_t ?_ ?_); focus rfl) | ((with_reducible refine cond_f ?_ ?_); focus rfl) | ((with_reducible refine code_id ?_); conv => whnf) | (clear hK; (with_reducible refine hK _ _ _ ?_); clear hK) | (clear hK; clear hK; (with_reducible refine hK _ _ _ ?_); clear hK) | (clear hK; clear hK; clear hK; (with_reducible refine hK _ _ _ ?_); clear hK) | (clear hK; clear hK; clear hK; clear hK; (with_reducible refine hK _ _ _ ?_); clear hK) | (clear hK; clear hK; clear hK; clear hK; clear hK; (with_reducible refine hK _ _ _ ?_); clear hK) | (clear hK; clear hK; clear hK; clear hK; clear hK; clear hK; (with_reducible refine hK _ _ _ ?_); clear hK) | (clear hK; clear hK; clear hK; clear hK; clear hK; clear hK; clear hK; (with_reducible refine hK _ _ _ ?_); clear hK))
    refine opt_if ⟨by omega, by omega⟩ ?_
    rw [show (bookC tb0).toArray[(e : Int).toNat * 1]? = some (ptrO ((got tb0 (e : Int)).map (·.1))) by rw [Int.toNat_natCast, Nat.mul_one]; exact bookC_get hl he16]
    have hsk : ∀ p q, e * 48 ≤ p → p ≤ q → q ≤ e * 48 + 48 → (∀ c ∈ (Sp p).cs, c.env = e → ¬ (p ≤ e * 48 + c.slot ∧ e * 48 + c.slot < q)) → Sp q = Sp p ∧ X q = X p := fun p q h1 h2 h3 h4 =>
      hs.skip h2 (by omega) fun c hc h => by
        have := pos_lt (hs.wf p) hc
        unfold posC at h
        have : c.env = e := by omega
        exact h4 c hc this (by rw [this] at h; exact h)
    cases hgt : (got tb0 (e : Int)).map (·.1) with
    | none =>
      have hno : ∀ c ∈ (Sp (e * 48)).cs, c.env ≠ e := fun c hc he2 => by
        obtain ⟨t, l, a1, _⟩ := (hs.wf (e * 48)).t2 c hc
        have h1 := hsh (e * 48) he16
        rw [he2] at a1
        rw [hgt, got_nat, a1] at h1
        cases h1
      obtain ⟨e1, e2⟩ := hsk (e * 48) (e * 48 + 48) (Nat.le_refl _) (by omega) (Nat.le_refl _) fun c hc h1 => absurd h1 (hno c hc)
      conv => whnf
      repeat (first | ((with_reducible refine hK _ _ _ ?_); clear hK) | (with_reducible refine seq_step fun K hK => ?_) | (with_reducible refine block_step ?_) | ((with_reducible refine cond_t ?_ ?_); focus rfl) | ((with_reducible refine cond_f ?_ ?_); focus rfl) | ((with_reducible refine code_id ?_); conv => whnf) | (clear hK; (with_reducible refine hK _ _ _ ?_); clear hK) | (clear hK; clear hK; (with_reducible refine hK _ _ _ ?_); clear hK) | (clear hK; clear hK; clear hK; (with_reducible refine hK _ _ _ ?_); clear hK) | (clear hK; clear hK; clear hK; clear hK; (with_reducible refine hK _ _ _ ?_); clear hK) | (clear hK; clear hK; clear hK; clear hK; clear hK; (with_reducible refine hK _ _ _ ?_); clear hK) | (clear hK; clear hK; clear hK; clear hK; clear hK; clear hK; (with_reducible refine hK _ _ _ ?_); clear hK) | (clear hK; clear hK; clear hK; clear hK; clear hK; clear hK; clear hK; (with_reducible refine hK _ _ _ ?_); clear hK))
      refine ⟨(e + 1, g), ⟨he16, ?_⟩, by dsimp only; omega, subE_cons rfl (subE_cons rfl (subE_cons rfl (subE_cons (int_eq hnext rfl) subE_nil))), subB_nil, rfl⟩
      dsimp only
      rw [show (e + 1) * 48 = e * 48 + 48 by omega, e1, e2]
      exact hg
    | some t =>
      conv => whnf
      repeat (first | ((with_reducible refine hK _ _ _ ?_); clear hK) | (with_reducible refine seq_step fun K hK => ?_) | (with_reducible refine block_step ?_) | ((with_reducible refine cond_t ?_ ?_); focus rfl) | ((with_reducible refine cond_f ?_ ?_); focus rfl) | ((with_reducible refine code_id ?_); conv => whnf) | (clear hK; (with_reducible refine hK _ _ _ ?_); clear hK) | (clear hK; clear hK; (with_reducible refine hK _ _ _ ?_); clear hK) | (clear hK; clear hK; clear hK; (with_reducible refine hK _ _ _ ?_); clear hK) | (clear hK; clear hK; clear hK; clear hK; (with_reducible refine hK _ _ _ ?_); clear hK) | (clear hK; clear hK; clear hK; clear hK; clear hK; (with_reducible refine hK _ _ _ ?_); clear hK) | (clear hK; clear hK; clear hK; clear hK; clear hK; clear hK; (with_reducible refine hK _ _ _ ?_); clear hK) | (clear hK; clear hK; clear hK; clear hK; clear hK; clear hK; clear hK; (with_reducible refine hK _ _ _ ?_); clear hK))
      refine tallH hg fun b4 g2 hg2 _ _ => ?_
      conv => whnf
      repeat (first | ((with_reducible refine hK _ _ _ ?_); clear hK) | (with_reducible refine seq_step fun K hK => ?_) | (with_reducible refine block_step ?_) | ((with_reducible refine cond_t ?_ ?_); focus rfl) | ((with_reducible refine cond_f ?_ ?_); focus rfl) | ((with_reducible refine code_id ?_); conv => whnf) | (clear hK; (with_reducible refine hK _ _ _ ?_); clear hK) | (clear hK; clear hK; (with_reducible refine hK _ _ _ ?_); clear hK) | (clear hK; clear hK; clear hK; (with_reducible refine hK _ _ _ ?_); clear hK) | (clear hK; clear hK; clear hK; clear hK; (with_reducible refine hK _ _ _ ?_); clear hK) | (clear hK; clear hK; clear hK; clear hK; clear hK; (with_reducible refine hK _ _ _ ?_); clear hK) | (clear hK; clear hK; clear hK; clear hK; clear hK; clear hK; (with_reducible refine hK _ _ _ ?_); clear hK) | (clear hK; clear hK; clear hK; clear hK; clear hK; clear hK; clear hK; (with_reducible refine hK _ _ _ ?_); clear hK))
      refine rf_intro trivial callableAll fun r R hr hR hY => ?_
      have hg3 := hg2.new hr (o := R .ready)
      have htab : ∀ p, ∃ l, got (Sp p).tb (e : Int) = some (t, l) ∧ (Sp p).tb[e]? = some (some (t, l)) := fun p => by
        have h1 := hsh p he16
        rw [hgt] at h1
        obtain ⟨⟨t', l⟩, hx, ht⟩ := Option.map_eq_some_iff.1 h1
        obtain rfl : t' = t := ht
        obtain ⟨n, e1, e2⟩ := got_at hx
        obtain rfl : e = n := by omega
        exact ⟨l, hx, e2⟩
      refine Ok.mono (twalk (p := t) (ty := 77) (Qd := fun h' => Has (Pt r (R .ready) :: Pt b4 (.cells #[ptr t] 77 (0, 0)) :: Pt b3 (.cells #[.func (.func k) #[] cap.toArray] 86 (0, 0)) :: CapsA b (Sp (e * 48 + 48)) :: X (e * 48 + 48) :: L) h')
        (fun c h' => 0 ≤ c ∧ c ≤ 48 ∧ Has (Pt r (R .ready) :: Pt b4 (.cells #[ptr t] 77 (0, 0)) :: Pt b3 (.cells #[.func (.func k) #[] cap.toArray] 86 (0, 0)) :: CapsA b (Sp (e * 48 + c.toNat)) :: X (e * 48 + c.toNat) :: L) h')
        (fun c g4 ⟨hc0, hc48, hg4⟩ => ?_) ⟨Int.le_refl _, by decide, hg3⟩) ?_
      · obtain ⟨l, hgl, htl⟩ := htab (e * 48 + c.toNat)
        have hw := hs.wf (e * 48 + c.toNat)
        have hll := hw.tl htl
        refine ⟨hc0, hg4.pt 1 rfl, l, (CapsA.rd hg4 3 rfl).tab htl, fun hn => ?_, fun j v hj hv => ?_⟩
        · have hno : ∀ j : Nat, c ≤ j → j < l.length → l[j]? = some none := by
            rcases nextR_spec l c with ⟨_, h1⟩ | ⟨k, w, e, _⟩
            · exact h1
            · rw [hn] at e; omega
          obtain ⟨e1, e2⟩ := hsk (e * 48 + c.toNat) (e * 48 + 48) (by omega) (by omega) (Nat.le_refl _) fun x hx h1 h2 => by
            have h3 := hw.taken htl hx h1
            rw [hno x.slot (by omega) (by omega)] at h3
            cases h3
          rw [e1, e2]; exact hg4
        · obtain ⟨hcj, hno⟩ : c ≤ (j : Int) ∧ ∀ i : Nat, c ≤ i → i < j → l[i]? = some none := by
            rcases nextR_spec l c with ⟨e, _⟩ | ⟨k2, w2, e, h1, h2, h3⟩
            · rw [hj] at e; omega
            · rw [hj] at e
              have : k2 = j := by omega
              subst this
              exact ⟨h1, h2⟩
          have hj48 : j < 48 := by have := (List.getElem?_eq_some_iff.1 hv).1; omega
          obtain ⟨e1, e2⟩ := hsk (e * 48 + c.toNat) (e * 48 + j) (by omega) (by omega) (by omega) fun x hx h1 h2 => by
            have h3 := hw.taken htl hx h1
            rw [hno x.slot (by omega) (by omega)] at h3
            cases h3
          obtain ⟨x, hx, x1, x2, x3⟩ := hw.t1 htl hv
          rw [← e1] at hx
          have hg5 : Has (Pt r (R .ready) :: Pt b4 (.cells #[ptr t] 77 (0, 0)) :: Pt b3 (.cells #[.func (.func k) #[] cap.toArray] 86 (0, 0)) :: CapsA b (Sp (e * 48 + j)) :: X (e * 48 + j) :: L) g4 := by rw [e1, e2]; exact hg4
          refine hY _ g4 _ rfl (hg5.pt 0 rfl) ?_
          conv => whnf
          refine ⟨hg5.pt 0 rfl, ?_⟩
          have hg6 := hg5.st 0 rfl (R .busy)
          conv => whnf
          refine opt_ld (hg6.pt 2 rfl) (v := .func (.func k) #[] cap.toArray) rfl ?_
          conv => whnf
          subst x1
          refine ⟨hcall, hc (e * 48 + j) (by omega) x hx (by unfold posC; omega) (Pt r (R .busy) :: Pt b4 (.cells #[ptr t] 77 (0, 0)) :: Pt b3 (.cells #[.func (.func k) #[] cap.toArray] 86 (0, 0)) :: L) _ _ ((hg6.pull 3 rfl).map_tail fun g hg => hg.pull 3 rfl) fun g7 hg7 => ?_⟩
          conv => whnf
          refine ⟨hg7.pt 2 rfl, .inl ⟨rfl, by omega, by omega, ?_⟩⟩
          have hg8 := hg7.st 2 rfl (R .ready)
          rw [show e * 48 + ((j : Int) + 1).toNat = e * 48 + j + 1 by omega]
          exact (hg8.pull 2 rfl).map_tail fun g hg => (hg.pull 2 rfl).map_tail fun g hg => hg.pull 2 rfl
      · rintro v' h' hg4
        refine ⟨.ready, hg4.pt 0 rfl, fun o => ?_⟩
        have hg5 := hg4.st 0 rfl o
        repeat (first | ((with_reducible refine hK _ _ _ ?_); clear hK) | (with_reducible refine seq_step fun K hK => ?_) | (with_reducible refine block_step ?_) | ((with_reducible refine cond_t ?_ ?_); focus rfl) | ((with_reducible refine cond_f ?_ ?_); focus rfl) | ((with_reducible refine code_id ?_); conv => whnf) | (clear hK; (with_reducible refine hK _ _ _ ?_); clear hK) | (clear hK; clear hK; (with_reducible refine hK _ _ _ ?_); clear hK) | (clear hK; clear hK; clear hK; (with_reducible refine hK _ _ _ ?_); clear hK) | (clear hK; clear hK; clear hK; clear hK; (with_reducible refine hK _ _ _ ?_); clear hK) | (clear hK; clear hK; clear hK; clear hK; clear hK; (with_reducible refine hK _ _ _ ?_); clear hK) | (clear hK; clear hK; clear hK; clear hK; clear hK; clear hK; (with_reducible refine hK _ _ _ ?_); clear hK) | (clear hK; clear hK; clear hK; clear hK; clear hK; clear hK; clear hK; (with_reducible refine hK _ _ _ ?_); clear hK))
        refine ⟨(e + 1, _), ⟨he16, ?_⟩, by dsimp only; omega, subE_cons rfl (subE_cons rfl (subE_cons rfl (subE_cons (int_eq hnext rfl) subE_nil))), subB_nil, rfl⟩
        dsimp only
        rw [show (e + 1) * 48 = e * 48 + 48 by omega]
        exact (hg5.erase 0).erase 0
  · have hee : e = 16 := by omega
    rw [hee] at hg
    repeat (first | ((with_reducible refine hK _ _ _ ?_); clear hK) | (with_reducible refine seq_step fun K hK => ?_) | (with_reducible refine block_step ?_) | ((with_reducible refine cond_t ?_ ?_); focus rfl) | ((with_reducible refine cond_f ?_ ?_); focus rfl) | ((with_reducible refine code_id ?_); conv => whnf) | (clear hK; (with_reducible refine hK _ _ _ ?_); clear hK) | (clear hK; clear hK; (with_reducible refine hK _ _ _ ?_); clear hK) | (clear hK; clear hK; clear hK; (with_reducible refine hK _ _ _ ?_); clear hK) | (clear hK; clear hK; clear hK; clear hK; (with_reducible refine hK _ _ _ ?_); clear hK) | (clear hK; clear hK; clear hK; clear hK; clear hK; (with_reducible refine hK _ _ _ ?_); clear hK) | (clear hK; clear hK; clear hK; clear hK; clear hK; clear hK; (with_reducible refine hK _ _ _ ?_); clear hK) | (clear hK; clear hK; clear hK; clear hK; clear hK; clear hK; clear hK; (with_reducible refine hK _ _ _ ?_); clear hK))
    exact hq _ hg.tail
end
end Go.Proofs.YthpkgkoojhgedaaDoor.V
