/- Seat 08: sweep. -/
import Derived.Test.YthpkgkoojhgedaaDoorK19
namespace Go.Proofs.YthpkgkoojhgedaaDoor.V
set_option linter.unusedVariables false
set_option linter.unusedSimpArgs false
set_option linter.unusedSectionVars false
set_option linter.unusedSectionVars false
open Go

/-! ### What a sweep leaves, by position -/

def atP (S : Bs) (p : Nat) : Option Ce := S.cs.find? fun c => decide (posC c = p)
def sw1 (m : Ce → Bool) (S : Bs) (p : Nat) : Bs := match atP S p with
  | some c => if m c then rm S c else S
  | none => S
def sw (m : Ce → Bool) (S : Bs) : Nat → Bs
  | 0 => S
  | p + 1 => sw1 m (sw m S p) p
def swL (m : Ce → Bool) (S : Bs) : Nat → List Ce
  | 0 => []
  | p + 1 => swL m S p ++ (match atP (sw m S p) p with
    | some c => if m c then [c] else []
    | none => [])

theorem atP_some {S : Bs} (hw : WF S) {c : Ce} (hc : c ∈ S.cs) : atP S (posC c) = some c := by
  unfold atP
  cases h : S.cs.find? (fun d => decide (posC d = posC c)) with
  | none =>
    rw [List.find?_eq_none] at h
    exact absurd (decide_eq_true rfl) (h c hc)
  | some d =>
    have h1 : posC d = posC c := of_decide_eq_true (List.find?_some (p := fun d => decide (posC d = posC c)) h)
    have hd := List.mem_of_find?_eq_some h
    have a1 := pos_lt hw hc
    have a2 := pos_lt hw hd
    unfold posC at h1
    rw [hw.place hd hc (by omega) (by omega)]
theorem atP_none {S : Bs} {p : Nat} (h : ∀ c ∈ S.cs, posC c ≠ p) : atP S p = none := by
  unfold atP
  rw [List.find?_eq_none]
  intro c hc
  simpa using h c hc
theorem atP_spec {S : Bs} {p : Nat} {c : Ce} (h : atP S p = some c) : c ∈ S.cs ∧ posC c = p :=
  ⟨List.mem_of_find?_eq_some h, of_decide_eq_true (List.find?_some (p := fun c => decide (posC c = p)) h)⟩

theorem setTab_shape (tb : Tb) (e s : Nat) (v : Option Nat) : (setTab tb e s v).map (·.map (·.1)) = tb.map (·.map (·.1)) := by
  unfold setTab
  split
  · rename_i t l ht
    apply List.ext_getElem?
    intro j
    rw [List.map_set, List.getElem?_set]
    by_cases hj : e = j
    · subst hj
      rw [if_pos rfl, if_pos (by rw [List.length_map]; exact (List.getElem?_eq_some_iff.1 ht).1), List.getElem?_map, ht]; rfl
    · rw [if_neg hj]
  · rfl

section
variable {S : Bs} {m : Ce → Bool}

theorem WF.sw1 (hw : WF S) (p : Nat) : WF (sw1 m S p) := by
  unfold V.sw1
  cases h : atP S p with
  | none => exact hw
  | some c =>
    dsimp only
    split
    · exact hw.rm (atP_spec h).1
    · exact hw
theorem WF.sw (hw : WF S) : ∀ p, WF (sw m S p)
  | 0 => hw
  | p + 1 => (WF.sw hw p).sw1 p

theorem sw1_shape (S : Bs) (p : Nat) : (sw1 m S p).tb.map (·.map (·.1)) = S.tb.map (·.map (·.1)) := by
  unfold V.sw1
  split
  · split
    · exact setTab_shape ..
    · rfl
  · rfl
theorem sw_shape (S : Bs) : ∀ p, (sw m S p).tb.map (·.map (·.1)) = S.tb.map (·.map (·.1))
  | 0 => rfl
  | p + 1 => (sw1_shape _ p).trans (sw_shape S p)

theorem sw1_open (S : Bs) (p : Nat) (x : Int) : isOpen (sw1 m S p).tb x = isOpen S.tb x := by
  unfold V.sw1
  split
  · split
    · exact setTab_open ..
    · rfl
  · rfl
theorem sw_open (S : Bs) (x : Int) : ∀ p, isOpen (sw m S p).tb x = isOpen S.tb x
  | 0 => rfl
  | p + 1 => (sw1_open _ p x).trans (sw_open S x p)

/-- Two cells alike but for parent and children. -/
def Sim (k d : Ce) : Prop := k.a = d.a ∧ k.env = d.env ∧ k.slot = d.slot ∧ k.cap = d.cap
theorem Sim.refl (c : Ce) : Sim c c := ⟨rfl, rfl, rfl, rfl⟩
theorem Sim.trans {a b c : Ce} (h1 : Sim a b) (h2 : Sim b c) : Sim a c := ⟨h1.1.trans h2.1, h1.2.1.trans h2.2.1, h1.2.2.1.trans h2.2.2.1, h1.2.2.2.trans h2.2.2.2⟩
theorem Sim.symm {a b : Ce} (h : Sim a b) : Sim b a := ⟨h.1.symm, h.2.1.symm, h.2.2.1.symm, h.2.2.2.symm⟩
theorem fR_sim (c k : Ce) : Sim (fR c k) k := ⟨rfl, rfl, rfl, rfl⟩
theorem Sim.pos {a b : Ce} (h : Sim a b) : posC a = posC b := by unfold posC; rw [h.2.1, h.2.2.1]
theorem Sim.hd {a b : Ce} (h : Sim a b) : hdOf a = hdOf b := by unfold hdOf; rw [h.2.1, h.2.2.1, h.2.2.2]

/-- What is there behind a sweep up to p: what was there, but those that go. -/
theorem sw_cells (hw : WF S) (hm : ∀ c d, Sim c d → m c = m d) : ∀ p, (∀ k ∈ (sw m S p).cs, ∃ d ∈ S.cs, Sim k d ∧ ¬ (posC d < p ∧ m d = true)) ∧ (∀ d ∈ S.cs, ¬ (posC d < p ∧ m d = true) → ∃ k ∈ (sw m S p).cs, Sim k d)
  | 0 => ⟨fun k hk => ⟨k, hk, .refl k, fun h => by omega⟩, fun d hd _ => ⟨d, hd, .refl d⟩⟩
  | p + 1 => by
    obtain ⟨h1, h2⟩ := sw_cells hw hm p
    have hwp := hw.sw (m := m) p
    show (∀ k ∈ (sw1 m (sw m S p) p).cs, _) ∧ (∀ d ∈ S.cs, _ → ∃ k ∈ (sw1 m (sw m S p) p).cs, _)
    unfold V.sw1
    cases ha : atP (sw m S p) p with
    | none =>
      have hno : ∀ k ∈ (sw m S p).cs, posC k ≠ p := fun k hk e => by
        have := atP_some hwp hk
        rw [e, ha] at this; cases this
      refine ⟨fun k hk => ?_, fun d hd hnd => h2 d hd fun h => hnd ⟨by omega, h.2⟩⟩
      obtain ⟨d, hd, hs, hn⟩ := h1 k hk
      refine ⟨d, hd, hs, fun h => hn ⟨?_, h.2⟩⟩
      have := hno k hk
      rw [hs.pos] at this
      omega
    | some c =>
      obtain ⟨hc, hcp⟩ := atP_spec ha
      dsimp only
      by_cases hmc : m c = true
      · rw [if_pos hmc]
        refine ⟨fun k hk => ?_, fun d hd hnd => ?_⟩
        · obtain ⟨k, hk9, hne, rfl⟩ := mem_rmC.1 hk
          obtain ⟨d, hd, hs, hn⟩ := h1 k hk9
          refine ⟨d, hd, (fR_sim c k).trans hs, fun h => hn ⟨?_, h.2⟩⟩
          have : posC k ≠ p := fun e => by
            have e1 := atP_some hwp hk9
            rw [e, ha] at e1
            cases e1
            exact hne rfl
          rw [hs.pos] at this
          omega
        · obtain ⟨k, hk, hs⟩ := h2 d hd fun h => hnd ⟨by omega, h.2⟩
          refine ⟨fR c k, mem_rmC.2 ⟨k, hk, fun e => ?_, rfl⟩, (fR_sim c k).trans hs⟩
          have := one_a hwp.nda hk hc e
          subst this
          exact hnd ⟨by rw [← hs.pos]; omega, by rw [← hm _ _ hs]; exact hmc⟩
      · rw [if_neg hmc]
        refine ⟨fun k hk => ?_, fun d hd hnd => h2 d hd fun h => hnd ⟨by omega, h.2⟩⟩
        obtain ⟨d, hd, hs, hn⟩ := h1 k hk
        refine ⟨d, hd, hs, fun h => ?_⟩
        by_cases hp : posC d < p
        · exact hn ⟨hp, h.2⟩
        · have hkp : posC k = p := by rw [hs.pos]; omega
          have e1 := atP_some hwp hk
          rw [hkp, ha] at e1
          cases e1
          exact hmc (by rw [hm _ _ hs]; exact h.2)

/-- What goes: in the order of the places. -/
theorem swL_mem (hw : WF S) (hm : ∀ c d, Sim c d → m c = m d) : ∀ p, (∀ k ∈ swL m S p, ∃ d ∈ S.cs, Sim k d ∧ posC d < p ∧ m d = true) ∧ (∀ d ∈ S.cs, posC d < p → m d = true → ∃ k ∈ swL m S p, Sim k d) ∧ (swL m S p).Pairwise (fun a b => posC a < posC b) ∧ (swL m S p).length + (sw m S p).cs.length = S.cs.length
  | 0 => ⟨fun k hk => (by have hk : k ∈ ([] : List Ce) := hk; cases hk), fun d hd h _ => absurd h (Nat.not_lt_zero _), List.Pairwise.nil, Nat.zero_add _⟩
  | p + 1 => by
    obtain ⟨h1, h2, h3, h4⟩ := swL_mem hw hm p
    have hwp := hw.sw (m := m) p
    obtain ⟨g1, g2⟩ := sw_cells hw hm p
    have hsw : sw m S (p + 1) = sw1 m (sw m S p) p := rfl
    have hsl : swL m S (p + 1) = swL m S p ++ (match atP (sw m S p) p with | some c => if m c then [c] else [] | none => []) := rfl
    rw [hsw, hsl]
    unfold V.sw1
    have old : ∀ d ∈ S.cs, posC d = p → ∃ k, atP (sw m S p) p = some k ∧ Sim k d := fun d hd hp => by
      obtain ⟨k, hk, hs⟩ := g2 d hd fun h => by omega
      have h9 := atP_some hwp hk
      rw [hs.pos, hp] at h9
      exact ⟨k, h9, hs⟩
    cases ha : atP (sw m S p) p with
    | none =>
      dsimp only
      rw [List.append_nil]
      refine ⟨fun k hk => ?_, fun d hd hp hmd => ?_, h3, h4⟩
      · obtain ⟨d, hd, hs, hp, hmd⟩ := h1 k hk; exact ⟨d, hd, hs, by omega, hmd⟩
      · by_cases hpd : posC d = p
        · obtain ⟨k, hk, _⟩ := old d hd hpd; rw [ha] at hk; cases hk
        · exact h2 d hd (by omega) hmd
    | some c =>
      obtain ⟨hc, hcp⟩ := atP_spec ha
      obtain ⟨dc, hdc, hsc, _⟩ := g1 c hc
      dsimp only
      by_cases hmc : m c = true
      · rw [if_pos hmc, if_pos hmc]
        refine ⟨fun k hk => ?_, fun d hd hp hmd => ?_, ?_, ?_⟩
        · rcases List.mem_append.1 hk with hk | hk
          · obtain ⟨d, hd, hs, hp, hmd⟩ := h1 k hk; exact ⟨d, hd, hs, by omega, hmd⟩
          · rw [List.mem_singleton.1 hk]
            exact ⟨dc, hdc, hsc, by rw [← hsc.pos]; omega, by rw [← hm _ _ hsc]; exact hmc⟩
        · by_cases hpd : posC d = p
          · obtain ⟨k, hk, hs⟩ := old d hd hpd
            rw [ha] at hk
            cases hk
            exact ⟨c, List.mem_append_right _ (List.mem_singleton.2 rfl), hs⟩
          · obtain ⟨k, hk, hs⟩ := h2 d hd (by omega) hmd
            exact ⟨k, List.mem_append_left _ hk, hs⟩
        · refine List.pairwise_append.2 ⟨h3, by simp, fun x hx y hy => ?_⟩
          rw [List.mem_singleton.1 hy, hcp]
          obtain ⟨d, _, hs, hp, _⟩ := h1 x hx
          rw [hs.pos]; exact hp
        · have hlen : (rm (sw m S p) c).cs.length + 1 = (sw m S p).cs.length := by
            obtain ⟨i, hi⟩ := List.mem_iff_getElem?.1 hc
            show (rmC _ c).length + 1 = _
            unfold rmC
            rw [List.length_map, filter_erase hwp.nda hi, List.length_eraseIdx, if_pos (List.getElem?_eq_some_iff.1 hi).1]
            have := (List.getElem?_eq_some_iff.1 hi).1
            omega
          rw [List.length_append, List.length_singleton]
          omega
      · rw [if_neg hmc, if_neg hmc, List.append_nil]
        refine ⟨fun k hk => ?_, fun d hd hp hmd => ?_, h3, h4⟩
        · obtain ⟨d, hd, hs, hp, hmd⟩ := h1 k hk; exact ⟨d, hd, hs, by omega, hmd⟩
        · by_cases hpd : posC d = p
          · obtain ⟨k, hk, hs⟩ := old d hd hpd
            rw [ha] at hk
            cases hk
            exact absurd (by rw [hm _ _ hs]; exact hmd) hmc
          · exact h2 d hd (by omega) hmd
end

/-! ### The walk -/

def PlA (a : Nat) : As := fun h => ∃ c ty, h a = some (.cells c ty (0, 0))
def GoneP (l : List Nat) : As := Has (l.map PlA)

theorem callableSw : callable PR 76 = true := by kernel_rfl

section
variable {h : Hp} {Q : Value → Hp → Prop} {L : List As} {b : Nat} {S : Bs} {m : Ce → Bool}

theorem GoneP.push {l : List Nat} {a : Nat} (hh : Has (PlA a :: GoneP l :: L) h) : Has (GoneP (l ++ [a]) :: L) h := by
  have h1 : Has ((PlA a :: l.map PlA) ++ L) h := Has.map_tail hh fun g hg => Has.flat hg
  have hp : (PlA a :: l.map PlA).Perm ((l ++ [a]).map PlA) := by
    rw [List.map_append]
    exact (List.perm_append_comm (l₁ := [PlA a]) (l₂ := l.map PlA))
  exact Has.group (h1.perm (hp.append_right L))

theorem GoneP.rd {l : List Nat} (hh : Has L h) (i : Nat) (hi : L[i]? = some (GoneP l)) {a : Nat} (ha : a ∈ l) : plainO (h a) = true := by
  obtain ⟨g, h1, h2⟩ := hh.at i hi
  obtain ⟨j, hj⟩ := List.mem_iff_getElem?.1 ha
  obtain ⟨g2, ⟨c, ty, h3⟩, h4⟩ := Has.at (L := l.map PlA) h1 j (A := PlA a) (by rw [List.getElem?_map, hj]; rfl)
  exact plain_of (h2 _ _ (h4 _ _ h3))

theorem CellP.pl {c : Ce} {g : Hp} (hg : CellP c g) : PlA c.a g := by
  obtain ⟨s, hs⟩ := hg
  exact ⟨_, _, hs.pt 0 rfl⟩

/-- All that a sweep holds beside the book. -/
def SwX (b b2 b3 b5 : Nat) (fv : Value) (XG : As) (l : List Ce) : As := fun h => ∃ s, Has [Pt b5 (.cells #[s] 41 (0, 0)), HsP s (l.map hdOf), Pt b3 (.cells #[fv] 93 (0, 0)), Pt b2 (.cells #[ptr b] 23 (0, 0)), GoneP (l.map (·.a)), XG] h

theorem SwX.opn {b2 b3 b5 : Nat} {fv : Value} {XG : As} {l : List Ce} (hh : Has (SwX b b2 b3 b5 fv XG l :: L) h) : ∃ s, Has (Pt b5 (.cells #[s] 41 (0, 0)) :: HsP s (l.map hdOf) :: Pt b3 (.cells #[fv] 93 (0, 0)) :: Pt b2 (.cells #[ptr b] 23 (0, 0)) :: GoneP (l.map (·.a)) :: XG :: L) h := by
  obtain ⟨h1, h2, e, ap, ⟨s, hs⟩, hL⟩ := hh
  exact ⟨s, Has.flat (L1 := [_, _, _, _, _, _]) ⟨h1, h2, e, ap, hs, hL⟩⟩
theorem SwX.cls {b2 b3 b5 : Nat} {fv s : Value} {XG : As} {l : List Ce} (hh : Has (Pt b5 (.cells #[s] 41 (0, 0)) :: HsP s (l.map hdOf) :: Pt b3 (.cells #[fv] 93 (0, 0)) :: Pt b2 (.cells #[ptr b] 23 (0, 0)) :: GoneP (l.map (·.a)) :: XG :: L) h) : Has (SwX b b2 b3 b5 fv XG l :: L) h := by
  obtain ⟨h1, h2, e, ap, hs, hL⟩ := Has.group (L1 := [_, _, _, _, _, _]) hh
  exact ⟨h1, h2, e, ap, ⟨s, hs⟩, hL⟩

set_option maxRecDepth 100000 in
set_option maxHeartbeats 2000000 in
theorem sweep47 (hw : WF S) (hm : ∀ c d, Sim c d → m c = m d) {kg : FuncId} {capg : List Value} (hcg : callable PR kg = true) {XG : As}
    (hgoes : ∀ (S' : Bs) (gl : List Nat) (c : Ce) (L : List As) (h : Hp) (Q : Value → Hp → Prop), WF S' → c ∈ S'.cs → (∀ d ∈ S.cs, d.a ∈ gl ∨ ∃ k ∈ S'.cs, k.a = d.a) → Has (CapsA b S' :: GoneP gl :: XG :: L) h →
      (∀ h', Has (CapsA b S' :: GoneP gl :: XG :: L) h' → Q (.bool (m c)) h') → Ok PR kg ([ptr c.a] ++ capg) h Q)
    (hh : Has (CapsA b S :: XG :: L) h) (hq : ∀ s h', Has (CapsA b (sw m S 768) :: HsP s ((swL m S 768).map hdOf) :: XG :: L) h' → Q s h') : Ok PR 47 [ptr b, .func (.func kg) #[] capg.toArray] h Q := by
  refine e47 rfl (seq_step fun K hK => ?_)
  repeat (first | ((with_reducible refine hK _ _ _ ?_); clear hK) | (with_reducible refine seq_step fun K hK => ?_) | (with_reducible refine block_step ?_) | ((with_reducible refine cond_t ?_ ?_); focus rfl) | ((with_reducible refine cond_f ?_ ?_); focus rfl) | ((with_reducible refine code_id ?_); conv => whnf) | (clear hK; (with_reducible refine hK _ _ _ ?_); clear hK) | (clear hK; clear hK; (with_reducible refine hK _ _ _ ?_); clear hK) | (clear hK; clear hK; clear hK; (with_reducible refine hK _ _ _ ?_); clear hK) | (clear hK; clear hK; clear hK; clear hK; (with_reducible refine hK _ _ _ ?_); clear hK) | (clear hK; clear hK; clear hK; clear hK; clear hK; (with_reducible refine hK _ _ _ ?_); clear hK) | (clear hK; clear hK; clear hK; clear hK; clear hK; clear hK; (with_reducible refine hK _ _ _ ?_); clear hK) | (clear hK; clear hK; clear hK; clear hK; clear hK; clear hK; clear hK; (with_reducible refine hK _ _ _ ?_); clear hK))
  refine fresh_has hh fun b2 h1 _ _ _ hh1 => ?_
  conv => whnf
  refine fresh_has hh1 fun b3 h2 _ _ _ hh2 => ?_
  conv => whnf
  repeat (first | ((with_reducible refine hK _ _ _ ?_); clear hK) | (with_reducible refine seq_step fun K hK => ?_) | (with_reducible refine block_step ?_) | ((with_reducible refine cond_t ?_ ?_); focus rfl) | ((with_reducible refine cond_f ?_ ?_); focus rfl) | ((with_reducible refine code_id ?_); conv => whnf) | (clear hK; (with_reducible refine hK _ _ _ ?_); clear hK) | (clear hK; clear hK; (with_reducible refine hK _ _ _ ?_); clear hK) | (clear hK; clear hK; clear hK; (with_reducible refine hK _ _ _ ?_); clear hK) | (clear hK; clear hK; clear hK; clear hK; (with_reducible refine hK _ _ _ ?_); clear hK) | (clear hK; clear hK; clear hK; clear hK; clear hK; (with_reducible refine hK _ _ _ ?_); clear hK) | (clear hK; clear hK; clear hK; clear hK; clear hK; clear hK; (with_reducible refine hK _ _ _ ?_); clear hK) | (clear hK; clear hK; clear hK; clear hK; clear hK; clear hK; clear hK; (with_reducible refine hK _ _ _ ?_); clear hK))
  refine fresh_has hh2 fun b5 h3 _ _ _ hh3 => ?_
  conv => whnf
  repeat (first | ((with_reducible refine hK _ _ _ ?_); clear hK) | (with_reducible refine seq_step fun K hK => ?_) | (with_reducible refine block_step ?_) | ((with_reducible refine cond_t ?_ ?_); focus rfl) | ((with_reducible refine cond_f ?_ ?_); focus rfl) | ((with_reducible refine code_id ?_); conv => whnf) | (clear hK; (with_reducible refine hK _ _ _ ?_); clear hK) | (clear hK; clear hK; (with_reducible refine hK _ _ _ ?_); clear hK) | (clear hK; clear hK; clear hK; (with_reducible refine hK _ _ _ ?_); clear hK) | (clear hK; clear hK; clear hK; clear hK; (with_reducible refine hK _ _ _ ?_); clear hK) | (clear hK; clear hK; clear hK; clear hK; clear hK; (with_reducible refine hK _ _ _ ?_); clear hK) | (clear hK; clear hK; clear hK; clear hK; clear hK; clear hK; (with_reducible refine hK _ _ _ ?_); clear hK) | (clear hK; clear hK; clear hK; clear hK; clear hK; clear hK; clear hK; (with_reducible refine hK _ _ _ ?_); clear hK))
  refine opt_ld (hh3.pt 2 rfl) (v := ptr b) rfl ?_
  conv => whnf
  have hh4 : Has (CapsA b (sw m S 0) :: SwX b b2 b3 b5 (.func (.func kg) #[] capg.toArray) XG (swL m S 0) :: L) h3 := by
    have h4 : Has (Pt b5 (.cells #[.slice none 0 0] 41 (0, 0)) :: Pt b3 (.cells #[.func (.func kg) #[] capg.toArray] 93 (0, 0)) :: Pt b2 (.cells #[ptr b] 23 (0, 0)) :: XG :: CapsA b S :: L) h3 := hh3.map_tail fun g hg => hg.map_tail fun g hg => hg.map_tail fun g hg => hg.swap
    have h5 : Has (SwX b b2 b3 b5 (.func (.func kg) #[] capg.toArray) XG (swL m S 0) :: CapsA b S :: L) h3 := SwX.cls (s := .slice none 0 0) (h4.map_tail fun g hg => Has.nilW (hg.map_tail fun g hg => hg.map_tail fun g hg => Has.emp (A := GoneP []) trivial hg) 6)
    exact h5.swap
  refine each57 (Sp := sw m S) (X := fun p => SwX b b2 b3 b5 (.func (.func kg) #[] capg.toArray) XG (swL m S p)) ⟨fun p => hw.sw p, fun p => sw_shape S p, fun p hp hno => ?_⟩
    (k := 76) (cap := [ptr b3, ptr b5, ptr b2]) callableSw (fun p hp c hc hpc L h Q hh hq => ?_) hh4 fun h6 hh6 => ?_
  · have ha := atP_none hno
    refine ⟨?_, ?_⟩
    · show sw1 m (sw m S p) p = _
      unfold sw1; rw [ha]
    · have e : swL m S (p + 1) = swL m S p := by
        show swL m S p ++ _ = _
        rw [ha]; simp
      rw [e]
  · have hwp := hw.sw (m := m) p
    have ha : atP (sw m S p) p = some c := by have h9 := atP_some hwp hc; rw [hpc] at h9; exact h9
    have e1 : sw m S (p + 1) = if m c then rm (sw m S p) c else sw m S p := by
      show sw1 m (sw m S p) p = _
      unfold sw1; rw [ha]
    have e2 : swL m S (p + 1) = swL m S p ++ if m c then [c] else [] := by
      show swL m S p ++ _ = _
      rw [ha]
    have hlen : (swL m S p).length ≤ 768 := by
      have := (swL_mem hw hm p).2.2.2
      have := hw.small
      omega
    rw [e1, e2] at hq
    obtain ⟨s, hh1⟩ := SwX.opn hh.swap
    have hh1 := (hh1.pull 6 rfl)
    obtain ⟨g1, g2⟩ := sw_cells hw hm p
    have hcov : ∀ d ∈ S.cs, d.a ∈ (swL m S p).map (·.a) ∨ ∃ k ∈ (sw m S p).cs, k.a = d.a := fun d hd => by
      by_cases hpd : posC d < p ∧ m d = true
      · obtain ⟨k, hk, hs⟩ := (swL_mem hw hm p).2.1 d hd hpd.1 hpd.2
        exact .inl (List.mem_map.2 ⟨k, hk, hs.1⟩)
      · obtain ⟨k, hk, hs⟩ := g2 d hd hpd
        exact .inr ⟨k, hk, hs.1⟩
    refine e76 rfl (seq_step fun K hK => ?_)
    repeat (first | ((with_reducible refine hK _ _ _ ?_); clear hK) | (with_reducible refine seq_step fun K hK => ?_) | (with_reducible refine block_step ?_) | ((with_reducible refine cond_t ?_ ?_); focus rfl) | ((with_reducible refine cond_f ?_ ?_); focus rfl) | ((with_reducible refine code_id ?_); conv => whnf) | (clear hK; (with_reducible refine hK _ _ _ ?_); clear hK) | (clear hK; clear hK; (with_reducible refine hK _ _ _ ?_); clear hK) | (clear hK; clear hK; clear hK; (with_reducible refine hK _ _ _ ?_); clear hK) | (clear hK; clear hK; clear hK; clear hK; (with_reducible refine hK _ _ _ ?_); clear hK) | (clear hK; clear hK; clear hK; clear hK; clear hK; (with_reducible refine hK _ _ _ ?_); clear hK) | (clear hK; clear hK; clear hK; clear hK; clear hK; clear hK; (with_reducible refine hK _ _ _ ?_); clear hK) | (clear hK; clear hK; clear hK; clear hK; clear hK; clear hK; clear hK; (with_reducible refine hK _ _ _ ?_); clear hK))
    refine opt_ld (hh1.pt 3 rfl) (v := .func (.func kg) #[] capg.toArray) rfl ?_
    conv => whnf
    refine ⟨hcg, hgoes (sw m S p) _ c _ _ _ hwp hc hcov (hh1.map_tail fun g hg => (hg.pull 4 rfl).map_tail fun g hg => hg.pull 4 rfl) fun h2 hh2 => ?_⟩
    have hh2 : Has (CapsA b (sw m S p) :: GoneP ((swL m S p).map (·.a)) :: XG :: Pt b5 (.cells #[s] 41 (0, 0)) :: HsP s ((swL m S p).map hdOf) :: Pt b3 (.cells #[.func (.func kg) #[] capg.toArray] 93 (0, 0)) :: Pt b2 (.cells #[ptr b] 23 (0, 0)) :: L) h2 := hh2
    have back : ∀ {g : Hp} {S' : Bs} {l' : List Ce} {s' : Value}, Has (CapsA b S' :: GoneP (l'.map (·.a)) :: XG :: Pt b5 (.cells #[s'] 41 (0, 0)) :: HsP s' (l'.map hdOf) :: Pt b3 (.cells #[.func (.func kg) #[] capg.toArray] 93 (0, 0)) :: Pt b2 (.cells #[ptr b] 23 (0, 0)) :: L) g →
        Has (CapsA b S' :: SwX b b2 b3 b5 (.func (.func kg) #[] capg.toArray) XG l' :: L) g := fun {g S' l' s'} hg =>
      hg.map_tail fun g hg => SwX.cls (s := s') ((hg.pull 2 rfl).map_tail fun g hg => (hg.pull 2 rfl).map_tail fun g hg => (hg.pull 2 rfl).map_tail fun g hg => hg.pull 2 rfl)
    cases hmc : m c with
    | false =>
      rw [hmc] at hq
      simp only [Bool.false_eq_true, if_false, List.append_nil] at hq
      conv => whnf
      repeat (first | ((with_reducible refine hK _ _ _ ?_); clear hK) | (with_reducible refine seq_step fun K hK => ?_) | (with_reducible refine block_step ?_) | ((with_reducible refine cond_t ?_ ?_); focus rfl) | ((with_reducible refine cond_f ?_ ?_); focus rfl) | ((with_reducible refine code_id ?_); conv => whnf) | (clear hK; (with_reducible refine hK _ _ _ ?_); clear hK) | (clear hK; clear hK; (with_reducible refine hK _ _ _ ?_); clear hK) | (clear hK; clear hK; clear hK; (with_reducible refine hK _ _ _ ?_); clear hK) | (clear hK; clear hK; clear hK; clear hK; (with_reducible refine hK _ _ _ ?_); clear hK) | (clear hK; clear hK; clear hK; clear hK; clear hK; (with_reducible refine hK _ _ _ ?_); clear hK) | (clear hK; clear hK; clear hK; clear hK; clear hK; clear hK; (with_reducible refine hK _ _ _ ?_); clear hK) | (clear hK; clear hK; clear hK; clear hK; clear hK; clear hK; clear hK; (with_reducible refine hK _ _ _ ?_); clear hK))
      exact hq _ (back hh2)
    | true =>
      rw [hmc] at hq
      simp only [if_true] at hq
      obtain ⟨sc, hcc, _⟩ := (CapsA.rd0 hh2).cell c hc
      obtain ⟨bs, cs, hs⟩ := hh2.slv 4 rfl
      subst hs
      conv => whnf
      repeat (first | ((with_reducible refine hK _ _ _ ?_); clear hK) | (with_reducible refine seq_step fun K hK => ?_) | (with_reducible refine block_step ?_) | ((with_reducible refine cond_t ?_ ?_); focus rfl) | ((with_reducible refine cond_f ?_ ?_); focus rfl) | ((with_reducible refine code_id ?_); conv => whnf) | (clear hK; (with_reducible refine hK _ _ _ ?_); clear hK) | (clear hK; clear hK; (with_reducible refine hK _ _ _ ?_); clear hK) | (clear hK; clear hK; clear hK; (with_reducible refine hK _ _ _ ?_); clear hK) | (clear hK; clear hK; clear hK; clear hK; (with_reducible refine hK _ _ _ ?_); clear hK) | (clear hK; clear hK; clear hK; clear hK; clear hK; (with_reducible refine hK _ _ _ ?_); clear hK) | (clear hK; clear hK; clear hK; clear hK; clear hK; clear hK; (with_reducible refine hK _ _ _ ?_); clear hK) | (clear hK; clear hK; clear hK; clear hK; clear hK; clear hK; clear hK; (with_reducible refine hK _ _ _ ?_); clear hK) | (refine ⟨_, _, SubH.refl _, SubB.refl _, ?_⟩; conv => whnf) | (refine ⟨⟨SubH.refl _, SubB.refl _⟩, ?_⟩; conv => whnf) | (refine ⟨_, _, ⟨SubH.refl _, SubB.refl _⟩, SubH.refl _, SubB.refl _, ?_⟩; conv => whnf))
      refine opt_ld (hh2.pt 3 rfl) (v := .slice bs ((swL m S p).map hdOf).length cs) rfl ?_
      conv => whnf
      repeat (first | ((with_reducible refine hK _ _ _ ?_); clear hK) | (with_reducible refine seq_step fun K hK => ?_) | (with_reducible refine block_step ?_) | ((with_reducible refine cond_t ?_ ?_); focus rfl) | ((with_reducible refine cond_f ?_ ?_); focus rfl) | ((with_reducible refine code_id ?_); conv => whnf) | (clear hK; (with_reducible refine hK _ _ _ ?_); clear hK) | (clear hK; clear hK; (with_reducible refine hK _ _ _ ?_); clear hK) | (clear hK; clear hK; clear hK; (with_reducible refine hK _ _ _ ?_); clear hK) | (clear hK; clear hK; clear hK; clear hK; (with_reducible refine hK _ _ _ ?_); clear hK) | (clear hK; clear hK; clear hK; clear hK; clear hK; (with_reducible refine hK _ _ _ ?_); clear hK) | (clear hK; clear hK; clear hK; clear hK; clear hK; clear hK; (with_reducible refine hK _ _ _ ?_); clear hK) | (clear hK; clear hK; clear hK; clear hK; clear hK; clear hK; clear hK; (with_reducible refine hK _ _ _ ?_); clear hK) | (refine ⟨_, _, SubH.refl _, SubB.refl _, ?_⟩; conv => whnf) | (refine ⟨⟨SubH.refl _, SubB.refl _⟩, ?_⟩; conv => whnf) | (refine ⟨_, _, ⟨SubH.refl _, SubB.refl _⟩, SubH.refl _, SubB.refl _, ?_⟩; conv => whnf))
      refine held50 hcc ?_
      conv => whnf
      refine ⟨_, _, ⟨SubH.refl _, SubB.refl _⟩, SubH.refl _, SubB.refl _, ?_⟩
      conv => whnf
      refine fresh_has hh2 fun b8 h8 _ _ hs8 hh8 => ?_
      conv => whnf
      refine ⟨⟨hs8, SubB.refl _⟩, ?_⟩
      conv => whnf
      have hh9 : Has (Pt b8 (.cells (hdC (hdOf c)).toArray 49 (0, 0)) :: HsP (.slice bs ((swL m S p).map hdOf).length cs) ((swL m S p).map hdOf) :: CapsA b (sw m S p) :: GoneP ((swL m S p).map (·.a)) :: XG :: Pt b5 (.cells #[.slice bs ((swL m S p).map hdOf).length cs] 41 (0, 0)) :: Pt b3 (.cells #[.func (.func kg) #[] capg.toArray] 93 (0, 0)) :: Pt b2 (.cells #[ptr b] 23 (0, 0)) :: L) h8 := hh8.map_tail fun g hg => hg.pull 4 rfl
      refine app1h (x := hdOf c) hh9 (by rw [List.length_map]; omega) fun s9 h9 hh9 => ?_
      obtain ⟨b9, c9, hs9⟩ := hh9.slv 0 rfl
      subst hs9
      conv => whnf
      refine st_has hh9 4 rfl rfl (show 0 + 1 ≤ 1 by decide) rfl fun h10 _ _ hh10 => ?_
      conv => whnf
      repeat (first | ((with_reducible refine hK _ _ _ ?_); clear hK) | (with_reducible refine seq_step fun K hK => ?_) | (with_reducible refine block_step ?_) | ((with_reducible refine cond_t ?_ ?_); focus rfl) | ((with_reducible refine cond_f ?_ ?_); focus rfl) | ((with_reducible refine code_id ?_); conv => whnf) | (clear hK; (with_reducible refine hK _ _ _ ?_); clear hK) | (clear hK; clear hK; (with_reducible refine hK _ _ _ ?_); clear hK) | (clear hK; clear hK; clear hK; (with_reducible refine hK _ _ _ ?_); clear hK) | (clear hK; clear hK; clear hK; clear hK; (with_reducible refine hK _ _ _ ?_); clear hK) | (clear hK; clear hK; clear hK; clear hK; clear hK; (with_reducible refine hK _ _ _ ?_); clear hK) | (clear hK; clear hK; clear hK; clear hK; clear hK; clear hK; (with_reducible refine hK _ _ _ ?_); clear hK) | (clear hK; clear hK; clear hK; clear hK; clear hK; clear hK; clear hK; (with_reducible refine hK _ _ _ ?_); clear hK) | (refine ⟨_, _, SubH.refl _, SubB.refl _, ?_⟩; conv => whnf) | (refine ⟨⟨SubH.refl _, SubB.refl _⟩, ?_⟩; conv => whnf) | (refine ⟨_, _, ⟨SubH.refl _, SubB.refl _⟩, SubH.refl _, SubB.refl _, ?_⟩; conv => whnf))
      refine opt_ld (hh10.pt 6 rfl) (v := ptr b) rfl ?_
      conv => whnf
      refine remove41 hwp hc (hh10.pull 1 rfl) fun h11 hh11 => ?_
      conv => whnf
      repeat (first | ((with_reducible refine hK _ _ _ ?_); clear hK) | (with_reducible refine seq_step fun K hK => ?_) | (with_reducible refine block_step ?_) | ((with_reducible refine cond_t ?_ ?_); focus rfl) | ((with_reducible refine cond_f ?_ ?_); focus rfl) | ((with_reducible refine code_id ?_); conv => whnf) | (clear hK; (with_reducible refine hK _ _ _ ?_); clear hK) | (clear hK; clear hK; (with_reducible refine hK _ _ _ ?_); clear hK) | (clear hK; clear hK; clear hK; (with_reducible refine hK _ _ _ ?_); clear hK) | (clear hK; clear hK; clear hK; clear hK; (with_reducible refine hK _ _ _ ?_); clear hK) | (clear hK; clear hK; clear hK; clear hK; clear hK; (with_reducible refine hK _ _ _ ?_); clear hK) | (clear hK; clear hK; clear hK; clear hK; clear hK; clear hK; (with_reducible refine hK _ _ _ ?_); clear hK) | (clear hK; clear hK; clear hK; clear hK; clear hK; clear hK; clear hK; (with_reducible refine hK _ _ _ ?_); clear hK) | (refine ⟨_, _, SubH.refl _, SubB.refl _, ?_⟩; conv => whnf) | (refine ⟨⟨SubH.refl _, SubB.refl _⟩, ?_⟩; conv => whnf) | (refine ⟨_, _, ⟨SubH.refl _, SubB.refl _⟩, SubH.refl _, SubB.refl _, ?_⟩; conv => whnf))
      refine hq _ (back (l' := swL m S p ++ [c]) (s' := .slice b9 ((swL m S p).map hdOf ++ [hdOf c]).length c9) ?_)
      rw [List.map_append, List.map_append]
      have hh12 : Has (PlA c.a :: GoneP ((swL m S p).map (·.a)) :: CapsA b (rm (sw m S p) c) :: HsP (.slice b9 ((swL m S p).map hdOf ++ [hdOf c]).length c9) ((swL m S p).map hdOf ++ [hdOf c]) :: XG :: Pt b5 (.cells #[.slice b9 ((swL m S p).map hdOf ++ [hdOf c]).length c9] 41 (0, 0)) :: Pt b3 (.cells #[.func (.func kg) #[] capg.toArray] 93 (0, 0)) :: Pt b2 (.cells #[ptr b] 23 (0, 0)) :: L) h11 :=
        ((hh11.pull 1 rfl).mono1 fun g hg => CellP.pl hg).map_tail fun g hg => hg.pull 2 rfl
      have hh13 := GoneP.push hh12
      exact (hh13.pull 1 rfl).map_tail fun g hg => hg.map_tail fun g hg => (hg.pull 1 rfl).map_tail fun g hg => hg.pull 1 rfl
  · obtain ⟨s, hh7⟩ := SwX.opn hh6.swap
    conv => whnf
    repeat (first | ((with_reducible refine hK _ _ _ ?_); clear hK) | (with_reducible refine seq_step fun K hK => ?_) | (with_reducible refine block_step ?_) | ((with_reducible refine cond_t ?_ ?_); focus rfl) | ((with_reducible refine cond_f ?_ ?_); focus rfl) | ((with_reducible refine code_id ?_); conv => whnf) | (clear hK; (with_reducible refine hK _ _ _ ?_); clear hK) | (clear hK; clear hK; (with_reducible refine hK _ _ _ ?_); clear hK) | (clear hK; clear hK; clear hK; (with_reducible refine hK _ _ _ ?_); clear hK) | (clear hK; clear hK; clear hK; clear hK; (with_reducible refine hK _ _ _ ?_); clear hK) | (clear hK; clear hK; clear hK; clear hK; clear hK; (with_reducible refine hK _ _ _ ?_); clear hK) | (clear hK; clear hK; clear hK; clear hK; clear hK; clear hK; (with_reducible refine hK _ _ _ ?_); clear hK) | (clear hK; clear hK; clear hK; clear hK; clear hK; clear hK; clear hK; (with_reducible refine hK _ _ _ ?_); clear hK))
    refine opt_ld (hh7.pt 0 rfl) (v := s) rfl ?_
    conv => whnf
    repeat (first | ((with_reducible refine hK _ _ _ ?_); clear hK) | (with_reducible refine seq_step fun K hK => ?_) | (with_reducible refine block_step ?_) | ((with_reducible refine cond_t ?_ ?_); focus rfl) | ((with_reducible refine cond_f ?_ ?_); focus rfl) | ((with_reducible refine code_id ?_); conv => whnf) | (clear hK; (with_reducible refine hK _ _ _ ?_); clear hK) | (clear hK; clear hK; (with_reducible refine hK _ _ _ ?_); clear hK) | (clear hK; clear hK; clear hK; (with_reducible refine hK _ _ _ ?_); clear hK) | (clear hK; clear hK; clear hK; clear hK; (with_reducible refine hK _ _ _ ?_); clear hK) | (clear hK; clear hK; clear hK; clear hK; clear hK; (with_reducible refine hK _ _ _ ?_); clear hK) | (clear hK; clear hK; clear hK; clear hK; clear hK; clear hK; (with_reducible refine hK _ _ _ ?_); clear hK) | (clear hK; clear hK; clear hK; clear hK; clear hK; clear hK; clear hK; (with_reducible refine hK _ _ _ ?_); clear hK))
    refine hq s _ ?_
    exact ((((hh7.erase 0).erase 1).erase 1).erase 1).pull 2 rfl
end
end Go.Proofs.YthpkgkoojhgedaaDoor.V
