/- Seat 08: open lists, free and taken places. -/
import Derived.Test.YthpkgkoojhgedaaDoorK8
namespace Go.Proofs.YthpkgkoojhgedaaDoor.V
set_option linter.unusedVariables false
set_option linter.unusedSimpArgs false
set_option linter.unusedSectionVars false
set_option linter.unusedSectionVars false
open Go

/-- Which lists are open. -/
def isOpen (tb : Tb) (e : Int) : Bool := (got tb e).isSome

theorem setTab_open (tb : Tb) (e s : Nat) (v : Option Nat) (x : Int) : isOpen (setTab tb e s v) x = isOpen tb x := by
  cases ht : tb[e]? with
  | none => unfold setTab; rw [ht]
  | some y =>
    cases y with
    | none => unfold setTab; rw [ht]
    | some tl =>
      obtain ⟨t, l⟩ := tl
      unfold isOpen
      by_cases h0 : 0 ≤ x
      · obtain ⟨n, rfl⟩ := Int.eq_ofNat_of_zero_le h0
        rw [got_nat, got_nat, setTab_get ht]
        by_cases hn : e = n
        · subst hn; rw [if_pos rfl, ht]; rfl
        · rw [if_neg hn]
      · rw [got_neg (by omega), got_neg (by omega)]

theorem opn_open {S : Bs} (e t : Nat) (he : e < S.tb.length) (x : Int) : isOpen (opn S e t).tb x = (decide (x = e) || isOpen S.tb x) := by
  unfold isOpen opn
  by_cases h0 : 0 ≤ x
  · obtain ⟨n, rfl⟩ := Int.eq_ofNat_of_zero_le h0
    rw [got_nat, got_nat, List.getElem?_set]
    by_cases hn : e = n
    · subst hn; simp [he]
    · rw [if_neg hn, decide_eq_false (by omega)]; rfl
  · rw [got_neg (by omega), got_neg (by omega), decide_eq_false (by omega)]; rfl

theorem got_open {tb : Tb} {e : Int} (h : isOpen tb e = true) : ∃ (n t : Nat) (l : List (Option Nat)), e = n ∧ got tb e = some (t, l) ∧ tb[n]? = some (some (t, l)) := by
  unfold isOpen at h
  obtain ⟨⟨t, l⟩, hx⟩ := Option.isSome_iff_exists.1 h
  obtain ⟨n, e1, e2⟩ := got_at hx
  exact ⟨n, t, l, e1, hx, e2⟩

section
variable {S : Bs}

theorem WF.place (hw : WF S) {c d : Ce} (hc : c ∈ S.cs) (hd : d ∈ S.cs) (h1 : c.env = d.env) (h2 : c.slot = d.slot) : c = d := by
  have a := mLook_of hw hc
  have b := mLook_of hw hd
  rw [h1, h2, b] at a
  exact one_a hw.nda hc hd (Sum.inr.inj a).symm

/-- A free place. -/
theorem WF.free (hw : WF S) {e t s : Nat} {l : List (Option Nat)} (ht : S.tb[e]? = some (some (t, l))) (hs : s < 48) (hf : ∀ c ∈ S.cs, ¬ (c.env = e ∧ c.slot = s)) : l[s]? = some none := by
  have hl := hw.tl ht
  cases h : l[s]? with
  | none => rw [List.getElem?_eq_none_iff] at h; omega
  | some x =>
    cases x with
    | none => rfl
    | some a =>
      obtain ⟨c, hc, _, e2, e3⟩ := hw.t1 ht h
      exact absurd ⟨e2, e3⟩ (hf c hc)

theorem low_is {l : List (Option Nat)} {k : Nat} (h1 : l[k]? = some none) (h2 : ∀ j, j < k → l[j]? ≠ some none) : low l = some k := by
  cases h : low l with
  | none => exact absurd h1 (low_none h k (List.getElem?_eq_some_iff.1 h1).1)
  | some m =>
    obtain ⟨a1, a2⟩ := low_some h
    rcases Nat.lt_trichotomy m k with hlt | rfl | hlt
    · exact absurd a1 (h2 m hlt)
    · rfl
    · exact absurd h1 (a2 k hlt)

/-- A taken place. -/
theorem WF.taken (hw : WF S) {e t : Nat} {l : List (Option Nat)} (ht : S.tb[e]? = some (some (t, l))) {c : Ce} (hc : c ∈ S.cs) (he : c.env = e) : l[c.slot]? = some (some c.a) := by
  obtain ⟨t', l', a1, a2⟩ := hw.t2 c hc
  rw [he, ht] at a1
  cases a1
  exact a2

end

end Go.Proofs.YthpkgkoojhgedaaDoor.V
