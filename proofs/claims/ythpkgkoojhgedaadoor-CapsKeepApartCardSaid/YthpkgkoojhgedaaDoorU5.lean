/- Bounded tables of any values: the next taken place, tables by parts of a heap. -/
import Derived.Test.YthpkgkoojhgedaaDoorU6
namespace Go.Proofs.YthpkgkoojhgedaaDoor.V
set_option linter.unusedVariables false
set_option linter.unusedSimpArgs false
set_option linter.unusedSectionVars false
set_option linter.unusedSectionVars false
open Go

theorem upd_none {h : Hp} {b c : Nat} {o : Obj} (hc : upd h b o c = none) : c ≠ b ∧ h c = none := by
  unfold upd at hc
  split at hc
  · cases hc
  · rename_i hn; exact ⟨hn, hc⟩

section
variable {α : Type}

def nextR (l : List (Option α)) (i : Int) : Int := match (List.range l.length).find? (fun k : Nat => decide (i ≤ (k : Int)) && (got l (k : Int)).isSome) with
  | some k => k
  | none => -1

theorem nextR_some {l : List (Option α)} {i : Int} {k : Nat} {v : α} (h1 : i ≤ k) (h2 : ∀ j : Nat, i ≤ j → j < k → l[j]? = some none) (h3 : l[k]? = some (some v)) : nextR l i = k := by
  have hk : k < l.length := (List.getElem?_eq_some_iff.1 h3).1
  have : (List.range l.length).find? (fun k : Nat => decide (i ≤ (k : Int)) && (got l (k : Int)).isSome) = some k := by
    rw [List.find?_range_eq_some]
    refine ⟨by simp [h1, got_nat, h3], by simpa using hk, fun j hj => ?_⟩
    by_cases hij : i ≤ j
    · simp [got_nat, h2 j hij hj]
    · simp [hij]
  simp [nextR, this]

theorem nextR_none {l : List (Option α)} {i : Int} (h : ∀ j : Nat, i ≤ j → j < l.length → l[j]? = some none) : nextR l i = -1 := by
  have : (List.range l.length).find? (fun k : Nat => decide (i ≤ (k : Int)) && (got l (k : Int)).isSome) = none := by
    rw [List.find?_eq_none]
    intro j hj
    simp only [List.mem_range] at hj
    by_cases hij : i ≤ j
    · simp [got_nat, h j hij hj]
    · simp [hij]
  simp [nextR, this]

/-- What nextR says. -/
theorem nextR_spec (l : List (Option α)) (i : Int) : (nextR l i = -1 ∧ ∀ j : Nat, i ≤ j → j < l.length → l[j]? = some none) ∨
    ∃ (k : Nat) (v : α), nextR l i = k ∧ i ≤ k ∧ (∀ j : Nat, i ≤ j → j < k → l[j]? = some none) ∧ l[k]? = some (some v) := by
  have key : ∀ j : Nat, j < l.length → (got l j).isSome = false → l[j]? = some none := fun j hj hg => by
    rw [got_nat, List.getElem?_eq_getElem hj] at hg
    rw [List.getElem?_eq_getElem hj]
    simp only at hg
    cases hx : l[j] with
    | none => rfl
    | some v => rw [hx] at hg; cases hg
  unfold nextR
  cases hf : (List.range l.length).find? (fun k : Nat => decide (i ≤ (k : Int)) && (got l (k : Int)).isSome) with
  | none =>
    refine .inl ⟨rfl, fun j h1 h2 => ?_⟩
    rw [List.find?_eq_none] at hf
    have := hf j (by simpa using h2)
    simp only [h1, decide_true, Bool.true_and, Bool.not_eq_true] at this
    exact key j h2 this
  | some k =>
    rw [List.find?_range_eq_some] at hf
    obtain ⟨h1, h2, h3⟩ := hf
    rw [Bool.and_eq_true, decide_eq_true_eq] at h1
    rw [List.mem_range] at h2
    obtain ⟨v, hv⟩ := Option.isSome_iff_exists.1 h1.2
    obtain ⟨k', e, hk', hl⟩ := got_some hv
    have : k = k' := by omega
    subst this
    refine .inr ⟨k, v, rfl, h1.1, fun j hj hjk => ?_, hl⟩
    have := h3 j hjk
    simp only [hj, decide_true, Bool.true_and, Bool.not_eq_true'] at this
    exact key j (by omega) this

def TabP (row : Option α → List Value) (p : Nat) (l : List (Option α)) : As := fun h => ∃ d, TabAt row h p d l

theorem TabP.sub {row : Option α → List Value} {p : Nat} {l : List (Option α)} {h h' : Hp} (hT : TabP row p l h) (hs : SubH h h') : TabP row p l h' := let ⟨d, h1⟩ := hT; ⟨d, h1.sub hs⟩

theorem TabP.bound {row : Option α → List Value} {p : Nat} {l : List (Option α)} {h : Hp} (hT : TabP row p l h) : l.length ≤ 4096 := let ⟨d, low, h1⟩ := hT; h1.bound

/-- A part of a row laid over. -/
theorem wr_part {α : Type} {row : α → List Value} {e : Nat} (hr : ∀ x, (row x).length = e) {l : List α} {k : Nat} {x y : α} (hk : l[k]? = some y) (o : Nat) (vs : List Value) (hv : wrL (row y) o vs = row x) (ho : o + vs.length ≤ e) :
    wr (l.flatMap row).toArray (k * e + o) vs = ((l.set k x).flatMap row).toArray := by
  have hkl : k < l.length := (List.getElem?_eq_some_iff.1 hk).1
  rw [← wr_flat hr l k x hkl, wr_wrL, wr_wrL]
  congr 1
  have hle : k * e + e ≤ (l.flatMap row).length := by
    rw [flat_len hr, ← Nat.succ_mul]; exact Nat.mul_le_mul_right _ hkl
  apply List.ext_getElem?
  intro i
  rw [wrL_get _ _ _ _ (by omega), wrL_get _ _ _ _ (by rw [hr]; exact hle), hr]
  by_cases h1 : k * e ≤ i ∧ i < k * e + e
  · rw [if_pos h1, ← hv, wrL_get _ _ _ _ (by rw [hr]; exact ho)]
    by_cases h2 : k * e + o ≤ i ∧ i < k * e + o + vs.length
    · rw [if_pos h2, if_pos (by omega)]; congr 1; omega
    · rw [if_neg h2, if_neg (by omega)]
      have := flat_get hr l k (i - k * e) y hk (by omega)
      rw [show k * e + (i - k * e) = i by omega] at this
      exact this
  · rw [if_neg h1, if_neg (by omega)]


end
end Go.Proofs.YthpkgkoojhgedaaDoor.V
