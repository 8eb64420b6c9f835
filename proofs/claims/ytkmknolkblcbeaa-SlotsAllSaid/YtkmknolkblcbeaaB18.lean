/- Tables, told by lists: what each call answers and what it leaves. -/
import Derived.Test.YtkmknolkblcbeaaVC
namespace Go.Proofs.Ytkmknolkblcbeaa.V
set_option linter.unusedVariables false
set_option linter.unusedSimpArgs false
set_option linter.unusedSectionVars false
open Go

abbrev Tb := List (Option Int)

theorem Has.get {L : List As} {h : Hp} (hh : Has L h) (i : Nat) {A : As} (hi : L[i]? = some A) (hm : ∀ g g', A g → SubH g g' → A g') : A h := by
  obtain ⟨g, h1, h2⟩ := hh.at i hi
  exact hm _ _ h1 h2

/-- The lowest free place. -/
def freeR (l : Tb) : Option Nat := l.findIdx? (fun x => x.isNone)

def putR (l : Tb) (v : Int) : Int × Int × Tb := match freeR l with
  | some k => ((k : Int), (0 : Int), l.set k (some v))
  | none => ((-1 : Int), (2 : Int), l)

def putAtR (l : Tb) (i v : Int) : Int × Tb :=
  if i < 0 ∨ (l.length : Int) ≤ i then (30, l) else match got l i with
    | some _ => (31, l)
    | none => (0, l.set i.toNat (some v))

def setR (l : Tb) (i v : Int) : Bool × Tb := match got l i with
  | some _ => (true, l.set i.toNat (some v))
  | none => (false, l)

def dropR (l : Tb) (i : Int) : Option Int × Tb := match got l i with
  | some w => (some w, l.set i.toNat none)
  | none => (none, l)

def nextR (l : Tb) (i : Int) : Int := match (List.range l.length).find? (fun k : Nat => decide (i ≤ (k : Int)) && (got l (k : Int)).isSome) with
  | some k => k
  | none => -1

def findR (l : Tb) (v : Int) : Int := match l.findIdx? (fun x => x == some v) with
  | some k => k
  | none => -1

def clearR (l : Tb) : Tb := List.replicate l.length none

theorem putR_free {l : Tb} {v : Int} {k : Nat} (h1 : ∀ j, j < k → l[j]? ≠ some none) (h2 : l[k]? = some none) : putR l v = ((k : Int), (0 : Int), l.set k (some v)) := by
  have : freeR l = some k := by
    unfold freeR
    rw [List.findIdx?_eq_some_iff_getElem]
    obtain ⟨hk, he⟩ := List.getElem?_eq_some_iff.1 h2
    refine ⟨hk, by rw [he]; rfl, fun j hj => ?_⟩
    have := h1 j hj
    rw [List.getElem?_eq_getElem (by omega)] at this
    simp only [ne_eq, Option.some.injEq] at this
    cases hx : l[j] with
    | none => exact absurd hx this
    | some w => simp
  simp [putR, this]

theorem putR_full {l : Tb} {v : Int} (h1 : ∀ j, j < l.length → l[j]? ≠ some none) : putR l v = ((-1 : Int), (2 : Int), l) := by
  have : freeR l = none := by
    unfold freeR
    rw [List.findIdx?_eq_none_iff]
    intro x hx
    obtain ⟨j, hj, rfl⟩ := List.getElem_of_mem hx
    have := h1 j hj
    rw [List.getElem?_eq_getElem hj] at this
    simp only [ne_eq, Option.some.injEq] at this
    cases hx : l[j] with
    | none => exact absurd hx this
    | some w => simp
  simp [putR, this]

theorem nextR_some {l : Tb} {i : Int} {k : Nat} {v : Int} (h1 : i ≤ k) (h2 : ∀ j : Nat, i ≤ j → j < k → l[j]? = some none) (h3 : l[k]? = some (some v)) : nextR l i = k := by
  have hk : k < l.length := (List.getElem?_eq_some_iff.1 h3).1
  have : (List.range l.length).find? (fun k : Nat => decide (i ≤ (k : Int)) && (got l (k : Int)).isSome) = some k := by
    rw [List.find?_range_eq_some]
    refine ⟨by simp [h1, got_nat, h3], by simpa using hk, fun j hj => ?_⟩
    by_cases hij : i ≤ j
    · simp [got_nat, h2 j hij hj]
    · simp [hij]
  simp [nextR, this]

theorem nextR_none {l : Tb} {i : Int} (h : ∀ j : Nat, i ≤ j → j < l.length → l[j]? = some none) : nextR l i = -1 := by
  have : (List.range l.length).find? (fun k : Nat => decide (i ≤ (k : Int)) && (got l (k : Int)).isSome) = none := by
    rw [List.find?_eq_none]
    intro j hj
    simp only [List.mem_range] at hj
    by_cases hij : i ≤ j
    · simp [got_nat, h j hij hj]
    · simp [hij]
  simp [nextR, this]

/-- What nextR says. -/
theorem nextR_spec (l : Tb) (i : Int) : (nextR l i = -1 ∧ ∀ j : Nat, i ≤ j → j < l.length → l[j]? = some none) ∨
    ∃ (k : Nat) (v : Int), nextR l i = k ∧ i ≤ k ∧ (∀ j : Nat, i ≤ j → j < k → l[j]? = some none) ∧ l[k]? = some (some v) := by
  have key : ∀ j : Nat, j < l.length → (got l j).isSome = false → l[j]? = some none := fun j hj hg => by
    rw [got_nat, List.getElem?_eq_getElem hj] at hg
    rw [List.getElem?_eq_getElem hj]
    simp only at hg
    cases hx : l[j] with
    | none => rfl
    | some v => rw [hx] at hg; cases hg
  unfold nextR
  cases hf : (List.range l.length).find? (fun k : Nat => decide (i ≤ (k : Int)) && (got l (k : Int)).isSome) with
  | none =>
    refine .inl ⟨rfl, fun j h1 h2 => ?_⟩
    rw [List.find?_eq_none] at hf
    have := hf j (by simpa using h2)
    simp only [h1, decide_true, Bool.true_and, Bool.not_eq_true] at this
    exact key j h2 this
  | some k =>
    rw [List.find?_range_eq_some] at hf
    obtain ⟨h1, h2, h3⟩ := hf
    rw [Bool.and_eq_true, decide_eq_true_eq] at h1
    rw [List.mem_range] at h2
    obtain ⟨v, hv⟩ := Option.isSome_iff_exists.1 h1.2
    obtain ⟨k', e, hk', hl⟩ := got_some hv
    have : k = k' := by omega
    subst this
    refine .inr ⟨k, v, rfl, h1.1, fun j hj hjk => ?_, hl⟩
    have := h3 j hjk
    simp only [hj, decide_true, Bool.true_and, Bool.not_eq_true'] at this
    exact key j (by omega) this

theorem putR_len (l : Tb) (v : Int) : (putR l v).2.2.length = l.length := by unfold putR; split <;> simp
theorem putAtR_len (l : Tb) (i v : Int) : (putAtR l i v).2.length = l.length := by unfold putAtR; split <;> (try rfl); split <;> simp
theorem setR_len (l : Tb) (i v : Int) : (setR l i v).2.length = l.length := by unfold setR; split <;> simp
theorem dropR_len (l : Tb) (i : Int) : (dropR l i).2.length = l.length := by unfold dropR; split <;> simp
theorem clearR_len (l : Tb) : (clearR l).length = l.length := by simp [clearR]

def TabP (row : Option Int → List Value) (p : Nat) (l : Tb) : As := fun h => ∃ d, TabAt row h p d l

theorem TabP.sub {row : Option Int → List Value} {p : Nat} {l : Tb} {h h' : Hp} (hT : TabP row p l h) (hs : SubH h h') : TabP row p l h' := let ⟨d, h1⟩ := hT; ⟨d, h1.sub hs⟩

theorem TabP.bound {row : Option Int → List Value} {p : Nat} {l : Tb} {h : Hp} (hT : TabP row p l h) : l.length ≤ 4096 := let ⟨d, low, h1⟩ := hT; h1.bound

/-- A part of a row laid over. -/
theorem wr_part {α : Type} {row : α → List Value} {e : Nat} (hr : ∀ x, (row x).length = e) {l : List α} {k : Nat} {x y : α} (hk : l[k]? = some y) (o : Nat) (vs : List Value) (hv : wrL (row y) o vs = row x) (ho : o + vs.length ≤ e) :
    wr (l.flatMap row).toArray (k * e + o) vs = ((l.set k x).flatMap row).toArray := by
  have hkl : k < l.length := (List.getElem?_eq_some_iff.1 hk).1
  rw [← wr_flat hr l k x hkl, wr_wrL, wr_wrL]
  congr 1
  have hle : k * e + e ≤ (l.flatMap row).length := by
    rw [flat_len hr, ← Nat.succ_mul]; exact Nat.mul_le_mul_right _ hkl
  apply List.ext_getElem?
  intro i
  rw [wrL_get _ _ _ _ (by omega), wrL_get _ _ _ _ (by rw [hr]; exact hle), hr]
  by_cases h1 : k * e ≤ i ∧ i < k * e + e
  · rw [if_pos h1, ← hv, wrL_get _ _ _ _ (by rw [hr]; exact ho)]
    by_cases h2 : k * e + o ≤ i ∧ i < k * e + o + vs.length
    · rw [if_pos h2, if_pos (by omega)]; congr 1; omega
    · rw [if_neg h2, if_neg (by omega)]
      have := flat_get hr l k (i - k * e) y hk (by omega)
      rw [show k * e + (i - k * e) = i by omega] at this
      exact this
  · rw [if_neg h1, if_neg (by omega)]

theorem findR_none {l : Tb} {v : Int} (h : ∀ j : Nat, l[j]? ≠ some (some v)) : findR l v = -1 := by
  have : l.findIdx? (fun x => x == some v) = none := by
    rw [List.findIdx?_eq_none_iff]
    intro x hx
    obtain ⟨j, hj, rfl⟩ := List.getElem_of_mem hx
    have := h j
    rw [List.getElem?_eq_getElem hj] at this
    simpa using this
  simp [findR, this]

theorem findR_some {l : Tb} {v : Int} {k : Nat} (h : l[k]? = some (some v)) (hj : ∀ j : Nat, j < k → l[j]? ≠ some (some v)) : findR l v = k := by
  have : l.findIdx? (fun x => x == some v) = some k := by
    rw [List.findIdx?_eq_some_iff_getElem]
    obtain ⟨hk, he⟩ := List.getElem?_eq_some_iff.1 h
    refine ⟨hk, by simp [he], fun j hjk => ?_⟩
    have := hj j hjk
    rw [List.getElem?_eq_getElem (by omega)] at this
    simpa using this
  simp [findR, this]

/-- The first c places of l, the rest free. -/
def cpy (l : Tb) (c : Nat) : Tb := l.take c ++ List.replicate (l.length - c) none

theorem cpy_len (l : Tb) (c : Nat) : (cpy l c).length = l.length := by simp [cpy]; omega

theorem cpy_get (l : Tb) (c j : Nat) : (cpy l c)[j]? = if j < c then l[j]? else if j < l.length then some none else none := by
  unfold cpy
  by_cases h1 : j < c
  · rw [if_pos h1]
    by_cases h2 : j < l.length
    · rw [List.getElem?_append_left (by simp; omega), List.getElem?_take_of_lt h1]
    · rw [List.getElem?_eq_none (by simp; omega), List.getElem?_eq_none (by omega)]
  · rw [if_neg h1]
    rw [List.getElem?_append_right (by simp; omega), List.getElem?_replicate]
    simp only [List.length_take]
    by_cases h2 : j < l.length
    · rw [if_pos h2, if_pos (by omega)]
    · rw [if_neg h2, if_neg (by omega)]

theorem cpy_skip {l : Tb} {c k : Nat} (hck : c ≤ k) (h : ∀ j, c ≤ j → j < k → l[j]? = some none) : cpy l c = cpy l k := by
  apply List.ext_getElem?
  intro j
  rw [cpy_get, cpy_get]
  by_cases h1 : j < c
  · rw [if_pos h1, if_pos (by omega)]
  · rw [if_neg h1]
    by_cases h2 : j < k
    · rw [if_pos h2, h j (by omega) h2, if_pos (List.getElem?_eq_some_iff.1 (h j (by omega) h2)).1]
    · rw [if_neg h2]

theorem cpy_set {l : Tb} {k : Nat} {v : Int} (hk : l[k]? = some (some v)) : (cpy l k).set k (some v) = cpy l (k + 1) := by
  have hkl : k < l.length := (List.getElem?_eq_some_iff.1 hk).1
  apply List.ext_getElem?
  intro j
  rw [List.getElem?_set, cpy_get, cpy_get, cpy_len]
  by_cases h1 : k = j
  · subst h1; rw [if_pos rfl, if_pos (by omega), if_pos (by omega), hk]
  · rw [if_neg h1]
    by_cases h2 : j < k
    · rw [if_pos h2, if_pos (show j < k + 1 by omega)]
    · rw [if_neg h2, if_neg (show ¬ j < k + 1 by omega)]

theorem cpy_done {l : Tb} {c : Nat} (h : ∀ j, c ≤ j → j < l.length → l[j]? = some none) : cpy l c = l := by
  apply List.ext_getElem?
  intro j
  rw [cpy_get]
  by_cases h1 : j < c
  · rw [if_pos h1]
  · rw [if_neg h1]
    by_cases h2 : j < l.length
    · rw [if_pos h2, h j (by omega) h2]
    · rw [if_neg h2, List.getElem?_eq_none (by omega)]

theorem cpy_zero (l : Tb) : cpy l 0 = List.replicate l.length none := by simp [cpy]

/-! ### What lies at a place -/

theorem got_set_ne {l : Tb} {k : Nat} {x : Option Int} {i : Int} (h : i ≠ k) : got (l.set k x) i = got l i := by
  unfold got
  split
  · rename_i h0
    rw [List.getElem?_set_ne (by omega)]
  · rfl

theorem got_set_eq {l : Tb} {k : Nat} {x : Option Int} (h : k < l.length) : got (l.set k x) (k : Int) = x := by
  rw [got_nat, List.getElem?_set_self h]

theorem freeR_spec {l : Tb} {k : Nat} (h : freeR l = some k) : l[k]? = some none ∧ ∀ j, j < k → l[j]? ≠ some none := by
  unfold freeR at h
  rw [List.findIdx?_eq_some_iff_getElem] at h
  obtain ⟨hk, h1, h2⟩ := h
  refine ⟨?_, fun j hj he => ?_⟩
  · rw [List.getElem?_eq_getElem hk]
    cases hx : l[k] with
    | none => rfl
    | some w => rw [hx] at h1; cases h1
  have := h2 j hj
  rw [List.getElem?_eq_getElem (by omega), Option.some.injEq] at he
  rw [he] at this
  exact this rfl

theorem stay_put {l : Tb} {i v : Int} (h : got l i = some v) (w : Int) : got (putR l w).2.2 i = some v ∧ (putR l w).1 ≠ i := by
  obtain ⟨k, rfl, hk, hl⟩ := got_some h
  unfold putR
  cases hf : freeR l with
  | none => exact ⟨h, by simp only; omega⟩
  | some j =>
    obtain ⟨h1, _⟩ := freeR_spec hf
    have hne : k ≠ j := fun e => by subst e; rw [hl] at h1; cases h1
    exact ⟨by simp only; rw [got_set_ne (by omega)]; exact h, by simp only; omega⟩

theorem stay_putAt {l : Tb} {i v : Int} (h : got l i = some v) (j w : Int) : got (putAtR l j w).2 i = some v := by
  obtain ⟨k, rfl, hk, hl⟩ := got_some h
  unfold putAtR
  split
  · exact h
  · rename_i hj
    cases hg : got l j with
    | some x => exact h
    | none =>
      have hne : (k : Int) ≠ j := fun e => by rw [e] at h; rw [h] at hg; cases hg
      simp only
      rw [got_set_ne (by omega)]; exact h

theorem stay_set {l : Tb} {i v : Int} (h : got l i = some v) {j : Int} (hj : j ≠ i) (w : Int) : got (setR l j w).2 i = some v := by
  unfold setR
  cases hg : got l j with
  | none => exact h
  | some x =>
    obtain ⟨k, rfl, hk, hl⟩ := got_some hg
    simp only [Int.toNat_natCast]
    rw [got_set_ne (by omega)]; exact h

theorem stay_drop {l : Tb} {i v : Int} (h : got l i = some v) {j : Int} (hj : j ≠ i) : got (dropR l j).2 i = some v := by
  unfold dropR
  cases hg : got l j with
  | none => exact h
  | some x =>
    obtain ⟨k, rfl, hk, hl⟩ := got_some hg
    simp only [Int.toNat_natCast]
    rw [got_set_ne (by omega)]; exact h

theorem nextR_here {l : Tb} {i v : Int} (h : got l i = some v) : nextR l i = i := by
  obtain ⟨k, rfl, hk, hl⟩ := got_some h
  exact nextR_some (Int.le_refl _) (fun j h1 h2 => by omega) hl

theorem findR_here {l : Tb} {i v : Int} (h : got l i = some v) : 0 ≤ findR l v ∧ findR l v ≤ i := by
  obtain ⟨k, rfl, hk, hl⟩ := got_some h
  unfold findR
  cases hf : l.findIdx? (fun x => x == some v) with
  | none =>
    rw [List.findIdx?_eq_none_iff] at hf
    have := hf (some v) (List.mem_of_getElem? hl)
    simp at this
  | some j =>
    rw [List.findIdx?_eq_some_iff_getElem] at hf
    obtain ⟨hj, h1, h2⟩ := hf
    simp only
    refine ⟨by omega, ?_⟩
    by_cases hjk : j ≤ k
    · omega
    · have := h2 k (by omega)
      rw [List.getElem?_eq_getElem hk, Option.some.injEq] at hl
      rw [hl] at this
      simp at this

/-! ### The taken places in their order -/

def tk (l : Tb) : Nat → List (Int × Int)
  | 0 => []
  | n + 1 => tk l n ++ (match got l (n : Int) with | some v => [((n : Int), v)] | none => [])

theorem tk_skip {l : Tb} {c : Nat} : ∀ {k : Nat}, c ≤ k → (∀ j, c ≤ j → j < k → l[j]? = some none) → tk l k = tk l c
  | 0, h, _ => by have : c = 0 := by omega
                  rw [this]
  | k + 1, h, hj => by
    by_cases hc : c = k + 1
    · rw [hc]
    · have h1 := hj k (by omega) (by omega)
      simp only [tk, got_nat, h1, List.append_nil]
      exact tk_skip (by omega) fun j h2 h3 => hj j h2 (by omega)

theorem tk_step {l : Tb} {k : Nat} {v : Int} (h : l[k]? = some (some v)) : tk l (k + 1) = tk l k ++ [((k : Int), v)] := by
  simp [tk, got_nat, h]

theorem tk_mem {l : Tb} : ∀ {n : Nat} {x : Int × Int}, x ∈ tk l n → got l x.1 = some x.2
  | 0, x, h => by cases h
  | n + 1, x, h => by
    simp only [tk, List.mem_append] at h
    rcases h with h | h
    · exact tk_mem h
    · cases hg : got l (n : Int) with
      | none => rw [hg] at h; cases h
      | some v => rw [hg] at h; simp only [List.mem_singleton] at h; subst h; exact hg

theorem tk_len (l : Tb) : ∀ n, n ≤ l.length → (tk l n).length = cnt (l.take n)
  | 0, _ => by simp [tk, cnt]
  | n + 1, h => by
    have ih := tk_len l n (by omega)
    have he : l[n]? = some l[n] := List.getElem?_eq_getElem (by omega)
    rw [List.take_add_one, he]
    simp only [tk, List.length_append, ih, got_nat, he, Option.toList]
    unfold cnt
    cases l[n] <;> simp [List.filter_append]

theorem tk_all {l : Tb} {c : Nat} (h : ∀ j, c ≤ j → j < l.length → l[j]? = some none) (hc : c ≤ l.length) : (tk l c).length = cnt l := by
  rw [← tk_skip hc h, tk_len l _ (Nat.le_refl _), List.take_length]

def clrTo (l : Tb) (k : Nat) : Tb := List.replicate k none ++ l.drop k

theorem clrTo_len {l : Tb} {k : Nat} (h : k ≤ l.length) : (clrTo l k).length = l.length := by simp [clrTo]; omega

theorem clrTo_get (l : Tb) (k j : Nat) : (clrTo l k)[j]? = if j < k then some none else l[j]? := by
  unfold clrTo
  by_cases h1 : j < k
  · rw [if_pos h1, List.getElem?_append_left (by simpa using h1), List.getElem?_replicate, if_pos h1]
  · rw [if_neg h1, List.getElem?_append_right (by simp; omega), List.getElem?_drop]
    congr 1
    simp; omega

theorem clrTo_set {l : Tb} {k : Nat} (h : k < l.length) : (clrTo l k).set k none = clrTo l (k + 1) := by
  apply List.ext_getElem?
  intro j
  rw [List.getElem?_set, clrTo_get, clrTo_get, clrTo_len (by omega)]
  by_cases h1 : k = j
  · subst h1; rw [if_pos rfl, if_pos h, if_pos (by omega)]
  · rw [if_neg h1]
    by_cases h2 : j < k
    · rw [if_pos h2, if_pos (show j < k + 1 by omega)]
    · rw [if_neg h2, if_neg (show ¬ j < k + 1 by omega)]

theorem clrTo_all (l : Tb) : clrTo l l.length = clearR l := by simp [clrTo, clearR]

theorem cpy_setx {l : Tb} {k : Nat} {x : Option Int} (hk : l[k]? = some x) : (cpy l k).set k x = cpy l (k + 1) := by
  have hkl : k < l.length := (List.getElem?_eq_some_iff.1 hk).1
  apply List.ext_getElem?
  intro j
  rw [List.getElem?_set, cpy_get, cpy_get, cpy_len]
  by_cases h1 : k = j
  · subst h1; rw [if_pos rfl, if_pos (by omega), if_pos (by omega), hk]
  · rw [if_neg h1]
    by_cases h2 : j < k
    · rw [if_pos h2, if_pos (show j < k + 1 by omega)]
    · rw [if_neg h2, if_neg (show ¬ j < k + 1 by omega)]

end Go.Proofs.Ytkmknolkblcbeaa.V
