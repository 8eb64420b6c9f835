/- Rows laid flat: a list of places, each a row of the same length. -/
import Derived.Test.YtkmknolkblcbeaaV18
namespace Go.Proofs.Ytkmknolkblcbeaa.V
set_option linter.unusedSectionVars false
set_option linter.unusedVariables false
set_option linter.unusedSimpArgs false
open Go

section
variable {α : Type} {row : α → List Value} {e : Nat}

theorem flat_len (hr : ∀ x, (row x).length = e) : ∀ l : List α, (l.flatMap row).length = l.length * e
  | [] => by simp
  | x :: l => by simp [hr, flat_len hr l, Nat.succ_mul, Nat.add_comm]

theorem flat_get (hr : ∀ x, (row x).length = e) : ∀ (l : List α) (i j : Nat) (x : α), l[i]? = some x → j < e → (l.flatMap row)[i * e + j]? = (row x)[j]?
  | [], i, j, x, h, _ => by simp at h
  | y :: l, 0, j, x, h, hj => by
    simp at h; subst h
    rw [List.flatMap_cons, List.getElem?_append_left (by rw [hr]; omega)]; simp
  | y :: l, i + 1, j, x, h, hj => by
    rw [List.flatMap_cons, List.getElem?_append_right (by rw [hr, Nat.succ_mul]; omega), hr, show (i + 1) * e + j - e = i * e + j by rw [Nat.succ_mul]; omega]
    exact flat_get hr l i j x (by simpa using h) hj

theorem wrL_get : ∀ (vs c : List Value) (o i : Nat), o + vs.length ≤ c.length → (wrL c o vs)[i]? = if o ≤ i ∧ i < o + vs.length then vs[i - o]? else c[i]?
  | [], c, o, i, _ => by
    simp only [wrL, List.length_nil, Nat.add_zero]; rw [if_neg (by omega)]
  | v :: vs, c, o, i, h => by
    simp only [List.length_cons] at h ⊢
    simp only [wrL]
    rw [wrL_get vs (c.set o v) (o + 1) i (by simp; omega)]
    by_cases h1 : i = o
    · subst h1
      rw [if_neg (by omega), if_pos (by omega)]
      rw [List.getElem?_set_self (by omega)]; simp
    · by_cases h2 : o + 1 ≤ i ∧ i < o + 1 + vs.length
      · rw [if_pos h2, if_pos (by omega), show i - o = (i - (o + 1)) + 1 by omega, List.getElem?_cons_succ]
      · rw [if_neg h2, if_neg (by omega), List.getElem?_set_ne (Ne.symm h1)]

theorem flat_set (hr : ∀ x, (row x).length = e) (l : List α) (i : Nat) (x : α) (hi : i < l.length) : wrL (l.flatMap row) (i * e) (row x) = (l.set i x).flatMap row := by
  have hle : i * e + e ≤ l.length * e := by rw [← Nat.succ_mul]; exact Nat.mul_le_mul_right e hi
  apply List.ext_getElem?
  intro k
  rw [wrL_get _ _ _ _ (by rw [hr, flat_len hr]; omega), hr]
  by_cases he : e = 0
  · subst he
    rw [if_neg (by omega), List.getElem?_eq_none (by rw [flat_len hr]; simp), List.getElem?_eq_none (by rw [flat_len hr]; simp)]
  · have hk : k = k / e * e + k % e := by rw [Nat.mul_comm]; exact (Nat.div_add_mod k e).symm
    have hm : k % e < e := Nat.mod_lt _ (by omega)
    by_cases hq : k / e < l.length
    · have hgl : l[k / e]? = some l[k / e] := List.getElem?_eq_getElem hq
      by_cases hki : k / e = i
      · have : (l.set i x)[k / e]? = some x := by rw [hki, List.getElem?_set_self hi]
        have h2 := flat_get hr (l.set i x) (k / e) (k % e) x this hm
        rw [← hk] at h2
        rw [h2, if_pos (by rw [← hki]; omega)]
        congr 1
        rw [← hki]; omega
      · have : (l.set i x)[k / e]? = some l[k / e] := by rw [List.getElem?_set_ne (fun h => hki h.symm)]; exact hgl
        have h2 := flat_get hr (l.set i x) (k / e) (k % e) _ this hm
        have h3 := flat_get hr l (k / e) (k % e) _ hgl hm
        rw [← hk] at h2 h3
        rw [h2, h3, if_neg]
        rintro ⟨h4, h5⟩
        apply hki
        rcases Nat.lt_trichotomy (k / e) i with hlt | heq | hgt
        · exfalso
          have : (k / e + 1) * e ≤ i * e := Nat.mul_le_mul_right e hlt
          rw [Nat.succ_mul] at this; omega
        · exact heq
        · exfalso
          have : (i + 1) * e ≤ k / e * e := Nat.mul_le_mul_right e hgt
          rw [Nat.succ_mul] at this; omega
    · have hbig : l.length * e ≤ k := by
        have : l.length * e ≤ k / e * e := Nat.mul_le_mul_right e (by omega)
        omega
      rw [if_neg (by omega), List.getElem?_eq_none (by rw [flat_len hr]; omega), List.getElem?_eq_none (by rw [flat_len hr]; simp; omega)]

theorem flat_reps (x : α) : ∀ n, reps n (row x) = (List.replicate n x).flatMap row
  | 0 => rfl
  | n + 1 => by rw [List.replicate_succ, List.flatMap_cons, ← flat_reps x n]; rfl

theorem wr_flat (hr : ∀ x, (row x).length = e) (l : List α) (i : Nat) (x : α) (hi : i < l.length) : wr (l.flatMap row).toArray (i * e) (row x) = ((l.set i x).flatMap row).toArray := by
  rw [wr_wrL, flat_set hr l i x hi]

/-- A row read whole, from its o-th cell on. -/
theorem rd_flat (hr : ∀ x, (row x).length = e) {l : List α} {i : Nat} {x : α} (hi : l[i]? = some x) (o n : Nat) (vs : List Value) (hv : ((row x).drop o).take n = vs) (hn : vs.length = n) (ho : o + n ≤ e) (hn0 : 0 < n) :
    rd (l.flatMap row).toArray (i * e + o) n true = some (.agg vs.toArray) := by
  have hil : i < l.length := (List.getElem?_eq_some_iff.1 hi).1
  have hle : i * e + e ≤ l.length * e := by rw [← Nat.succ_mul]; exact Nat.mul_le_mul_right e hil
  have h1 : i * e + o + n ≤ (l.flatMap row).toArray.size := by simp only [List.size_toArray]; rw [flat_len hr]; omega
  unfold rd
  rw [if_pos rfl, if_pos h1]
  congr 2
  unfold sub
  congr 1
  rw [← hv]
  apply List.ext_getElem?
  intro j
  rw [List.getElem?_take, List.getElem?_take]
  split
  · rename_i hj
    rw [List.getElem?_drop, List.getElem?_drop, Nat.add_assoc, ← flat_get hr l i (o + j) x hi (by omega)]
  · rfl

theorem rd1_flat (hr : ∀ x, (row x).length = e) {l : List α} {i : Nat} {x : α} (hi : l[i]? = some x) (o : Nat) (v : Value) (hv : (row x)[o]? = some v) (ho : o < e) (n : Nat) :
    rd (l.flatMap row).toArray (i * e + o) n false = some v := by
  unfold rd
  rw [if_neg (by simp), ← hv, ← flat_get hr l i o x hi ho]
  simp

end
end Go.Proofs.Ytkmknolkblcbeaa.V
