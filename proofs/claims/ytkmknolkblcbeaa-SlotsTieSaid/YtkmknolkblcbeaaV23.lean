/- Slices that the call itself makes and appends to. -/
import Derived.Test.YtkmknolkblcbeaaV22
namespace Go.Proofs.Ytkmknolkblcbeaa.V
set_option linter.unusedSectionVars false
set_option linter.unusedVariables false
set_option linter.unusedSimpArgs false
open Go

section
variable {α : Type}

/-- A slice of our own: nil, or a block with room behind the elements. -/
def OwnSl (row : α → List Value) (z : List Value) (h : Hp) (s : Value) (bs : Option Nat) (l : List α) : Prop :=
  (bs = none ∧ s = .slice none 0 0 ∧ l = []) ∨
  ∃ d cap ty, bs = some d ∧ s = .slice (some ⟨d, 0, none⟩) l.length cap ∧ l.length ≤ cap ∧ h d = some (.cells (l.flatMap row ++ reps (cap - l.length) z).toArray ty (0, 0))

theorem OwnSl.same {row : α → List Value} {z : List Value} {h h' : Hp} {s : Value} {bs : Option Nat} {l : List α} (ho : OwnSl row z h s bs l) (hs : ∀ d, bs = some d → h' d = h d) : OwnSl row z h' s bs l := by
  rcases ho with ⟨h1, h2, h3⟩ | ⟨d, cap, ty, h1, h2, h3, h4⟩
  · exact .inl ⟨h1, h2, h3⟩
  · exact .inr ⟨d, cap, ty, h1, h2, h3, by rw [hs d h1]; exact h4⟩

/-- Seen from its elements. -/
theorem OwnSl.look {row : α → List Value} {z : List Value} {e : Nat} (hr : ∀ x, (row x).length = e) {h : Hp} {s : Value} {bs : Option Nat} {l : List α} (ho : OwnSl row z h s bs l) :
    ∃ base cap, s = .slice base l.length cap ∧ ∀ i x, l[i]? = some x → ∃ d c ty, base = some ⟨d, 0, none⟩ ∧ h d = some (.cells c ty (0, 0)) ∧ bs = some d ∧ (∀ j, j < e → c[0 + i * e + j]? = (row x)[j]?) := by
  rcases ho with ⟨h1, h2, h3⟩ | ⟨d, cap, ty, h1, h2, h3, h4⟩
  · subst h3; exact ⟨none, 0, h2, fun i x hx => by simp at hx⟩
  · refine ⟨_, cap, h2, fun i x hx => ⟨d, _, ty, rfl, h4, h1, fun j hj => ?_⟩⟩
    have hi : i < l.length := (List.getElem?_eq_some_iff.1 hx).1
    have hle : i * e + e ≤ l.length * e := by rw [← Nat.succ_mul]; exact Nat.mul_le_mul_right e hi
    rw [Nat.zero_add, List.getElem?_toArray, List.getElem?_append_left (by rw [flat_len hr]; omega)]
    exact flat_get hr l i j x hx hj

theorem reps_add (z : List Value) : ∀ a b, reps (a + b) z = reps a z ++ reps b z
  | 0, b => by simp [reps]
  | a + 1, b => by rw [Nat.succ_add]; simp [reps, reps_add z a b]

theorem reps_len (z : List Value) (n : Nat) : (reps n z).length = n * z.length := reps_length z n

theorem wrL_mid {A B C V : List Value} (h : B.length = V.length) : wrL (A ++ B ++ C) A.length V = A ++ V ++ C := by
  apply List.ext_getElem?
  intro i
  rw [wrL_get _ _ _ _ (by simp; omega)]
  split
  · rename_i hi
    rw [List.append_assoc, List.getElem?_append_right (by omega), List.getElem?_append_left (by omega)]
  · rename_i hi
    by_cases hA : i < A.length
    · rw [List.append_assoc, List.getElem?_append_left hA, List.append_assoc, List.getElem?_append_left hA]
    · rw [List.getElem?_append_right (by simp; omega), List.getElem?_append_right (by simp; omega)]
      simp [h]

/-- One element more: in place where there is room, else in a new block. -/
theorem app_step {row : α → List Value} {z : List Value} (hr : ∀ x, (row x).length = z.length) (hone : ∀ x, (row x).all one = true) {h : Hp} {s : Value} {bs : Option Nat} {l : List α} {x : α} {ty ty1 : TypeId} {bytes b1 : Nat} {K : Ent → Hp → Prop}
    (ho : OwnSl row z h s bs l) (h1 : h b1 = some (.cells (row x).toArray ty1 (0, 0))) (hb : 2 * (l.length + 1) * bytes ≤ 2 ^ 48)
    (hK : ∀ s' bs' h', OwnSl row z h' s' bs' (l ++ [x]) → (∀ y o, h y = some o → bs ≠ some y → h' y = some o) → (bs' = bs ∨ ∃ d, bs' = some d ∧ h d = none) → (∀ d, bs' = some d → ∃ o, h' d = some o) → K (.v s') h') :
    appK z ty bytes h (.v s) (.v (.slice (some ⟨b1, 0, none⟩) 1 1)) K := by
  have hsrc : srcCells h 1 z.length (.v (.slice (some ⟨b1, 0, none⟩) 1 1)) = some (row x) := by
    simp only [srcCells, h1]
    rw [if_pos (by simp [hr])]
    simp only [List.extract_toArray, List.extract_eq_take_drop, Nat.zero_add, Nat.one_mul, Nat.sub_zero, List.drop_zero]
    rw [List.take_of_length_le (by rw [hr]; exact Nat.le_refl _)]
  unfold appK
  simp only [elen]
  rcases ho with ⟨rfl, rfl, rfl⟩ | ⟨d, cap, ty2, rfl, rfl, hle, hd⟩
  · simp only [hsrc]
    refine ⟨by rw [hr, Nat.one_mul], ?_⟩
    rw [if_neg (by omega)]
    simp only [srcCells]
    refine ⟨by simp, by simpa using hb, fun cap' hc => ?_⟩
    refine .intro fun d hd => ?_
    refine hK _ (some d) _ (.inr ⟨d, cap', ty, rfl, rfl, by simpa using hc, ?_⟩) (fun y o hy _ => ?_) (.inr ⟨d, rfl, hd⟩) (fun d' hd' => ?_)
    · rw [upd_same]; simp
    · rw [upd_other (fun e => by subst e; rw [hd] at hy; cases hy)]; exact hy
    · cases hd'; exact ⟨_, upd_same _ _ _⟩
  · simp only [hsrc]
    refine ⟨by rw [hr, Nat.one_mul], ?_⟩
    have hfl := flat_len hr l
    by_cases hroom : l.length + 1 ≤ cap
    · rw [if_pos hroom]
      simp only [hd]
      have hsz : (l.flatMap row ++ reps (cap - l.length) z).toArray.size = cap * z.length := by
        simp only [List.size_toArray, List.length_append, hfl, reps_len]
        rw [← Nat.add_mul]; congr 1; omega
      refine ⟨hone x, ?_, .inl (Nat.zero_le _), ?_⟩
      · rw [hsz, Nat.zero_add]; exact Nat.mul_le_mul_right _ hroom
      · have hwr : wr (l.flatMap row ++ reps (cap - l.length) z).toArray (0 + l.length * z.length) (row x) = ((l ++ [x]).flatMap row ++ reps (cap - (l ++ [x]).length) z).toArray := by
          rw [wr_wrL, Nat.zero_add, ← hfl, show cap - l.length = 1 + (cap - (l.length + 1)) by omega, reps_add, ← List.append_assoc, wrL_mid (by rw [reps_len, hr]; omega)]
          simp
        rw [hwr]
        refine hK _ (some d) _ (.inr ⟨d, cap, ty2, rfl, by simp, by simpa using hroom, upd_same _ _ _⟩) (fun y o hy hne => ?_) (.inl rfl) (fun d' hd' => ?_)
        · rw [upd_other (fun e => hne (by rw [e]))]; exact hy
        · cases hd'; exact ⟨_, upd_same _ _ _⟩
    · rw [if_neg hroom]
      have hcap : cap = l.length := by omega
      have hsrc2 : srcCells h l.length z.length (.v (.slice (some ⟨d, 0, none⟩) l.length cap)) = some (l.flatMap row) := by
        simp only [srcCells, hd]
        rw [if_pos (by simp [hfl])]
        simp only [List.extract_toArray, List.extract_eq_take_drop, Nat.zero_add, Nat.sub_zero, List.drop_zero]
        rw [List.take_append_of_le_length (by rw [hfl]; exact Nat.le_refl _), List.take_of_length_le (by rw [hfl]; exact Nat.le_refl _)]
      simp only [hsrc2]
      refine ⟨hfl, by simpa using hb, fun cap' hc => ?_⟩
      refine .intro fun d' hd' => ?_
      refine hK _ (some d') _ (.inr ⟨d', cap', ty, rfl, by simp, by simpa using hc, ?_⟩) (fun y o hy _ => ?_) (.inr ⟨d', rfl, hd'⟩) (fun d'' hd'' => ?_)
      · rw [upd_same]; simp
      · rw [upd_other (fun e => by subst e; rw [hd'] at hy; cases hy)]; exact hy
      · cases hd''; exact ⟨_, upd_same _ _ _⟩

end
end Go.Proofs.Ytkmknolkblcbeaa.V
