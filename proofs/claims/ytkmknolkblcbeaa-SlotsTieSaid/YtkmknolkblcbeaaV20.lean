/- A bounded table in memory: places free or taken. -/
import Derived.Test.YtkmknolkblcbeaaV19
namespace Go.Proofs.Ytkmknolkblcbeaa.V
set_option linter.unusedSectionVars false
set_option linter.unusedVariables false
set_option linter.unusedSimpArgs false
open Go

theorem rd1_at {α : Type} {row : α → List Value} {e : Nat} (hr : ∀ x, (row x).length = e) {l : List α} {k : Nat} {x : α} (hi : l[k]? = some x) (o : Nat) (v : Value) (hv : (row x)[o]? = some v) (ho : o < e) (n : Nat) :
    rd (l.flatMap row).toArray (0 + (k : Int).toNat * e + o) n false = some v := by
  rw [Nat.zero_add]; exact rd1_flat hr hi o v hv ho n

theorem rd_at {α : Type} {row : α → List Value} {e : Nat} (hr : ∀ x, (row x).length = e) {l : List α} {k : Nat} {x : α} (hi : l[k]? = some x) (o n : Nat) (vs : List Value) (hv : ((row x).drop o).take n = vs) (hn : vs.length = n) (ho : o + n ≤ e) (hn0 : 0 < n) :
    rd (l.flatMap row).toArray (0 + (k : Int).toNat * e + o) n true = some (.agg vs.toArray) := by
  rw [Nat.zero_add]; exact rd_flat hr hi o n vs hv hn ho hn0

theorem wr_at {α : Type} {row : α → List Value} {e : Nat} (hr : ∀ x, (row x).length = e) {l : List α} {k : Nat} (x : α) (hi : k < l.length) :
    wr (l.flatMap row).toArray (0 + (k : Int).toNat * e) (row x) = ((l.set k x).flatMap row).toArray := by
  rw [Nat.zero_add]; exact wr_flat hr l k x hi

section
variable {α : Type}

def cnt (l : List (Option α)) : Nat := (l.filter (·.isSome)).length

theorem cnt_le (l : List (Option α)) : cnt l ≤ l.length := List.length_filter_le _ _

theorem cnt_set_some {v : α} : ∀ {l : List (Option α)} {k : Nat}, l[k]? = some none → cnt (l.set k (some v)) = cnt l + 1
  | [], k, h => by simp at h
  | x :: l, 0, h => by simp at h; subst h; simp [cnt]
  | x :: l, k + 1, h => by
    have := cnt_set_some (v := v) (l := l) (k := k) (by simpa using h)
    unfold cnt at *
    cases x <;> simp [List.filter_cons] <;> omega

theorem cnt_set_none {v : α} : ∀ {l : List (Option α)} {k : Nat}, l[k]? = some (some v) → cnt (l.set k none) + 1 = cnt l
  | [], k, h => by simp at h
  | x :: l, 0, h => by simp at h; subst h; simp [cnt]
  | x :: l, k + 1, h => by
    have := cnt_set_none (v := v) (l := l) (k := k) (by simpa using h)
    unfold cnt at *
    cases x <;> simp [List.filter_cons] <;> omega

theorem cnt_set_same {v w : α} : ∀ {l : List (Option α)} {k : Nat}, l[k]? = some (some v) → cnt (l.set k (some w)) = cnt l
  | [], k, h => by simp at h
  | x :: l, 0, h => by simp at h; subst h; simp [cnt]
  | x :: l, k + 1, h => by
    have := cnt_set_same (v := v) (w := w) (l := l) (k := k) (by simpa using h)
    unfold cnt at *
    cases x <;> simp [List.filter_cons] <;> omega

theorem cnt_repl (n : Nat) : cnt (List.replicate n (none : Option α)) = 0 := by simp [cnt]

/-- What lies at a place. -/
def got (l : List (Option α)) (i : Int) : Option α := if 0 ≤ i then (match l[i.toNat]? with | some x => x | none => none) else none

theorem got_nat (l : List (Option α)) (k : Nat) : got l (k : Int) = (match l[k]? with | some x => x | none => none) := by simp [got]

theorem got_neg {l : List (Option α)} {i : Int} (h : i < 0) : got l i = none := by simp [got, show ¬ 0 ≤ i by omega]

theorem got_big {l : List (Option α)} {k : Nat} (h : l.length ≤ k) : got l (k : Int) = none := by rw [got_nat, List.getElem?_eq_none h]

theorem got_some {l : List (Option α)} {i : Int} {v : α} (h : got l i = some v) : ∃ k : Nat, i = k ∧ k < l.length ∧ l[k]? = some (some v) := by
  unfold got at h
  split at h
  · rename_i h0
    obtain ⟨k, rfl⟩ := Int.eq_ofNat_of_zero_le h0
    simp only [Int.toNat_natCast] at h
    cases hk : l[k]? with
    | none => rw [hk] at h; cases h
    | some x =>
      rw [hk] at h
      simp only at h
      subst h
      exact ⟨k, rfl, (List.getElem?_eq_some_iff.1 hk).1, hk⟩
  · cases h

/-- The table at p, its places at d. -/
structure TabLow (row : Option α → List Value) (h : Hp) (p d : Nat) (l : List (Option α)) (low : Nat) : Prop where
  cell : ∃ ty, h p = some (.cells #[.slice (some ⟨d, 0, none⟩) l.length l.length, iv (cnt l), iv low] ty (0, 0))
  data : ∃ ty, h d = some (.cells (l.flatMap row).toArray ty (0, 0))
  lo : low ≤ l.length
  full : ∀ j, j < low → l[j]? ≠ some none
  bound : l.length ≤ 4096
  ne : p ≠ d

def TabAt (row : Option α → List Value) (h : Hp) (p d : Nat) (l : List (Option α)) : Prop := ∃ low, TabLow row h p d l low

theorem TabLow.same {row : Option α → List Value} {h h' : Hp} {p d : Nat} {l : List (Option α)} {low : Nat} (hT : TabLow row h p d l low) (h1 : h' p = h p) (h2 : h' d = h d) : TabLow row h' p d l low :=
  ⟨by rw [h1]; exact hT.cell, by rw [h2]; exact hT.data, hT.lo, hT.full, hT.bound, hT.ne⟩

theorem TabAt.same {row : Option α → List Value} {h h' : Hp} {p d : Nat} {l : List (Option α)} (hT : TabAt row h p d l) (h1 : h' p = h p) (h2 : h' d = h d) : TabAt row h' p d l :=
  let ⟨low, hl⟩ := hT; ⟨low, hl.same h1 h2⟩

theorem TabAt.sub {row : Option α → List Value} {h h' : Hp} {p d : Nat} {l : List (Option α)} (hT : TabAt row h p d l) (hs : ∀ b o, h b = some o → h' b = some o) : TabAt row h' p d l := by
  obtain ⟨low, hl⟩ := hT
  obtain ⟨ty, hc⟩ := hl.cell
  obtain ⟨ty2, hd⟩ := hl.data
  exact ⟨low, hl.same (by rw [hc]; exact hs _ _ hc) (by rw [hd]; exact hs _ _ hd)⟩

/-- Two blocks apart, nothing else turned. -/
def But2 (h h' : Hp) (p d : Nat) : Prop := ∀ x, x ≠ p → x ≠ d → h' x = h x

theorem But2.refl (h : Hp) (p d : Nat) : But2 h h p d := fun _ _ _ => rfl
theorem But2.trans {h1 h2 h3 : Hp} {p d : Nat} (a : But2 h1 h2 p d) (b : But2 h2 h3 p d) : But2 h1 h3 p d := fun x hp hd => (b x hp hd).trans (a x hp hd)
theorem But2.updP (h : Hp) (p d : Nat) (o : Obj) : But2 h (upd h p o) p d := fun _ hp _ => upd_other hp
theorem But2.updD (h : Hp) (p d : Nat) (o : Obj) : But2 h (upd h d o) p d := fun _ _ hd => upd_other hd

end
theorem clr_step {z : List Value} {h : Hp} {b o n cap : Nat} {c : Array Value} {ty : TypeId} {fz : Nat × Nat} {K : Ent → Hp → Prop} (hb : h b = some (.cells c ty fz)) (h1 : o + n * z.length ≤ c.size) (h2 : fz.2 ≤ o ∨ o + n * z.length ≤ fz.1) (h3 : z.all one = true)
    (hk : K (.v (.tuple #[])) (upd h b (.cells (wr c o (reps n z)) ty fz))) : clrSK z h (.v (.slice (some ⟨b, o, none⟩) n cap)) K := by
  unfold clrSK
  simp only [hb]
  exact ⟨h1, h2, h3, hk⟩

theorem wr_all {c vs : List Value} (h : vs.length = c.length) : wrL c 0 vs = vs := by
  apply List.ext_getElem?
  intro i
  rw [wrL_get _ _ _ _ (by omega)]
  split
  · simp
  · rename_i hi
    rw [List.getElem?_eq_none (by omega), List.getElem?_eq_none (by omega)]

end Go.Proofs.Ytkmknolkblcbeaa.V
