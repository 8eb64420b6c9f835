/- What comes in: readings of numbers, truths, slices and structs, with how big they are (for '..UptoSaid'). -/
import Derived.Test.YthpkgkoojhgedaaDoorU1
import Derived.Test.YthpkgkoojhgedaaDoorRows
import Derived.Deep.Slices
namespace Go.Proofs.YthpkgkoojhgedaaDoor.V
set_option linter.unusedVariables false
set_option linter.unusedSimpArgs false
set_option linter.unusedSectionVars false
set_option linter.unusedSectionVars false
open Go

/-- What a reading of the type t gives. -/
def Opn (t : TypeId) (α : Type) (R : Hp → List Value → α → Prop) (B : α → Nat) : Prop :=
  ∀ {H : Type} {enc : TypeId × Value → H} {w : World} {base : Nat} {spare : Nat → Bool} {held : Bool} {fuel : Nat} {cs : List Value} {x : DataW H × List MemPlace},
    DataW.trod enc PR w base spare held fuel t cs = some x → ∃ a : α, R (allH w) cs a ∧ B a ≤ Rows.uptoBulk x.1

theorem opn_int {t : TypeId} {k : IntKind} (ht : PR.underlying t = some (.int k)) : Opn t Int (fun _ cs n => cs = [.int k n] ∧ (Lit.int k n).wf = true) (fun _ => 1) := by
  intro H enc w base spare held fuel cs x h
  obtain ⟨n, h1, h2, h3⟩ := DataW.trod_int ht h
  exact ⟨n, ⟨h1, h3⟩, by rw [h2]; simp [Rows.uptoBulk]⟩

theorem opn_bool {t : TypeId} (ht : PR.underlying t = some .bool) : Opn t Bool (fun _ cs n => cs = [.bool n]) (fun _ => 1) := by
  intro H enc w base spare held fuel cs x h
  obtain ⟨n, h1, h2⟩ := DataW.trod_bool ht h
  exact ⟨n, h1, by rw [h2]; simp [Rows.uptoBulk]⟩

def sumB {α : Type} (B : α → Nat) : List α → Nat
  | [] => 0
  | x :: l => B x + sumB B l

theorem len_sumB {α : Type} {B : α → Nat} (hB : ∀ a, 1 ≤ B a) : ∀ l : List α, l.length ≤ sumB B l
  | [] => Nat.le_refl _
  | x :: l => by have := hB x; have := len_sumB hB l; simp only [List.length_cons, sumB]; omega

theorem sumB_mem {α : Type} {B : α → Nat} {x : α} : ∀ {l : List α}, x ∈ l → B x ≤ sumB B l
  | y :: l, h => by
    simp only [sumB]
    rcases List.mem_cons.1 h with rfl | h
    · omega
    · have := sumB_mem (B := B) h; omega

theorem bulk_range {H : Type} {α : Type} {B : α → Nat} {D : Nat → DataW H} : ∀ {l : List α} {f : Nat}, (∀ i y, l[i]? = some y → B y ≤ Rows.uptoBulk (D (f + i))) → sumB B l ≤ Rows.uptoBulkAll ((List.range' f l.length).map D)
  | [], f, _ => Nat.zero_le _
  | y :: l, f, h => by
    simp only [sumB, List.length_cons, List.range'_succ, List.map_cons, Rows.uptoBulkAll]
    have h0 := h 0 y rfl
    have h1 := bulk_range (B := B) (D := D) (l := l) (f := f + 1) fun i z hz => by
      have := h (i + 1) z (by simpa using hz)
      rwa [show f + 1 + i = f + (i + 1) by omega]
    rw [Nat.add_zero] at h0
    omega

/-- A slice of what can be read. -/
def SlR {α : Type} (n : Nat) (R : Hp → List Value → α → Prop) (h : Hp) (cs : List Value) (l : List α) : Prop :=
  ∃ a cap, cs = [.slice a l.length cap] ∧ l.length ≤ cap ∧ (a = none → l = []) ∧ ∀ (i : Nat) (y : α), l[i]? = some y →
    ∃ b off c ty z vs, a = some ⟨b, off, none⟩ ∧ h b = some (.cells c ty z) ∧ R h vs y ∧ vs.length = n ∧ off + l.length * n ≤ c.size ∧ ∀ j v, vs[j]? = some v → c[off + i * n + j]? = some v

theorem list_of {α : Type} {P : Nat → α → Prop} : ∀ {n : Nat}, (∀ i, i < n → ∃ y, P i y) → ∃ l : List α, l.length = n ∧ ∀ i y, l[i]? = some y → P i y
  | 0, _ => ⟨[], rfl, fun i y h => by simp at h⟩
  | n + 1, h => by
    obtain ⟨l, h1, h2⟩ := list_of (n := n) fun i hi => h i (by omega)
    obtain ⟨y, hy⟩ := h n (by omega)
    refine ⟨l ++ [y], by simp [h1], fun i z hz => ?_⟩
    by_cases hi : i < n
    · rw [List.getElem?_append_left (by omega)] at hz; exact h2 i z hz
    · rw [List.getElem?_append_right (by omega)] at hz
      have : i - l.length = 0 := by
        have := (List.getElem?_eq_some_iff.1 hz).1
        simp at this; omega
      rw [this] at hz
      cases hz
      rwa [show i = n by omega]

set_option maxRecDepth 100000 in
theorem opn_slice {t e n : Nat} {α : Type} {R : Hp → List Value → α → Prop} {B : α → Nat} (ht : PR.underlying t = some (.slice e)) (hc : PR.cellsOf e = n) (hn : 0 < n) (he : Opn e α R B) : Opn t (List α) (SlR n R) (fun l => sumB B l + 1) := by
  intro H enc w base spare held fuel cs x h
  rcases Go.Deep.open_slice ht h with ⟨rfl, rfl⟩ | ⟨a, len, cap, m, k, D, Pl, rfl, hb, hl, hm, hmm, rfl, hel⟩
  · exact ⟨[], ⟨none, 0, rfl, Nat.le_refl _, fun _ => rfl, fun i y hy => by simp at hy⟩, by simp [sumB, Rows.uptoBulk]⟩
  · obtain ⟨l, h1, h2⟩ := list_of (α := α) (n := len) (P := fun i y => ∃ vs, R (allH w) vs y ∧ B y ≤ Rows.uptoBulk (D i) ∧ vs.length = n ∧ ∀ j, j < n → w.cell? ((a.add (i * n)).add j) = vs[j]?) fun i hi => by
      have him : i < m := by rw [hmm]; split <;> omega
      obtain ⟨cs', g1, g2⟩ := hel i him
      rw [hc] at g1
      obtain ⟨_, g3, g4⟩ := World.cells?_some g1
      obtain ⟨y, g5, g6⟩ := he g2
      exact ⟨y, cs', g5, g6, g3, g4⟩
    subst h1
    refine ⟨l, ⟨some a, cap, rfl, hl, (fun e => by cases e), fun i y hy => ?_⟩, ?_⟩
    · obtain ⟨vs, g1, _, g3, g4⟩ := h2 i y hy
      have hi := (List.getElem?_eq_some_iff.1 hy).1
      obtain ⟨b, off, spot⟩ := a
      have hsp : spot = none := by
        have h00 : l[0]? = some l[0] := List.getElem?_eq_getElem (by omega)
        obtain ⟨vs0, _, _, q3, q4⟩ := h2 0 _ h00
        have hz := q4 0 hn
        rw [List.getElem?_eq_getElem (by omega)] at hz
        simpa [Addr.add] using World.cell?_spot hz
      subst hsp
      have hz := g4 0 hn
      rw [List.getElem?_eq_getElem (by omega), add_mk, add_mk] at hz
      obtain ⟨c, ty, z, hbw, _⟩ := cell_cells hz
      have hin : ∀ (i : Nat) (vs : List Value), vs.length = n → (∀ j, j < n → w.cell? ((Addr.add ⟨b, off, none⟩ (i * n)).add j) = vs[j]?) → ∀ j v, vs[j]? = some v → c[off + i * n + j]? = some v := fun i vs hvl hvc j v hv => by
        have hj : j < n := by have := (List.getElem?_eq_some_iff.1 hv).1; omega
        have := hvc j hj
        rw [hv, add_mk, add_mk] at this
        rw [← this]
        exact (cell_of hbw).symm
      refine ⟨b, off, c, ty, z, vs, rfl, hbw, g1, g3, ?_, hin i vs g3 g4⟩
      have hlast : l[l.length - 1]? = some l[l.length - 1] := List.getElem?_eq_getElem (by omega)
      obtain ⟨vs', k1, _, k3, k4⟩ := h2 _ _ hlast
      have hlv : vs'[n - 1]? = some vs'[n - 1] := List.getElem?_eq_getElem (by omega)
      have hlc := (Array.getElem?_eq_some_iff.1 (hin _ vs' k3 k4 _ _ hlv)).1
      have e1 : (l.length - 1) * n + n = l.length * n := by rw [← Nat.succ_mul]; congr 1; omega
      omega
    · have := bulk_range (B := B) (D := D) (l := l) (f := 0) fun i y hy => by
        obtain ⟨vs, _, g2, _⟩ := h2 i y hy
        rwa [Nat.zero_add]
      rw [← List.range_eq_range'] at this
      simp only [Rows.uptoBulk]
      omega

theorem take_cell' {cs : List Value} {o c : Nat} {v : Value} (h : (cs.drop o).take c = [v]) : cs[o]? = some v := by
  have : ((cs.drop o).take c)[0]? = some v := by rw [h]; rfl
  rw [List.getElem?_take] at this
  split at this
  · rw [List.getElem?_drop] at this; simpa using this
  · cases this

end Go.Proofs.YthpkgkoojhgedaaDoor.V
