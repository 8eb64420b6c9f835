/- What came in: rows of numbers behind a slice; a contract of ours as the judge's call. -/
import Derived.Test.YtkmknolkblcbeaaV17
import Derived.ProofKit
import Derived.OpenShut
import Derived.ChangeOld
import Derived.Below
import Derived.Deep.Slices
namespace Go.Proofs.Ytkmknolkblcbeaa.V
set_option linter.unusedSectionVars false
set_option linter.unusedVariables false
set_option linter.unusedSimpArgs false
open Go Go.ChangeShapes Go.WideShapes Go.ChangeAt Go.RowKit

def iv (n : Int) : Value := .int .i64 n

/-- Rows of n numbers each. -/
def RowsN (n : Nat) (h : Hp) (a : Option Addr) (len : Nat) (f : Nat → Nat → Int) : Prop :=
  ∀ i, i < len → ∃ b off c ty z, a = some ⟨b, off, none⟩ ∧ h b = some (.cells c ty z) ∧ ∀ j, j < n → c[off + i * n + j]? = some (iv (f i j))

/-- All that a world has, in sight. -/
def allH (w : World) : Hp := fun b => w.heap[b]?

theorem rep_all (w : World) : Rep w (allH w) ⟨fun _ => none, w⟩ := ⟨fun _ _ h => h, fun _ _ h => (by cases h), fun _ _ _ => rfl, ⟨rfl, rfl, rfl⟩⟩

theorem cell_cells {w : World} {b o : Nat} {v : Value} (h : w.cell? ⟨b, o, none⟩ = some v) : ∃ c ty z, w.heap[b]? = some (.cells c ty z) ∧ c[o]? = some v := by
  unfold World.cell? at h
  split at h
  · rename_i c ty z hb
    exact ⟨c, ty, z, hb, by simpa using h⟩
  · cases h

section
variable {H : Type} {enc : TypeId × Value → H} {P : Program} {w : World} {base : Nat} {spare : Nat → Bool} {held : Bool}

theorem struct_ints {e n : Nat} {fs : Array Field} {fuel : Nat} {cs : List Value} {x : DataW H × List MemPlace} (hs : P.underlying e = some (.struct fs))
    (hf : ∀ j, j < n → ∃ (i : Nat) (fl : Field), fs[i]? = some fl ∧ fl.offset = j ∧ P.cellsOf fl.type = 1 ∧ P.underlying fl.type = some (.int .i64))
    (h : DataW.trod enc P w base spare held fuel e cs = some x) (j : Nat) (hj : j < n) : ∃ m, cs[j]? = some (iv m) := by
  obtain ⟨xs, k, _, rfl, hl, hlen, hall⟩ := DataW.trod_struct hs h
  obtain ⟨i, fl, h1, h2, h3, h4⟩ := hf j hj
  have h5 := hall i fl h1
  have hi : i < xs.length := by rw [hlen]; exact (Array.getElem?_eq_some_iff.1 h1).1
  rw [List.getElem?_eq_getElem hi] at h5
  obtain ⟨m, h6, _⟩ := DataW.trod_int h4 h5
  refine ⟨m, ?_⟩
  rw [h2, h3] at h6
  have : ((cs.drop j).take 1)[0]? = some (Value.int .i64 m) := by rw [h6]; rfl
  simpa [List.getElem?_take, List.getElem?_drop, iv] using this

/-- A struct of n numbers. -/
def intStruct (P : Program) (e n : Nat) : Bool := match P.underlying e with
  | some (.struct fs) => P.cellsOf e == n && decide (0 < n) && (List.range n).all fun j => match fs[j]? with
    | some fl => fl.offset == j && P.cellsOf fl.type == 1 && (match P.underlying fl.type with | some (.int .i64) => true | _ => false)
    | none => false
  | _ => false

theorem intStruct_spec {e n : Nat} (h : intStruct P e n = true) : ∃ fs, P.underlying e = some (.struct fs) ∧ P.cellsOf e = n ∧ 0 < n ∧
    ∀ j, j < n → ∃ (i : Nat) (fl : Field), fs[i]? = some fl ∧ fl.offset = j ∧ P.cellsOf fl.type = 1 ∧ P.underlying fl.type = some (.int .i64) := by
  unfold intStruct at h
  split at h
  · rename_i fs hs
    simp only [Bool.and_eq_true, beq_iff_eq, decide_eq_true_eq, List.all_eq_true, List.mem_range] at h
    refine ⟨fs, hs, h.1.1, h.1.2, fun j hj => ?_⟩
    have h2 := h.2 j hj
    split at h2
    · rename_i fl hfl
      simp only [Bool.and_eq_true, beq_iff_eq] at h2
      refine ⟨j, fl, hfl, h2.1.1, h2.1.2, ?_⟩
      have h3 := h2.2
      split at h3
      · assumption
      · cases h3
    · cases h2
  · cases h

theorem rows_open {t e n : Nat} {fuel : Nat} {a : Option Addr} {len cap : Nat} {x : DataW H × List MemPlace} (ht : P.underlying t = some (.slice e)) (hck : intStruct P e n = true)
    (h : DataW.trod enc P w base spare held fuel t [.slice a len cap] = some x) : ∃ f, RowsN n (allH w) a len f ∧ len ≤ maxLen := by
  obtain ⟨fs, hs, hc, hn, hf⟩ := intStruct_spec hck
  rcases Go.Deep.open_slice ht h with ⟨he, _⟩ | ⟨a', len', cap', m, k, D, Pl, he, hb, hl, hm, hmm, _, hel⟩
  · cases he
    exact ⟨fun _ _ => 0, fun i hi => absurd hi (Nat.not_lt_zero _), Nat.zero_le _⟩
  · cases he
    refine ⟨fun i j => match w.cell? ((a'.add (i * n)).add j) with | some (.int _ q) => q | _ => 0, fun i hi => ?_, Nat.le_trans hl hm⟩
    have him : i < m := by rw [hmm]; split <;> omega
    obtain ⟨cs', h1, h2⟩ := hel i him
    rw [hc] at h1
    obtain ⟨_, hlen, hcell⟩ := World.cells?_some h1
    obtain ⟨b, off, spot⟩ := a'
    have hsp : spot = none := by
      obtain ⟨cs0, g1, g2⟩ := hel 0 (by omega)
      rw [hc, Nat.zero_mul] at g1
      obtain ⟨_, _, gcell⟩ := World.cells?_some g1
      obtain ⟨m0, h0⟩ := struct_ints hs hf g2 0 hn
      have hz := gcell 0 hn
      rw [h0] at hz
      simpa [Addr.add] using World.cell?_spot hz
    subst hsp
    obtain ⟨m0, h0⟩ := struct_ints hs hf h2 0 hn
    have hz := hcell 0 hn
    rw [h0] at hz
    rw [add_mk, add_mk] at hz
    obtain ⟨c, ty, z, hbw, _⟩ := cell_cells hz
    refine ⟨b, off, c, ty, z, rfl, hbw, fun j hj => ?_⟩
    obtain ⟨mj, hmj⟩ := struct_ints hs hf h2 j hj
    have hcj := hcell j hj
    rw [hmj, add_mk, add_mk] at hcj
    show _ = some (iv (match w.cell? ((Addr.add ⟨b, off, none⟩ (i * n)).add j) with | some (.int _ q) => q | _ => 0))
    rw [add_mk, add_mk]
    rw [hcj]
    have : w.cell? ⟨b, off + i * n + j, none⟩ = c[off + i * n + j]? := cell_of hbw
    rw [← this, hcj]
    rfl

end

/-- From a contract that keeps what was there to the judge's call. -/
theorem call_of {P : Program} {k : FuncId} {args : List Value} {w : World} (h : Ok P k args (allH w) (fun v h' => v = .bool true ∧ ∀ b o, allH w b = some o → h' b = some o)) :
    Calls P k args.toArray w fun e w' => e = .returned (.bool true) ∧ Below w.heap.size w w' := by
  refine (h.run w _ (rep_all w)).mono fun e w' ⟨v, h', he, ⟨hv, hk⟩, hr⟩ => ⟨by rw [he, hv], ?_⟩
  have hblk : ∀ b, b < w.heap.size → w'.heap[b]? = w.heap[b]? := fun b hb => by
    have hb' : w.heap[b]? = some w.heap[b] := Array.getElem?_eq_getElem hb
    rw [hb']
    exact hr.vis b _ (hk b _ hb')
  refine ⟨hr.kp.os, hr.kp.tape, hr.kp.output, ?_, hblk⟩
  rcases Nat.lt_or_ge w'.heap.size w.heap.size with hlt | hge
  · have h1 := hblk w'.heap.size hlt
    rw [Array.getElem?_eq_none (Nat.le_refl _), Array.getElem?_eq_getElem hlt] at h1
    cases h1
  · exact hge

end Go.Proofs.Ytkmknolkblcbeaa.V
