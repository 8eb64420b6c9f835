/- Seat 04: calls and writes that come in. -/
import Derived.Test.YtpkleblggehghaaU2
namespace Go.Proofs.Ytpkleblggehghaa.V
set_option linter.unusedVariables false
set_option linter.unusedSimpArgs false
set_option linter.unusedSectionVars false
set_option linter.unusedSectionVars false
open Go

theorem take_cell {cs : List Value} {o c : Nat} {v : Value} (h : (cs.drop o).take c = [v]) : cs[o]? = some v := by
  have : ((cs.drop o).take c)[0]? = some v := by rw [h]; rfl
  rw [List.getElem?_take] at this
  split at this
  · rw [List.getElem?_drop] at this; simpa using this
  · cases this

/-- One call of a script. -/
structure OpD where
  kind : Int
  two : Bool
  sector : Int
  at_ : Int
  data : List Int
  fill : Bool
  keep : List Bool

def byR : Hp → List Value → Int → Prop := fun _ cs n => cs = [.int .u8 n] ∧ (Lit.int .u8 n).wf = true
def boR : Hp → List Value → Bool → Prop := fun _ cs n => cs = [.bool n]
def i64 (n : Int) : Prop := (Lit.int .i64 n).wf = true

def OpR (h : Hp) (cs : List Value) (o : OpD) : Prop := cs.length = 7 ∧ i64 o.kind ∧ i64 o.sector ∧ i64 o.at_ ∧ ∃ vd vk, SlR 1 byR h [vd] o.data ∧ SlR 1 boR h [vk] o.keep ∧
  cs[0]? = some (iv o.kind) ∧ cs[1]? = some (.bool o.two) ∧ cs[2]? = some (iv o.sector) ∧ cs[3]? = some (iv o.at_) ∧ cs[4]? = some vd ∧ cs[5]? = some (.bool o.fill) ∧ cs[6]? = some vk

theorem opn_bytes : Opn 34 (List Int) (SlR 1 byR) (fun l => sumB (fun _ => 1) l + 1) := opn_slice Try.underlying34 (by kernel_rfl) (by omega) (opn_int Try.underlying5)
theorem opn_bools : Opn 41 (List Bool) (SlR 1 boR) (fun l => sumB (fun _ => 1) l + 1) := opn_slice Try.underlying41 (by kernel_rfl) (by omega) (opn_bool Try.underlying4)

def inR : Hp → List Value → Int → Prop := fun _ cs n => cs = [iv n] ∧ (Lit.int .i64 n).wf = true
theorem opn_ints : Opn 45 (List Int) (SlR 1 inR) (fun l => sumB (fun _ => 1) l + 1) := opn_slice Try.underlying45 (by kernel_rfl) (by omega) (opn_int Try.underlying3)

theorem opn_op : Opn 72 OpD OpR (fun o => o.data.length + o.keep.length + 1) := by
  intro H enc w base spare held fuel cs x h
  obtain ⟨xs, n, _, rfl, hl, hlen, hall⟩ := DataW.trod_struct Try.underlying72 h
  match xs, hlen with
  | [x0, x1, x2, x3, x4, x5, x6], _ =>
    have f0 := hall 0 _ rfl
    have f1 := hall 1 _ rfl
    have f2 := hall 2 _ rfl
    have f3 := hall 3 _ rfl
    have f4 := hall 4 _ rfl
    have f5 := hall 5 _ rfl
    have f6 := hall 6 _ rfl
    obtain ⟨a0, ⟨e0, w0⟩, _⟩ := opn_int Try.underlying3 f0
    obtain ⟨a1, e1, _⟩ := opn_bool Try.underlying4 f1
    obtain ⟨a2, ⟨e2, w2⟩, _⟩ := opn_int Try.underlying3 f2
    obtain ⟨a3, ⟨e3, w3⟩, _⟩ := opn_int Try.underlying3 f3
    obtain ⟨a4, e4, b4⟩ := opn_bytes f4
    obtain ⟨a5, e5, _⟩ := opn_bool Try.underlying4 f5
    obtain ⟨a6, e6, b6⟩ := opn_bools f6
    obtain ⟨vd, hvd⟩ : ∃ v, (cs.drop 4).take (PR.cellsOf 34) = [v] := let ⟨_, _, q, _⟩ := e4; ⟨_, q⟩
    obtain ⟨vk, hvk⟩ : ∃ v, (cs.drop 6).take (PR.cellsOf 41) = [v] := let ⟨_, _, q, _⟩ := e6; ⟨_, q⟩
    refine ⟨⟨a0, a1, a2, a3, a4, a5, a6⟩, ⟨hl.trans (by kernel_rfl), w0, w2, w3, vd, vk, ?_, ?_, take_cell e0, take_cell e1, take_cell e2, take_cell e3, take_cell hvd, take_cell e5, take_cell hvk⟩, ?_⟩
    · rw [← hvd]; exact e4
    · rw [← hvk]; exact e6
    · have g4 := len_sumB (B := fun _ : Int => 1) (fun _ => Nat.le_refl _) a4
      have g6 := len_sumB (B := fun _ : Bool => 1) (fun _ => Nat.le_refl _) a6
      dsimp only at b4 b6
      show a4.length + a6.length + 1 ≤ _
      simp only [List.map_cons, List.map_nil, Rows.uptoBulk, Rows.uptoBulkAll]
      omega

/-- A sector and a byte. -/
structure PutD where
  sector : Int
  byte : Int

def PutR (h : Hp) (cs : List Value) (o : PutD) : Prop := cs.length = 2 ∧ i64 o.sector ∧ cs[0]? = some (iv o.sector) ∧ cs[1]? = some (by8 o.byte)

theorem opn_put : Opn 30 PutD PutR (fun _ => 1) := by
  intro H enc w base spare held fuel cs x h
  obtain ⟨xs, n, _, rfl, hl, hlen, hall⟩ := DataW.trod_struct Try.underlying30 h
  match xs, hlen with
  | [x0, x1], _ =>
    have f0 := hall 0 _ rfl
    have f1 := hall 1 _ rfl
    obtain ⟨a0, ⟨e0, w0⟩, _⟩ := opn_int Try.underlying3 f0
    obtain ⟨a1, ⟨e1, w1⟩, _⟩ := opn_int Try.underlying5 f1
    refine ⟨⟨a0, a1⟩, ⟨hl.trans (by kernel_rfl), w0, take_cell e0, take_cell e1⟩, ?_⟩
    simp only [List.map_cons, List.map_nil, Rows.uptoBulk, Rows.uptoBulkAll]
    omega

theorem opn_script : Opn 22 (List OpD) (SlR 7 OpR) (fun l => sumB (fun o => o.data.length + o.keep.length + 1) l + 1) := opn_slice Try.underlying22 (by kernel_rfl) (by omega) opn_op
theorem opn_puts : Opn 23 (List PutD) (SlR 2 PutR) (fun l => sumB (fun _ => 1) l + 1) := opn_slice Try.underlying23 (by kernel_rfl) (by omega) opn_put

theorem script_ok (l : List OpD) (h : sumB (fun o => o.data.length + o.keep.length + 1) l + 1 ≤ 1048576) : (∀ o ∈ l, o.data.length ≤ 2 ^ 40 ∧ o.keep.length ≤ 2 ^ 40) ∧ l.length ≤ 2 ^ 30 := by
  refine ⟨fun o ho => ?_, ?_⟩
  · have := sumB_mem (B := fun o : OpD => o.data.length + o.keep.length + 1) ho
    omega
  · have := len_sumB (B := fun o : OpD => o.data.length + o.keep.length + 1) (fun a => by omega) l
    omega

theorem puts_ok (l : List PutD) (h : sumB (fun _ => 1) l + 1 ≤ 1048576) : l.length ≤ 2 ^ 30 := by
  have := len_sumB (B := fun _ : PutD => 1) (fun a => Nat.le_refl _) l
  omega

theorem bools_ok (l : List Bool) (h : sumB (fun _ => 1) l + 1 ≤ 1048576) : l.length ≤ 2 ^ 30 := by
  have := len_sumB (B := fun _ : Bool => 1) (fun a => Nat.le_refl _) l
  omega

theorem bytes_ok (l : List Int) (h : sumB (fun _ => 1) l + 1 ≤ 1048576) : l.length ≤ 2 ^ 30 := by
  have := len_sumB (B := fun _ : Int => 1) (fun a => Nat.le_refl _) l
  omega

end Go.Proofs.Ytpkleblggehghaa.V
