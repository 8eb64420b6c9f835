/- Seat 09: environments as a list of rows, in plain words. -/
import Derived.Test.YtljenppmdhldbaaH5
namespace Go.Proofs.Ytljenppmdhldbaa.V
set_option linter.unusedVariables false
set_option linter.unusedSimpArgs false
set_option linter.unusedSectionVars false
set_option linter.unusedSectionVars false
open Go

structure Row where
  num : Nat
  serial : Int
  parent : Int
  state : Int
  code : Int
  bits : Int
  frozen : Bool
  regs : List Int
  pc : Int
  whole : Q3
  paid : Q3

abbrev Rs := List Row

def qz : Q3 := (0, 0, 0)
def qadd (a b : Q3) : Q3 := (a.1 + b.1, a.2.1 + b.2.1, a.2.2 + b.2.2)
def qsub (a b : Q3) : Q3 := (a.1 - b.1, a.2.1 - b.2.1, a.2.2 - b.2.2)
def qchild (a : Q3) : Q3 := (a.1, a.2.1 + 1, a.2.2)
def qge (a : Q3) : Prop := 0 ≤ a.1 ∧ 0 ≤ a.2.1 ∧ 0 ≤ a.2.2
def qgood (a : Q3) : Prop := qge a ∧ a.1 ≤ 4611686018427387903 ∧ a.2.1 ≤ 4611686018427387903 ∧ a.2.2 ≤ 4611686018427387903
def qle (a b : Q3) : Prop := a.1 ≤ b.1 ∧ a.2.1 ≤ b.2.1 ∧ a.2.2 ≤ b.2.2
instance (a : Q3) : Decidable (qge a) := by unfold qge; exact inferInstance
instance (a : Q3) : Decidable (qgood a) := by unfold qgood; exact inferInstance
instance (a b : Q3) : Decidable (qle a b) := by unfold qle; exact inferInstance

/-- The children of n, in the order of their making. -/
def kidsR (A : Rs) (n : Int) : Rs := A.filter fun r => decide (r.parent = n)
def kids (A : Rs) (n : Int) : List Int := (kidsR A n).map fun r => (r.num : Int)
def qsum : List Q3 → Q3
  | [] => qz
  | q :: l => qadd (qchild q) (qsum l)
def carve (A : Rs) (n : Int) : Q3 := qsum ((kidsR A n).map fun r => r.whole)
def fnd (A : Rs) (e : Int) : Option Row := A.find? fun r => decide ((r.num : Int) = e)
def left (A : Rs) (r : Row) : Q3 := qsub (qsub r.whole r.paid) (carve A r.num)
def upR (A : Rs) (e : Int) (f : Row → Row) : Rs := A.map fun r => if (r.num : Int) = e then f r else r

def rcOf (A : Rs) (r : Row) : Rec := ⟨r.serial, r.parent, r.state, r.code, r.bits, r.frozen, r.regs, r.pc, r.whole, r.paid, carve A r.num, kids A r.num⟩
def tab (A : Rs) : List (Option Rec) := (List.range 16).map fun n : Nat => (fnd A (n : Int)).map (rcOf A)

structure WF (A : Rs) (last : Int) : Prop where
  nd : (A.map (·.num)).Nodup
  lt : ∀ r ∈ A, r.num < 16
  sr : A.Pairwise fun a b => a.serial < b.serial
  sl : ∀ r ∈ A, r.serial ≤ last
  root : ∃ r ∈ A, r.num = 0
  par : ∀ r ∈ A, (r.num = 0 ∧ r.parent = -1) ∨ (r.num ≠ 0 ∧ ∃ p ∈ A, r.parent = p.num ∧ p.serial < r.serial)
  qw : ∀ r ∈ A, qgood r.whole
  qp : ∀ r ∈ A, qge r.paid
  ql : ∀ r ∈ A, qge (left A r)
  bt : ∀ r ∈ A, 0 ≤ r.bits ∧ r.bits ≤ 4294967295
  rg : ∀ r ∈ A, r.regs.length = 8

theorem tab_len (A : Rs) : (tab A).length = 16 := by simp [tab]

theorem fnd_mem {A : Rs} {e : Int} {r : Row} (h : fnd A e = some r) : r ∈ A ∧ (r.num : Int) = e := by
  have h1 := List.mem_of_find?_eq_some h
  have h2 := List.find?_some h
  exact ⟨h1, of_decide_eq_true h2⟩

theorem fnd_none {A : Rs} {e : Int} : fnd A e = none ↔ ∀ r ∈ A, (r.num : Int) ≠ e := by
  unfold fnd
  rw [List.find?_eq_none]
  simp

theorem uniq {A : Rs} (hn : (A.map (·.num)).Nodup) {r s : Row} (hr : r ∈ A) (hs : s ∈ A) (h : r.num = s.num) : r = s := by
  induction A with
  | nil => cases hr
  | cons x A ih =>
    rw [List.map_cons, List.nodup_cons] at hn
    rcases List.mem_cons.1 hr with rfl | hr' <;> rcases List.mem_cons.1 hs with rfl | hs'
    · rfl
    · exact absurd (List.mem_map.2 ⟨s, hs', h.symm⟩) hn.1
    · exact absurd (List.mem_map.2 ⟨r, hr', h⟩) hn.1
    · exact ih hn.2 hr' hs'

theorem fnd_of {A : Rs} (hn : (A.map (·.num)).Nodup) {r : Row} (hr : r ∈ A) : fnd A r.num = some r := by
  cases h : fnd A r.num with
  | none => exact absurd rfl (fnd_none.1 h r hr)
  | some s =>
    have := fnd_mem h
    rw [uniq hn this.1 hr (by omega)]

theorem fnd_iff {A : Rs} (hn : (A.map (·.num)).Nodup) {e : Int} {r : Row} : fnd A e = some r ↔ r ∈ A ∧ (r.num : Int) = e :=
  ⟨fnd_mem, fun ⟨h1, h2⟩ => by rw [← h2]; exact fnd_of hn h1⟩

theorem got_tab {A : Rs} (hl : ∀ r ∈ A, r.num < 16) (e : Int) : got (tab A) e = (fnd A e).map (rcOf A) := by
  by_cases h0 : 0 ≤ e
  · obtain ⟨n, rfl⟩ := Int.eq_ofNat_of_zero_le h0
    rw [got_nat]
    by_cases hn : n < 16
    · have : (tab A)[n]? = some ((fnd A (n : Int)).map (rcOf A)) := by simp [tab, hn]
      rw [this]
    · rw [List.getElem?_eq_none (by rw [tab_len]; omega)]
      rw [fnd_none.2 fun r hr h => by have := hl r hr; omega]; rfl
  · rw [got_neg (by omega), fnd_none.2 fun r hr h => by omega]; rfl

theorem tab_set {A : Rs} {B : Rs} {n : Nat} {x : Option Rec} (hn : n < 16) (h1 : (fnd B (n : Int)).map (rcOf B) = x) (h2 : ∀ m : Nat, m < 16 → m ≠ n → (fnd B (m : Int)).map (rcOf B) = (fnd A (m : Int)).map (rcOf A)) : (tab A).set n x = tab B := by
  apply List.ext_getElem?
  intro i
  rw [List.getElem?_set, tab_len]
  by_cases hi : n = i
  · subst hi
    rw [if_pos rfl, if_pos hn, ← h1]; simp [tab, hn]
  · rw [if_neg hi]
    by_cases hi2 : i < 16
    · simp [tab, hi2, h2 i hi2 (Ne.symm hi)]
    · rw [List.getElem?_eq_none (by rw [tab_len]; omega), List.getElem?_eq_none (by rw [tab_len]; omega)]

section
variable {A : Rs} {e : Int} {f : Row → Row}

/-- A change that leaves number, parent and quota. -/
def Keep (f : Row → Row) : Prop := ∀ r, (f r).num = r.num ∧ (f r).parent = r.parent ∧ (f r).whole = r.whole ∧ (f r).serial = r.serial

theorem up_kids (hf : Keep f) (n : Int) : (kidsR (upR A e f) n).map (fun r => (r.num : Int)) = kids A n ∧ (kidsR (upR A e f) n).map (fun r => r.whole) = (kidsR A n).map (fun r => r.whole) := by
  unfold kids kidsR upR
  rw [List.filter_map, List.map_map, List.map_map]
  have e1 : ((fun r : Row => decide (r.parent = n)) ∘ fun r => if (r.num : Int) = e then f r else r) = fun r : Row => decide (r.parent = n) := by
    funext r
    simp only [Function.comp]
    split
    · rw [(hf r).2.1]
    · rfl
  rw [e1]
  constructor
  · congr 1; funext r; simp only [Function.comp]; split
    · rw [(hf r).1]
    · rfl
  · congr 1; funext r; simp only [Function.comp]; split
    · rw [(hf r).2.2.1]
    · rfl

theorem kids_up (hf : Keep f) (n : Int) : kids (upR A e f) n = kids A n := (up_kids hf n).1
theorem carve_up (hf : Keep f) (n : Int) : carve (upR A e f) n = carve A n := by unfold carve; rw [(up_kids hf n).2]

theorem fnd_up (hf : Keep f) (m : Int) : fnd (upR A e f) m = (fnd A m).map fun r => if (r.num : Int) = e then f r else r := by
  unfold fnd upR
  rw [List.find?_map]
  congr 2
  funext r
  simp only [Function.comp]
  split
  · rw [(hf r).1]
  · rfl

theorem rcOf_up (hf : Keep f) (r : Row) : rcOf (upR A e f) r = rcOf A r := by
  unfold rcOf; rw [kids_up hf, carve_up hf]

theorem tab_up (hf : Keep f) {n : Nat} {r : Row} (hl : ∀ r ∈ A, r.num < 16) (hr : fnd A (n : Int) = some r) : (tab A).set n (some (rcOf A (f r))) = tab (upR A (n : Int) f) := by
  have hm := fnd_mem hr
  refine tab_set (by have := hl r hm.1; omega) ?_ fun m _ hm2 => ?_
  · rw [fnd_up hf, hr]
    simp only [Option.map_some]
    rw [if_pos hm.2, rcOf_up hf]
  · rw [fnd_up hf]
    cases h : fnd A (m : Int) with
    | none => rfl
    | some s =>
      have := (fnd_mem h).2
      simp only [Option.map_some]
      rw [if_neg (by omega), rcOf_up hf]

theorem nums_up (hf : Keep f) : (upR A e f).map (·.num) = A.map (·.num) := by
  unfold upR; rw [List.map_map]; congr 1; funext r; simp only [Function.comp]; split
  · rw [(hf r).1]
  · rfl

theorem mem_up {r : Row} (h : r ∈ upR A e f) : ∃ s ∈ A, ((s.num : Int) = e ∧ r = f s) ∨ ((s.num : Int) ≠ e ∧ r = s) := by
  obtain ⟨s, hs, rfl⟩ := List.mem_map.1 h
  refine ⟨s, hs, ?_⟩
  by_cases hx : (s.num : Int) = e
  · exact .inl ⟨hx, by rw [if_pos hx]⟩
  · exact .inr ⟨hx, by rw [if_neg hx]⟩

theorem up_mem {s : Row} (h : s ∈ A) : (if (s.num : Int) = e then f s else s) ∈ upR A e f := List.mem_map.2 ⟨s, h, rfl⟩

theorem WF.up {last : Int} (hw : WF A last) (hf : Keep f) (h1 : ∀ r ∈ A, (r.num : Int) = e → qge (f r).paid ∧ qge (left A (f r)) ∧ (0 ≤ (f r).bits ∧ (f r).bits ≤ 4294967295) ∧ (f r).regs.length = 8) : WF (upR A e f) last := by
  have key : ∀ r ∈ upR A e f, ∃ s ∈ A, r.num = s.num ∧ r.parent = s.parent ∧ r.serial = s.serial ∧ r.whole = s.whole := by
    intro r hr
    obtain ⟨s, hs, ⟨_, rfl⟩ | ⟨_, rfl⟩⟩ := mem_up hr
    · exact ⟨s, hs, (hf s).1, (hf s).2.1, (hf s).2.2.2, (hf s).2.2.1⟩
    · exact ⟨_, hs, rfl, rfl, rfl, rfl⟩
  have yek : ∀ s ∈ A, ∃ r ∈ upR A e f, r.num = s.num ∧ r.parent = s.parent ∧ r.serial = s.serial ∧ r.whole = s.whole := by
    intro s hs
    refine ⟨_, up_mem hs, ?_⟩
    split
    · exact ⟨(hf s).1, (hf s).2.1, (hf s).2.2.2, (hf s).2.2.1⟩
    · exact ⟨rfl, rfl, rfl, rfl⟩
  have lf : ∀ r, left (upR A e f) r = left A r := fun r => by unfold left; rw [carve_up hf]
  refine ⟨by rw [nums_up hf]; exact hw.nd, ?_, ?_, ?_, ?_, ?_, ?_, ?_, ?_, ?_, ?_⟩
  · intro r hr; obtain ⟨s, hs, e1, _⟩ := key r hr; rw [e1]; exact hw.lt s hs
  · unfold upR
    rw [List.pairwise_map]
    refine hw.sr.imp fun {a b} h => ?_
    have ha : (if (a.num : Int) = e then f a else a).serial = a.serial := by split; exact (hf a).2.2.2; rfl
    have hb : (if (b.num : Int) = e then f b else b).serial = b.serial := by split; exact (hf b).2.2.2; rfl
    rw [ha, hb]; exact h
  · intro r hr; obtain ⟨s, hs, _, _, e1, _⟩ := key r hr; rw [e1]; exact hw.sl s hs
  · obtain ⟨r, hr, h0⟩ := hw.root
    obtain ⟨s, hs, e1, _⟩ := yek r hr
    exact ⟨s, hs, by rw [e1, h0]⟩
  · intro r hr
    obtain ⟨s, hs, e1, e2, e3, _⟩ := key r hr
    rw [e1, e2, e3]
    rcases hw.par s hs with h | ⟨h, p, hp, h2, h3⟩
    · exact .inl h
    · obtain ⟨p', hp', g1, _, g3, _⟩ := yek p hp
      exact .inr ⟨h, p', hp', by rw [g1]; exact h2, by rw [g3]; exact h3⟩
  · intro r hr; obtain ⟨s, hs, _, _, _, e1⟩ := key r hr; rw [e1]; exact hw.qw s hs
  · intro r hr
    obtain ⟨s, hs, ⟨g, rfl⟩ | ⟨_, rfl⟩⟩ := mem_up hr
    · exact (h1 s hs g).1
    · exact hw.qp _ hs
  · intro r hr
    rw [lf]
    obtain ⟨s, hs, ⟨g, rfl⟩ | ⟨_, rfl⟩⟩ := mem_up hr
    · exact (h1 s hs g).2.1
    · exact hw.ql _ hs
  · intro r hr
    obtain ⟨s, hs, ⟨g, rfl⟩ | ⟨_, rfl⟩⟩ := mem_up hr
    · exact (h1 s hs g).2.2.1
    · exact hw.bt _ hs
  · intro r hr
    obtain ⟨s, hs, ⟨g, rfl⟩ | ⟨_, rfl⟩⟩ := mem_up hr
    · exact (h1 s hs g).2.2.2
    · exact hw.rg _ hs

end
end Go.Proofs.Ytljenppmdhldbaa.V
