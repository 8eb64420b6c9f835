/- Seat 08: CapsLowest. -/
import Derived.Test.YthpkgkoojhgedaaK18
namespace Go.Proofs.Ythpkgkoojhgedaa.V
set_option linter.unusedVariables false
set_option linter.unusedSimpArgs false
set_option linter.unusedSectionVars false
set_option linter.unusedSectionVars false
open Go

def cpL : Cp := ⟨3, 0, 1, 0⟩

/-- The book with list 2 open; what is taken. -/
structure Low (S : Bs) (t : Nat) (l : List (Option Nat)) : Prop where
  wf : WF S
  at2 : S.tb[2]? = some (some (t, l))
  all : ∀ c ∈ S.cs, c.env = 2 ∧ c.cap = cpL

/-- Taken as the array says. -/
def Tk (l : List (Option Nat)) (T : List Bool) : Prop := T.length = 48 ∧ ∀ s, s < 48 → (T[s]? = some true ↔ ∃ a, l[s]? = some (some a))

theorem cnt_full : ∀ {l : List (Option Nat)}, (∀ x ∈ l, x ≠ none) → cnt l = l.length
  | [], _ => rfl
  | x :: l, h => by
    have h1 := cnt_full (l := l) fun y hy => h y (List.mem_cons_of_mem _ hy)
    have h2 := h x (List.mem_cons_self ..)
    unfold cnt at *
    cases x with
    | none => exact absurd rfl h2
    | some a => simp_all

section
variable {S : Bs} {t : Nat} {l : List (Option Nat)}

theorem Low.got (h : Low S t l) : got S.tb 2 = some (t, l) := by
  rw [show (2 : Int) = ((2 : Nat) : Int) from rfl, got_nat, h.at2]

theorem Low.len (h : Low S t l) : l.length = 48 := h.wf.tl h.at2

theorem Low.place (h : Low S t l) (at' : Int) : mMint S.tb 2 at' cpL = if okAt at' then mPlace l at' else .inl 1 := by
  unfold mMint
  rw [h.got]
  dsimp only
  by_cases h1 : okAt at'
  · rw [if_pos ⟨h1, by decide⟩, if_pos h1]
  · rw [if_neg (fun e => h1 e.1), if_neg h1]

theorem Low.add (h : Low S t l) {s a : Nat} (hs : s < 48) (hw : WF (add S ⟨a, 2, s, cpL, none, []⟩)) : Low (add S ⟨a, 2, s, cpL, none, []⟩) t (l.set s (some a)) := by
  refine ⟨hw, ?_, fun c hc => ?_⟩
  · show (setTab S.tb 2 s (some a))[2]? = _
    rw [setTab_get h.at2, if_pos rfl]
  · rcases mem_addC.1 hc with ⟨p, hp, e⟩ | e
    · rw [e, fA_env, fA_cap]; exact h.all p hp
    · rw [e]; exact ⟨rfl, rfl⟩

theorem Low.rm (h : Low S t l) {c : Ce} (hc : c ∈ S.cs) : Low (rm S c) t (l.set c.slot none) := by
  refine ⟨h.wf.rm hc, ?_, fun k hk => ?_⟩
  · show (setTab S.tb c.env c.slot none)[2]? = _
    have := (h.all c hc).1
    rw [this, setTab_get h.at2, if_pos rfl]
  · obtain ⟨k, hk9, _, rfl⟩ := mem_rmC.1 hk
    exact h.all k hk9

theorem Tk.set {l : List (Option Nat)} (hl : l.length = 48) {T : List Bool} (h : Tk l T) {s : Nat} (hs : s < 48) (a : Nat) : Tk (l.set s (some a)) (T.set s true) := by
  refine ⟨by rw [List.length_set]; exact h.1, fun j hj => ?_⟩
  by_cases hjs : s = j
  · subst hjs
    rw [List.getElem?_set_self (by rw [h.1]; exact hj), List.getElem?_set_self (by omega)]
    exact ⟨fun _ => ⟨a, rfl⟩, fun _ => rfl⟩
  · rw [List.getElem?_set_ne hjs, List.getElem?_set_ne hjs]; exact h.2 j hj

theorem Tk.cut {l : List (Option Nat)} (hl : l.length = 48) {T : List Bool} (h : Tk l T) {s : Nat} (hs : s < 48) : Tk (l.set s none) (T.set s false) := by
  refine ⟨by rw [List.length_set]; exact h.1, fun j hj => ?_⟩
  by_cases hjs : s = j
  · subst hjs
    rw [List.getElem?_set_self (by rw [h.1]; exact hj), List.getElem?_set_self (by omega)]
    exact ⟨fun h => (by cases h), fun ⟨a, h⟩ => (by cases h)⟩
  · rw [List.getElem?_set_ne hjs, List.getElem?_set_ne hjs]; exact h.2 j hj

theorem Tk.free {l : List (Option Nat)} (hl : l.length = 48) {T : List Bool} (h : Tk l T) {s : Nat} (hs : s < 48) : T[s]? = some false ↔ l[s]? = some none := by
  have hT := h.2 s hs
  have hsT : s < T.length := by rw [h.1]; exact hs
  have hsl : s < l.length := by omega
  have e1 : T[s]? = some T[s] := List.getElem?_eq_getElem (by rw [h.1]; exact hs)
  have e2 : l[s]? = some l[s] := List.getElem?_eq_getElem (by omega)
  rw [e1, e2] at hT
  rw [e1, e2]
  cases hb : T[s] with
  | true =>
    rw [hb] at hT
    obtain ⟨a, ha⟩ := hT.1 rfl
    rw [ha]; simp
  | false =>
    rw [hb] at hT
    cases hx : l[s] with
    | none => simp
    | some a => rw [hx] at hT; exact absurd (hT.2 ⟨a, rfl⟩) (by simp)

/-- All is taken. -/
theorem Low.full (h : Low S t l) (hf : ∀ s, s < 48 → ∃ a, l[s]? = some (some a)) : cnt l = 48 ∧ S.cs.countP (onM 3 0) = 48 := by
  have hl := h.len
  refine ⟨?_, ?_⟩
  · rw [cnt_full fun x hx => ?_, hl]
    obtain ⟨i, hi⟩ := List.mem_iff_getElem?.1 hx
    have hil := (List.getElem?_eq_some_iff.1 hi).1
    obtain ⟨a, ha⟩ := hf i (by omega)
    rw [hi] at ha
    cases ha; simp
  · have e : S.cs.countP (onM 3 0) = S.cs.length := by
      rw [List.countP_eq_length]
      intro c hc
      unfold onM
      rw [(h.all c hc).2]; rfl
    rw [e]
    have h1 : (S.cs.map (·.slot)).Nodup := by
      rw [List.Nodup, List.pairwise_map]
      have h2 := h.wf.pos
      refine (List.Pairwise.and_mem.1 h2).imp fun {c d} ⟨hc, hd, hne⟩ e => hne ?_
      unfold posC
      rw [(h.all c hc).1, (h.all d hd).1, e]
    have a1 := nodup_sub (m := List.range 48) h1 fun x hx => by
      obtain ⟨c, hc, rfl⟩ := List.mem_map.1 hx
      exact List.mem_range.2 (pos_lt h.wf hc).2
    have a2 := nodup_sub (l := List.range 48) (m := S.cs.map (·.slot)) List.nodup_range fun x hx => by
      obtain ⟨a, ha⟩ := hf x (List.mem_range.1 hx)
      obtain ⟨c, hc, _, _, e3⟩ := h.wf.t1 h.at2 ha
      exact List.mem_map.2 ⟨c, hc, e3⟩
    rw [List.length_map, List.length_range] at a1 a2
    omega
end
end Go.Proofs.Ythpkgkoojhgedaa.V
