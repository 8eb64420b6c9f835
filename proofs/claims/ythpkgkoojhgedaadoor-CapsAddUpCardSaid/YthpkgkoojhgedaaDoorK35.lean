/- Seat 08: what lists add up to. -/
import Derived.Test.YthpkgkoojhgedaaDoorK33
namespace Go.Proofs.YthpkgkoojhgedaaDoor.V
set_option linter.unusedVariables false
set_option linter.unusedSimpArgs false
set_option linter.unusedSectionVars false
set_option linter.unusedSectionVars false
open Go

section
variable {S : Bs}

theorem lsTo_countG (hw : WF S) (n : Nat) (q : Cp → Bool) : ∀ c, c ≤ 48 → (lsTo S n c).countP (fun x => q x.cap) = cntP S.cs (fun d => decide (d.env = n) && q d.cap) (n * 48 + c)
  | 0, _ => by
    have e0 : cntP S.cs (fun d => decide (d.env = n) && q d.cap) (n * 48 + 0) = 0 := by
      unfold cntP
      rw [List.countP_eq_zero]
      intro c hc
      simp only [Bool.and_eq_true, decide_eq_true_eq]
      unfold posC
      rintro ⟨h1, h2, _⟩
      rw [h2] at h1
      omega
    rw [e0]; rfl
  | c + 1, hc => by
    have ih := lsTo_countG hw n q c (by omega)
    rw [lsTo_succ, List.countP_append, ih]
    cases ha : atP S (n * 48 + c) with
    | none =>
      have hno : ∀ d ∈ S.cs, posC d ≠ n * 48 + c := fun d hd e => by
        have := atP_some hw hd
        rw [e, ha] at this; cases this
      rw [show n * 48 + (c + 1) = (n * 48 + c) + 1 by omega, cntP_gap hno]; rfl
    | some x =>
      obtain ⟨hx, hp⟩ := atP_spec ha
      have hst := cntP_step hw.pos (m := fun d => decide (d.env = n) && q d.cap) hx
      rw [hp] at hst
      rw [show n * 48 + (c + 1) = (n * 48 + c) + 1 by omega, hst]
      have he : x.env = n := by
        have := pos_lt hw hx
        unfold posC at hp
        omega
      dsimp only
      rw [decide_eq_true he, Bool.true_and]
      show _ + [hdOf x].countP _ = _
      rw [List.countP_singleton]; rfl

theorem cntP_env (C : List Ce) (hC : ∀ c ∈ C, c.slot < 48) (n : Nat) (q : Cp → Bool) : cntP C (fun d => q d.cap) ((n + 1) * 48) = cntP C (fun d => q d.cap) (n * 48) + cntP C (fun d => decide (d.env = n) && q d.cap) (n * 48 + 48) := by
  induction C with
  | nil => rfl
  | cons x C ih =>
    have ih := ih fun c hc => hC c (List.mem_cons_of_mem _ hc)
    have hx := hC x (List.mem_cons_self ..)
    unfold cntP at *
    rw [List.countP_cons, List.countP_cons, List.countP_cons, ih]
    have key : (if (decide (posC x < (n + 1) * 48) && q x.cap) = true then 1 else 0) = (if (decide (posC x < n * 48) && q x.cap) = true then 1 else 0) + (if (decide (posC x < n * 48 + 48) && (decide (x.env = n) && q x.cap)) = true then 1 else 0) := by
      unfold posC
      cases q x.cap with
      | false => simp
      | true =>
        simp only [Bool.and_true]
        by_cases h1 : x.env < n
        · rw [decide_eq_true (show x.env * 48 + x.slot < (n + 1) * 48 by omega), decide_eq_true (show x.env * 48 + x.slot < n * 48 by omega), decide_eq_false (show ¬ x.env = n by omega)]
          simp
        · by_cases h2 : x.env = n
          · rw [decide_eq_true (show x.env * 48 + x.slot < (n + 1) * 48 by omega), decide_eq_false (show ¬ x.env * 48 + x.slot < n * 48 by omega), decide_eq_true h2, decide_eq_true (show x.env * 48 + x.slot < n * 48 + 48 by omega)]
            simp
          · rw [decide_eq_false (show ¬ x.env * 48 + x.slot < (n + 1) * 48 by omega), decide_eq_false (show ¬ x.env * 48 + x.slot < n * 48 by omega), decide_eq_false h2]
            simp
    dsimp only
    rw [key]
    omega

theorem allTo_countG (hw : WF S) (q : Cp → Bool) : ∀ n, (allTo S n).countP (fun x => q x.cap) = cntP S.cs (fun d => q d.cap) (n * 48)
  | 0 => by
    have e0 : cntP S.cs (fun d => q d.cap) (0 * 48) = 0 := by
      unfold cntP
      rw [List.countP_eq_zero]
      intro c hc
      simp
    rw [e0]; rfl
  | n + 1 => by
    rw [allTo_succ, List.countP_append, allTo_countG hw q n, cntP_env S.cs (fun c hc => (pos_lt hw hc).2) n q]
    have := lsTo_countG hw n q 48 (Nat.le_refl _)
    unfold lsOf
    rw [this]

theorem all_count (hw : WF S) (q : Cp → Bool) : (allOf S).countP (fun x => q x.cap) = S.cs.countP fun d => q d.cap := by
  have h1 := allTo_countG hw q 16
  rw [show 16 * 48 = 768 from rfl, cntP_all hw] at h1
  exact h1

theorem ls_count (hw : WF S) (n : Nat) (q : Cp → Bool) : (lsOf S n).countP (fun x => q x.cap) = S.cs.countP fun d => decide (d.env = n) && q d.cap := by
  have h1 := lsTo_countG hw n q 48 (Nat.le_refl _)
  unfold lsOf
  rw [h1]
  unfold cntP
  refine List.countP_congr fun c hc => ?_
  have := pos_lt hw hc
  simp only [Bool.and_eq_true, decide_eq_true_eq]
  unfold posC
  constructor
  · exact fun h => h.2
  · exact fun h => ⟨by rw [h.1]; omega, h⟩

theorem ls_cnt (hw : WF S) {n t : Nat} {l : List (Option Nat)} (ht : S.tb[n]? = some (some (t, l))) : ∀ c, c ≤ 48 → (lsTo S n c).length = cnt (l.take c)
  | 0, _ => rfl
  | c + 1, hc => by
    have hl := hw.tl ht
    have hcl : c < l.length := by omega
    rw [lsTo_succ, List.length_append, ls_cnt hw ht c (by omega), ← List.take_append_getElem hcl]
    unfold cnt
    rw [List.filter_append, List.length_append]
    congr 1
    cases ha : atP S (n * 48 + c) with
    | none =>
      have : l[c] = none := by
        cases hx : l[c] with
        | none => rfl
        | some a =>
          obtain ⟨x, hx1, _, x2, x3⟩ := hw.t1 ht (show l[c]? = some (some a) by rw [List.getElem?_eq_getElem hcl, hx])
          have h1 := atP_some hw hx1
          unfold posC at h1
          rw [x2, x3, ha] at h1; cases h1
      rw [this]; rfl
    | some x =>
      obtain ⟨hx, hp⟩ := atP_spec ha
      have h2 := pos_lt hw hx
      unfold posC at hp
      have h1 := hw.taken ht hx (by omega)
      rw [show x.slot = c by omega, List.getElem?_eq_getElem hcl] at h1
      rw [Option.some.inj h1]; rfl

theorem find_ls (hw : WF S) {c : Ce} (hc : c ∈ S.cs) {n : Nat} (hn : c.env = n) : (lsOf S n).find? (isAt n c.slot) = some (hdOf c) := by
  cases h : (lsOf S n).find? (isAt n c.slot) with
  | none =>
    rw [List.find?_eq_none] at h
    exact absurd (by unfold isAt hdOf; simp [hn]) (h (hdOf c) ((mem_lsOf hw).2 ⟨c, hc, rfl, hn⟩))
  | some x =>
    have h1 := List.find?_some h
    obtain ⟨d, hd, rfl, _⟩ := (mem_lsOf hw).1 (List.mem_of_find?_eq_some h)
    unfold isAt hdOf at h1
    simp only [Bool.and_eq_true, decide_eq_true_eq] at h1
    rw [hw.place hd hc (by omega) (by omega)]

end
end Go.Proofs.YthpkgkoojhgedaaDoor.V
