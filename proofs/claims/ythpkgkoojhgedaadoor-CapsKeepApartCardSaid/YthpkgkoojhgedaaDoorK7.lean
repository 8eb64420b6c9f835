/- Seat 08: a cell is taken out of its list; its children pass to its parent. -/
import Derived.Test.YthpkgkoojhgedaaDoorK6
namespace Go.Proofs.YthpkgkoojhgedaaDoor.V
set_option linter.unusedVariables false
set_option linter.unusedSimpArgs false
set_option linter.unusedSectionVars false
set_option linter.unusedSectionVars false
open Go

theorem nodup_sub : ∀ {l m : List Nat}, l.Nodup → (∀ x ∈ l, x ∈ m) → l.length ≤ m.length
  | [], m, _, _ => Nat.zero_le _
  | x :: l, m, hn, hs => by
    rw [List.nodup_cons] at hn
    have h1 : x ∈ m := hs x (List.mem_cons_self ..)
    have h2 := nodup_sub (l := l) (m := m.erase x) hn.2 fun y hy => (List.mem_erase_of_ne (fun e : y = x => hn.1 (by rw [← e]; exact hy))).2 (hs y (List.mem_cons_of_mem _ hy))
    rw [List.length_erase_of_mem h1] at h2
    have : 0 < m.length := List.length_pos_of_mem h1
    rw [List.length_cons]; omega

theorem opt_eqp {h : Hp} {β : Bx} {neg : Bool} {x y : Nat} (hx : plainO (h x) = true) (hy : plainO (h y) = true) {K : Ent → Prop} (hk : K (.v (.bool (if neg then !(decide (x = y)) else decide (x = y))))) :
    optK (prv h β (.eq neg (.one .p)) [.v (ptr x), .v (ptr y)]) K := by
  have e : eqS h .p (ptr x) (ptr y) = some (decide (x = y)) := by
    show (if plainO (h x) && plainO (h y) then some (decide _) else none) = _
    rw [hx, hy]
    simp only [Bool.and_self, if_true, Option.some.injEq]
    by_cases hxy : x = y
    · subst hxy; simp
    · rw [decide_eq_false hxy, decide_eq_false (by intro e; cases e; exact hxy rfl)]
  show optK (pEq neg (.one .p) h (.v (ptr x)) (.v (ptr y))) K
  have e2 : pEq neg (.one .p) h (.v (ptr x)) (.v (ptr y)) = some (.v (.bool (if neg then !(decide (x = y)) else decide (x = y)))) := by
    unfold pEq
    show (match eqS h .p (ptr x) (ptr y) with | some r => some _ | none => none) = _
    rw [e]
  rw [e2]
  exact hk

section
variable {S : Bs}

theorem WF.small (hw : WF S) : S.cs.length ≤ 768 := by
  have h1 : (S.cs.map fun c => c.env * 48 + c.slot).Nodup := by
    rw [List.Nodup, List.pairwise_map]
    have h2 : S.cs.Pairwise fun c d => c.a ≠ d.a := by
      have := hw.nda
      rwa [List.Nodup, List.pairwise_map] at this
    refine (List.Pairwise.and_mem.1 h2).imp fun {c d} ⟨hc, hd, hne⟩ e => ?_
    obtain ⟨t, l, a1, a2⟩ := hw.t2 c hc
    obtain ⟨t', l', b1, b2⟩ := hw.t2 d hd
    have c1 := hw.tl a1
    have c2 := hw.tl b1
    have d1 := (List.getElem?_eq_some_iff.1 a2).1
    have d2 := (List.getElem?_eq_some_iff.1 b2).1
    have e1 : c.env = d.env := by omega
    have e2 : c.slot = d.slot := by omega
    rw [e1, b1] at a1
    cases a1
    rw [e2, b2] at a2
    exact hne (Option.some.inj (Option.some.inj a2)).symm
  have h3 := nodup_sub (m := List.range 768) h1 fun x hx => by
    obtain ⟨c, hc, rfl⟩ := List.mem_map.1 hx
    obtain ⟨t, l, a1, a2⟩ := hw.t2 c hc
    have c1 := hw.tl a1
    have d1 := (List.getElem?_eq_some_iff.1 a2).1
    have c2 := (List.getElem?_eq_some_iff.1 a1).1
    rw [hw.len] at c2
    rw [List.mem_range]; omega
  rwa [List.length_map, List.length_range] at h3

theorem WF.kids_small (hw : WF S) {c : Ce} (hc : c ∈ S.cs) : c.kids.length ≤ 768 := by
  have h1 := nodup_sub (m := S.cs.map (·.a)) (hw.ndk c hc) fun x hx => by
    obtain ⟨d, hd, e, _⟩ := hw.k1 c hc x hx
    exact List.mem_map.2 ⟨d, hd, e⟩
  rw [List.length_map] at h1
  exact Nat.le_trans h1 hw.small

/-- Some turned. -/
def upM (C : List Ce) (A : List Nat) (f : Ce → Ce) : List Ce := C.map fun k => if k.a ∈ A then f k else k

theorem upM_get {C : List Ce} {A : List Nat} {f : Ce → Ce} {j : Nat} {d : Ce} (hd : C[j]? = some d) : (upM C A f)[j]? = some (if d.a ∈ A then f d else d) := by
  unfold upM
  rw [List.getElem?_map, hd]; rfl

theorem upM_step {C : List Ce} (hn : (C.map (·.a)).Nodup) {A : List Nat} {f : Ce → Ce} {j : Nat} {d : Ce} (hd : C[j]? = some d) : (upM C A f).set j (f d) = upM C (A ++ [d.a]) f := by
  apply List.ext_getElem?
  intro m
  have hj := (List.getElem?_eq_some_iff.1 hd).1
  by_cases hm : j = m
  · subst hm
    rw [List.getElem?_set_self (by unfold upM; rw [List.length_map]; exact hj), upM_get hd, if_pos (List.mem_append_right _ (List.mem_singleton.2 rfl))]
  · rw [List.getElem?_set_ne hm]
    cases hk : C[m]? with
    | none => unfold upM; rw [List.getElem?_map, List.getElem?_map, hk]; rfl
    | some k =>
      rw [upM_get hk, upM_get hk]
      have hne : k.a ≠ d.a := fun e => by
        have h1 : (C.map (·.a))[j]? = some d.a := by rw [List.getElem?_map, hd]; rfl
        have h2 : (C.map (·.a))[m]? = some d.a := by rw [List.getElem?_map, hk, ← e]; rfl
        have hm2 := (List.getElem?_eq_some_iff.1 h2).1
        exact hm ((List.getElem?_inj (by rw [List.length_map]; exact hj) hn).1 (h1.trans h2.symm))
      have : k.a ∈ A ++ [d.a] ↔ k.a ∈ A := by simp [hne]
      simp only [this]

theorem filter_erase {C : List Ce} (hn : (C.map (·.a)).Nodup) {i : Nat} {c : Ce} (hc : C[i]? = some c) : (C.filter fun k => decide (k.a ≠ c.a)) = C.eraseIdx i := by
  induction C generalizing i with
  | nil => cases hc
  | cons x C ih =>
    rw [List.map_cons, List.nodup_cons] at hn
    cases i with
    | zero =>
      cases hc
      rw [List.eraseIdx_zero, List.tail_cons, List.filter_cons_of_neg (by simp), List.filter_eq_self]
      intro k hk
      exact decide_eq_true fun e => hn.1 (List.mem_map.2 ⟨k, hk, e⟩)
    | succ i =>
      have hc2 : C[i]? = some c := hc
      have hne : x.a ≠ c.a := fun e => hn.1 (List.mem_map.2 ⟨c, List.mem_of_getElem? hc2, e.symm⟩)
      rw [List.filter_cons_of_pos (by simpa using hne), ih hn.2 hc2]; rfl

theorem rmC_eq {C X : List Ce} (hn : (C.map (·.a)).Nodup) {i : Nat} {c : Ce} (hc : C[i]? = some c) (hl : X.length = C.length) (hx : ∀ m d, m ≠ i → C[m]? = some d → X[m]? = some (fR c d)) : X.eraseIdx i = rmC C c := by
  unfold rmC
  rw [filter_erase hn hc]
  apply List.ext_getElem?
  intro m
  rw [List.getElem?_map, List.getElem?_eraseIdx, List.getElem?_eraseIdx]
  split
  · cases hk : C[m]? with
    | none => rw [List.getElem?_eq_none_iff] at hk; rw [List.getElem?_eq_none (by omega)]; rfl
    | some d => rw [hx m d (by omega) hk]; rfl
  · cases hk : C[m + 1]? with
    | none => rw [List.getElem?_eq_none_iff] at hk; rw [List.getElem?_eq_none (by omega)]; rfl
    | some d => rw [hx (m + 1) d (by omega) hk]; rfl
end
end Go.Proofs.YthpkgkoojhgedaaDoor.V
