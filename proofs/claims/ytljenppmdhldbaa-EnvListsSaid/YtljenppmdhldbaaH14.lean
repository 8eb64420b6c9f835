/- Seat 09: an environment that is made. -/
import Derived.Test.YtljenppmdhldbaaH13
namespace Go.Proofs.Ytljenppmdhldbaa.V
set_option linter.unusedVariables false
set_option linter.unusedSimpArgs false
set_option linter.unusedSectionVars false
set_option linter.unusedSectionVars false
open Go

section
variable {A : Rs} {last : Int}

theorem qsum_snoc (q : Q3) : ∀ l : List Q3, qsum (l ++ [q]) = qadd (qsum l) (qchild q)
  | [] => by simp only [List.nil_append, qsum, qadd, qz, qchild]; congr 1 <;> simp
  | x :: l => by
    simp only [List.cons_append, qsum, qsum_snoc q l, qadd]
    congr 1
    · omega
    · congr 1 <;> omega

theorem fnd_app (r : Row) (e : Int) : fnd (A ++ [r]) e = (fnd A e).or (if (r.num : Int) = e then some r else none) := by
  unfold fnd
  rw [List.find?_append]
  congr 1
  simp only [List.find?_cons, List.find?_nil]
  by_cases h : (r.num : Int) = e <;> simp [h]

theorem kidsR_app (r : Row) (m : Int) : kidsR (A ++ [r]) m = kidsR A m ++ (if r.parent = m then [r] else []) := by
  unfold kidsR
  rw [List.filter_append]
  congr 1
  by_cases h : r.parent = m <;> simp [h]

theorem tab_get (A : Rs) {m : Nat} (hm : m < 16) : (tab A)[m]? = some ((fnd A (m : Int)).map (rcOf A)) := by simp [tab, hm]

theorem xfree {xs : Xs} (a1 : xs.length = 16) (a2 : rcs xs = tab A) {m : Nat} (hm : m < 16) : xs[m]? = some none ↔ fnd A (m : Int) = none := by
  have h1 := tab_get A hm
  rw [← a2, rcs, List.getElem?_map, List.getElem?_eq_getElem (by omega)] at h1
  rw [List.getElem?_eq_getElem (by omega)]
  simp only [Option.map_some, Option.some.injEq] at h1 ⊢
  constructor
  · intro h; rw [h] at h1; simpa using h1.symm
  · intro h; rw [h] at h1; simpa using h1

theorem free_some {n : Nat} (h : free A = some n) : n < 16 ∧ fnd A (n : Int) = none ∧ ∀ j : Nat, j < n → fnd A (j : Int) ≠ none := by
  unfold free at h
  rw [List.find?_range_eq_some] at h
  obtain ⟨h1, h2, h3⟩ := h
  refine ⟨by simpa using h2, by simpa using h1, fun j hj hn => ?_⟩
  have := h3 j hj
  rw [hn] at this; simp at this

theorem free_none (h : free A = none) : ∀ j : Nat, j < 16 → fnd A (j : Int) ≠ none := by
  unfold free at h
  rw [List.find?_eq_none] at h
  intro j hj hn
  have := h j (List.mem_range.2 hj)
  rw [hn] at this; simp at this

theorem blk_none {xs : Xs} {m : Nat} : (blk xs)[m]? = some none ↔ xs[m]? = some none := by
  unfold blk
  rw [List.getElem?_map]
  cases xs[m]? with
  | none => simp
  | some x => simp

theorem WF.free_root (hw : WF A last) {n : Nat} (h : fnd A (n : Int) = none) : n ≠ 0 := by
  rintro rfl
  obtain ⟨r, hr, h0⟩ := hw.root
  exact fnd_none.1 h r hr (by omega)

/-- Made: the table behind it. -/
theorem WF.create (hw : WF A last) {n : Nat} {serial parent : Int} {q : Q3} {p : Row} (hp : fnd A parent = some p) (hn : fnd A (n : Int) = none) (hn16 : n < 16) (hq : qgood q) (h1 : last < serial) (hle : qle (qchild q) (left A p)) :
    WF (A ++ [mkRow n serial parent q]) serial := by
  have hpm := fnd_mem hp
  have hnp : (n : Int) ≠ parent := fun e => by rw [e, hp] at hn; cases hn
  have hcar : ∀ m : Int, m ≠ parent → carve (A ++ [mkRow n serial parent q]) m = carve A m := fun m hm => by
    unfold carve; rw [kidsR_app, if_neg (by show parent ≠ m; exact Ne.symm hm), List.append_nil]
  have hcap : carve (A ++ [mkRow n serial parent q]) parent = qadd (carve A parent) (qchild q) := by
    unfold carve; rw [kidsR_app, if_pos (show (mkRow n serial parent q).parent = parent from rfl), List.map_append]; exact qsum_snoc _ _
  have hmem : ∀ r ∈ A ++ [mkRow n serial parent q], r ∈ A ∨ r = mkRow n serial parent q := fun r hr => by
    rcases List.mem_append.1 hr with h | h
    · exact .inl h
    · exact .inr (List.mem_singleton.1 h)
  have hn0 := hw.free_root hn
  have hkn : carve A (n : Int) = qz := by
    have := hw.kids_none hn (by omega)
    unfold carve
    have h2 : kidsR A (n : Int) = [] := List.map_eq_nil_iff.1 this
    rw [h2]; rfl
  refine ⟨?_, ?_, ?_, ?_, ?_, ?_, ?_, ?_, ?_, ?_, ?_⟩
  · rw [List.map_append, List.nodup_append]
    refine ⟨hw.nd, by simp, ?_⟩
    intro a ha b hb
    rw [List.map_singleton, List.mem_singleton] at hb
    obtain ⟨r, hr, rfl⟩ := List.mem_map.1 ha
    have := fnd_none.1 hn r hr
    rw [hb]
    show r.num ≠ n
    omega
  · intro r hr; rcases hmem r hr with h | rfl
    · exact hw.lt r h
    · exact hn16
  · rw [List.pairwise_append]
    refine ⟨hw.sr, by simp, fun a ha b hb => ?_⟩
    rw [List.mem_singleton.1 hb]
    have := hw.sl a ha
    show a.serial < serial
    omega
  · intro r hr; rcases hmem r hr with h | rfl
    · have := hw.sl r h; omega
    · exact Int.le_refl _
  · obtain ⟨r, hr, h0⟩ := hw.root
    exact ⟨r, List.mem_append_left _ hr, h0⟩
  · intro r hr; rcases hmem r hr with h | rfl
    · rcases hw.par r h with h | ⟨h, p, hp, h2⟩
      · exact .inl h
      · exact .inr ⟨h, p, List.mem_append_left _ hp, h2⟩
    · refine .inr ⟨hn0, p, List.mem_append_left _ hpm.1, hpm.2.symm, ?_⟩
      have := hw.sl p hpm.1
      show p.serial < serial
      omega
  · intro r hr; rcases hmem r hr with h | rfl
    · exact hw.qw r h
    · exact hq
  · intro r hr; rcases hmem r hr with h | rfl
    · exact hw.qp r h
    · exact ⟨Int.le_refl _, Int.le_refl _, Int.le_refl _⟩
  · intro r hr; rcases hmem r hr with h | rfl
    · unfold left
      by_cases hrp : (r.num : Int) = parent
      · have : r = p := uniq hw.nd h hpm.1 (by omega)
        subst this
        rw [hrp, hcap]
        obtain ⟨l1, l2, l3⟩ := hle
        simp only [left, qsub, qadd, qchild, hrp, qge] at *
        omega
      · rw [hcar _ hrp]; exact hw.ql r h
    · unfold left
      rw [show ((mkRow n serial parent q).num : Int) = n from rfl, hcar _ hnp, hkn]
      obtain ⟨l1, l2, l3⟩ := hq.1
      simp only [qsub, qz, mkRow, qge]; omega
  · intro r hr; rcases hmem r hr with h | rfl
    · exact hw.bt r h
    · exact ⟨Int.le_refl _, show (0 : Int) ≤ 4294967295 by decide⟩
  · intro r hr; rcases hmem r hr with h | rfl
    · exact hw.rg r h
    · rfl

theorem tab_create (hw : WF A last) {n pn : Nat} {serial : Int} {q : Q3} {p : Row} (hp : fnd A (pn : Int) = some p) (hn : fnd A (n : Int) = none) (hn16 : n < 16) :
    ((tab A).set n (some (rcOf [] (mkRow n serial pn q)))).set pn (some { rcOf A p with carved := qadd (carve A p.num) (qchild q), kids := kids A p.num ++ [(n : Int)] }) = tab (A ++ [mkRow n serial pn q]) := by
  have hpm := fnd_mem hp
  have hp16 := hw.lt _ hpm.1
  have hpn : p.num = pn := by omega
  have hnp : n ≠ pn := fun e => by rw [e, hp] at hn; cases hn
  have hn0 := hw.free_root hn
  apply List.ext_getElem?
  intro i
  rw [List.getElem?_set, List.length_set, tab_len, List.getElem?_set, tab_len]
  by_cases hi : i < 16
  · rw [tab_get (A ++ [mkRow n serial pn q]) hi, fnd_app]
    by_cases h1 : pn = i
    · subst h1
      rw [if_pos rfl, if_pos (by omega), hp]
      simp only [Option.some_or, Option.map_some]
      congr 2
      unfold rcOf carve kids
      rw [hpn, kidsR_app, if_pos (show (mkRow n serial pn q).parent = pn from rfl), List.map_append, List.map_append]
      congr 1
      exact (qsum_snoc _ _).symm
    · rw [if_neg h1]
      by_cases h2 : n = i
      · subst h2
        rw [if_pos rfl, if_pos hn16, hn]
        simp only [Option.none_or]
        rw [if_pos (show ((mkRow n serial pn q).num : Int) = n from rfl)]
        simp only [Option.map_some]
        congr 2
        have h3 : kidsR A (n : Int) = [] := List.map_eq_nil_iff.1 (hw.kids_none hn (by omega))
        have h4 : kidsR (A ++ [mkRow n serial pn q]) (n : Int) = [] := by
          rw [kidsR_app, h3, if_neg (by show ((pn : Nat) : Int) ≠ n; omega)]; rfl
        unfold rcOf carve kids
        rw [show ((mkRow n serial pn q).num : Int) = n from rfl, h4]; rfl
      · rw [if_neg h2, tab_get _ hi]
        rw [if_neg (by show ((n : Nat) : Int) ≠ i; omega), Option.or_none]
        cases hf : fnd A (i : Int) with
        | none => rfl
        | some r =>
          simp only [Option.map_some]
          congr 2
          have := (fnd_mem hf).2
          unfold rcOf carve kids
          rw [kidsR_app, if_neg (by show ((pn : Nat) : Int) ≠ r.num; omega), List.append_nil]
  · rw [if_neg (by omega), if_neg (by omega), List.getElem?_eq_none (by rw [tab_len]; omega), List.getElem?_eq_none (by rw [tab_len]; omega)]

end
end Go.Proofs.Ytljenppmdhldbaa.V
