/- Seat 09: made and ended, in plain words. -/
import Derived.Test.YtljenppmdhldbaaH29
namespace Go.Proofs.Ytljenppmdhldbaa.V
set_option linter.unusedVariables false
set_option linter.unusedSimpArgs false
set_option linter.unusedSectionVars false
set_option linter.unusedSectionVars false
open Go

section
variable {A : Rs} {last : Int}

theorem WF.later (hw : WF A last) {l : Int} (h : last ≤ l) : WF A l :=
  ⟨hw.nd, hw.lt, hw.sr, fun r hr => by have := hw.sl r hr; omega, hw.root, hw.par, hw.qw, hw.qp, hw.ql, hw.bt, hw.rg⟩

theorem new_kids (hw : WF A last) {n : Nat} (hn : fnd A (n : Int) = none) (s p : Int) (q : Q3) (hp : p ≠ n) : kidsR (A ++ [mkRow n s p q]) (n : Int) = [] := by
  rw [kidsR_app, if_neg (show ¬ (mkRow n s p q).parent = n from hp), List.append_nil]
  exact List.map_eq_nil_iff.1 (hw.kids_none hn (by omega))

theorem new_info (hw : WF A last) {n : Nat} (hn : fnd A (n : Int) = none) (s p : Int) (q : Q3) (hp : p ≠ n) :
    mInfo (A ++ [mkRow n s p q]) (n : Int) = (⟨s, p, 0, 0, 0, false, [0, 0, 0, 0, 0, 0, 0, 0], 0, q, q⟩, 0) := by
  unfold mInfo
  rw [fnd_app, hn, if_pos (show (((mkRow n s p q).num : Nat) : Int) = n from rfl)]
  simp only [Option.none_or]
  have : left (A ++ [mkRow n s p q]) (mkRow n s p q) = q := by
    unfold left carve
    rw [show (((mkRow n s p q).num : Nat) : Int) = n from rfl, new_kids hw hn s p q hp]
    exact Prod.ext (show q.1 - 0 - 0 = q.1 by omega) (Prod.ext (show q.2.1 - 0 - 0 = q.2.1 by omega) (show q.2.2 - 0 - 0 = q.2.2 by omega))
  unfold infOf
  rw [this]; rfl

/-- Made and ended: all is as it was. -/
theorem cut_one (hw : WF A last) {n : Nat} (hn : fnd A (n : Int) = none) {s p : Int} {q : Q3} (hp : p ≠ n) (hw1 : WF (A ++ [mkRow n s p q]) s) :
    walk (A ++ [mkRow n s p q]) (n : Int) = [(n : Int)] ∧ cut (A ++ [mkRow n s p q]) (n : Int) = A := by
  have hf : fnd (A ++ [mkRow n s p q]) (n : Int) = some (mkRow n s p q) := by rw [fnd_app, hn, if_pos (show (((mkRow n s p q).num : Nat) : Int) = n from rfl)]; rfl
  have hwk : walk (A ++ [mkRow n s p q]) (n : Int) = [(n : Int)] := by
    rw [walk_eq hw1 hf]; unfold kids; rw [new_kids hw hn s p q hp]; rfl
  refine ⟨hwk, ?_⟩
  unfold cut
  rw [hwk, List.filter_append, List.filter_eq_self.2 fun x hx => ?_, List.filter_cons_of_neg]
  · simp
  · show ¬ (!([(n : Int)].contains (n : Int))) = true
    simp
  · have := fnd_none.1 hn x hx
    simp [this]

theorem cut_two (hw : WF A last) {n m : Nat} (hn : fnd A (n : Int) = none) {s s2 p : Int} {q r : Q3} (hp : p ≠ n) (hw1 : WF (A ++ [mkRow n s p q]) s) (hm : fnd (A ++ [mkRow n s p q]) (m : Int) = none)
    (hw2 : WF (A ++ [mkRow n s p q] ++ [mkRow m s2 n r]) s2) :
    walk (A ++ [mkRow n s p q] ++ [mkRow m s2 n r]) (n : Int) = [(n : Int), (m : Int)] ∧ cut (A ++ [mkRow n s p q] ++ [mkRow m s2 n r]) (n : Int) = A := by
  have hf1 : fnd (A ++ [mkRow n s p q]) (n : Int) = some (mkRow n s p q) := by rw [fnd_app, hn, if_pos (show (((mkRow n s p q).num : Nat) : Int) = n from rfl)]; rfl
  have hf : fnd (A ++ [mkRow n s p q] ++ [mkRow m s2 n r]) (n : Int) = some (mkRow n s p q) := by rw [fnd_app, hf1]; rfl
  have hnm : n ≠ m := fun e => by rw [← e, hf1] at hm; cases hm
  have hfm : fnd (A ++ [mkRow n s p q] ++ [mkRow m s2 n r]) (m : Int) = some (mkRow m s2 n r) := by rw [fnd_app, hm, if_pos (show (((mkRow m s2 n r).num : Nat) : Int) = m from rfl)]; rfl
  have hk1 : kids (A ++ [mkRow n s p q] ++ [mkRow m s2 n r]) (n : Int) = [(m : Int)] := by
    unfold kids
    rw [kidsR_app, new_kids hw hn s p q hp, if_pos (show (mkRow m s2 n r).parent = n from rfl)]; rfl
  have hk2 : kids (A ++ [mkRow n s p q] ++ [mkRow m s2 n r]) (m : Int) = [] := by
    unfold kids
    rw [new_kids hw1 hm s2 n r (by omega)]; rfl
  have hwm : walk (A ++ [mkRow n s p q] ++ [mkRow m s2 n r]) (m : Int) = [(m : Int)] := by rw [walk_eq hw2 hfm, hk2]; rfl
  have hwk : walk (A ++ [mkRow n s p q] ++ [mkRow m s2 n r]) (n : Int) = [(n : Int), (m : Int)] := by
    rw [walk_eq hw2 hf, hk1, List.flatMap_cons, hwm]; rfl
  refine ⟨hwk, ?_⟩
  unfold cut
  rw [hwk, List.filter_append, List.filter_append, List.filter_eq_self.2 fun x hx => ?_, List.filter_cons_of_neg, List.filter_cons_of_neg]
  · simp
  · show ¬ (!([(n : Int), (m : Int)].contains (m : Int))) = true
    simp
  · show ¬ (!([(n : Int), (m : Int)].contains (n : Int))) = true
    simp
  · have h1 := fnd_none.1 hn x hx
    have h2 := fnd_none.1 hm x (List.mem_append_left _ hx)
    simp [h1, h2]

theorem step_last (A : Rs) (last : Int) (o : OpE) : (step A last o).2 = last ∨ ((step A last o).2 = o.n ∧ o.kind = 2 ∧ last < o.n ∧ o.n ≤ 4611686018427387903) := by
  unfold step
  split
  · rename_i hk
    unfold mCreate
    cases hp : fnd A o.e with
    | none => exact .inl rfl
    | some p =>
      simp only
      split
      · rename_i h1
        split
        · cases hf : free A with
          | none => exact .inl rfl
          | some n => exact .inr ⟨rfl, hk, h1.2.1, h1.2.2⟩
        · exact .inl rfl
      · exact .inl rfl
  · left
    split
    · rfl
    split
    · rfl
    split
    · rfl
    split
    · rfl
    split
    · rfl
    split
    · rfl
    split
    · rfl
    split
    · rfl
    split
    · rfl
    · rfl

/-- The same place, once more. -/
theorem create_again {p : Row} {e s' l : Int} {q : Q3} {k : Nat} (hp : fnd A e = some p) (hk : k < 16) (hk1 : fnd A (k : Int) = none) (hk2 : ∀ j : Nat, j < k → fnd A (j : Int) ≠ none) (hq : qgood q) (hl : l < s') (hs : s' ≤ 4611686018427387903) (hle : qle (qchild q) (left A p)) :
    mCreate A l e s' q = (((k : Int), 0), A ++ [mkRow k s' e q], s') := by
  have hf : free A = some k := by
    unfold free
    rw [List.find?_range_eq_some]
    refine ⟨by rw [hk1]; rfl, by simpa using hk, fun j hj => ?_⟩
    have := hk2 j hj
    cases h : fnd A (j : Int) with
    | none => exact absurd h this
    | some x => rfl
  unfold mCreate
  rw [hp]
  simp only
  rw [if_pos ⟨hq, hl, hs⟩, if_pos hle, hf]

end

section
variable {h : Hp} {a : Option Addr} {len : Nat} {l : List OpE}

theorem Scr.at {i : Nat} (hs : Scr h a len l) (hi : i < len) : ∃ o b off c ty z, l[i]? = some o ∧ o.regs.length = 8 ∧ a = some ⟨b, off, none⟩ ∧ h b = some (.cells c ty z) ∧ rd c (off + i * 18) 18 true = some (.agg (opC o).toArray) ∧ c[off + i * 18]? = some (iv o.kind) ∧ c[off + i * 18 + 3]? = some (iv o.n) := by
  obtain ⟨h1, h2⟩ := hs
  obtain ⟨ho, b, off, c, ty, z, g1, g2, g3, g4⟩ := h2 i l[i] (List.getElem?_eq_getElem (by omega))
  refine ⟨l[i], b, off, c, ty, z, List.getElem?_eq_getElem (by omega), ho, g1, g2, agg_rd (opC_len ho) ?_ g4, ?_, g4 3 _ rfl⟩
  · have : i * 18 + 18 ≤ len * 18 := by rw [← Nat.succ_mul]; exact Nat.mul_le_mul_right _ hi
    omega
  · have := g4 0 _ rfl
    rwa [Nat.add_zero] at this

theorem Scr.sub {h' : Hp} (hs : Scr h a len l) (hh : SubH h h') : Scr h' a len l := ⟨hs.1, fun i o ho => by
  obtain ⟨h1, b, off, c, ty, z, g1, g2, g3⟩ := hs.2 i o ho
  exact ⟨h1, b, off, c, ty, z, g1, hh _ _ g2, g3⟩⟩
end

abbrev ki : EqS × Option IntKind := (.i, some .i64)
abbrev ku : EqS × Option IntKind := (.i, some .u32)
def K21 : List (EqS × Option IntKind) := [ki, ki, ki, ki, ki, (.b, none), ku, ku, ku, ku, ku, ku, ku, ku, ku, ki, ki, ki, ki, ki, ki]
def KTold : List (EqS × Option IntKind) := (List.replicate 16 K21).flatten ++ List.replicate 16 ki

theorem infC_kd {x : Inf} (h : InfOk x) : (infC x).map kd = K21 := by
  obtain ⟨a1, a2, a3, a4, a5, a6, ar, a8, ⟨qa, qb, qc⟩, ⟨l1, l2, l3⟩⟩ := x
  obtain ⟨g0, g1, g2, g3, g4, g5, g6, g7, hg⟩ := eight h
  dsimp only at hg
  subst hg
  rfl

theorem told_kd {A : Rs} {last : Int} (hw : WF A last) : (told A).map kd = KTold := by
  have e1 : ((tellX A).flatMap infC).map kd = (tellX A).flatMap fun _ => K21 := by
    rw [List.map_flatMap]
    exact flatMap_eq fun x hx => by obtain ⟨n, _, rfl⟩ := List.mem_map.1 hx; exact infC_kd (info_ok hw n)
  have e2 : ((tellE A).map iv).map kd = (tellE A).map fun _ => ki := by rw [List.map_map]; rfl
  unfold told toldC
  rw [List.map_append, e1, e2]
  rfl

end Go.Proofs.Ytljenppmdhldbaa.V
