/- The laws on one table: their parts. -/
import Derived.Test.YtkmknolkblcbeaaB7
import Derived.Test.YtkmknolkblcbeaaB8
import Derived.Test.YtkmknolkblcbeaaB5
import Derived.Test.YtkmknolkblcbeaaC5
namespace Go.Proofs.Ytkmknolkblcbeaa.V
set_option linter.unusedVariables false
set_option linter.unusedSimpArgs false
set_option linter.unusedSectionVars false
open Go

theorem ff_eq {l : List (Option Int)} {k k' : Nat} (h1 : ∀ j, j < k → l[j]? ≠ some none) (h2 : l[k]? = some none) (h3 : ∀ j, j < k' → l[j]? ≠ some none) (h4 : l[k']? = some none) : k = k' := by
  rcases Nat.lt_trichotomy k k' with h | h | h
  · exact absurd h2 (h3 k h)
  · exact h
  · exact absurd h4 (h1 k' h)

theorem But2.subH {h h' : Hp} {p d : Nat} (hb : But2 h h' p d) (hp : h p = none) (hd : h d = none) : SubH h h' := fun x o hx => by
  rw [hb x (fun e => by subst e; rw [hp] at hx; cases hx) (fun e => by subst e; rw [hd] at hx; cases hx)]; exact hx

theorem fixed39 {h : Hp} {Q : Value → Hp → Prop} (hq : ∀ h', SubH h h' → Q (.bool true) h') : Ok PR 39 [] h Q := by
  refine e39 rfl ?_
  conv => whnf
  refine new56 3 fun p d h1 hT hb hp hd => ?_
  rw [show (min (max (3 : Int) 0) 4096).toNat = 3 from by decide] at hT
  conv => whnf
  refine put57 hT 7 (fun k hk1 hk2 h2 hT2 hb2 => ?_) (fun hall => absurd rfl (hall 0 (by decide)))
  obtain rfl := ff_eq hk1 hk2 (k' := 0) (fun j hj => absurd hj (Nat.not_lt_zero _)) rfl
  conv => whnf
  refine put57 hT2 8 (fun k hk1 hk2 h3 hT3 hb3 => ?_) (fun hall => absurd rfl (hall 1 (by decide)))
  obtain rfl := ff_eq hk1 hk2 (k' := 1) (fun j hj => (by
    have : j = 0 := by omega
    subst this
    decide)) rfl
  conv => whnf
  refine get60 hT3 1 (fun v hv => ?_) (fun hn => by cases hn)
  obtain rfl : v = 8 := by cases hv; rfl
  conv => whnf
  refine bound63 hT3 ?_
  conv => whnf
  refine len61 hT3 ?_
  conv => whnf
  exact hq _ ((hb.trans (hb2.trans hb3)).subH hp hd)

theorem ce_self (v : Int) : (((if v.tmod 2 = 0 then even else odd) == (if v.tmod 2 = 0 then even else odd)) && ((v == v) && ((xr v == xr v) && true))) = true := by
  rw [← ce_dec]; simp

section
variable {h : Hp} {Q : Value → Hp → Prop} {p d : Nat} {l : List (Option Int)}

def op (k t i v : Int) : Value := .agg #[iv k, iv t, iv i, iv v]

theorem lowest45 (hT : TabAt rowC h p d l) (k t i v : Int) {b : Int} (hbl : b = l.length) (hq : ∀ l' h', TabAt rowC h' p d l' → l'.length = l.length → But2 h h' p d → Q (.bool true) h') : Ok PR 45 [ptr p, iv b, op k t i v] h Q := by
  subst hbl
  have hbd : l.length ≤ 4096 := by obtain ⟨low, hl⟩ := hT; exact hl.bound
  have hcl := cnt_le l
  refine e45 rfl ?_
  conv => whnf
  refine cut_intro (σ := Nat) (fun k' => [(7, .v (iv k')), (0, .v (ptr p)), (1, .v (iv l.length)), (5, .l 5 0)]) (fun _ => [(5, (op k t i v).cells.toList)]) (fun _ => h) (fun k' => k' ≤ l.length ∧ (∀ j, j < k' → l[j]? ≠ some none) ∧ (k' < l.length → l[k']? = some none)) ?_ ?_
  · conv => whnf
    refine loop_intro (σ := Nat) (fun k' => [(7, .v (iv k')), (0, .v (ptr p)), (1, .v (iv l.length)), (5, .l 5 0)]) (fun _ => [(5, (op k t i v).cells.toList)]) (fun _ => h) (fun k' => k' ≤ l.length ∧ (∀ j, j < k' → l[j]? ≠ some none)) (fun k' => l.length - k') 0 ⟨by omega, fun j hj => by omega⟩
      (subE_cons rfl (subE_cons rfl (subE_cons rfl (subE_cons rfl subE_nil)))) (subB_cons rfl subB_nil) rfl ?_
    intro k' hk'
    conv => whnf
    refine cond_dec (fun hc => ?_) (fun hc => ?_)
    · conv => whnf
      refine get89 hT k' (fun w hw => ?_) (fun hn => ?_)
      · conv => whnf
        obtain ⟨k2, he, hk2, hk3⟩ := got_some hw
        obtain rfl : k' = k2 := by omega
        refine ⟨k' + 1, ⟨by omega, fun j hj => ?_⟩, by omega, subE_cons (int_eq (wrap_nat (by omega)) rfl) (subE_cons rfl (subE_cons rfl (subE_cons rfl subE_nil))), subB_cons rfl subB_nil, rfl⟩
        rcases Nat.lt_succ_iff_lt_or_eq.1 hj with hj | rfl
        · exact hk'.2 j hj
        · rw [hk3]; simp
      · conv => whnf
        refine ⟨k', ⟨hk'.1, hk'.2, fun hlt => ?_⟩, subE_cons rfl (subE_cons rfl (subE_cons rfl (subE_cons rfl subE_nil))), subB_cons rfl subB_nil, rfl⟩
        rw [got_nat, List.getElem?_eq_getElem hlt] at hn
        rw [List.getElem?_eq_getElem hlt]
        simp only at hn
        rw [hn]
    · conv => whnf
      exact ⟨k', ⟨hk'.1, hk'.2, fun hlt => absurd (by omega) hc⟩, subE_cons rfl (subE_cons rfl (subE_cons rfl (subE_cons rfl subE_nil))), subB_cons rfl subB_nil, rfl⟩
  · rintro k' ⟨hk1, hk2, hk3⟩
    conv => whnf
    refine len41 hT ?_
    conv => whnf
    refine cell28 v ?_
    conv => whnf
    refine put40 hT v (fun k2 g1 g2 h' hT' hb' => ?_) (fun hall h' hT' hb' => ?_)
    · have hk2l : k2 < l.length := (List.getElem?_eq_some_iff.1 g2).1
      have hlt : k' < l.length := by
        rcases Nat.lt_or_ge k' l.length with h | h
        · exact h
        · exact absurd g2 (hk2 k2 (by omega))
      obtain rfl := ff_eq g1 g2 hk2 (hk3 hlt)
      conv => whnf
      rw [show ((k2 : Int) == (l.length : Int)) = false from by simp; omega]
      conv => whnf
      refine get89 hT' k2 (fun w hw => ?_) (fun hn => by rw [got_nat, List.getElem?_set_self hk2l] at hn; cases hn)
      rw [got_nat, List.getElem?_set_self hk2l] at hw
      cases hw
      conv => whnf
      refine ⟨h', _, SubH.refl _, SubB.refl _, ?_⟩
      conv => whnf
      rw [show ((k2 : Int) == (k2 : Int)) = true from by simp]
      conv => whnf
      refine cell28 v ?_
      conv => whnf
      refine ⟨⟨SubH.refl _, SubB.refl _⟩, ?_⟩
      conv => whnf
      rw [ce_self v]
      conv => whnf
      refine len41 hT' ?_
      rw [show ((cnt (l.set k2 (some v)) : Nat) : Int) = IntKind.i64.wrap ((cnt l : Int) + 1) from by rw [cnt_set_some g2, wrap_nat (by omega)]]
      conv => whnf
      rw [show (IntKind.i64.wrap ((cnt l : Int) + 1) == IntKind.i64.wrap ((cnt l : Int) + 1)) = true from by simp]
      exact hq _ h' hT' (List.length_set ..) hb'
    · have hkl : k' = l.length := by
        rcases Nat.lt_or_ge k' l.length with h | h
        · exact absurd (hk3 h) (hall k' h)
        · omega
      subst hkl
      conv => whnf
      rw [show ((l.length : Int) == (l.length : Int)) = true from by simp]
      conv => whnf
      refine len41 hT' ?_
      conv => whnf
      rw [show ((cnt l : Int) == (cnt l : Int)) = true from by simp]
      exact hq l h' hT' rfl hb'

theorem got_cases (l : List (Option Int)) (i : Int) : (i < 0 ∨ (l.length : Int) ≤ i) ∨ (∃ k w, i = (k : Nat) ∧ k < l.length ∧ l[k]? = some (some w)) ∨ (∃ k : Nat, i = k ∧ k < l.length ∧ l[k]? = some none) := by
  by_cases h1 : i < 0 ∨ (l.length : Int) ≤ i
  · exact .inl h1
  · obtain ⟨k, rfl⟩ := Int.eq_ofNat_of_zero_le (show 0 ≤ i by omega)
    have hk : k < l.length := by omega
    right
    cases hx : l[k] with
    | none => exact .inr ⟨k, rfl, hk, by rw [List.getElem?_eq_getElem hk, hx]⟩
    | some w => exact .inl ⟨k, w, rfl, hk, by rw [List.getElem?_eq_getElem hk, hx]⟩

theorem got_out {l : List (Option Int)} {i : Int} (h : i < 0 ∨ (l.length : Int) ≤ i) : got l i = none := by
  cases hg : got l i with
  | none => rfl
  | some v => obtain ⟨k, rfl, hk, _⟩ := got_some hg; omega

theorem exactly46 (hT : TabAt rowC h p d l) (k t i v : Int) {b : Int} (hbl : b = l.length) (hq : ∀ l' h', TabAt rowC h' p d l' → l'.length = l.length → But2 h h' p d → Q (.bool true) h') : Ok PR 46 [ptr p, iv b, op k t i v] h Q := by
  subst hbl
  refine e46 rfl ?_
  conv => whnf
  rcases got_cases l i with hout | ⟨k', w, rfl, hk, hkw⟩ | ⟨k', rfl, hk, hkn⟩
  · have hg := got_out hout
    refine get89 hT i (fun w hw => by rw [hg] at hw; cases hw) (fun _ => ?_)
    conv => whnf
    refine ⟨h, _, SubH.refl _, SubB.refl _, ?_⟩
    conv => whnf
    refine cell28 v ?_
    conv => whnf
    refine ⟨⟨SubH.refl _, SubB.refl _⟩, ?_⟩
    conv => whnf
    refine putat90 hT i v (fun _ => ?_) (fun w hw => by rw [hg] at hw; cases hw) (fun k2 he hk2 => ?_)
    · conv => whnf
      refine get89 hT i (fun w hw => by rw [hg] at hw; cases hw) (fun _ => ?_)
      conv => whnf
      by_cases h0 : i < 0
      · rw [show decide (i < 0) = true from decide_eq_true h0]
        conv => whnf
        exact hq l h hT rfl (But2.refl _ _ _)
      · rw [show decide (i < 0) = false from decide_eq_false h0]
        conv => whnf
        rw [show decide (i ≥ (l.length : Int)) = true from decide_eq_true (by omega)]
        conv => whnf
        exact hq l h hT rfl (But2.refl _ _ _)
    · have := (List.getElem?_eq_some_iff.1 hk2).1
      omega
  · have hg : got l (k' : Int) = some w := by rw [got_nat, hkw]
    refine get89 hT k' (fun w' hw => ?_) (fun hn => by rw [hg] at hn; cases hn)
    rw [hg] at hw; cases hw
    conv => whnf
    refine ⟨h, _, SubH.refl _, SubB.refl _, ?_⟩
    conv => whnf
    refine cell28 v ?_
    conv => whnf
    refine ⟨⟨SubH.refl _, SubB.refl _⟩, ?_⟩
    conv => whnf
    refine putat90 hT k' v (fun ho => by omega) (fun w' hw => ?_) (fun k2 he hk2 => ?_)
    · conv => whnf
      refine get89 hT k' (fun w' hw => ?_) (fun hn => by rw [hg] at hn; cases hn)
      rw [hg] at hw; cases hw
      conv => whnf
      rw [show decide ((k' : Int) < 0) = false from decide_eq_false (by omega)]
      conv => whnf
      rw [show decide ((k' : Int) ≥ (l.length : Int)) = false from decide_eq_false (by omega)]
      conv => whnf
      rw [ce_self w]
      exact hq l h hT rfl (But2.refl _ _ _)
    · obtain rfl : k' = k2 := by omega
      rw [hkw] at hk2; cases hk2
  · have hg : got l (k' : Int) = none := by rw [got_nat, hkn]
    refine get89 hT k' (fun w' hw => by rw [hg] at hw; cases hw) (fun _ => ?_)
    conv => whnf
    refine ⟨h, _, SubH.refl _, SubB.refl _, ?_⟩
    conv => whnf
    refine cell28 v ?_
    conv => whnf
    refine ⟨⟨SubH.refl _, SubB.refl _⟩, ?_⟩
    conv => whnf
    refine putat90 hT k' v (fun ho => by omega) (fun w' hw => by rw [hg] at hw; cases hw) (fun k2 he hk2 h' hT' hb' => ?_)
    obtain rfl : k' = k2 := by omega
    have hg' : got (l.set k' (some v)) (k' : Int) = some v := by rw [got_nat, List.getElem?_set_self hk]
    conv => whnf
    refine get89 hT' k' (fun w' hw => ?_) (fun hn => by rw [hg'] at hn; cases hn)
    rw [hg'] at hw; cases hw
    conv => whnf
    rw [show decide ((k' : Int) < 0) = false from decide_eq_false (by omega)]
    conv => whnf
    rw [show decide ((k' : Int) ≥ (l.length : Int)) = false from decide_eq_false (by omega)]
    conv => whnf
    refine ⟨h', _, SubH.refl _, SubB.refl _, ?_⟩
    conv => whnf
    refine cell28 v ?_
    conv => whnf
    refine ⟨⟨SubH.refl _, SubB.refl _⟩, ?_⟩
    conv => whnf
    rw [ce_self v]
    exact hq _ h' hT' (List.length_set ..) hb'

theorem out47 (hT : TabAt rowC h p d l) (k t i v : Int) (hq : ∀ l' h', TabAt rowC h' p d l' → l'.length = l.length → But2 h h' p d → Q (.bool true) h') : Ok PR 47 [ptr p, op k t i v] h Q := by
  have hbd : l.length ≤ 4096 := by obtain ⟨low, hl⟩ := hT; exact hl.bound
  have hcl := cnt_le l
  refine e47 rfl ?_
  conv => whnf
  cases hg : got l i with
  | none =>
    refine get89 hT i (fun w' hw => by rw [hg] at hw; cases hw) (fun _ => ?_)
    conv => whnf
    refine len41 hT ?_
    conv => whnf
    refine drop42 hT i (fun k' w he hk => ?_) (fun _ => ?_)
    · subst he; rw [got_nat, hk] at hg; cases hg
    conv => whnf
    refine get89 hT i (fun w' hw => by rw [hg] at hw; cases hw) (fun _ => ?_)
    conv => whnf
    refine len41 hT ?_
    conv => whnf
    rw [show ((cnt l : Int) == (cnt l : Int)) = true from by simp]
    exact hq l h hT rfl (But2.refl _ _ _)
  | some w =>
    obtain ⟨k', rfl, hk, hkw⟩ := got_some hg
    have hcs := cnt_set_none hkw
    refine get89 hT k' (fun w' hw => ?_) (fun hn => by rw [hg] at hn; cases hn)
    rw [hg] at hw; cases hw
    conv => whnf
    refine len41 hT ?_
    conv => whnf
    refine drop42 hT k' (fun k2 w2 he hk2 h' hT' hb' => ?_) (fun hn => by rw [hg] at hn; cases hn)
    obtain rfl : k' = k2 := by omega
    rw [hkw] at hk2; cases hk2
    have hg' : got (l.set k' none) (k' : Int) = none := by rw [got_nat, List.getElem?_set_self hk]
    conv => whnf
    refine get89 hT' k' (fun w' hw => by rw [hg'] at hw; cases hw) (fun _ => ?_)
    conv => whnf
    rw [ce_self w]
    conv => whnf
    refine len41 hT' ?_
    rw [show ((cnt (l.set k' none) : Nat) : Int) = IntKind.i64.wrap ((cnt l : Int) - 1) from by rw [wrap_i64 (by omega) (by omega)]; omega]
    conv => whnf
    rw [show (IntKind.i64.wrap ((cnt l : Int) - 1) == IntKind.i64.wrap ((cnt l : Int) - 1)) = true from by simp]
    exact hq _ h' hT' (List.length_set ..) hb'

end
end Go.Proofs.Ytkmknolkblcbeaa.V
