/- Rows of numbers that came in; the laws' small loops. -/
import Derived.Test.YtkmknolkblcbeaaB1
namespace Go.Proofs.Ytkmknolkblcbeaa.V
set_option linter.unusedSectionVars false
set_option linter.unusedVariables false
set_option linter.unusedSimpArgs false
open Go

section
variable {h : Hp} {Q : Value → Hp → Prop} {a : Option Addr} {len cap : Nat} {f : Nat → Nat → Int}

theorem firstA75 (hR : RowsN 4 h a len f) (i : Nat) (hi : i < len) (hlen : len < 2 ^ 63) (h1 : (∀ j, j < i → f j 2 ≠ f i 2) → Q (.bool true) h) (h2 : ∀ j, j < i → f j 2 = f i 2 → Q (.bool false) h) :
    Ok PR 75 [.slice a len cap, iv i] h Q := by
  refine e75 rfl ?_
  conv => whnf
  refine loop_intro (σ := Nat) (fun k => [(5, .v (iv k)), (0, .v (.slice a len cap)), (1, .v (iv i))]) (fun _ => []) (fun _ => h) (fun k => k ≤ i ∧ ∀ j, j < k → f j 2 ≠ f i 2) (fun k => i - k) 0 ⟨by omega, fun j hj => by omega⟩ (subE_cons rfl (subE_cons rfl (subE_cons rfl subE_nil))) subB_nil rfl ?_
  intro k hk
  conv => whnf
  refine cond_dec (fun hc => ?_) (fun hc => ?_)
  · have hki : k < i := by omega
    obtain ⟨b, off, c, ty, z, rfl, hb, hcc⟩ := hR k (by omega)
    obtain ⟨b', off', c', ty', z', he, hb', hcc'⟩ := hR i hi
    cases he
    rw [hb] at hb'; cases hb'
    conv => whnf
    refine opt_if ⟨by omega, by omega⟩ ?_
    conv => whnf
    refine opt_ld hb (v := iv (f k 2)) (hcc 2 (by omega)) ?_
    conv => whnf
    refine opt_if ⟨by omega, by omega⟩ ?_
    conv => whnf
    refine opt_ld hb (v := iv (f i 2)) (hcc' 2 (by omega)) ?_
    conv => whnf
    refine cond_beq (fun he => ?_) (fun he => ?_)
    · conv => whnf
      exact h2 k hki he
    · conv => whnf
      refine ⟨k + 1, ⟨by omega, fun j hj => ?_⟩, by omega, subE_cons (int_eq (wrap_nat (by omega)) rfl) (subE_cons rfl (subE_cons rfl subE_nil)), subB_nil, rfl⟩
      rcases Nat.lt_succ_iff_lt_or_eq.1 hj with hj | rfl
      · exact hk.2 j hj
      · exact he
  · have hki : k = i := by omega
    subst hki
    conv => whnf
    exact h1 hk.2

theorem firstB76 (hR : RowsN 4 h a len f) (i : Nat) (hi : i < len) (hlen : len < 2 ^ 63) (h1 : (∀ j, j < i → f j 3 ≠ f i 3) → Q (.bool true) h) (h2 : ∀ j, j < i → f j 3 = f i 3 → Q (.bool false) h) :
    Ok PR 76 [.slice a len cap, iv i] h Q := by
  refine e76 rfl ?_
  conv => whnf
  refine loop_intro (σ := Nat) (fun k => [(5, .v (iv k)), (0, .v (.slice a len cap)), (1, .v (iv i))]) (fun _ => []) (fun _ => h) (fun k => k ≤ i ∧ ∀ j, j < k → f j 3 ≠ f i 3) (fun k => i - k) 0 ⟨by omega, fun j hj => by omega⟩ (subE_cons rfl (subE_cons rfl (subE_cons rfl subE_nil))) subB_nil rfl ?_
  intro k hk
  conv => whnf
  refine cond_dec (fun hc => ?_) (fun hc => ?_)
  · have hki : k < i := by omega
    obtain ⟨b, off, c, ty, z, rfl, hb, hcc⟩ := hR k (by omega)
    obtain ⟨b', off', c', ty', z', he, hb', hcc'⟩ := hR i hi
    cases he
    rw [hb] at hb'; cases hb'
    conv => whnf
    refine opt_if ⟨by omega, by omega⟩ ?_
    conv => whnf
    refine opt_ld hb (v := iv (f k 3)) (hcc 3 (by omega)) ?_
    conv => whnf
    refine opt_if ⟨by omega, by omega⟩ ?_
    conv => whnf
    refine opt_ld hb (v := iv (f i 3)) (hcc' 3 (by omega)) ?_
    conv => whnf
    refine cond_beq (fun he => ?_) (fun he => ?_)
    · conv => whnf
      exact h2 k hki he
    · conv => whnf
      refine ⟨k + 1, ⟨by omega, fun j hj => ?_⟩, by omega, subE_cons (int_eq (wrap_nat (by omega)) rfl) (subE_cons rfl (subE_cons rfl subE_nil)), subB_nil, rfl⟩
      rcases Nat.lt_succ_iff_lt_or_eq.1 hj with hj | rfl
      · exact hk.2 j hj
      · exact he
  · have hki : k = i := by omega
    subst hki
    conv => whnf
    exact h1 hk.2

end
end Go.Proofs.Ytkmknolkblcbeaa.V
