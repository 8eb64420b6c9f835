/- One to one, as the law counts it; the law on a map both ways. -/
import Derived.Test.YtkmknolkblcbeaaB2
import Derived.Test.YtkmknolkblcbeaaL1
namespace Go.Proofs.Ytkmknolkblcbeaa.V
set_option linter.unusedSectionVars false
set_option linter.unusedVariables false
set_option linter.unusedSimpArgs false
open Go

section
variable {h : Hp} {Q : Value → Hp → Prop} {a : Option Addr} {len cap : Nat} {f : Nat → Nat → Int} {p m1 m2 : Nat} {L R : List (Int × Int)}

theorem firsts_succ_yes {g : Nat → Int} {L : List (Int × Int)} {k : Nat} (h1 : aget L (g k) ≠ none) (h2 : ∀ j, j < k → g j ≠ g k) : (firsts L g (k + 1)).length = (firsts L g k).length + 1 := by
  simp only [firsts]; rw [if_pos ⟨h1, h2⟩]; simp

theorem firsts_succ_no {g : Nat → Int} {L : List (Int × Int)} {k : Nat} (h : aget L (g k) = none ∨ ∃ j, j < k ∧ g j = g k) : (firsts L g (k + 1)).length = (firsts L g k).length := by
  simp only [firsts]
  rw [if_neg]
  rintro ⟨h1, h2⟩
  rcases h with h | ⟨j, hj, he⟩
  · exact h1 h
  · exact h2 j hj he

theorem one19 (hB : BiAt iv iv h p m1 m2 L R) (hb : Bi L R) (hR : RowsN 4 h a len f) (hlen : len < 2 ^ 63) (hkL : ∀ x ∈ keys L, ∃ j, j < len ∧ f j 2 = x) (hkR : ∀ x ∈ keys R, ∃ j, j < len ∧ f j 3 = x)
    (hq : Q (.bool true) h) : Ok PR 19 [ptr p, .slice a len cap] h Q := by
  refine e19 rfl ?_
  conv => whnf
  refine loop_intro (σ := Nat) (fun k => [(7, .v (iv k)), (5, .v (iv (firsts L (f · 2) k).length)), (6, .v (iv (firsts R (f · 3) k).length)), (0, .v (ptr p)), (1, .v (.slice a len cap))]) (fun _ => []) (fun _ => h)
    (fun k => k ≤ len) (fun k => len - k) 0 (by omega) (subE_cons rfl (subE_cons rfl (subE_cons rfl (subE_cons rfl (subE_cons rfl subE_nil))))) subB_nil rfl ?_
  intro k hk
  conv => whnf
  refine cond_dec (fun hc => ?_) (fun hc => ?_)
  · have hki : k < len := by omega
    obtain ⟨b, off, c, ty, z, rfl, hb', hcc⟩ := hR k (by omega)
    have hf2 := firsts_le (L := L) (g := (f · 2)) k
    have hf3 := firsts_le (L := R) (g := (f · 3)) k
    conv => whnf
    refine opt_if ⟨by omega, by omega⟩ ?_
    conv => whnf
    refine opt_ld hb' (v := iv (f k 2)) (hcc 2 (by omega)) ?_
    conv => whnf
    refine to15 hB (f k 2) ?_
    conv => whnf
    refine cut_intro (σ := Unit) (fun _ => [(7, .v (iv k)), (5, .v (iv (firsts L (f · 2) (k + 1)).length)), (6, .v (iv (firsts R (f · 3) k).length)), (0, .v (ptr p)), (1, .v (.slice (some ⟨b, off, none⟩) len cap))]) (fun _ => []) (fun _ => h) (fun _ => True) ?_ ?_
    · cases hL : aget L (f k 2) with
      | none =>
        conv => whnf
        exact ⟨(), trivial, subE_cons rfl (subE_cons (int_eq (by rw [firsts_succ_no (g := (f · 2)) (.inl hL)]) rfl) (subE_cons rfl (subE_cons rfl (subE_cons rfl subE_nil)))), subB_nil, rfl⟩
      | some x =>
        have hR' := (hb.inv _ _).1 hL
        conv => whnf
        refine back16 hB x ?_
        rw [hR']
        conv => whnf
        refine opt_if ⟨by omega, by omega⟩ ?_
        conv => whnf
        refine opt_ld hb' (v := iv (f k 2)) (hcc 2 (by omega)) ?_
        conv => whnf
        refine cond_bne (fun he => absurd rfl he) (fun _ => ?_)
        conv => whnf
        refine firstA75 hR k hki hlen (fun hf => ?_) (fun j hj he => ?_)
        · conv => whnf
          exact ⟨(), trivial, subE_cons rfl (subE_cons (int_eq (by rw [firsts_succ_yes (by rw [hL]; simp) hf]; exact wrap_nat (by omega)) rfl) (subE_cons rfl (subE_cons rfl (subE_cons rfl subE_nil)))), subB_nil, rfl⟩
        · conv => whnf
          exact ⟨(), trivial, subE_cons rfl (subE_cons (int_eq (by rw [firsts_succ_no (.inr ⟨j, hj, he⟩)]) rfl) (subE_cons rfl (subE_cons rfl (subE_cons rfl subE_nil)))), subB_nil, rfl⟩
    · rintro _ -
      conv => whnf
      refine opt_if ⟨by omega, by omega⟩ ?_
      conv => whnf
      refine opt_ld hb' (v := iv (f k 3)) (hcc 3 (by omega)) ?_
      conv => whnf
      refine back16 hB (f k 3) ?_
      cases hL : aget R (f k 3) with
      | none =>
        conv => whnf
        exact ⟨k + 1, by omega, by omega, subE_cons (int_eq (wrap_nat (by omega)) rfl) (subE_cons rfl (subE_cons (int_eq (by rw [firsts_succ_no (g := (f · 3)) (.inl hL)]) rfl) (subE_cons rfl (subE_cons rfl subE_nil)))), subB_nil, rfl⟩
      | some x =>
        have hR' := (hb.inv _ _).2 hL
        conv => whnf
        refine to15 hB x ?_
        rw [hR']
        conv => whnf
        refine opt_if ⟨by omega, by omega⟩ ?_
        conv => whnf
        refine opt_ld hb' (v := iv (f k 3)) (hcc 3 (by omega)) ?_
        conv => whnf
        refine cond_bne (fun he => absurd rfl he) (fun _ => ?_)
        conv => whnf
        refine firstB76 hR k hki hlen (fun hf => ?_) (fun j hj he => ?_)
        · conv => whnf
          exact ⟨k + 1, by omega, by omega, subE_cons (int_eq (wrap_nat (by omega)) rfl) (subE_cons rfl (subE_cons (int_eq (by rw [firsts_succ_yes (by rw [hL]; simp) hf]; exact wrap_nat (by omega)) rfl) (subE_cons rfl (subE_cons rfl subE_nil)))), subB_nil, rfl⟩
        · conv => whnf
          exact ⟨k + 1, by omega, by omega, subE_cons (int_eq (wrap_nat (by omega)) rfl) (subE_cons rfl (subE_cons (int_eq (by rw [firsts_succ_no (.inr ⟨j, hj, he⟩)]) rfl) (subE_cons rfl (subE_cons rfl subE_nil)))), subB_nil, rfl⟩
  · have hki : k = len := by omega
    subst hki
    conv => whnf
    refine len14 hB ?_
    rw [firsts_length (g := (f · 2)) hb.nl hkL, firsts_length (g := (f · 3)) hb.nr hkR, ← hb.len]
    conv => whnf
    have he : ((L.length : Int) == (L.length : Int)) = true := by simp
    rw [he]
    conv => whnf
    rw [he]
    exact hq

end
end Go.Proofs.Ytkmknolkblcbeaa.V
