/- The law on the lowest free place. -/
import Derived.Test.YtkmknolkblcbeaaB9
import Derived.Test.YtkmknolkblcbeaaB6
namespace Go.Proofs.Ytkmknolkblcbeaa.V
set_option linter.unusedVariables false
set_option linter.unusedSimpArgs false
set_option linter.unusedSectionVars false
open Go

section
variable {h : Hp} {Q : Value → Hp → Prop}

theorem clamp38 (n : Int) (hq : Q (iv (min (max n 0) 4096)) h) : Ok PR 38 [iv n] h Q := by
  refine e38 rfl ?_
  conv => whnf
  rw [show min (max n 0) 4096 = (if (0 : Int) < (if (4096 : Int) < n then 4096 else n) then (if (4096 : Int) < n then 4096 else n) else 0) from by omega] at hq
  exact hq

variable {a : Option Addr} {len cap : Nat} {f : Nat → Nat → Int}

theorem lowest7 (n : Int) (hR : RowsN 4 h a len f) (hlen : len < 2 ^ 63) (hq : ∀ h', SubH h h' → Q (.bool true) h') : Ok PR 7 [iv n, .slice a len cap] h Q := by
  obtain ⟨B, hB⟩ : ∃ B : Nat, (B : Int) = min (max n 0) 4096 := ⟨(min (max n 0) 4096).toNat, by omega⟩
  refine e7 rfl ?_
  conv => whnf
  refine new37 n fun p d h1 hT hb hp hd => ?_
  rw [← hB, Int.toNat_natCast] at hT
  conv => whnf
  refine clamp38 n ?_
  rw [← hB]
  conv => whnf
  refine bound44 hT ?_
  rw [List.length_replicate]
  conv => whnf
  rw [show ((B : Int) != (B : Int)) = false from by simp]
  conv => whnf
  refine len41 hT ?_
  rw [cnt_repl]
  conv => whnf
  refine lowest45 hT 0 0 0 1 (by rw [List.length_replicate]) fun l2 h2 hT2 hl2 hb2 => ?_
  rw [List.length_replicate] at hl2
  have hs2 : SubH h h2 := (hb.trans hb2).subH hp hd
  conv => whnf
  refine fixed39 fun h3 hs3 => ?_
  have hT3 : TabAt rowC h3 p d l2 := hT2.sub hs3
  conv => whnf
  refine loop_intro (σ := Nat × List (Option Int) × Hp) (fun s => [(8, .v (iv s.1)), (5, .v (ptr p)), (6, .v (iv B)), (1, .v (.slice a len cap))]) (fun _ => []) (fun s => s.2.2)
    (fun s => s.1 ≤ len ∧ TabAt rowC s.2.2 p d s.2.1 ∧ s.2.1.length = B ∧ SubH h s.2.2) (fun s => len - s.1) (0, l2, h3) ⟨Nat.zero_le _, hT3, hl2, hs2.trans hs3⟩
    (subE_cons rfl (subE_cons rfl (subE_cons rfl (subE_cons rfl subE_nil)))) subB_nil rfl ?_
  rintro ⟨i, l, g⟩ ⟨hi, hT, hl, hs⟩
  dsimp only at hi hT hl hs ⊢
  conv => whnf
  refine cond_dec (fun hc => ?_) (fun hc => ?_)
  · have hki : i < len := by omega
    obtain ⟨b, off, c, ty, z, rfl, hb', hcc⟩ := (hR.sub hs) i hki
    conv => whnf
    refine opt_if ⟨by omega, by omega⟩ ?_
    conv => whnf
    refine opt_ld hb' (v := op (f i 0) (f i 1) (f i 2) (f i 3)) (rd_list [iv (f i 0), iv (f i 1), iv (f i 2), iv (f i 3)] rfl (by simp) fun j v hj => ?_) ?_
    · rcases j with _ | _ | _ | _ | j <;> cases hj <;> exact hcc _ (by omega)
    have fin : ∀ {ρ : Env} {β : Bx} (l' : List (Option Int)) (g' : Hp), TabAt rowC g' p d l' → l'.length = l.length → But2 g g' p d → look ρ 8 = some (.v (.int .i64 (IntKind.i64.wrap ((i : Int) + 1)))) → look ρ 5 = some (.v (ptr p)) → look ρ 6 = some (.v (iv B)) → look ρ 1 = some (.v (.slice (some ⟨b, off, none⟩) len cap)) →
        ∃ s : Nat × List (Option Int) × Hp, (s.1 ≤ len ∧ TabAt rowC s.2.2 p d s.2.1 ∧ s.2.1.length = B ∧ SubH h s.2.2) ∧ len - s.1 < len - i ∧ subE [(8, .v (iv s.1)), (5, .v (ptr p)), (6, .v (iv B)), (1, .v (.slice (some ⟨b, off, none⟩) len cap))] ρ ∧ subB [] β ∧ g' = s.2.2 :=
      fun {ρ β} l' g' hT' hl' hb' e1 e2 e3 e4 => ⟨(i + 1, l', g'), ⟨by omega, hT', hl'.trans hl, fun x o hx => by
        show g' x = some o
        rw [hb' x (fun e => by subst e; rw [hp] at hx; cases hx) (fun e => by subst e; rw [hd] at hx; cases hx)]; exact hs x o hx⟩, by simp only; omega, subE_cons (int_eq (wrap_nat (by omega)) e1) (subE_cons e2 (subE_cons e3 (subE_cons e4 subE_nil))), subB_nil, rfl⟩
    conv => whnf
    refine cond_beq (fun hk => ?_) (fun hk => ?_)
    · conv => whnf
      refine lowest45 hT (f i 0) (f i 1) (f i 2) (f i 3) (by rw [hl]) fun l' g' hT' hl' hb' => ?_
      conv => whnf
      exact fin l' g' hT' hl' hb' rfl rfl rfl rfl
    · conv => whnf
      refine cond_beq (fun hk => ?_) (fun hk => ?_)
      · conv => whnf
        refine exactly46 hT (f i 0) (f i 1) (f i 2) (f i 3) (by rw [hl]) fun l' g' hT' hl' hb' => ?_
        conv => whnf
        exact fin l' g' hT' hl' hb' rfl rfl rfl rfl
      · conv => whnf
        refine cond_beq (fun hk => ?_) (fun hk => ?_)
        · conv => whnf
          refine out47 hT (f i 0) (f i 1) (f i 2) (f i 3) fun l' g' hT' hl' hb' => ?_
          conv => whnf
          exact fin l' g' hT' hl' hb' rfl rfl rfl rfl
        · conv => whnf
          refine cond_beq (fun hk => ?_) (fun hk => ?_)
          · conv => whnf
            refine clear48 hT fun g' hT' hb' => ?_
            conv => whnf
            refine len41 hT' ?_
            rw [cnt_repl]
            conv => whnf
            refine bound44 hT' ?_
            rw [List.length_replicate, hl]
            conv => whnf
            rw [show ((B : Int) == (B : Int)) = true from by simp]
            conv => whnf
            refine next43 hT' 0 (fun k v _ _ hk => ?_) (fun _ => ?_)
            · rw [List.getElem?_replicate] at hk
              split at hk <;> cases hk
            conv => whnf
            exact fin _ g' hT' (List.length_replicate ..) hb' rfl rfl rfl rfl
          · conv => whnf
            exact fin l g hT rfl (But2.refl _ _ _) rfl rfl rfl rfl
  · conv => whnf
    exact hq _ hs

end
end Go.Proofs.Ytkmknolkblcbeaa.V
