/- The law on a map both ways. -/
import Derived.Test.YtkmknolkblcbeaaB3
import Derived.Test.YtkmknolkblcbeaaB5
namespace Go.Proofs.Ytkmknolkblcbeaa.V
set_option linter.unusedSectionVars false
set_option linter.unusedVariables false
set_option linter.unusedSimpArgs false
open Go

theorem rd_list {c : Array Value} {o n : Nat} (l : List Value) (hn : l.length = n) (hz : l ≠ []) (h : ∀ j v, l[j]? = some v → c[o + j]? = some v) : rd c o n true = some (.agg l.toArray) := by
  subst hn
  have hz : l.length ≠ 0 := fun e => hz (List.eq_nil_of_length_eq_zero e)
  have h1 : o + l.length ≤ c.size := by
    have := h (l.length - 1) (l[l.length - 1]) (List.getElem?_eq_getElem (by omega))
    have := (Array.getElem?_eq_some_iff.1 this).1
    omega
  unfold rd
  rw [if_pos rfl, if_pos h1]
  congr 2
  unfold sub
  congr 1
  apply List.ext_getElem?
  intro j
  rw [List.getElem?_take, List.getElem?_drop]
  split
  · rename_i hj
    have := h j l[j] (List.getElem?_eq_getElem hj)
    rw [List.getElem?_eq_getElem hj, ← this]
    simp
  · rename_i hj
    rw [List.getElem?_eq_none (by omega)]

section
variable {h : Hp} {Q : Value → Hp → Prop} {a : Option Addr} {len cap : Nat} {f : Nat → Nat → Int}

theorem RowsN.sub {n : Nat} {h' : Hp} (hR : RowsN n h a len f) (hs : SubH h h') : RowsN n h' a len f := fun i hi =>
  let ⟨b, off, c, ty, z, h1, h2, h3⟩ := hR i hi; ⟨b, off, c, ty, z, h1, hs b _ h2, h3⟩

theorem SubH.trans {h1 h2 h3 : Hp} (a : SubH h1 h2) (b : SubH h2 h3) : SubH h1 h3 := fun x o hx => b x o (a x o hx)

/-- What the law's loop keeps. -/
structure Kept3 (h0 : Hp) (len : Nat) (f : Nat → Nat → Int) (p m1 m2 : Nat) (i : Nat) (L R : List (Int × Int)) (h : Hp) : Prop where
  at' : BiAt iv iv h p m1 m2 L R
  bi : Bi L R
  ln : L.length ≤ i
  kl : ∀ x ∈ keys L, ∃ j, j < len ∧ f j 2 = x
  kr : ∀ x ∈ keys R, ∃ j, j < len ∧ f j 3 = x
  sub : SubH h0 h

theorem back3 (hR : RowsN 4 h a len f) (hlen : len < 2 ^ 63) (hq : ∀ h', SubH h h' → Q (.bool true) h') : Ok PR 3 [.slice a len cap] h Q := by
  refine e3 rfl ?_
  conv => whnf
  refine tied12 fun h1 hs1 => ?_
  conv => whnf
  refine new13 fun p m1 m2 h2 hB hs np n1 n2 => ?_
  have hsub : SubH h1 h2 := fun x o hx => by
    have e1 : x ≠ p := fun e => by subst e; rw [np] at hx; cases hx
    have e2 : x ≠ m1 := fun e => by subst e; rw [n1] at hx; cases hx
    have e3 : x ≠ m2 := fun e => by subst e; rw [n2] at hx; cases hx
    rw [hs x e1 e2 e3]; exact hx
  have hp0 : h p = none := by cases hh : h p with | none => rfl | some o => rw [hs1 _ _ hh] at np; cases np
  have hm1 : h m1 = none := by cases hh : h m1 with | none => rfl | some o => rw [hs1 _ _ hh] at n1; cases n1
  have hm2 : h m2 = none := by cases hh : h m2 with | none => rfl | some o => rw [hs1 _ _ hh] at n2; cases n2
  conv => whnf
  refine loop_intro (σ := Nat × List (Int × Int) × List (Int × Int) × Hp) (fun s => [(4, .v (iv s.1)), (3, .v (ptr p)), (0, .v (.slice a len cap))]) (fun _ => []) (fun s => s.2.2.2)
    (fun s => s.1 ≤ len ∧ Kept3 h len f p m1 m2 s.1 s.2.1 s.2.2.1 s.2.2.2) (fun s => len - s.1) (0, [], [], h2) ⟨by simp, hB, Bi.nil, by simp, by simp [keys], by simp [keys], hs1.trans hsub⟩
    (subE_cons rfl (subE_cons rfl (subE_cons rfl subE_nil))) subB_nil rfl ?_
  rintro ⟨i, L, R, h3⟩ ⟨hi, hK⟩
  simp only at hi hK
  conv => whnf
  dsimp only
  refine cond_dec (fun hc => ?_) (fun hc => ?_)
  · have hki : i < len := by omega
    obtain ⟨b, off, c, ty, z, rfl, hb', hcc⟩ := (hR.sub hK.sub) i hki
    have hll := hK.ln
    have hBi := hK.bi
    have hne : ((L.length : Int) == IntKind.i64.wrap ((L.length : Int) + 1)) = false := by rw [wrap_nat (by omega)]; simp; omega
    conv => whnf
    refine opt_if ⟨by omega, by omega⟩ ?_
    conv => whnf
    refine opt_ld hb' (v := .agg #[iv (f i 0), iv (f i 1), iv (f i 2), iv (f i 3)]) (rd_list [iv (f i 0), iv (f i 1), iv (f i 2), iv (f i 3)] rfl (by simp) fun j v hj => ?_) ?_
    · rcases j with _ | _ | _ | _ | j <;> cases hj <;> exact hcc _ (by omega)
    conv => whnf
    refine len14 hK.at' ?_
    conv => whnf
    refine to15 hK.at' (f i 2) ?_
    conv => whnf
    refine back16 hK.at' (f i 3) ?_
    conv => whnf
    refine cut_intro (σ := List (Int × Int) × List (Int × Int) × Hp) (fun _ => [(4, .v (iv i)), (3, .v (ptr p)), (0, .v (.slice (some ⟨b, off, none⟩) len cap))]) (fun _ => []) (fun s => s.2.2)
      (fun s => Kept3 h len f p m1 m2 (i + 1) s.1 s.2.1 s.2.2) ?_ ?_
    · have go : ∀ {ρ : Env} {β : Bx} {h' : Hp} (L' R' : List (Int × Int)), Kept3 h len f p m1 m2 (i + 1) L' R' h' → look ρ 4 = some (.v (iv i)) → look ρ 3 = some (.v (ptr p)) → look ρ 0 = some (.v (.slice (some ⟨b, off, none⟩) len cap)) →
          ∃ s : List (Int × Int) × List (Int × Int) × Hp, Kept3 h len f p m1 m2 (i + 1) s.1 s.2.1 s.2.2 ∧ subE [(4, .v (iv i)), (3, .v (ptr p)), (0, .v (.slice (some ⟨b, off, none⟩) len cap))] ρ ∧ subB [] β ∧ h' = s.2.2 :=
        fun {ρ β h'} L' R' hk e1 e2 e3 => ⟨(L', R', h'), hk, subE_cons e1 (subE_cons e2 (subE_cons e3 subE_nil)), subB_nil, rfl⟩
      have hsame : Kept3 h len f p m1 m2 (i + 1) L R h3 := ⟨hK.at', hK.bi, by omega, hK.kl, hK.kr, hK.sub⟩
      refine cond_beq (fun ho => ?_) (fun ho => ?_)
      · conv => whnf
        cases hL : aget L (f i 2) with
        | none =>
          cases hR' : aget R (f i 3) with
          | none =>
            refine tie17 hK.at' (f i 2) (f i 3) (fun _ _ h4 hB4 hs4 => ?_) (fun x hx => by rw [hL] at hx; cases hx) (fun _ x hx => by rw [hR'] at hx; cases hx)
            conv => whnf
            refine to15 hB4 (f i 2) ?_
            rw [aget_aput, if_pos rfl]
            conv => whnf
            refine back16 hB4 (f i 3) ?_
            rw [aget_aput, if_pos rfl]
            conv => whnf
            rw [beq_self_eq_true (f i 3)]
            conv => whnf
            rw [beq_self_eq_true (f i 2)]
            conv => whnf
            refine len14 hB4 ?_
            rw [show ((aput L (f i 2) (f i 3)).length : Int) = IntKind.i64.wrap ((L.length : Int) + 1) from by rw [aput_new hL, wrap_nat (by omega)]; simp]
            conv => whnf
            rw [beq_self_eq_true (IntKind.i64.wrap ((L.length : Int) + 1))]
            conv => whnf
            refine go _ _ ⟨hB4, hK.bi.tie hL hR', by rw [aput_new hL]; simp; omega, fun x hx => ?_, fun x hx => ?_, fun x o hx => ?_⟩ rfl rfl rfl
            · rcases keys_aput hx with rfl | hx
              · exact ⟨i, hki, rfl⟩
              · exact hK.kl x hx
            · rcases keys_aput hx with rfl | hx
              · exact ⟨i, hki, rfl⟩
              · exact hK.kr x hx
            · rw [hs4 x (fun e => by subst e; rw [hm1] at hx; cases hx) (fun e => by subst e; rw [hm2] at hx; cases hx)]; exact hK.sub x o hx
          | some y =>
            refine tie17 hK.at' (f i 2) (f i 3) (fun _ hx => by rw [hR'] at hx; cases hx) (fun x hx => by rw [hL] at hx; cases hx) (fun _ x hx => ?_)
            conv => whnf
            refine to15 hK.at' (f i 2) ?_
            rw [hL]
            conv => whnf
            refine back16 hK.at' (f i 3) ?_
            rw [hR']
            conv => whnf
            refine len14 hK.at' ?_
            conv => whnf
            rw [hne]
            conv => whnf
            exact go L R hsame rfl rfl rfl
        | some x =>
          have hRx := (hBi.inv _ _).1 hL
          refine tie17 hK.at' (f i 2) (f i 3) (fun hx => by rw [hL] at hx; cases hx) (fun x' hx => ?_) (fun hx => by rw [hL] at hx; cases hx)
          rw [hL] at hx
          cases hx
          conv => whnf
          refine to15 hK.at' (f i 2) ?_
          rw [hL]
          conv => whnf
          refine back16 hK.at' (f i 3) ?_
          by_cases hxb : x = f i 3
          · subst hxb
            rw [hRx]
            conv => whnf
            rw [beq_self_eq_true (f i 3)]
            conv => whnf
            rw [beq_self_eq_true (f i 2)]
            conv => whnf
            refine len14 hK.at' ?_
            conv => whnf
            rw [hne]
            conv => whnf
            exact go L R hsame rfl rfl rfl
          · have hf : (x == f i 3) = false := by simpa using hxb
            cases hR' : aget R (f i 3) with
            | none =>
              conv => whnf
              rw [hf]
              conv => whnf
              refine len14 hK.at' ?_
              conv => whnf
              rw [hne]
              conv => whnf
              exact go L R hsame rfl rfl rfl
            | some y =>
              conv => whnf
              rw [hf]
              conv => whnf
              refine len14 hK.at' ?_
              conv => whnf
              rw [hne]
              conv => whnf
              exact go L R hsame rfl rfl rfl
      · conv => whnf
        refine cond_beq (fun ho => ?_) (fun ho => ?_)
        · conv => whnf
          refine cut18 hK.at' (f i 2) (fun y hL h4 hB4 hs4 => ?_) (fun hL => ?_)
          · conv => whnf
            refine to15 hB4 (f i 2) ?_
            rw [aget_adel hBi.nl, if_pos rfl, hL]
            conv => whnf
            refine len14 hB4 ?_
            have hpos := length_adel hL
            rw [show ((adel L (f i 2)).length : Int) = IntKind.i64.wrap ((L.length : Int) - 1) from by rw [wrap_i64 (by omega) (by omega)]; omega]
            conv => whnf
            rw [beq_self_eq_true (IntKind.i64.wrap ((L.length : Int) - 1))]
            conv => whnf
            refine go _ _ ⟨hB4, hBi.cut hL, by omega, fun x hx => hK.kl x (keys_adel hx), fun x hx => hK.kr x (keys_adel hx), fun x o hx => ?_⟩ rfl rfl rfl
            rw [hs4 x (fun e => by subst e; rw [hm1] at hx; cases hx) (fun e => by subst e; rw [hm2] at hx; cases hx)]; exact hK.sub x o hx
          · conv => whnf
            refine to15 hK.at' (f i 2) ?_
            rw [hL]
            conv => whnf
            refine len14 hK.at' ?_
            conv => whnf
            rw [show ((L.length : Int) == IntKind.i64.wrap ((L.length : Int) - 1)) = false from by rw [wrap_i64 (by omega) (by omega)]; simp; omega]
            conv => whnf
            exact go L R hsame rfl rfl rfl
        · conv => whnf
          exact go L R hsame rfl rfl rfl
    · rintro ⟨L', R', h'⟩ hK'
      dsimp only at hK'
      conv => whnf
      dsimp only
      refine one19 hK'.at' hK'.bi (hR.sub hK'.sub) (by omega) hK'.kl hK'.kr ?_
      conv => whnf
      exact ⟨(i + 1, L', R', h'), ⟨by simp; omega, hK'⟩, by simp; omega, subE_cons (int_eq (wrap_nat (by omega)) rfl) (subE_cons rfl (subE_cons rfl subE_nil)), subB_nil, rfl⟩
  · conv => whnf
    exact hq _ hK.sub

end
end Go.Proofs.Ytkmknolkblcbeaa.V
