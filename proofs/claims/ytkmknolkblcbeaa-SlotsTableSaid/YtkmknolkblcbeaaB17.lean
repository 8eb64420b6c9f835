/- The law on ties. -/
import Derived.Test.YtkmknolkblcbeaaB16
namespace Go.Proofs.Ytkmknolkblcbeaa.V
set_option linter.unusedVariables false
open Go

theorem emod_tmod (x n : Int) (hn : 0 < n) : (if x.tmod n < 0 then x.tmod n + n else x.tmod n) = x % n := by
  have h1 := Int.emod_nonneg x (show n ≠ 0 by omega)
  have h2 := Int.emod_lt_of_pos x hn
  rw [Int.tmod_eq_emod]
  by_cases h : 0 ≤ x ∨ n ∣ x
  · rw [if_pos h]
    split <;> omega
  · rw [if_neg h]
    split <;> omega

theorem rest23 {h : Hp} {Q : Value → Hp → Prop} (x n : Int) (h0 : 0 < n) (h1 : n < 2 ^ 62) (hq : Q (iv (x % n)) h) : Ok PR 23 [iv x, iv n] h Q := by
  have he := emod_tmod x n h0
  have hlo := Int.emod_nonneg x (show n ≠ 0 by omega)
  have hhi := Int.emod_lt_of_pos x h0
  refine e23 rfl ?_
  conv => whnf
  refine opt_if ⟨rfl, by omega⟩ ?_
  conv => whnf
  refine cond_dec (fun hc => ?_) (fun hc => ?_)
  · conv => whnf
    rw [if_pos hc] at he
    rw [wrap_i64 (by omega) (by omega), he]
    exact hq
  · conv => whnf
    rw [if_neg hc] at he
    rw [he]
    exact hq

def zK : List Value := [.bool false, .pointer none, .pointer none, .pointer none]

theorem knv_len (k : Kn) : (knv k).length = zK.length := by obtain ⟨t, p, r⟩ := k; cases t <;> rfl
theorem knv_one (k : Kn) : (knv k).all one = true := by obtain ⟨t, p, r⟩ := k; cases t <;> rfl

def KsP (ss : List (Kn × List (Int × Int))) : List As := ss.map fun x => KnP x.1 x.2

structure Tied (h0 : Hp) (i : Nat) (s : Value) (ss : List (Kn × List (Int × Int))) (h : Hp) : Prop where
  has : Has (Is h0 :: SlP knv zK s (ss.map (·.1)) :: KsP ss) h
  lo : 2 ≤ ss.length
  hi : ss.length ≤ 6
  uq : ∀ x ∈ ss, Uq x.2 ∧ x.2.length ≤ i

theorem KsP_set (ss : List (Kn × List (Int × Int))) (k : Nat) (x : Kn × List (Int × Int)) : (KsP ss).set k (KnP x.1 x.2) = KsP (ss.set k x) := by simp [KsP, List.map_set]

theorem KsP_get {ss : List (Kn × List (Int × Int))} {k : Nat} {x : Kn × List (Int × Int)} (h : ss[k]? = some x) : (KsP ss)[k]? = some (KnP x.1 x.2) := by simp [KsP, h]

theorem fst_set {ss : List (Kn × List (Int × Int))} {k : Nat} {x : Kn × List (Int × Int)} (h : ss[k]? = some x) (l : List (Int × Int)) : (ss.set k (x.1, l)).map (·.1) = ss.map (·.1) := by
  rw [List.map_set]
  apply List.ext_getElem?
  intro j
  rw [List.getElem?_set]
  split
  · rename_i e
    subst e
    simp [h]
    exact (List.getElem?_eq_some_iff.1 h).1
  · rfl

/-- One turned. -/
theorem Tied.set {h0 : Hp} {i : Nat} {s : Value} {ss : List (Kn × List (Int × Int))} {k : Nat} {x : Kn × List (Int × Int)} {h h' : Hp} (hT : Tied h0 i s ss h) (hk : ss[k]? = some x) (l : List (Int × Int))
    (hh : Has ((Is h0 :: SlP knv zK s (ss.map (·.1)) :: KsP ss).set (k + 2) (KnP x.1 l)) h') (hu : Uq l) (hl : l.length ≤ i + 1) : Tied h0 (i + 1) s (ss.set k (x.1, l)) h' := by
  refine ⟨?_, by simpa using hT.lo, by simpa using hT.hi, fun y hy => ?_⟩
  · rw [fst_set hk, ← KsP_set]; exact hh
  · rcases mem_set hy with rfl | hy
    · exact ⟨hu, hl⟩
    · have := hT.uq y hy; exact ⟨this.1, by omega⟩

theorem Tied.more {h0 : Hp} {i : Nat} {s : Value} {ss : List (Kn × List (Int × Int))} {h : Hp} (hT : Tied h0 i s ss h) : Tied h0 (i + 1) s ss h :=
  ⟨hT.has, hT.lo, hT.hi, fun y hy => ⟨(hT.uq y hy).1, by have := (hT.uq y hy).2; omega⟩⟩

theorem opR_uq {l : List (Int × Int)} (hu : Uq l) (kd a b : Int) : Uq (opR kd l a b) := by
  unfold opR; split
  · exact hu.tie a b
  · exact hu.cut a

theorem opR_len (l : List (Int × Int)) (kd a b : Int) : (opR kd l a b).length ≤ l.length + 1 := by
  unfold opR; split
  · exact tieR_len l a b
  · have := cutR_len l a; omega

section
variable {h : Hp} {Q : Value → Hp → Prop} {a : Option Addr} {len cap : Nat} {f : Nat → Nat → Int}

theorem law4 (hR : RowsN 4 h a len f) (hlen : len < 2 ^ 42) (hq : ∀ h', SubH h h' → Q (.bool true) h') : Ok PR 4 [.slice a len cap] h Q := by
  refine e4 rfl ?_
  conv => whnf
  refine tied12 fun h1 hs1 => ?_
  conv => whnf
  have hh : Has [Is h] h1 := (Has.start h).sub hs1
  refine hh.make new20S fun p1 h2 hh2 => ?_
  conv => whnf
  refine fresh_has hh2 fun r1 h3 hr1 _ _ hh3 => ?_
  conv => whnf
  refine hh3.make new21S fun p2 h4 hh4 => ?_
  conv => whnf
  refine fresh_has hh4 fun r2 h5 hr2 _ _ hh5 => ?_
  conv => whnf
  refine fresh_has hh5 fun b h6 hb _ _ hh6 => ?_
  conv => whnf
  repeat (first | (refine opt_if ⟨by omega, by omega⟩ ?_; conv => whnf) | (refine opt_ld (by assumption) (by first | rfl | assumption) ?_; conv => whnf))
  refine missing22 ⟨false, p1, r1⟩ ?_
  conv => whnf
  repeat (first | (refine opt_if ⟨by omega, by omega⟩ ?_; conv => whnf) | (refine opt_ld (by assumption) (by first | rfl | assumption) ?_; conv => whnf))
  refine missing22 ⟨true, p2, r2⟩ ?_
  conv => whnf
  repeat (first | (refine opt_if ⟨by omega, by omega⟩ ?_; conv => whnf) | (refine opt_ld (by assumption) (by first | rfl | assumption) ?_; conv => whnf))
  have hT : Tied h 0 (.slice (some ⟨b, 0, none⟩) 2 2) [(⟨false, p1, r1⟩, []), (⟨true, p2, r2⟩, [])] h6 := by
    refine ⟨?_, by simp, by simp, fun x hx => ?_⟩
    · have g1 := hh6.turn 0 rfl (B := SlP knv zK (.slice (some ⟨b, 0, none⟩) 2 2) [⟨false, p1, r1⟩, ⟨true, p2, r2⟩]) fun g hg => ⟨some b, .inr ⟨b, 2, 46, rfl, rfl, by simp, hg⟩⟩
      have g2 := g1.turn 1 rfl (B := RefP r2 []) fun g hg => ⟨none, ⟨_, 43, hg, .inl ⟨rfl, rfl, rfl⟩⟩, by simp⟩
      have g3 := g2.turn 3 rfl (B := RefP r1 []) fun g hg => ⟨none, ⟨_, 43, hg, .inl ⟨rfl, rfl, rfl⟩⟩, by simp⟩
      have g4 : Has [BkP ⟨true, p2, r2⟩ [], RefP r2 [], BjP iv ce p1 [], RefP r1 [], Is h, SlP knv zK (.slice (some ⟨b, 0, none⟩) 2 2) [⟨false, p1, r1⟩, ⟨true, p2, r2⟩]] h6 := g3.sel [2, 1, 4, 3, 5, 0] rfl
      have g5 : Has [BkP ⟨false, p1, r1⟩ [], RefP r1 [], Is h, SlP knv zK (.slice (some ⟨b, 0, none⟩) 2 2) [⟨false, p1, r1⟩, ⟨true, p2, r2⟩], KnP ⟨true, p2, r2⟩ []] h6 := (Has.group (L1 := [_, _]) g4).sel [1, 2, 3, 4, 0] rfl
      exact (Has.group (L1 := [_, _]) g5).sel [1, 2, 0, 3] rfl
    · simp at hx; rcases hx with rfl | rfl <;> exact ⟨Uq.nil, Nat.zero_le _⟩
  refine loop_intro (σ := Nat × Value × List (Kn × List (Int × Int)) × Hp) (fun s => [(4, .v (iv s.1)), (3, .v s.2.1), (0, .v (.slice a len cap))]) (fun _ => []) (fun s => s.2.2.2)
    (fun s => s.1 ≤ len ∧ Tied h s.1 s.2.1 s.2.2.1 s.2.2.2) (fun s => len - s.1) (0, _, _, h6) ⟨Nat.zero_le _, hT⟩
    (by repeat (first | exact trivial | refine ⟨rfl, ?_⟩ | refine ⟨int_eq (wrap_nat (by omega)) rfl, ?_⟩)) subB_nil rfl ?_
  clear hT hb hr1 hr2 hh hh2 hh3 hh4 hh5 hh6 hs1
  rintro ⟨i, s, ss, g⟩ ⟨hi, hT⟩
  dsimp only at hi hT ⊢
  have hsub : SubH h g := hT.has.is 0 rfl
  conv => whnf
  repeat (first | (refine opt_if ⟨by omega, by omega⟩ ?_; conv => whnf) | (refine opt_ld (by assumption) (by first | rfl | assumption) ?_; conv => whnf))
  refine cond_dec (fun hc => ?_) (fun hc => ?_)
  · have hki : i < len := by omega
    obtain ⟨bb, off, c, ty, z, rfl, hb', hcc⟩ := (hR.sub hsub) i hki
    conv => whnf
    refine opt_if ⟨by omega, by omega⟩ ?_
    conv => whnf
    refine opt_ld hb' (v := .agg #[iv (f i 0), iv (f i 1), iv (f i 2), iv (f i 3)]) (rd_list [iv (f i 0), iv (f i 1), iv (f i 2), iv (f i 3)] rfl (by simp) fun j v hj => ?_) ?_
    · rcases j with _ | _ | _ | _ | j <;> cases hj <;> exact hcc _ (by omega)
    obtain ⟨gs, ⟨bs, ho⟩, hgs⟩ := hT.has.at 1 rfl
    obtain ⟨base, scap, rfl, hel⟩ := SlP.look knv_len (SlP.sub ⟨bs, ho⟩ hgs)
    conv => whnf
    repeat (first | (refine opt_if ⟨by omega, by omega⟩ ?_; conv => whnf) | (refine opt_ld (by assumption) (by first | rfl | assumption) ?_; conv => whnf))
    have hn : (ss.map (·.1)).length = ss.length := by simp
    have hlo := hT.lo
    have hhi := hT.hi
    refine rest23 (f i 1) _ (by rw [hn]; omega) (by rw [hn]; omega) ?_
    have hm1 := Int.emod_nonneg (f i 1) (show ((ss.map (·.1)).length : Int) ≠ 0 by rw [hn]; omega)
    have hm2 := Int.emod_lt_of_pos (f i 1) (show (0 : Int) < ((ss.map (·.1)).length : Int) by rw [hn]; omega)
    obtain ⟨k, hk⟩ := Int.eq_ofNat_of_zero_le hm1
    rw [hk]
    have hks : k < ss.length := by rw [hk, hn] at hm2; omega
    obtain ⟨⟨kn, l⟩, hx⟩ : ∃ x, ss[k]? = some x := ⟨_, List.getElem?_eq_getElem hks⟩
    obtain ⟨d, c2, ty3, rfl, hd, hcc2⟩ := hel k kn (by simp [hx])
    have hux := hT.uq _ (List.mem_of_getElem? hx)
    dsimp only at hux
    conv => whnf
    refine opt_if ⟨by omega, by rw [hn]; omega⟩ ?_
    conv => whnf
    refine opt_ld hd (v := .agg (knv kn).toArray) (rd_list (knv kn) (knv_len kn) (by obtain ⟨t, p, r⟩ := kn; cases t <;> simp [knv]) fun j v hj => hcc2 j v hj) ?_
    have hkl := knv_len kn
    conv => whnf
    repeat (first | (refine opt_if ⟨by omega, by omega⟩ ?_; conv => whnf) | (refine opt_ld (by assumption) (by first | rfl | assumption) ?_; conv => whnf))
    refine opt_stL rfl (show (knv kn).length = 4 from hkl) rfl (knv_one kn) ?_
    conv => whnf
    repeat (first | (refine opt_if ⟨by omega, by omega⟩ ?_; conv => whnf) | (refine opt_ld (by assumption) (by first | rfl | assumption) ?_; conv => whnf))
    have fin : ∀ {ρ : Env} {β : Bx} (s' : Value) (ss' : List (Kn × List (Int × Int))) (h' : Hp), Tied h (i + 1) s' ss' h' → look ρ 4 = some (.v (.int .i64 (IntKind.i64.wrap ((i : Int) + 1)))) → look ρ 3 = some (.v s') → look ρ 0 = some (.v (.slice (some ⟨bb, off, none⟩) len cap)) →
        ∃ s : Nat × Value × List (Kn × List (Int × Int)) × Hp, (s.1 ≤ len ∧ Tied h s.1 s.2.1 s.2.2.1 s.2.2.2) ∧ len - s.1 < len - i ∧ subE [(4, .v (iv s.1)), (3, .v s.2.1), (0, .v (.slice (some ⟨bb, off, none⟩) len cap))] ρ ∧ subB [] β ∧ h' = s.2.2.2 :=
      fun {ρ β} s' ss' h' hT' e1 e2 e3 => ⟨(i + 1, s', ss', h'), ⟨hki, hT'⟩, by simp only; omega, ⟨int_eq (wrap_nat (by omega)) e1, e2, e3, trivial⟩, subB_nil, rfl⟩
    have hix : (Is h :: SlP knv zK (.slice (some ⟨d, 0, none⟩) (ss.map (·.1)).length scap) (ss.map (·.1)) :: KsP ss)[k + 2]? = some (KnP kn l) := by simpa using KsP_get hx
    have ties : ∀ {Q : Value → Hp → Prop}, (∀ h', Tied h (i + 1) (.slice (some ⟨d, 0, none⟩) (ss.map (·.1)).length scap) (ss.set k (kn, opR (f i 0) l (f i 2) (f i 3))) h' → Q (.bool true) h') → Ok PR 24 [.agg (knv kn).toArray, .agg #[iv (f i 0), iv (f i 1), iv (f i 2), iv (f i 3)]] g Q := fun {Q} hq =>
      hT.has.call (k + 2) hix (ties24 kn (by omega) hux.1 (f i 0) (f i 1) (f i 2) (f i 3)) fun _ h' hh' =>
        hq h' (hT.set hx _ hh' (opR_uq hux.1 _ _ _) (by have := opR_len l (f i 0) (f i 2) (f i 3); omega))
    have looks : ∀ {Q : Value → Hp → Prop}, (∀ h', Tied h (i + 1) (.slice (some ⟨d, 0, none⟩) (ss.map (·.1)).length scap) (ss.set k (kn, l)) h' → Q (.bool true) h') → Ok PR 25 [.agg (knv kn).toArray, .agg #[iv (f i 0), iv (f i 1), iv (f i 2), iv (f i 3)]] g Q := fun {Q} hq =>
      hT.has.call (k + 2) hix (looks25 kn (by omega) hux.1 (f i 0) (f i 1) (f i 2) (f i 3)) fun _ h' hh' =>
        hq h' (hT.set hx _ hh' hux.1 (by omega))
    refine cond_beq (fun k1 => ?_) (fun k1 => ?_)
    · conv => whnf
      refine cond_beq (fun _ => ?_) (fun e => absurd k1 e)
      conv => whnf
      refine opt_ldL rfl hkl ?_
      conv => whnf
      refine ties fun h' hT' => ?_
      conv => whnf
      exact fin _ _ _ hT' rfl rfl rfl
    · conv => whnf
      refine cond_beq (fun k2 => ?_) (fun k2 => ?_)
      · conv => whnf
        refine opt_ldL rfl hkl ?_
        conv => whnf
        refine ties fun h' hT' => ?_
        conv => whnf
        exact fin _ _ _ hT' rfl rfl rfl
      · conv => whnf
        refine cond_beq (fun k3 => ?_) (fun k3 => ?_)
        · conv => whnf
          refine cond_beq (fun _ => ?_) (fun e => absurd k3 e)
          conv => whnf
          refine opt_ldL rfl hkl ?_
          conv => whnf
          refine looks fun h' hT' => ?_
          conv => whnf
          exact fin _ _ _ hT' rfl rfl rfl
        · conv => whnf
          refine cond_beq (fun k4 => ?_) (fun k4 => ?_)
          · conv => whnf
            refine cond_beq (fun _ => ?_) (fun e => absurd k4 e)
            conv => whnf
            refine opt_ldL rfl hkl ?_
            conv => whnf
            refine looks fun h' hT' => ?_
            conv => whnf
            exact fin _ _ _ hT' rfl rfl rfl
          · conv => whnf
            refine cond_beq (fun k5 => ?_) (fun k5 => ?_)
            · conv => whnf
              refine opt_ldL rfl hkl ?_
              conv => whnf
              refine looks fun h' hT' => ?_
              conv => whnf
              exact fin _ _ _ hT' rfl rfl rfl
            · conv => whnf
              refine cond_beq (fun k6 => ?_) (fun k6 => ?_)
              · conv => whnf
                refine cond_dec (fun hsz => ?_) (fun hsz => ?_)
                · conv => whnf
                  refine opt_ldL rfl hkl ?_
                  conv => whnf
                  refine hT.has.call (k + 2) hix (turn26 kn (by omega)) fun kn2 h2 hh2 => ?_
                  have hkl2 := knv_len kn2
                  conv => whnf
                  refine opt_stL rfl (show (knv kn2).length = 4 from hkl2) rfl (knv_one kn2) ?_
                  conv => whnf
                  refine opt_ldL rfl hkl2 ?_
                  conv => whnf
                  refine missing22 kn2 ?_
                  conv => whnf
                  refine opt_ldL rfl hkl2 ?_
                  conv => whnf
                  have hh3 : Has (KnP kn2 (swp l) :: (Is h :: SlP knv zK (.slice (some ⟨d, 0, none⟩) (ss.map (·.1)).length scap) (ss.map (·.1)) :: KsP ss).set (k + 2) (KnP kn l)) h2 := Has.spread hix hh2
                  refine opt_up1 hkl2 rfl ?_
                  conv => whnf
                  refine fresh_has hh3 fun b1 h3 hb1 _ _ hh4 => ?_
                  conv => whnf
                  refine app_has (x := kn2) (row := knv) knv_len knv_one hh4 3 rfl hb1 (by simp; omega) fun s' h4 hh5 => ?_
                  conv => whnf
                  refine fin s' (ss.set k (kn, l) ++ [(kn2, swp l)]) h4 ⟨?_, by simp; omega, by simp; omega, fun x hx' => ?_⟩ rfl rfl rfl
                  · have e1 : (ss.set k (kn, l) ++ [(kn2, swp l)]).map (·.1) = ss.map (·.1) ++ [kn2] := by rw [List.map_append, fst_set (x := (kn, l)) hx]; rfl
                    have e2 : KsP (ss.set k (kn, l) ++ [(kn2, swp l)]) = (KsP ss).set k (KnP kn l) ++ [KnP kn2 (swp l)] := by simp [KsP, List.map_set]
                    rw [e1, e2]
                    have h5 : Has (KnP kn2 (swp l) :: Is h :: SlP knv zK s' (ss.map (·.1) ++ [kn2]) :: (KsP ss).set k (KnP kn l)) h4 := hh5.tail
                    refine h5.perm ?_
                    refine (List.perm_append_singleton (KnP kn2 (swp l)) (Is h :: SlP knv zK s' (ss.map (·.1) ++ [kn2]) :: (KsP ss).set k (KnP kn l))).symm.trans ?_
                    exact List.Perm.refl _
                  · rcases List.mem_append.1 hx' with hx' | hx'
                    · rcases mem_set hx' with rfl | hx'
                      · exact ⟨hux.1, Nat.le_succ_of_le hux.2⟩
                      · have := hT.uq x hx'; exact ⟨this.1, by omega⟩
                    · simp only [List.mem_singleton] at hx'
                      subst hx'
                      exact ⟨hux.1.swp, by simp [swp]; omega⟩
                · conv => whnf
                  exact fin _ _ _ hT.more rfl rfl rfl
              · conv => whnf
                exact fin _ _ _ hT.more rfl rfl rfl
  · conv => whnf
    exact hq _ hsub

end
end Go.Proofs.Ytkmknolkblcbeaa.V
