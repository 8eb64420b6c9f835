/- Seat 10: ExtentAlone: holds and drops of a script. -/
import Derived.Test.YthblnoidhehenaaG6
import Derived.Test.YthblnoidhehenaaG7
namespace Go.Proofs.Ythblnoidhehenaa.V
set_option linter.unusedVariables false
set_option linter.unusedSimpArgs false
set_option linter.unusedSectionVars false
set_option linter.unusedSectionVars false
open Go

theorem opt_ldE {r o : Nat} {β : Bx} {cs : List Value} {v : Value} {K : Ent → Prop} (hl : lookB β r = some cs) (hv : cs[o]? = some v) (hk : K (.v v)) : optK (pLd 1 false (fun _ => none) β (.l r o)) K := by
  have : rd cs.toArray o 1 false = some v := by simp only [rd]; rw [if_neg (by decide), List.getElem?_toArray]; exact hv
  simp only [pLd, hl, ldL, this, toE, optK]
  exact hk

theorem opt_stE {g : Hp} {r o : Nat} {β : Bx} {x : Value} {c : List Value} {K : Hp × Bx → Prop} (hl : lookB β r = some c) (ho : o < c.length) (h1 : x.cells = #[x]) (h4 : one x = true) (hk : K (g, (r, c.set o x) :: β)) : optK (pSt 1 g β (.l r o) (.v x)) K := by
  simp only [pSt, stL, hl]
  rw [h1, if_pos ⟨rfl, by omega, by simp [h4]⟩]
  simp only [optK]
  have e : wrL c o [x] = c.set o x := by
    apply List.ext_getElem?
    intro i
    rw [wrL_get _ _ _ _ (by simp; omega), List.getElem?_set]
    by_cases hi : o = i
    · subst hi
      rw [if_pos ⟨by omega, by simp⟩, if_pos rfl, if_pos ho]; simp
    · rw [if_neg (by simp; omega), if_neg hi]
  rw [e]
  exact hk

structure HsOk (hs : List Int) (k : Nat) : Prop where
  len : hs.length = 32
  at_ : ∀ (n : Nat) (x : Int), hs[n]? = some x → 0 ≤ x ∧ x ≤ k

theorem HsOk.set {hs : List Int} {k : Nat} (h : HsOk hs k) (n : Nat) (y : Int) (h0 : 0 ≤ y) (h1 : y ≤ k + 1) : HsOk (hs.set n y) (k + 1) := by
  refine ⟨by rw [List.length_set]; exact h.len, fun m x hm => ?_⟩
  rw [List.getElem?_set] at hm
  split at hm
  · split at hm
    · cases hm; exact ⟨h0, by omega⟩
    · cases hm
  · have := h.at_ m x hm; omega

theorem HsOk.mono {hs : List Int} {k : Nat} (h : HsOk hs k) : HsOk hs (k + 1) := ⟨h.len, fun n x hx => by have := h.at_ n x hx; omega⟩

theorem filt_all : ∀ {l : List (Option Ext)}, (∀ x ∈ l, x.isSome = true) → (l.filterMap id).length = l.length
  | [], _ => rfl
  | none :: l, h => by have := h none (List.mem_cons_self ..); cases this
  | some x :: l, h => by
    have := filt_all (l := l) fun y hy => h y (List.mem_cons_of_mem _ hy)
    rw [List.filterMap_cons]
    simp only [id, List.length_cons, this]

theorem filt_lt : ∀ {l : List (Option Ext)}, none ∈ l → (l.filterMap id).length < l.length
  | [], h => by cases h
  | none :: l, _ => by
    have := List.length_filterMap_le (id : Option Ext → Option Ext) l
    rw [List.filterMap_cons]
    simp only [id, List.length_cons]
    omega
  | some x :: l, h => by
    have := filt_lt (l := l) (by simpa using h)
    rw [List.filterMap_cons]
    simp only [id, List.length_cons]
    omega

theorem tk_get {l : List (Option Ext)} {n : Nat} {v : Ext} (h : l[n]? = some (some v)) : (l.filterMap id)[(tkE l n).length]? = some v := by
  have hn := (List.getElem?_eq_some_iff.1 h).1
  have hv := (List.getElem?_eq_some_iff.1 h).2
  have e : l = l.take n ++ some v :: l.drop (n + 1) := by
    conv => lhs; rw [← List.take_append_drop n l, List.drop_eq_getElem_cons hn, hv]
  unfold tkE
  rw [show ((n : Int)).toNat = n by omega]
  conv => lhs; rw [e]
  rw [List.filterMap_append, List.filterMap_cons]
  simp only [id]
  rw [List.getElem?_append_right (by rw [← e]; exact Nat.le_refl _)]
  rw [← e, Nat.sub_self]
  rfl

theorem tk_skip {l : List (Option Ext)} {n : Nat} (h : l[n]? = some none) : tkE l ((n : Int) + 1) = tkE l n := by
  have hn := (List.getElem?_eq_some_iff.1 h).1
  have hv := (List.getElem?_eq_some_iff.1 h).2
  unfold tkE
  rw [show ((n : Int) + 1).toNat = n + 1 by omega, show ((n : Int)).toNat = n by omega, List.take_succ_eq_append_getElem hn, hv, List.filterMap_append]
  simp

section
variable {h : Hp} {Q : Value → Hp → Prop} {L : List As}

set_option maxRecDepth 20000 in
theorem law3 {a : Option Addr} {len cap : Nat} {f : Nat → Nat → Int} (hR : RowsN 2 h a len f) (hlen : len < 2 ^ 60) (hq : ∀ h', SubH h h' → Q (.bool true) h') : Ok PR 3 [.slice a len cap] h Q := by
  refine e3 rfl ?_
  refine seq_step fun K hK => ?_
  conv => whnf
  refine hK _ _ _ (seq_step fun K1 hK1 => ?_)
  conv => whnf
  refine new4 (Has.start h) fun p h1 hh1 => ?_
  conv => whnf
  refine hK1 _ _ _ (seq_step fun K2 hK2 => ?_)
  refine seq_step fun K3 hK3 => ?_
  conv => whnf
  refine hK3 _ _ _ ?_
  conv => whnf
  refine hK2 _ _ _ (seq_step fun K4 hK4 => ?_)
  conv => whnf
  refine new5 hh1 fun t h2 hh2 => ?_
  conv => whnf
  refine hK4 _ _ _ (seq_step fun K5 hK5 => ?_)
  refine seq_step fun K6 hK6 => ?_
  conv => whnf
  refine hK6 _ _ _ ?_
  conv => whnf
  refine hK5 _ _ _ (seq_step fun K7 hK7 => ?_)
  conv => whnf
  refine hK7 _ _ _ (seq_step fun K8 hK8 => ?_)
  refine seq_step fun K9 hK9 => ?_
  conv => whnf
  refine hK9 _ _ _ ?_
  refine loop_intro (σ := Nat × List Int × Hp) (fun s => [(6, .v (iv s.1)), (5, .l 5 0), (4, .v (ptr t)), (0, .v (.slice a len cap))]) (fun s => [(5, s.2.1.map iv)]) (fun s => s.2.2)
    (fun s => s.1 ≤ len ∧ HsOk s.2.1 s.1 ∧ Has [ExtP t s.2.1, Is h] s.2.2) (fun s => len - s.1) (0, List.replicate 32 0, h2) ⟨Nat.zero_le _, ⟨List.length_replicate .., fun n x hx => by
      rw [List.getElem?_replicate] at hx
      split at hx
      · cases hx; exact ⟨Int.le_refl _, Int.le_refl _⟩
      · cases hx⟩, hh2⟩
    ⟨rfl, rfl, rfl, rfl, trivial⟩ ⟨rfl, trivial⟩ rfl ?_
  clear hh1 hh2
  rintro ⟨k, hs, g⟩ ⟨hkl, hok, hg⟩
  dsimp only at hkl hok hg ⊢
  have hl32 := hok.len
  have hmap : (hs.map iv).length = 32 := by rw [List.length_map]; exact hl32
  refine seq_step fun K10 hK10 => ?_
  refine seq_step fun K11 hK11 => ?_
  conv => whnf
  refine hK11 _ _ _ ?_
  refine cond_dec (fun hlt => ?_) (fun hlt => ?_)
  · obtain ⟨b, off, c, ty, z, hae, hb0, hcc⟩ := hR k (by omega)
    subst hae
    have hgb : g b = some (.cells c ty z) := hg.is 1 rfl _ _ hb0
    conv => whnf
    refine hK10 _ _ _ (seq_step fun K12 hK12 => ?_)
    refine seq_step fun K13 hK13 => ?_
    conv => whnf
    refine opt_if ⟨by omega, by omega⟩ ?_
    conv => whnf
    refine opt_ld hgb (v := iv (f k 0)) (by have := hcc 0 (by omega); exact this) ?_
    conv => whnf
    have hrem := rem_lt (f k 0) 32 (by omega) (by omega)
    generalize IntKind.i64.wrap ((IntKind.u64.wrap (f k 0)).tmod 32) = m at hrem ⊢
    obtain ⟨n, rfl⟩ : ∃ n : Nat, m = (n : Int) := ⟨m.toNat, by omega⟩
    obtain ⟨x, hx⟩ : ∃ x, hs[n]? = some x := ⟨_, List.getElem?_eq_getElem (by omega)⟩
    obtain ⟨hx0, hxk⟩ := hok.at_ n x hx
    have hcell : (hs.map iv)[0 + (n : Int).toNat * 1]? = some (iv x) := by rw [show 0 + (n : Int).toNat * 1 = n by omega, List.getElem?_map, hx]; rfl
    refine hK13 _ _ _ (seq_step fun K14 hK14 => ?_)
    conv => whnf
    refine opt_if ⟨by omega, by omega⟩ ?_
    conv => whnf
    refine opt_ld hgb (v := iv (f k 1)) (by have := hcc 1 (by omega); exact this) ?_
    conv => whnf
    generalize IntKind.i64.wrap ((IntKind.u64.wrap (f k 1)).tmod 4) = q
    refine hK14 _ _ _ ?_
    refine seq_step fun K15 hK15 => ?_
    conv => whnf
    refine hK15 _ _ _ ?_
    refine cond_beq (fun hq0 => ?_) (fun hq0 => ?_)
    · -- a claim of any
      refine seq_step fun K16 hK16 => ?_
      conv => whnf
      refine hK16 _ _ _ ?_
      refine cut_intro (σ := Nat) (fun low => [(8, .v (iv low)), (6, .v (iv k)), (5, .l 5 0), (4, .v (ptr t)), (0, .v (.slice (some ⟨b, off, none⟩) len cap))]) (fun _ => [(5, hs.map iv)]) (fun _ => g)
        (fun low => low ≤ 32 ∧ (∀ (j : Nat) (x : Int), j < low → hs[j]? = some x → 0 < x) ∧ (low < 32 → hs[low]? = some 0)) ?_ ?_
      · refine loop_intro (σ := Nat) (fun low => [(8, .v (iv low)), (6, .v (iv k)), (5, .l 5 0), (4, .v (ptr t)), (0, .v (.slice (some ⟨b, off, none⟩) len cap))]) (fun _ => [(5, hs.map iv)]) (fun _ => g)
          (fun low => low ≤ 32 ∧ ∀ (j : Nat) (x : Int), j < low → hs[j]? = some x → 0 < x) (fun low => 32 - low) 0 ⟨Nat.zero_le _, fun j x hj => absurd hj (Nat.not_lt_zero _)⟩
          ⟨rfl, rfl, rfl, rfl, rfl, trivial⟩ ⟨rfl, trivial⟩ rfl ?_
        rintro low ⟨hlow, hlj⟩
        dsimp only at hlow hlj ⊢
        refine seq_step fun K18 hK18 => ?_
        refine seq_step fun K19 hK19 => ?_
        conv => whnf
        by_cases hl2 : low < 32
        · rw [show decide ((low : Int) < 32) = true from decide_eq_true (by omega)]
          obtain ⟨y, hy⟩ : ∃ y, hs[low]? = some y := ⟨_, List.getElem?_eq_getElem (by omega)⟩
          obtain ⟨hy0, hyk⟩ := hok.at_ low y hy
          conv => whnf
          refine opt_if ⟨by omega, by omega⟩ ?_
          conv => whnf
          refine opt_ldE rfl (v := iv y) (by rw [show 0 + (low : Int).toNat * 1 = low by omega, List.getElem?_map, hy]; rfl) ?_
          conv => whnf
          refine hK19 _ _ _ ?_
          conv => whnf
          refine cond_dec (fun hyp => ?_) (fun hyp => ?_)
          · conv => whnf
            refine hK18 _ _ _ ?_
            conv => whnf
            refine ⟨low + 1, ⟨(show low + 1 ≤ 32 by omega), fun j x hj hjx => ?_⟩, (by show 32 - (low + 1) < 32 - low; omega), ⟨int_eq (wrap_nat (by omega)) rfl, rfl, rfl, rfl, rfl, trivial⟩, ⟨rfl, trivial⟩, rfl⟩
            replace hj : j < low + 1 := hj
            by_cases e : j = low
            · subst e; rw [hy] at hjx; cases hjx; exact hyp
            · exact hlj j x (by omega) hjx
          · conv => whnf
            have hy2 : y = 0 := by omega
            subst hy2
            exact ⟨low, ⟨hlow, hlj, fun _ => hy⟩, ⟨rfl, rfl, rfl, rfl, rfl, trivial⟩, ⟨rfl, trivial⟩, rfl⟩
        · rw [show decide ((low : Int) < 32) = false from decide_eq_false (by omega)]
          conv => whnf
          refine hK19 _ _ _ ?_
          conv => whnf
          exact ⟨low, ⟨hlow, hlj, fun h => absurd h hl2⟩, ⟨rfl, rfl, rfl, rfl, rfl, trivial⟩, ⟨rfl, trivial⟩, rfl⟩
      · rintro low ⟨hlow, hlj, hlz⟩
        dsimp only
        refine seq_step fun K18 hK18 => ?_
        conv => whnf
        refine claim6 rfl hg (fun k2 hk1 hk2 g1 hg1 => ?_) (fun hall g1 hg1 => ?_)
        · have hk32 := (List.getElem?_eq_some_iff.1 hk2).1
          have e : k2 = low := by
            rcases Nat.lt_trichotomy k2 low with h1 | h1 | h1
            · exact absurd (hlj k2 0 h1 hk2) (by decide)
            · exact h1
            · exact absurd (hk1 low 0 h1 (hlz (by omega))) (by decide)
          subst e
          conv => whnf
          refine hK18 _ _ _ (seq_step fun K19 hK19 => ?_)
          refine seq_step fun K20 hK20 => ?_
          have hokn := hok.set k2 1 (by omega) (by omega)
          conv => whnf
          rw [show ((k2 : Int) == 32) = false from beq_false_of_ne (by omega)]
          conv => whnf
          rw [show decide ((k2 : Int) < 32) = true from decide_eq_true (by omega)]
          conv => whnf
          rw [show ((k2 : Int) != (k2 : Int)) = false from bne_self_eq_false _]
          conv => whnf
          refine hK20 _ _ _ ?_
          conv => whnf
          refine hK19 _ _ _ (seq_step fun K21 hK21 => ?_)
          conv => whnf
          refine hK21 _ _ _ ?_
          refine cond_dec (fun _ => ?_) (fun h3 => absurd h3 (by omega))
          conv => whnf
          refine opt_if ⟨by omega, by omega⟩ ?_
          conv => whnf
          refine opt_stE rfl (by rw [hmap]; omega) rfl rfl ?_
          rw [show 0 + (k2 : Int).toNat * 1 = k2 by omega]
          conv => whnf
          refine hK12 _ _ _ ?_
          conv => whnf
          exact ⟨(k + 1, hs.set k2 1, g1), ⟨(show k + 1 ≤ len by omega), hokn, hg1⟩, (by show len - (k + 1) < len - k; omega), ⟨int_eq (wrap_nat (by omega)) rfl, rfl, rfl, rfl, trivial⟩, ⟨by rw [List.map_set]; rfl, trivial⟩, rfl⟩
        · have e : low = 32 := by
            refine Classical.byContradiction fun hne => ?_
            exact absurd (hall low 0 (hlz (by omega))) (by decide)
          subst e
          conv => whnf
          refine hK18 _ _ _ (seq_step fun K19 hK19 => ?_)
          refine seq_step fun K20 hK20 => ?_
          conv => whnf
          refine hK20 _ _ _ ?_
          conv => whnf
          refine hK19 _ _ _ (seq_step fun K21 hK21 => ?_)
          conv => whnf
          refine hK21 _ _ _ ?_
          conv => whnf
          refine hK12 _ _ _ ?_
          conv => whnf
          exact ⟨(k + 1, hs, g1), ⟨(show k + 1 ≤ len by omega), hok.mono, hg1⟩, (by show len - (k + 1) < len - k; omega), ⟨int_eq (wrap_nat (by omega)) rfl, rfl, rfl, rfl, trivial⟩, ⟨rfl, trivial⟩, rfl⟩
    refine seq_step fun K16 hK16 => ?_
    conv => whnf
    refine hK16 _ _ _ ?_
    refine cond_beq (fun hq1 => ?_) (fun hq1 => ?_)
    · -- a claim of one
      refine seq_step fun K17 hK17 => ?_
      conv => whnf
      refine claim6n hg hx (fun hz g1 hg1 => ?_) (fun hp g1 hg1 => ?_)
      · subst hz
        have hokn := hok.set n 1 (by omega) (by omega)
        conv => whnf
        refine hK17 _ _ _ (seq_step fun K18 hK18 => ?_)
        refine seq_step fun K19 hK19 => ?_
        conv => whnf
        refine opt_if ⟨by omega, by omega⟩ ?_
        conv => whnf
        refine opt_ldE rfl (v := iv 0) hcell ?_
        conv => whnf
        refine opt_if ⟨by omega, by omega⟩ ?_
        conv => whnf
        refine opt_ldE rfl (v := iv 0) hcell ?_
        conv => whnf
        rw [show ((n : Int) != (n : Int)) = false from bne_self_eq_false _]
        conv => whnf
        refine hK19 _ _ _ ?_
        conv => whnf
        refine hK18 _ _ _ (seq_step fun K20 hK20 => ?_)
        conv => whnf
        refine opt_if ⟨by omega, by omega⟩ ?_
        conv => whnf
        refine opt_ldE rfl (v := iv 0) hcell ?_
        conv => whnf
        refine hK20 _ _ _ ?_
        conv => whnf
        refine opt_if ⟨by omega, by omega⟩ ?_
        conv => whnf
        refine opt_stE rfl (by rw [hmap]; omega) rfl rfl ?_
        rw [show 0 + (n : Int).toNat * 1 = n by omega]
        conv => whnf
        refine hK12 _ _ _ ?_
        conv => whnf
        exact ⟨(k + 1, hs.set n 1, g1), ⟨(show k + 1 ≤ len by omega), hokn, hg1⟩, (by show len - (k + 1) < len - k; omega), ⟨int_eq (wrap_nat (by omega)) rfl, rfl, rfl, rfl, trivial⟩, ⟨by rw [List.map_set]; rfl, trivial⟩, rfl⟩
      · conv => whnf
        refine hK17 _ _ _ (seq_step fun K18 hK18 => ?_)
        refine seq_step fun K19 hK19 => ?_
        conv => whnf
        refine opt_if ⟨by omega, by omega⟩ ?_
        conv => whnf
        refine opt_ldE rfl (v := iv x) hcell ?_
        conv => whnf
        rw [show decide (x > 0) = true from decide_eq_true hp]
        conv => whnf
        refine opt_if ⟨by omega, by omega⟩ ?_
        conv => whnf
        refine opt_ldE rfl (v := iv x) hcell ?_
        conv => whnf
        rw [show (x == 0) = false from beq_false_of_ne (by omega)]
        conv => whnf
        refine hK19 _ _ _ ?_
        conv => whnf
        refine hK18 _ _ _ (seq_step fun K20 hK20 => ?_)
        conv => whnf
        refine opt_if ⟨by omega, by omega⟩ ?_
        conv => whnf
        refine opt_ldE rfl (v := iv x) hcell ?_
        conv => whnf
        refine hK20 _ _ _ ?_
        refine cond_beq (fun e => by have e2 : x = 0 := e; omega) (fun _ => ?_)
        conv => whnf
        refine hK12 _ _ _ ?_
        conv => whnf
        exact ⟨(k + 1, hs, g1), ⟨(show k + 1 ≤ len by omega), hok.mono, hg1⟩, (by show len - (k + 1) < len - k; omega), ⟨int_eq (wrap_nat (by omega)) rfl, rfl, rfl, rfl, trivial⟩, ⟨rfl, trivial⟩, rfl⟩
    refine seq_step fun K17 hK17 => ?_
    conv => whnf
    refine hK17 _ _ _ ?_
    refine cond_beq (fun hq2 => ?_) (fun hq2 => ?_)
    · -- a hold
      refine seq_step fun K17 hK17 => ?_
      conv => whnf
      refine hold7 hg hx (by omega) (fun hp g1 hg1 => ?_) (fun hz g1 hg1 => ?_)
      · have hokn := hok.set n (x + 1) (by omega) (by omega)
        conv => whnf
        refine hK17 _ _ _ (seq_step fun K18 hK18 => ?_)
        refine seq_step fun K19 hK19 => ?_
        conv => whnf
        refine opt_if ⟨by omega, by omega⟩ ?_
        conv => whnf
        refine opt_ldE rfl (v := iv x) hcell ?_
        conv => whnf
        rw [show decide (x > 0) = true from decide_eq_true hp]
        conv => whnf
        refine opt_if ⟨by omega, by omega⟩ ?_
        conv => whnf
        refine opt_ldE rfl (v := iv x) hcell ?_
        conv => whnf
        rw [show (x == 0) = false from beq_false_of_ne (by omega)]
        conv => whnf
        refine hK19 _ _ _ ?_
        conv => whnf
        refine hK18 _ _ _ (seq_step fun K20 hK20 => ?_)
        conv => whnf
        refine opt_if ⟨by omega, by omega⟩ ?_
        conv => whnf
        refine opt_ldE rfl (v := iv x) hcell ?_
        conv => whnf
        refine hK20 _ _ _ ?_
        refine cond_dec (fun _ => ?_) (fun e => absurd hp e)
        conv => whnf
        refine opt_if ⟨by omega, by omega⟩ ?_
        conv => whnf
        refine opt_ldE rfl (v := iv x) hcell ?_
        conv => whnf
        rw [show IntKind.i64.wrap (x + 1) = x + 1 from wrap_i64 (by omega) (by omega)]
        refine opt_if ⟨by omega, by omega⟩ ?_
        conv => whnf
        refine opt_stE rfl (by rw [hmap]; omega) rfl rfl ?_
        rw [show 0 + (n : Int).toNat * 1 = n by omega]
        conv => whnf
        refine hK12 _ _ _ ?_
        conv => whnf
        exact ⟨(k + 1, hs.set n (x + 1), g1), ⟨(show k + 1 ≤ len by omega), hokn, hg1⟩, (by show len - (k + 1) < len - k; omega), ⟨int_eq (wrap_nat (by omega)) rfl, rfl, rfl, rfl, trivial⟩, ⟨by rw [List.map_set]; rfl, trivial⟩, rfl⟩
      · subst hz
        conv => whnf
        refine hK17 _ _ _ (seq_step fun K18 hK18 => ?_)
        refine seq_step fun K19 hK19 => ?_
        conv => whnf
        refine opt_if ⟨by omega, by omega⟩ ?_
        conv => whnf
        refine opt_ldE rfl (v := iv 0) hcell ?_
        conv => whnf
        refine opt_if ⟨by omega, by omega⟩ ?_
        conv => whnf
        refine opt_ldE rfl (v := iv 0) hcell ?_
        conv => whnf
        refine hK19 _ _ _ ?_
        conv => whnf
        refine hK18 _ _ _ (seq_step fun K20 hK20 => ?_)
        conv => whnf
        refine opt_if ⟨by omega, by omega⟩ ?_
        conv => whnf
        refine opt_ldE rfl (v := iv 0) hcell ?_
        conv => whnf
        refine hK20 _ _ _ ?_
        conv => whnf
        refine hK12 _ _ _ ?_
        conv => whnf
        exact ⟨(k + 1, hs, g1), ⟨(show k + 1 ≤ len by omega), hok.mono, hg1⟩, (by show len - (k + 1) < len - k; omega), ⟨int_eq (wrap_nat (by omega)) rfl, rfl, rfl, rfl, trivial⟩, ⟨rfl, trivial⟩, rfl⟩
    refine seq_step fun K18 hK18 => ?_
    conv => whnf
    refine hK18 _ _ _ ?_
    refine cond_beq (fun hq3 => ?_) (fun hq3 => ?_)
    · -- a drop
      refine seq_step fun K17 hK17 => ?_
      conv => whnf
      refine drop8 hg hx (by omega) (fun hp g1 hg1 => ?_) (fun hz g1 hg1 => ?_)
      · have hokn := hok.set n (x - 1) (by omega) (by omega)
        conv => whnf
        refine hK17 _ _ _ (seq_step fun K18 hK18 => ?_)
        refine seq_step fun K19 hK19 => ?_
        conv => whnf
        refine opt_if ⟨by omega, by omega⟩ ?_
        conv => whnf
        refine opt_ldE rfl (v := iv x) hcell ?_
        conv => whnf
        rw [show decide (x > 0) = true from decide_eq_true hp]
        conv => whnf
        refine opt_if ⟨by omega, by omega⟩ ?_
        conv => whnf
        refine opt_ldE rfl (v := iv x) hcell ?_
        conv => whnf
        rw [show (x == 0) = false from beq_false_of_ne (by omega)]
        conv => whnf
        refine opt_if ⟨by omega, by omega⟩ ?_
        conv => whnf
        refine opt_ldE rfl (v := iv x) hcell ?_
        conv => whnf
        rw [show (x == 1) = decide (x = 1) from rfl]
        rw [beq_self_eq_true (decide (x = 1))]
        refine hK19 _ _ _ ?_
        conv => whnf
        refine hK18 _ _ _ (seq_step fun K20 hK20 => ?_)
        conv => whnf
        refine opt_if ⟨by omega, by omega⟩ ?_
        conv => whnf
        refine opt_ldE rfl (v := iv x) hcell ?_
        conv => whnf
        refine hK20 _ _ _ ?_
        refine cond_dec (fun _ => ?_) (fun e => absurd hp e)
        conv => whnf
        refine opt_if ⟨by omega, by omega⟩ ?_
        conv => whnf
        refine opt_ldE rfl (v := iv x) hcell ?_
        conv => whnf
        rw [show IntKind.i64.wrap (x - 1) = x - 1 from wrap_i64 (by omega) (by omega)]
        refine opt_if ⟨by omega, by omega⟩ ?_
        conv => whnf
        refine opt_stE rfl (by rw [hmap]; omega) rfl rfl ?_
        rw [show 0 + (n : Int).toNat * 1 = n by omega]
        conv => whnf
        refine hK12 _ _ _ ?_
        conv => whnf
        exact ⟨(k + 1, hs.set n (x - 1), g1), ⟨(show k + 1 ≤ len by omega), hokn, hg1⟩, (by show len - (k + 1) < len - k; omega), ⟨int_eq (wrap_nat (by omega)) rfl, rfl, rfl, rfl, trivial⟩, ⟨by rw [List.map_set]; rfl, trivial⟩, rfl⟩
      · subst hz
        conv => whnf
        refine hK17 _ _ _ (seq_step fun K18 hK18 => ?_)
        refine seq_step fun K19 hK19 => ?_
        conv => whnf
        refine opt_if ⟨by omega, by omega⟩ ?_
        conv => whnf
        refine opt_ldE rfl (v := iv 0) hcell ?_
        conv => whnf
        refine opt_if ⟨by omega, by omega⟩ ?_
        conv => whnf
        refine opt_ldE rfl (v := iv 0) hcell ?_
        conv => whnf
        refine opt_if ⟨by omega, by omega⟩ ?_
        conv => whnf
        refine opt_ldE rfl (v := iv 0) hcell ?_
        conv => whnf
        refine hK19 _ _ _ ?_
        conv => whnf
        refine hK18 _ _ _ (seq_step fun K20 hK20 => ?_)
        conv => whnf
        refine opt_if ⟨by omega, by omega⟩ ?_
        conv => whnf
        refine opt_ldE rfl (v := iv 0) hcell ?_
        conv => whnf
        refine hK20 _ _ _ ?_
        conv => whnf
        refine hK12 _ _ _ ?_
        conv => whnf
        exact ⟨(k + 1, hs, g1), ⟨(show k + 1 ≤ len by omega), hok.mono, hg1⟩, (by show len - (k + 1) < len - k; omega), ⟨int_eq (wrap_nat (by omega)) rfl, rfl, rfl, rfl, trivial⟩, ⟨rfl, trivial⟩, rfl⟩
    conv => whnf
    refine hK12 _ _ _ ?_
    conv => whnf
    exact ⟨(k + 1, hs, g), ⟨(show k + 1 ≤ len by omega), hok.mono, hg⟩, (by show len - (k + 1) < len - k; omega), ⟨int_eq (wrap_nat (by omega)) rfl, rfl, rfl, rfl, trivial⟩, ⟨rfl, trivial⟩, rfl⟩
  · conv => whnf
    refine hK8 _ _ _ (seq_step fun K10 hK10 => ?_)
    conv => whnf
    refine list9 hg fun l s g1 hok2 hg1 => ?_
    obtain ⟨bs, cp, hss⟩ := hg1.slv 0 rfl
    subst hss
    have hl1 := hok2.len
    have hmle := List.length_filterMap_le (id : Option Ext → Option Ext) l
    conv => whnf
    refine hK10 _ _ _ (seq_step fun K12 hK12 => ?_)
    conv => whnf
    refine hK12 _ _ _ (seq_step fun K13 hK13 => ?_)
    refine seq_step fun K14 hK14 => ?_
    conv => whnf
    refine hK14 _ _ _ ?_
    refine loop_intro (σ := Nat) (fun n => [(18, .v (iv n)), (17, .v (iv (tkE l n).length)), (16, .v (.slice bs (l.filterMap id).length cp)), (5, .l 5 0), (4, .v (ptr t))]) (fun _ => [(5, hs.map iv)]) (fun _ => g1)
      (fun n => n ≤ 32) (fun n => 32 - n) 0 (Nat.zero_le _)
      ⟨rfl, rfl, rfl, rfl, rfl, trivial⟩ ⟨rfl, trivial⟩ rfl ?_
    intro n hn
    dsimp only at hn ⊢
    refine seq_step fun K15 hK15 => ?_
    refine seq_step fun K16 hK16 => ?_
    conv => whnf
    refine hK16 _ _ _ ?_
    refine cond_dec (fun hlt2 => ?_) (fun hlt2 => ?_)
    · obtain ⟨x, hx⟩ : ∃ x, hs[n]? = some x := ⟨_, List.getElem?_eq_getElem (by omega)⟩
      obtain ⟨hx0, hxl⟩ := hok2.at_ n x hx
      have hcell : (hs.map iv)[0 + (n : Int).toNat * 1]? = some (iv x) := by rw [show 0 + (n : Int).toNat * 1 = n by omega, List.getElem?_map, hx]; rfl
      have htl := tk_le l n
      conv => whnf
      refine hK15 _ _ _ (seq_step fun K17 hK17 => ?_)
      refine seq_step fun K18 hK18 => ?_
      conv => whnf
      refine opt_if ⟨by omega, by omega⟩ ?_
      conv => whnf
      refine opt_ldE rfl (v := iv x) hcell ?_
      conv => whnf
      refine hK18 _ _ _ ?_
      refine cond_dec (fun hp => ?_) (fun hp => ?_)
      · rw [plE, if_pos hp] at hxl
        have hget := tk_get hxl
        have hkm := (List.getElem?_eq_some_iff.1 hget).1
        have etk := tk_step (l := l) (c := (n : Int)) (k := n) (by omega) (Int.le_refl _) (fun j h1 h2 => by omega) hxl
        obtain ⟨b3, o3, c3, ty3, z3, _, ew, hb3, hsz3, hc3⟩ := (hg1.wn 0 rfl).at (i := (tkE l n).length) hkm
        cases ew
        refine seq_step fun K19 hK19 => ?_
        refine seq_step fun K20 hK20 => ?_
        conv => whnf
        rw [show decide (((tkE l n).length : Int) ≥ ((l.filterMap id).length : Int)) = false from decide_eq_false (by omega)]
        conv => whnf
        refine opt_if ⟨by omega, by omega⟩ ?_
        conv => whnf
        have hkk : (tkE l n).length * 3 + 3 ≤ (l.filterMap id).length * 3 := by omega
        refine opt_ld hb3 (v := .agg (rowX ((n : Int), 7, x)).toArray) (agg_rd rfl (by omega) fun j v hj => ?_) ?_
        · rw [show o3 + ((tkE l n).length : Int).toNat * 3 + j = o3 + (tkE l n).length * 3 + j by omega]
          have hj3 : j < 3 := (List.getElem?_eq_some_iff.1 hj).1
          exact hc3 j v (by rw [flat_get rowX_len _ _ _ _ hget hj3]; exact hj)
        conv => whnf
        refine opt_if ⟨by omega, by omega⟩ ?_
        conv => whnf
        refine opt_ldE rfl (v := iv x) hcell ?_
        conv => whnf
        have hbb : (((n : Int), (7 : Int), x).fst == (n : Int) && (((n : Int), (7 : Int), x).snd.fst == 7 && (((n : Int), (7 : Int), x).snd.snd == x && true))) = true := by simp
        rw [hbb]
        refine hK20 _ _ _ ?_
        conv => whnf
        refine hK19 _ _ _ ?_
        conv => whnf
        refine hK17 _ _ _ ?_
        conv => whnf
        exact ⟨n + 1, (show n + 1 ≤ 32 by omega), (by show 32 - (n + 1) < 32 - n; omega), ⟨int_eq (wrap_nat (by omega)) rfl, int_eq (by
          have e4 : (tkE l ((n + 1 : Nat) : Int)).length = (tkE l n).length + 1 := by
            rw [show ((n + 1 : Nat) : Int) = (n : Int) + 1 by omega, etk, List.length_append]; rfl
          rw [e4]; exact wrap_nat (by omega)) rfl, rfl, rfl, rfl, trivial⟩, ⟨rfl, trivial⟩, rfl⟩
      · rw [plE, if_neg hp] at hxl
        have etk := tk_skip hxl
        conv => whnf
        refine hK17 _ _ _ ?_
        conv => whnf
        exact ⟨n + 1, (show n + 1 ≤ 32 by omega), (by show 32 - (n + 1) < 32 - n; omega), ⟨int_eq (wrap_nat (by omega)) rfl, int_eq (by rw [← etk]; rfl) rfl, rfl, rfl, rfl, trivial⟩, ⟨rfl, trivial⟩, rfl⟩
    · have hn32 : n = 32 := by omega
      subst hn32
      have hall : tkE l ((32 : Nat) : Int) = l.filterMap id := (tk_end (by omega) fun j h1 h2 => by omega).symm
      rw [hall]
      conv => whnf
      refine hK13 _ _ _ (seq_step fun K17 hK17 => ?_)
      conv => whnf
      refine claim6 rfl (hg1.pull 1 rfl) (fun k2 hk1 hk2 g2 hg2 => ?_) (fun hall2 g2 hg2 => ?_)
      · have hlt3 : (l.filterMap id).length < 32 := by
          have h4 := (hok2.at_ k2 0 hk2).2
          rw [plE, if_neg (by omega)] at h4
          have := filt_lt (List.mem_of_getElem? h4)
          omega
        conv => whnf
        refine hK17 _ _ _ ?_
        conv => whnf
        rw [beq_self_eq_true ((l.filterMap id).length : Int)]
        conv => whnf
        rw [show decide (((l.filterMap id).length : Int) < 32) = true from decide_eq_true (by omega)]
        conv => whnf
        exact hq _ (hg2.is 2 rfl)
      · have hall3 : (l.filterMap id).length = 32 := by
          rw [filt_all fun x hx => ?_, hl1]
          obtain ⟨j, hj⟩ := List.getElem?_of_mem hx
          have hj32 := (List.getElem?_eq_some_iff.1 hj).1
          have hy := List.getElem?_eq_getElem (l := hs) (i := j) (by omega)
          have h4 := (hok2.at_ j _ hy).2
          rw [plE, if_pos (hall2 j _ hy), hj] at h4
          cases h4
          rfl
        conv => whnf
        refine hK17 _ _ _ ?_
        conv => whnf
        rw [beq_self_eq_true ((l.filterMap id).length : Int)]
        conv => whnf
        rw [show decide (((l.filterMap id).length : Int) < 32) = false from decide_eq_false (by omega)]
        conv => whnf
        exact hq _ (hg2.is 2 rfl)

end
end Go.Proofs.Ythblnoidhehenaa.V
-- 1795186540
