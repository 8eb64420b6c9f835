/- Seat 08: the bounded table of capabilities' cells: what each function does. -/
import Derived.Test.YthpkgkoojhgedaaDoorK1
import Derived.Test.YthpkgkoojhgedaaDoorVC
import Derived.Test.YthpkgkoojhgedaaDoorU5
import Derived.Test.YthpkgkoojhgedaaDoorU8
namespace Go.Proofs.YthpkgkoojhgedaaDoor.V
set_option linter.unusedVariables false
set_option linter.unusedSimpArgs false
set_option linter.unusedSectionVars false
set_option linter.unusedSectionVars false
open Go

def rowP : Option Nat → List Value
  | none => [.bool false, .pointer none]
  | some v => [.bool true, ptr v]

theorem rowP_len (x : Option Nat) : (rowP x).length = 2 := by cases x <;> rfl

theorem rowP_val {l : List (Option Nat)} {k : Nat} {v : Nat} (hk : l[k]? = some (some v)) : rd (l.flatMap rowP).toArray (0 + (k : Int).toNat * 2 + 1) 1 false = some (ptr v) :=
  rd1_at rowP_len hk 1 (ptr v) rfl (by omega) 1


section
variable {h : Hp} {Q : Value → Hp → Prop} {p d : Nat} {l : List (Option Nat)}

theorem tnew (a : Int) (hq : ∀ p d h', TabAt rowP h' p d (List.replicate (min (max a 0) 4096).toNat none) → But2 h h' p d → h p = none → h d = none → Q (ptr p) h') : Ok PR 70 [iv a] h Q := by
  refine e70 rfl ?_
  conv => whnf
  generalize hm : (if (4096 : Int) < (if a < 0 then 0 else a) then (4096 : Int) else (if a < 0 then 0 else a)) = m
  have hm2 : m = min (max a 0) 4096 := by subst hm; omega
  refine ⟨by omega, by omega, by omega, by omega, ?_⟩
  refine .intro fun d hd => ?_
  conv => whnf
  refine .intro fun p hp => ?_
  conv => whnf
  obtain ⟨np, hp0⟩ := upd_none hp
  subst hm2
  refine hq p d _ ⟨0, ⟨124, ?_⟩, ⟨121, ?_⟩, Nat.zero_le _, fun j hj => absurd hj (Nat.not_lt_zero _), ?_, np⟩ (fun x hx hx2 => ?_) hp0 hd
  · rw [upd_same, List.length_replicate, cnt_repl]; rfl
  · rw [upd_other (Ne.symm np), upd_same, ← flat_reps]; rfl
  · rw [List.length_replicate]; omega
  · rw [upd_other hx, upd_other hx2]

theorem tlen (hT : TabAt rowP h p d l) (hq : Q (iv (cnt l)) h) : Ok PR 56 [ptr p] h Q := by
  obtain ⟨low, hT⟩ := hT
  obtain ⟨ty, hc⟩ := hT.cell
  refine e56 rfl ?_
  conv => whnf
  refine opt_ld hc rfl ?_
  conv => whnf
  exact hq

theorem tbound (hT : TabAt rowP h p d l) (hq : Q (iv l.length) h) : Ok PR 55 [ptr p] h Q := by
  obtain ⟨low, hT⟩ := hT
  obtain ⟨ty, hc⟩ := hT.cell
  refine e55 rfl ?_
  conv => whnf
  refine opt_ld hc rfl ?_
  conv => whnf
  exact hq

theorem thas (hT : TabAt rowP h p d l) (i : Int) (hq : Q (.bool (got l i).isSome) h) : Ok PR 92 [ptr p, iv i] h Q := by
  obtain ⟨low, hT⟩ := hT
  obtain ⟨ty, hc⟩ := hT.cell
  obtain ⟨ty2, hd⟩ := hT.data
  refine e92 rfl ?_
  conv => whnf
  by_cases h0 : 0 ≤ i
  · obtain ⟨k, rfl⟩ := Int.eq_ofNat_of_zero_le h0
    rw [show decide ((k : Int) ≥ 0) = true from decide_eq_true h0]
    conv => whnf
    refine opt_ld hc rfl ?_
    conv => whnf
    by_cases h1 : k < l.length
    · rw [show decide ((k : Int) < (l.length : Int)) = true from decide_eq_true (by omega)]
      conv => whnf
      refine opt_ld hc rfl ?_
      conv => whnf
      refine opt_if ⟨by omega, by omega⟩ ?_
      conv => whnf
      have hk : l[k]? = some l[k] := List.getElem?_eq_getElem h1
      rw [got_nat, hk] at hq
      cases hx : l[k] with
      | none =>
        rw [hx] at hk hq
        refine opt_ld hd (v := .bool false) (rd1_at rowP_len hk 0 (.bool false) rfl (by omega) 1) ?_
        conv => whnf
        exact hq
      | some v =>
        rw [hx] at hk hq
        refine opt_ld hd (v := .bool true) (rd1_at rowP_len hk 0 (.bool true) rfl (by omega) 1) ?_
        conv => whnf
        exact hq
    · rw [show decide ((k : Int) < (l.length : Int)) = false from decide_eq_false (by omega)]
      conv => whnf
      rw [got_big (by omega)] at hq
      exact hq
  · rw [show decide (i ≥ 0) = false from decide_eq_false h0]
    conv => whnf
    rw [got_neg (by omega)] at hq
    exact hq

theorem tget (hT : TabAt rowP h p d l) (i : Int) (h1 : ∀ v, got l i = some v → Q (.tuple #[ptr v, .bool true]) h) (h2 : got l i = none → Q (.tuple #[(.pointer none), .bool false]) h) : Ok PR 71 [ptr p, iv i] h Q := by
  refine e71 rfl ?_
  conv => whnf
  refine thas hT i ?_
  cases hg : got l i with
  | none =>
    conv => whnf
    exact h2 hg
  | some v =>
    obtain ⟨low, hT⟩ := hT
    obtain ⟨ty, hc⟩ := hT.cell
    obtain ⟨ty2, hd⟩ := hT.data
    obtain ⟨k, rfl, hkl, hk⟩ := got_some hg
    conv => whnf
    refine opt_ld hc rfl ?_
    conv => whnf
    refine opt_if ⟨by omega, by omega⟩ ?_
    conv => whnf
    refine opt_ld hd (v := ptr v) (rowP_val hk) ?_
    conv => whnf
    exact h1 v hg

theorem tlay {low : Nat} (hT : TabLow rowP h p d l low) {k : Nat} (v : Nat) (hk : l[k]? = some none) (hq : ∀ h', TabLow rowP h' p d (l.set k (some v)) low → But2 h h' p d → Q (.tuple #[]) h') : Ok PR 93 [ptr p, iv k, ptr v] h Q := by
  have hkl : k < l.length := (List.getElem?_eq_some_iff.1 hk).1
  have hcl := cnt_le l
  have hbd := hT.bound
  obtain ⟨ty, hc⟩ := hT.cell
  obtain ⟨ty2, hd⟩ := hT.data
  refine e93 rfl ?_
  conv => whnf
  refine opt_ld hc rfl ?_
  conv => whnf
  refine opt_if ⟨by omega, by omega⟩ ?_
  conv => whnf
  refine opt_st (x := .agg (rowP (some v)).toArray) hd rfl ?_ (.inl (Nat.zero_le _)) rfl ?_
  · simp only [List.size_toArray, flat_len rowP_len]
    have : k * 2 + 2 ≤ l.length * 2 := by rw [← Nat.succ_mul]; exact Nat.mul_le_mul_right _ hkl
    show 0 + k * 2 + 2 ≤ _
    omega
  rw [show (wr (l.flatMap rowP).toArray (0 + (k : Int).toNat * 2) (Value.agg (rowP (some v)).toArray).cells.toList) = ((l.set k (some v)).flatMap rowP).toArray from wr_at rowP_len (some v) hkl]
  conv => whnf
  have hc' : upd h d (.cells ((l.set k (some v)).flatMap rowP).toArray ty2 (0, 0)) p = some (.cells #[.slice (some ⟨d, 0, none⟩) l.length l.length, iv (cnt l), iv low] ty (0, 0)) := by rw [upd_other hT.ne]; exact hc
  refine opt_ld hc' rfl ?_
  conv => whnf
  refine opt_st (x := iv (IntKind.i64.wrap ((cnt l : Int) + 1))) hc' rfl (by simp) (.inl (Nat.zero_le _)) rfl ?_
  conv => whnf
  refine hq _ ⟨⟨ty, ?_⟩, ⟨ty2, ?_⟩, by rw [List.length_set]; exact hT.lo, fun j hj => ?_, by rw [List.length_set]; exact hT.bound, hT.ne⟩ (fun x hx hx2 => by rw [upd_other hx, upd_other hx2])
  · rw [upd_same, cnt_set_some hk, List.length_set, wrap_nat (by omega)]; rfl
  · rw [upd_other (Ne.symm hT.ne), upd_same]
  · rw [List.getElem?_set]
    split
    · rename_i e; subst e; simp
    · exact hT.full j hj

theorem tputat (hT : TabAt rowP h p d l) (i : Int) (v : Nat) (h1 : (i < 0 ∨ l.length ≤ i) → Q (iv 30) h) (h2 : ∀ w, got l i = some w → Q (iv 31) h)
    (h3 : ∀ k : Nat, i = k → l[k]? = some none → ∀ h', TabAt rowP h' p d (l.set k (some v)) → But2 h h' p d → Q (iv 0) h') : Ok PR 72 [ptr p, iv i, ptr v] h Q := by
  obtain ⟨low, hT⟩ := hT
  obtain ⟨ty, hc⟩ := hT.cell
  obtain ⟨ty2, hd⟩ := hT.data
  refine e72 rfl ?_
  conv => whnf
  by_cases h0 : i < 0
  · rw [show decide (i < 0) = true from decide_eq_true h0]
    conv => whnf
    exact h1 (.inl h0)
  · obtain ⟨k, rfl⟩ := Int.eq_ofNat_of_zero_le (show 0 ≤ i by omega)
    rw [show decide ((k : Int) < 0) = false from decide_eq_false h0]
    conv => whnf
    refine opt_ld hc rfl ?_
    conv => whnf
    by_cases hkl : k < l.length
    · rw [show decide ((k : Int) ≥ (l.length : Int)) = false from decide_eq_false (by omega)]
      conv => whnf
      refine opt_ld hc rfl ?_
      conv => whnf
      refine opt_if ⟨by omega, by omega⟩ ?_
      conv => whnf
      have hk : l[k]? = some l[k] := List.getElem?_eq_getElem hkl
      cases hx : l[k] with
      | some w =>
        rw [hx] at hk
        refine opt_ld hd (v := .bool true) (rd1_at rowP_len hk 0 (.bool true) rfl (by omega) 1) ?_
        conv => whnf
        exact h2 w (by rw [got_nat, hk])
      | none =>
        rw [hx] at hk
        refine opt_ld hd (v := .bool false) (rd1_at rowP_len hk 0 (.bool false) rfl (by omega) 1) ?_
        conv => whnf
        refine tlay hT v hk fun h' hT' hb => ?_
        conv => whnf
        exact h3 k rfl hk h' ⟨low, hT'⟩ hb
    · rw [show decide ((k : Int) ≥ (l.length : Int)) = true from decide_eq_true (by omega)]
      conv => whnf
      exact h1 (.inr (by omega))

theorem tnext (hT : TabAt rowP h p d l) (i : Int) (h1 : ∀ k v, i ≤ (k : Nat) → (∀ j : Nat, i ≤ j → j < k → l[j]? = some none) → l[k]? = some (some v) → Q (iv k) h)
    (h2 : (∀ j : Nat, i ≤ j → j < l.length → l[j]? = some none) → Q (iv (-1)) h) : Ok PR 78 [ptr p, iv i] h Q := by
  obtain ⟨low, hT⟩ := hT
  obtain ⟨ty, hc⟩ := hT.cell
  obtain ⟨ty2, hd⟩ := hT.data
  have hbd := hT.bound
  refine e78 rfl ?_
  conv => whnf
  generalize hm : (if i < 0 then 0 else i) = m
  obtain ⟨s, rfl⟩ := Int.eq_ofNat_of_zero_le (show 0 ≤ m by subst hm; split <;> omega)
  have hs : ∀ j : Nat, i ≤ j ↔ s ≤ j := fun j => by split at hm <;> omega
  refine loop_intro (σ := Nat) (fun k => [(5, .v (iv k)), (0, .v (ptr p))]) (fun _ => []) (fun _ => h) (fun k => s ≤ k ∧ (∀ j : Nat, s ≤ j → j < k → l[j]? = some none ∨ l.length ≤ j)) (fun k => l.length - k) s ⟨Nat.le_refl _, fun j h1 h2 => by omega⟩ (subE_cons rfl (subE_cons rfl subE_nil)) subB_nil rfl ?_
  intro k hk
  conv => whnf
  refine opt_ld hc rfl ?_
  conv => whnf
  refine cond_dec (fun hlt => ?_) (fun hge => ?_)
  · have hkl : k < l.length := by omega
    conv => whnf
    refine opt_ld hc rfl ?_
    conv => whnf
    refine opt_if ⟨by omega, by omega⟩ ?_
    conv => whnf
    have hkk : l[k]? = some l[k] := List.getElem?_eq_getElem hkl
    cases hx : l[k] with
    | some w =>
      rw [hx] at hkk
      refine opt_ld hd (v := .bool true) (rd1_at rowP_len hkk 0 (.bool true) rfl (by omega) 1) ?_
      conv => whnf
      exact h1 k w ((hs k).2 hk.1) (fun j h1 h2 => (hk.2 j ((hs j).1 h1) h2).resolve_right (by omega)) hkk
    | none =>
      rw [hx] at hkk
      refine opt_ld hd (v := .bool false) (rd1_at rowP_len hkk 0 (.bool false) rfl (by omega) 1) ?_
      conv => whnf
      refine ⟨k + 1, ⟨by omega, fun j h1 h2 => ?_⟩, by omega, subE_cons (int_eq (wrap_nat (by omega)) rfl) (subE_cons rfl subE_nil), subB_nil, rfl⟩
      by_cases hj : j = k
      · subst hj; exact .inl hkk
      · exact hk.2 j h1 (by omega)
  · conv => whnf
    exact h2 fun j h1 h2 => (hk.2 j ((hs j).1 h1) (by omega)).resolve_right (by omega)

theorem tput (hT : TabAt rowP h p d l) (v : Nat) (h1 : ∀ k : Nat, (∀ j, j < k → l[j]? ≠ some none) → l[k]? = some none → ∀ h', TabAt rowP h' p d (l.set k (some v)) → But2 h h' p d → Q (.tuple #[iv k, iv 0]) h')
    (h2 : (∀ j, j < l.length → l[j]? ≠ some none) → ∀ h', TabAt rowP h' p d l → But2 h h' p d → Q (.tuple #[iv (-1), iv 2]) h') : Ok PR 73 [ptr p, ptr v] h Q := by
  obtain ⟨low0, hT⟩ := hT
  have hbd := hT.bound
  refine e73 rfl ?_
  conv => whnf
  refine loop_intro (σ := Nat × Hp) (fun _ => [(0, .v (ptr p)), (1, .v (ptr v))]) (fun _ => []) (fun s => s.2) (fun s => TabLow rowP s.2 p d l s.1 ∧ But2 h s.2 p d) (fun s => l.length - s.1) (low0, h) ⟨hT, But2.refl _ _ _⟩ (subE_cons rfl (subE_cons rfl subE_nil)) subB_nil rfl ?_
  rintro ⟨low, g⟩ ⟨hT, hb⟩
  dsimp only at hT hb ⊢
  obtain ⟨ty, hc⟩ := hT.cell
  obtain ⟨ty2, hd⟩ := hT.data
  have hlo := hT.lo
  have hwr : ∀ x : Int, upd g p (.cells (wr #[.slice (some ⟨d, 0, none⟩) l.length l.length, iv (cnt l), iv low] (0 + 2) [iv x]) ty (0, 0)) p = some (.cells #[.slice (some ⟨d, 0, none⟩) l.length l.length, iv (cnt l), iv x] ty (0, 0)) := fun x => by rw [upd_same]; rfl
  conv => whnf
  refine opt_ld hc rfl ?_
  conv => whnf
  refine opt_ld hc rfl ?_
  conv => whnf
  by_cases hlt : low < l.length
  · rw [show decide ((low : Int) < (l.length : Int)) = true from decide_eq_true (by omega)]
    conv => whnf
    refine opt_ld hc rfl ?_
    conv => whnf
    refine opt_ld hc rfl ?_
    conv => whnf
    refine opt_if ⟨by omega, by omega⟩ ?_
    conv => whnf
    have hk : l[low]? = some l[low] := List.getElem?_eq_getElem hlt
    cases hx : l[low] with
    | some w =>
      rw [hx] at hk
      refine opt_ld hd (v := .bool true) (rd1_at rowP_len hk 0 (.bool true) rfl (by omega) 1) ?_
      conv => whnf
      refine opt_ld hc rfl ?_
      conv => whnf
      refine opt_st (x := iv (IntKind.i64.wrap ((low : Int) + 1))) hc rfl (by simp) (.inl (Nat.zero_le _)) rfl ?_
      conv => whnf
      refine ⟨(low + 1, _), ⟨⟨⟨ty, ?_⟩, ⟨ty2, ?_⟩, hlt, fun j hj => ?_, hT.bound, hT.ne⟩, ?_⟩, by omega, subE_cons rfl (subE_cons rfl subE_nil), subB_nil, rfl⟩
      · dsimp only; rw [upd_same, wrap_nat (by omega)]; rfl
      · dsimp only; rw [upd_other (Ne.symm hT.ne)]; exact hd
      · rcases Nat.lt_succ_iff_lt_or_eq.1 hj with hj | rfl
        · exact hT.full j hj
        · rw [hk]; simp
      · exact hb.trans (But2.updP _ _ _ _)
    | none =>
      rw [hx] at hk
      refine opt_ld hd (v := .bool false) (rd1_at rowP_len hk 0 (.bool false) rfl (by omega) 1) ?_
      conv => whnf
      refine opt_ld hc rfl ?_
      conv => whnf
      refine opt_ld hc rfl ?_
      conv => whnf
      rw [show ((low : Int) == (l.length : Int)) = false from by simp; omega]
      conv => whnf
      refine opt_ld hc rfl ?_
      conv => whnf
      refine tlay hT v hk fun h' hT' hb' => ?_
      conv => whnf
      exact h1 low hT.full hk h' ⟨low, hT'⟩ (hb.trans hb')
  · have heq : low = l.length := by omega
    rw [show decide ((low : Int) < (l.length : Int)) = false from decide_eq_false (by omega)]
    conv => whnf
    refine opt_ld hc rfl ?_
    conv => whnf
    refine opt_ld hc rfl ?_
    conv => whnf
    rw [show ((low : Int) == (l.length : Int)) = true from by simp; omega]
    conv => whnf
    exact h2 (heq ▸ hT.full) g ⟨low, hT⟩ hb

theorem tdrop (hT : TabAt rowP h p d l) (i : Int) (h1 : ∀ k v, i = (k : Nat) → l[k]? = some (some v) → ∀ h', TabAt rowP h' p d (l.set k none) → But2 h h' p d → Q (.tuple #[ptr v, .bool true]) h')
    (h2 : got l i = none → Q (.tuple #[(.pointer none), .bool false]) h) : Ok PR 74 [ptr p, iv i] h Q := by
  refine e74 rfl ?_
  conv => whnf
  refine thas hT i ?_
  cases hg : got l i with
  | none =>
    conv => whnf
    exact h2 hg
  | some v =>
    obtain ⟨low, hT⟩ := hT
    obtain ⟨ty, hc⟩ := hT.cell
    obtain ⟨ty2, hd⟩ := hT.data
    have hbd := hT.bound
    have hcl := cnt_le l
    obtain ⟨k, rfl, hkl, hk⟩ := got_some hg
    have hcs := cnt_set_none hk
    conv => whnf
    refine opt_ld hc rfl ?_
    conv => whnf
    refine opt_if ⟨by omega, by omega⟩ ?_
    conv => whnf
    refine opt_ld hd (v := ptr v) (rowP_val hk) ?_
    conv => whnf
    refine opt_ld hc rfl ?_
    conv => whnf
    refine opt_if ⟨by omega, by omega⟩ ?_
    conv => whnf
    refine opt_st (x := .agg (rowP none).toArray) hd rfl ?_ (.inl (Nat.zero_le _)) rfl ?_
    · simp only [List.size_toArray, flat_len rowP_len]
      have : k * 2 + 2 ≤ l.length * 2 := by rw [← Nat.succ_mul]; exact Nat.mul_le_mul_right _ hkl
      show 0 + k * 2 + 2 ≤ _
      omega
    rw [show (wr (l.flatMap rowP).toArray (0 + (k : Int).toNat * 2) (Value.agg (rowP none).toArray).cells.toList) = ((l.set k none).flatMap rowP).toArray from wr_at rowP_len none hkl]
    conv => whnf
    have hc1 : upd h d (.cells ((l.set k none).flatMap rowP).toArray ty2 (0, 0)) p = some (.cells #[.slice (some ⟨d, 0, none⟩) l.length l.length, iv (cnt l), iv low] ty (0, 0)) := by rw [upd_other hT.ne]; exact hc
    refine opt_ld hc1 rfl ?_
    conv => whnf
    refine opt_st (x := iv (IntKind.i64.wrap ((cnt l : Int) - 1))) hc1 rfl (by simp) (.inl (Nat.zero_le _)) rfl ?_
    conv => whnf
    have hc2 : upd (upd h d (.cells ((l.set k none).flatMap rowP).toArray ty2 (0, 0))) p (.cells (wr #[.slice (some ⟨d, 0, none⟩) l.length l.length, iv (cnt l), iv low] (0 + 1) (iv (IntKind.i64.wrap ((cnt l : Int) - 1))).cells.toList) ty (0, 0)) p = some (.cells #[.slice (some ⟨d, 0, none⟩) l.length l.length, iv (IntKind.i64.wrap ((cnt l : Int) - 1)), iv low] ty (0, 0)) := by rw [upd_same]; rfl
    refine opt_ld hc2 rfl ?_
    conv => whnf
    refine opt_st (x := iv (if (k : Int) < (low : Int) then (k : Int) else (low : Int))) hc2 rfl (by simp) (.inl (Nat.zero_le _)) rfl ?_
    conv => whnf
    refine h1 k v rfl hk _ ⟨min low k, ⟨ty, ?_⟩, ⟨ty2, ?_⟩, by rw [List.length_set]; omega, fun j hj => ?_, by rw [List.length_set]; exact hbd, hT.ne⟩ (fun x hx hx2 => by rw [upd_other hx, upd_other hx, upd_other hx2])
    · rw [upd_same, List.length_set, show ((cnt (l.set k none) : Nat) : Int) = IntKind.i64.wrap ((cnt l : Int) - 1) from by rw [wrap_i64 (by omega) (by omega)]; omega,
        show ((min low k : Nat) : Int) = (if (k : Int) < (low : Int) then (k : Int) else (low : Int)) from by split <;> omega]
      rfl
    · rw [upd_other (Ne.symm hT.ne), upd_other (Ne.symm hT.ne), upd_same]
    · rw [List.getElem?_set_ne (by omega)]; exact hT.full j (by omega)

end

end Go.Proofs.YthpkgkoojhgedaaDoor.V
