/- Seat 10: the table of extents by parts of a heap. -/
import Derived.Test.YthblnoidhehenaaG2
namespace Go.Proofs.Ythblnoidhehenaa.V
set_option linter.unusedVariables false
set_option linter.unusedSimpArgs false
set_option linter.unusedSectionVars false
set_option linter.unusedSectionVars false
open Go

def setE (l : List (Option Ext)) (i : Int) (v : Ext) : Bool × List (Option Ext) := if (got l i).isSome then (true, l.set i.toNat (some v)) else (false, l)

section
variable {h : Hp} {Q : Value → Hp → Prop} {p d : Nat} {l : List (Option Ext)}

theorem next20Q (hT : TabP rowE p l h) (i : Int) (hq : Q (iv (nextR l i)) h) : Ok PR 20 [ptr p, iv i] h Q := by
  obtain ⟨d, hT⟩ := hT
  refine next20 hT i (fun k v h1 h2 h3 => ?_) (fun h1 => ?_)
  · rw [nextR_some h1 h2 h3] at hq; exact hq
  · rw [nextR_none h1] at hq; exact hq

theorem put11S {k : Nat} (v : Ext) (h1 : ∀ j, j < k → l[j]? ≠ some none) (h2 : l[k]? = some none) : Sp PR 11 [ptr p, ee v] (TabP rowE p l) (X := Unit) (fun _ => .tuple #[iv k, iv 0]) (fun _ => TabP rowE p (l.set k (some v))) := by
  rintro h ⟨d, hT⟩
  refine put11 hT v (fun k' h3 h4 h' hT' _ => ?_) (fun h3 h' hT' _ => ?_)
  · have : k' = k := by
      rcases Nat.lt_trichotomy k' k with hl | hl | hl
      · exact absurd h4 (h1 _ hl)
      · exact hl
      · exact absurd h2 (h3 _ hl)
    subst this
    exact ⟨(), rfl, d, hT'⟩
  · exact absurd h2 (h3 k (List.getElem?_eq_some_iff.1 h2).1)

theorem put11F (v : Ext) (h1 : ∀ j, j < l.length → l[j]? ≠ some none) : Sp PR 11 [ptr p, ee v] (TabP rowE p l) (X := Unit) (fun _ => .tuple #[iv (-1), iv 2]) (fun _ => TabP rowE p l) := by
  rintro h ⟨d, hT⟩
  refine put11 hT v (fun k' h3 h4 h' hT' _ => ?_) (fun h3 h' hT' _ => ?_)
  · exact absurd h4 (h1 _ (List.getElem?_eq_some_iff.1 h4).1)
  · exact ⟨(), rfl, d, hT'⟩

theorem putat13S {k : Nat} (v : Ext) (h2 : l[k]? = some none) : Sp PR 13 [ptr p, iv k, ee v] (TabP rowE p l) (X := Unit) (fun _ => iv 0) (fun _ => TabP rowE p (l.set k (some v))) := by
  rintro h ⟨d, hT⟩
  have hk := (List.getElem?_eq_some_iff.1 h2).1
  refine putat13 hT k v (fun h1 => by omega) (fun w hw => ?_) (fun k' hk' hl h' hT' _ => ?_)
  · rw [got_nat, h2] at hw; cases hw
  · have : k' = k := by omega
    subst this
    exact ⟨(), rfl, d, hT'⟩

theorem putat13F {k : Nat} {w : Ext} (v : Ext) (h2 : l[k]? = some (some w)) : Sp PR 13 [ptr p, iv k, ee v] (TabP rowE p l) (X := Unit) (fun _ => iv 31) (fun _ => TabP rowE p l) := by
  rintro h ⟨d, hT⟩
  have hk := (List.getElem?_eq_some_iff.1 h2).1
  refine putat13 hT k v (fun h1 => by omega) (fun w hw => ⟨(), rfl, d, hT⟩) (fun k' hk' hl h' hT' _ => ?_)
  have : k' = k := by omega
  subst this
  rw [h2] at hl; cases hl

theorem get14S {k : Nat} {w : Ext} (h2 : l[k]? = some (some w)) : Sp PR 14 [ptr p, iv k] (TabP rowE p l) (X := Unit) (fun _ => .tuple #[ee w, .bool true]) (fun _ => TabP rowE p l) := by
  rintro h ⟨d, hT⟩
  refine get14 hT k (fun v hv => ?_) (fun hv => ?_)
  · rw [got_nat, h2] at hv; cases hv; exact ⟨(), rfl, d, hT⟩
  · rw [got_nat, h2] at hv; cases hv

theorem get14F {k : Nat} (h2 : l[k]? = some none) : Sp PR 14 [ptr p, iv k] (TabP rowE p l) (X := Unit) (fun _ => .tuple #[zee, .bool false]) (fun _ => TabP rowE p l) := by
  rintro h ⟨d, hT⟩
  refine get14 hT k (fun v hv => ?_) (fun hv => ?_)
  · rw [got_nat, h2] at hv; cases hv
  · exact ⟨(), rfl, d, hT⟩

theorem drop15S {k : Nat} {w : Ext} (h2 : l[k]? = some (some w)) : Sp PR 15 [ptr p, iv k] (TabP rowE p l) (X := Unit) (fun _ => .tuple #[ee w, .bool true]) (fun _ => TabP rowE p (l.set k none)) := by
  rintro h ⟨d, hT⟩
  refine drop15 hT k (fun k' v hk hl h' hT' _ => ?_) (fun hg => ?_)
  · have : k' = k := by omega
    subst this
    rw [h2] at hl; cases hl
    exact ⟨(), rfl, d, hT'⟩
  · rw [got_nat, h2] at hg; cases hg

theorem set12S (i : Int) (v : Ext) : Sp PR 12 [ptr p, iv i, ee v] (TabP rowE p l) (X := Unit) (fun _ => .bool (setE l i v).1) (fun _ => TabP rowE p (setE l i v).2) := by
  rintro h ⟨d, low, hT⟩
  obtain ⟨ty, hc⟩ := hT.cell
  obtain ⟨ty2, hd⟩ := hT.data
  refine e12 rfl ?_
  conv => whnf
  refine has18 ⟨low, hT⟩ i ?_
  cases hg : got l i with
  | none =>
    conv => whnf
    have : setE l i v = (false, l) := by simp [setE, hg]
    exact ⟨(), by rw [this]; rfl, d, by rw [this]; exact ⟨low, hT⟩⟩
  | some w =>
    obtain ⟨k, rfl, hkl, hk⟩ := got_some hg
    have : setE l (k : Int) v = (true, l.set k (some v)) := by simp [setE, hg]
    conv => whnf
    repeat (first | (refine opt_if ⟨by omega, by omega⟩ ?_; conv => whnf) | (refine opt_ld (by assumption) (by first | rfl | assumption) ?_; conv => whnf))
    refine opt_st (x := ee v) hd rfl ?_ (.inl (Nat.zero_le _)) rfl ?_
    · simp only [List.size_toArray, flat_len rowE_len]
      have : k * 4 + 4 ≤ l.length * 4 := by rw [← Nat.succ_mul]; exact Nat.mul_le_mul_right _ hkl
      show 0 + k * 4 + 1 + 3 ≤ _
      omega
    rw [show (wr (l.flatMap rowE).toArray (0 + (k : Int).toNat * 4 + 1) (ee v).cells.toList) = ((l.set k (some v)).flatMap rowE).toArray from by
      have := wr_part rowE_len (x := some v) hk 1 (ee v).cells.toList rfl (Nat.le_refl _)
      rwa [show 0 + (k : Int).toNat * 4 + 1 = k * 4 + 1 from by simp]]
    conv => whnf
    refine ⟨(), by rw [this]; rfl, d, ?_⟩
    rw [this]
    refine ⟨low, ⟨ty, ?_⟩, ⟨ty2, upd_same _ _ _⟩, by rw [List.length_set]; exact hT.lo, fun j hj => ?_, by rw [List.length_set]; exact hT.bound, hT.ne⟩
    · rw [upd_other hT.ne, cnt_set_same hk, List.length_set]; exact hc
    · rw [List.getElem?_set]
      split
      · simp
      · exact hT.full j hj

/-- All: a walk that knows where the table lies. -/
theorem all16H {L : List As} (hh : Has L h) (hq : ∀ b h', Has (Pt b (.cells #[ptr p] 47 (0, 0)) :: L) h' → SubH h h' → h b = none → Q (.func (.func 19) #[] #[ptr b]) h') : Ok PR 16 [ptr p] h Q := by
  refine e16 rfl ?_
  conv => whnf
  refine fresh_has hh fun b h' hb hn hs hh' => ?_
  conv => whnf
  exact hq b h' hh' hs hn

/-- The walk: Inv says what holds ahead of a look at c; each round is asked of yield. -/
theorem walk19 {l : Nat} {b p : Nat} {Qd : Hp → Prop} (Inv : Int → Hp → Prop)
    (hstep : ∀ c h, Inv c h → 0 ≤ c ∧ h b = some (.cells #[ptr p] 47 (0, 0)) ∧ ∃ L, TabP rowE p L h ∧
      ((nextR L c = -1 → Qd h) ∧ ∀ (k : Nat) v, nextR L c = k → L[k]? = some (some v) → OkY PR l [iv k, ee v] h (fun r h' => (r = .bool true ∧ Inv (k + 1) h') ∨ (r = .bool false ∧ Qd h'))))
    {h : Hp} (h0 : Inv 0 h) : Ok PR 19 [.func (.yield l) #[] #[], ptr b] h (fun v h' => Qd h') := by
  obtain ⟨_, hb, L, hT, hd, hs⟩ := hstep 0 h h0
  refine e19 rfl ?_
  conv => whnf
  refine opt_ld hb rfl ?_
  conv => whnf
  refine next20Q hT 0 ?_
  conv => whnf
  refine loop_intro (σ := Int × Hp) (fun s => [(3, .v (iv s.1)), (0, .v (.func (.yield l) #[] #[])), (1, .v (ptr b))]) (fun _ => []) (fun s => s.2)
    (fun s => ∃ c L, Inv c s.2 ∧ TabP rowE p L s.2 ∧ s.1 = nextR L c ∧ (s.1 = -1 → Qd s.2) ∧ ∀ (k : Nat) v, nextR L c = k → L[k]? = some (some v) → OkY PR l [iv k, ee v] s.2 (fun r h' => (r = .bool true ∧ Inv (k + 1) h') ∨ (r = .bool false ∧ Qd h')))
    (fun s => if s.1 < 0 then 0 else (4097 - s.1).toNat) (nextR L 0, h) ⟨0, L, h0, hT, rfl, hd, hs⟩
    (by repeat (first | exact trivial | refine ⟨rfl, ?_⟩ | refine ⟨int_eq (wrap_nat (by omega)) rfl, ?_⟩)) subB_nil rfl ?_
  rintro ⟨m, g⟩ ⟨c, L, hI, hT, hm, hd, hs⟩
  dsimp only at hI hT hm hd hs ⊢
  have hc0 := (hstep c g hI).1
  have hb := (hstep c g hI).2.1
  clear h0
  rcases nextR_spec L c with ⟨hn, _⟩ | ⟨k, v, hn, hck, _, hk⟩
  · rw [hn] at hm
    subst hm
    conv => whnf
    exact hd rfl
  · rw [hn] at hm
    subst hm
    have hkl : k < L.length := (List.getElem?_eq_some_iff.1 hk).1
    have hbd := hT.bound
    obtain ⟨d, low, hT'⟩ := hT
    obtain ⟨ty, hc⟩ := hT'.cell
    obtain ⟨ty2, hdd⟩ := hT'.data
    conv => whnf
    refine opt_ld hb rfl ?_
    conv => whnf
    refine opt_ld hc rfl ?_
    conv => whnf
    refine opt_if ⟨by omega, by omega⟩ ?_
    conv => whnf
    refine opt_ld hdd (v := ee v) (rowE_val hk) ?_
    conv => whnf
    refine (hs k v hn hk).mono fun r h' hr => ?_
    rcases hr with ⟨rfl, hI'⟩ | ⟨rfl, hQ⟩
    · obtain ⟨_, hb', L', hT2, hd2, hs2⟩ := hstep _ _ hI'
      conv => whnf
      refine opt_ld hb' rfl ?_
      conv => whnf
      refine next20Q hT2 _ ?_
      rw [wrap_nat (by omega)]
      conv => whnf
      have hlt : nextR L' ((k : Int) + 1) = -1 ∨ (k : Int) < nextR L' ((k : Int) + 1) ∧ nextR L' ((k : Int) + 1) < 4097 := by
        rcases nextR_spec L' ((k : Int) + 1) with ⟨e, _⟩ | ⟨k2, v2, e, h1, _, h2⟩
        · exact .inl e
        · have := (List.getElem?_eq_some_iff.1 h2).1
          have := hT2.bound
          exact .inr (by omega)
      refine ⟨(nextR L' ((k : Int) + 1), h'), ⟨_, L', hI', hT2, rfl, hd2, hs2⟩, ?_, (by repeat (first | exact trivial | refine ⟨rfl, ?_⟩ | refine ⟨int_eq (wrap_nat (by omega)) rfl, ?_⟩)), subB_nil, rfl⟩
      dsimp only
      rcases hlt with e | ⟨e1, e2⟩
      · rw [e, if_pos (show (-1 : Int) < 0 by decide), if_neg (show ¬ (k : Int) < 0 by omega)]; omega
      · rw [if_neg (show ¬ nextR L' ((k : Int) + 1) < 0 by omega), if_neg (show ¬ (k : Int) < 0 by omega)]; omega
    · conv => whnf
      exact hQ


end
end Go.Proofs.Ythblnoidhehenaa.V
