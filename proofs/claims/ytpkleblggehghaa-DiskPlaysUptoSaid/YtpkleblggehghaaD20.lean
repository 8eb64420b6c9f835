/- Seat 04: neighbours, what is kept last, what is among. -/
import Derived.Test.YtpkleblggehghaaD19
namespace Go.Proofs.Ytpkleblggehghaa.V
set_option linter.unusedVariables false
set_option linter.unusedSimpArgs false
set_option linter.unusedSectionVars false
set_option linter.unusedSectionVars false
open Go

/-- The neighbours. -/
def nxt (l : List PutD) : List PutD := l.map fun o => ⟨plc o.sector + 1, 0⟩

/-- The last write of a sector, of the first k, that is kept. -/
def lkp (l : List PutD) (ks : List Bool) (n : Int) : Nat → Int
  | 0 => -1
  | k + 1 => match l[k]? with
    | some y => if kept ks k = true ∧ plc y.sector = n then k else lkp l ks n k
    | none => lkp l ks n k

theorem kept_ge {ks : List Bool} {k : Nat} (h : ks.length ≤ k) : kept ks k = false := by
  unfold kept
  rw [List.getD_eq_getElem?_getD, List.getElem?_eq_none h]; rfl

theorem kept_lt {ks : List Bool} {k : Nat} (h : k < ks.length) : ks[k]? = some (kept ks k) := by
  unfold kept
  rw [List.getD_eq_getElem?_getD, List.getElem?_eq_getElem h]; rfl

theorem lkp_ge {l : List PutD} {ks : List Bool} {n : Int} {m : Nat} (h : ks.length ≤ m) : ∀ j, lkp l ks n (m + j) = lkp l ks n m
  | 0 => rfl
  | j + 1 => by
    show lkp l ks n (m + j + 1) = _
    simp only [lkp]
    split
    · rw [kept_ge (by omega), if_neg (by simp), lkp_ge h j]
    · exact lkp_ge h j

theorem lkp_lt (l : List PutD) (ks : List Bool) (n : Int) : ∀ k, -1 ≤ lkp l ks n k ∧ (lkp l ks n k < k) ∧ (0 ≤ lkp l ks n k → ∃ y, l[(lkp l ks n k).toNat]? = some y)
  | 0 => ⟨by simp [lkp], by simp [lkp], fun h => by simp [lkp] at h⟩
  | k + 1 => by
    obtain ⟨h1, h2, h3⟩ := lkp_lt l ks n k
    simp only [lkp]
    split
    · rename_i y hy
      split
      · exact ⟨by omega, by omega, fun _ => ⟨y, by simpa using hy⟩⟩
      · exact ⟨h1, by omega, h3⟩
    · exact ⟨h1, by omega, h3⟩

/-- What lies there behind the crash. -/
theorem drM_lkp {m : List Sec} {l : List PutD} {ks : List Bool} {n : Int} (hn : 0 ≤ n) (hm : n.toNat < m.length) : ∀ k, k ≤ l.length →
    (drM m (l.map putQ) (kept ks) k)[n.toNat]? = if 0 ≤ lkp l ks n k then (l[(lkp l ks n k).toNat]?).map fun y => one1S y.byte else m[n.toNat]?
  | 0, _ => by simp [drM, lkp]
  | k + 1, hk => by
    have ih := drM_lkp (l := l) (ks := ks) hn hm k (by omega)
    obtain ⟨y, hy⟩ : ∃ y, l[k]? = some y := ⟨_, List.getElem?_eq_getElem (by omega)⟩
    have hp := plc_lt y.sector
    have hyq : (l.map putQ)[k]? = some (putQ y) := by rw [List.getElem?_map, hy]; rfl
    by_cases hkp : kept ks k = true
    · have e1 : drM m (l.map putQ) (kept ks) (k + 1) = (drM m (l.map putQ) (kept ks) k).set (plc y.sector).toNat (one1S y.byte) := by
        simp only [drM, hyq, hkp, if_true]; rfl
      rw [e1]
      by_cases hyn : plc y.sector = n
      · have e : lkp l ks n (k + 1) = k := by simp only [lkp, hy]; rw [if_pos ⟨hkp, hyn⟩]
        rw [e, if_pos (by omega), hyn, List.getElem?_set_self (by rw [drM_len]; exact hm)]
        rw [show ((k : Int)).toNat = k by omega, hy]; rfl
      · have e : lkp l ks n (k + 1) = lkp l ks n k := by simp only [lkp, hy]; rw [if_neg (fun h => hyn h.2)]
        rw [e, List.getElem?_set_ne (by omega)]
        exact ih
    · have hkf : kept ks k = false := by simpa using hkp
      have e1 : drM m (l.map putQ) (kept ks) (k + 1) = drM m (l.map putQ) (kept ks) k := by
        simp only [drM, hyq, hkf]; rfl
      have e : lkp l ks n (k + 1) = lkp l ks n k := by simp only [lkp, hy]; rw [if_neg (fun h => hkp h.1)]
      rw [e1, e]
      exact ih

section
variable {h : Hp} {Q : Value → Hp → Prop} {L : List As} {p : Nat} {d : Dk}

theorem among33 {a : Value} {l : List PutD} (n : Int) (hv : Vw 2 h a l.length (l.flatMap putV)) (hl : l.length ≤ 2 ^ 30) (hq : ∀ t : Bool, (t = false → ∀ y ∈ l, plc y.sector ≠ n) → Q (.bool t) h) : Ok PR 33 [a, iv n] h Q := by
  obtain ⟨base, cap, hs⟩ : ∃ base cap, a = .slice base l.length cap := let ⟨_, x, y, z, _⟩ := hv; ⟨x, y, z⟩
  subst hs
  refine e33 rfl ?_
  refine seq_step fun K hK => ?_
  conv => whnf
  refine hK _ _ _ (seq_step fun K1 hK1 => ?_)
  refine seq_step fun K2 hK2 => ?_
  conv => whnf
  refine hK2 _ _ _ ?_
  refine loop_intro (σ := Nat) (fun x => [(5, .v (iv x)), (1, .v (iv n)), (0, .v (.slice base l.length cap))]) (fun _ => []) (fun _ => h)
    (fun x => x ≤ l.length ∧ ∀ (j : Nat) (y : PutD), j < x → l[j]? = some y → plc y.sector ≠ n) (fun x => l.length - x) 0 ⟨Nat.zero_le _, fun j y hj => absurd hj (Nat.not_lt_zero _)⟩
    ⟨rfl, rfl, rfl, trivial⟩ subB_nil rfl ?_
  rintro k ⟨hkl, hno⟩
  refine seq_step fun K6 hK6 => ?_
  refine seq_step fun K7 hK7 => ?_
  conv => whnf
  refine hK7 _ _ _ ?_
  conv => whnf
  refine cond_dec (fun hlt => ?_) (fun hlt => ?_)
  · obtain ⟨b, off, c, ty, z, cap', y, hs, hy, hb, hc0, hc1⟩ := puts_at hv (i := k) (by omega)
    cases hs
    conv => whnf
    refine hK6 _ _ _ (seq_step fun K8 hK8 => ?_)
    refine seq_step fun K9 hK9 => ?_
    conv => whnf
    refine opt_if ⟨by omega, by omega⟩ ?_
    conv => whnf
    refine opt_ld hb (v := iv y.sector) hc0 ?_
    conv => whnf
    refine place16 _ ?_
    conv => whnf
    refine hK9 _ _ _ ?_
    conv => whnf
    refine cond_beq (fun he => ?_) (fun he => ?_)
    · conv => whnf
      exact hq true (fun h => by cases h)
    · conv => whnf
      refine hK8 _ _ _ ?_
      conv => whnf
      refine ⟨k + 1, ⟨(show k + 1 ≤ l.length by omega), fun j y' hj hy' => ?_⟩, (by show l.length - (k + 1) < l.length - k; omega), ⟨int_eq (wrap_nat (by omega)) rfl, rfl, rfl, trivial⟩, subB_nil, rfl⟩
      by_cases hjk : j = k
      · subst hjk
        rw [hy] at hy'; cases hy'; exact he
      · exact hno j y' (by omega) hy'
  · have hkl : k = l.length := by omega
    subst hkl
    conv => whnf
    refine hK1 _ _ _ ?_
    conv => whnf
    refine hq false fun _ y hy => ?_
    obtain ⟨j, hj⟩ := List.mem_iff_getElem?.1 hy
    exact hno j y (List.getElem?_eq_some_iff.1 hj).1 hj

theorem next31 {a : Value} {l : List PutD} (hh : Has L h) (hv : ∀ g, Has L g → Vw 2 g a l.length (l.flatMap putV)) (hl : l.length ≤ 2 ^ 30) (hq : ∀ s h', Has (WnP 2 s (nxt l).length ((nxt l).flatMap putV) :: L) h' → Q s h') : Ok PR 31 [a] h Q := by
  obtain ⟨base, cap, hs⟩ : ∃ base cap, a = .slice base l.length cap := let ⟨_, x, y, z, _⟩ := hv h hh; ⟨x, y, z⟩
  subst hs
  refine e31 rfl ?_
  refine seq_step fun K hK => ?_
  conv => whnf
  refine hK _ _ _ (seq_step fun K1 hK1 => ?_)
  conv => whnf
  refine hK1 _ _ _ (seq_step fun K2 hK2 => ?_)
  refine seq_step fun K3 hK3 => ?_
  conv => whnf
  refine hK3 _ _ _ ?_
  refine loop_intro (σ := Nat × Value × Hp) (fun x => [(4, .v (iv x.1)), (3, .v x.2.1), (0, .v (.slice base l.length cap))]) (fun _ => []) (fun x => x.2.2)
    (fun x => x.1 ≤ l.length ∧ Has (WnP 2 x.2.1 x.1 ((nxt (l.take x.1)).flatMap putV) :: L) x.2.2) (fun x => l.length - x.1) (0, .slice none 0 0, h) ⟨Nat.zero_le _, hh.nilW 2⟩
    ⟨rfl, rfl, rfl, trivial⟩ subB_nil rfl ?_
  rintro ⟨k, s, g⟩ ⟨hkl, hg⟩
  dsimp only at hkl hg ⊢
  refine seq_step fun K6 hK6 => ?_
  refine seq_step fun K7 hK7 => ?_
  conv => whnf
  refine hK7 _ _ _ ?_
  conv => whnf
  refine cond_dec (fun hlt => ?_) (fun hlt => ?_)
  · obtain ⟨b, off, c, ty, z, cap', y, hs, hy, hb, hc0, hc1⟩ := puts_at (hv g hg.tail) (i := k) (by omega)
    cases hs
    have hp := plc_lt y.sector
    have hw : IntKind.i64.wrap (plc y.sector + 1) = plc y.sector + 1 := wrap_i64 (by omega) (by omega)
    conv => whnf
    refine hK6 _ _ _ (seq_step fun K8 hK8 => ?_)
    conv => whnf
    refine opt_if ⟨by omega, by omega⟩ ?_
    conv => whnf
    refine opt_ld hb (v := iv y.sector) hc0 ?_
    conv => whnf
    refine place16 _ ?_
    conv => whnf
    rw [hw]
    refine fresh_has hg fun b1 g2 hb1 _ _ hg2 => ?_
    conv => whnf
    have hv1 : Vw 2 g2 (.slice (some ⟨b1, 0, none⟩) 1 1) 1 (putV ⟨plc y.sector + 1, 0⟩) := (pt_wn (e := 2) (n := 1) (cap := 1) (cs := putV ⟨plc y.sector + 1, 0⟩) rfl (Nat.le_refl _) rfl (hg2.pt 0 rfl)).vw
    refine app_hasW (z := [.int .i64 0, .int .u8 0]) hg2 1 rfl hv1 rfl (by omega) fun s' g3 hg3 => ?_
    conv => whnf
    refine hK8 _ _ _ ?_
    conv => whnf
    refine ⟨(k + 1, s', g3), ⟨(show k + 1 ≤ l.length by omega), ?_⟩, (by show l.length - (k + 1) < l.length - k; omega), ⟨int_eq (wrap_nat (by omega)) rfl, rfl, rfl, trivial⟩, subB_nil, rfl⟩
    have htk : l.take (k + 1) = l.take k ++ [y] := by
      rw [List.take_succ_eq_append_getElem (by omega)]
      have := (List.getElem?_eq_some_iff.1 hy).2
      rw [this]
    show Has (WnP 2 s' (k + 1) ((nxt (l.take (k + 1))).flatMap putV) :: L) g3
    rw [htk, nxt, List.map_append, List.flatMap_append]
    exact hg3.tail
  · have hkl : k = l.length := by omega
    subst hkl
    rw [List.take_length] at hg
    conv => whnf
    refine hK2 _ _ _ ?_
    conv => whnf
    refine hq _ _ ?_
    rw [show (nxt l).length = l.length from List.length_map _]
    exact hg

theorem last32 {a v : Value} {l : List PutD} {ks : List Bool} {i : Nat} {yi : PutD} (hyi : l[i]? = some yi) (hv : Vw 2 h a l.length (l.flatMap putV)) (hk : Vw 1 h v ks.length (ks.map fun t => Value.bool t)) (hl : l.length ≤ 2 ^ 30)
    (hq : Q (iv (lkp l ks (plc yi.sector) l.length)) h) : Ok PR 32 [a, v, iv i] h Q := by
  obtain ⟨base, cap, hs⟩ : ∃ base cap, a = .slice base l.length cap := let ⟨_, x, y, z, _⟩ := hv; ⟨x, y, z⟩
  obtain ⟨base2, cap2, hs2⟩ : ∃ base cap, v = .slice base ks.length cap := let ⟨_, x, y, z, _⟩ := hk; ⟨x, y, z⟩
  subst hs hs2
  have hil := (List.getElem?_eq_some_iff.1 hyi).1
  refine e32 rfl ?_
  refine seq_step fun K hK => ?_
  conv => whnf
  refine hK _ _ _ (seq_step fun K1 hK1 => ?_)
  conv => whnf
  refine hK1 _ _ _ (seq_step fun K2 hK2 => ?_)
  refine seq_step fun K3 hK3 => ?_
  conv => whnf
  refine hK3 _ _ _ ?_
  refine loop_intro (σ := Nat) (fun x => [(8, .v (iv x)), (7, .v (iv (lkp l ks (plc yi.sector) x))), (2, .v (iv i)), (1, .v (.slice base2 ks.length cap2)), (0, .v (.slice base l.length cap))]) (fun _ => []) (fun _ => h)
    (fun x => x ≤ l.length ∧ x ≤ ks.length) (fun x => l.length - x) 0 ⟨Nat.zero_le _, Nat.zero_le _⟩
    ⟨rfl, rfl, rfl, rfl, rfl, trivial⟩ subB_nil rfl ?_
  rintro k ⟨hkl, hkk⟩
  have fin : k = l.length ∨ k = ks.length → lkp l ks (plc yi.sector) k = lkp l ks (plc yi.sector) l.length := fun h => by
    rcases h with rfl | rfl
    · rfl
    · have := lkp_ge (l := l) (ks := ks) (n := plc yi.sector) (Nat.le_refl ks.length) (l.length - ks.length)
      rw [show ks.length + (l.length - ks.length) = l.length by omega] at this
      exact this.symm
  refine seq_step fun K6 hK6 => ?_
  refine seq_step fun K7 hK7 => ?_
  conv => whnf
  by_cases hlt : k < l.length
  · rw [show decide ((k : Int) < (l.length : Int)) = true from decide_eq_true (by omega)]
    conv => whnf
    refine hK7 _ _ _ ?_
    conv => whnf
    refine cond_dec (fun hlt2 => ?_) (fun hlt2 => ?_)
    · obtain ⟨b, off, c, ty, z, cap', y, hs, hy, hb, hc0, hc1⟩ := puts_at hv (i := k) (by omega)
      cases hs
      obtain ⟨b', off', c', ty', z', cap'', yi', hs', hyi', hb', hc0', hc1'⟩ := puts_at hv (i := i) hil
      cases hs'
      rw [hb] at hb'; cases hb'
      rw [hyi] at hyi'; cases hyi'
      obtain ⟨b2, off2, c2, ty2, z2, cap2', hs3, hb2, hsz2, hcc2⟩ := hk.at (i := k) (by omega)
      cases hs3
      have hkv := kept_lt (ks := ks) (k := k) (by omega)
      conv => whnf
      refine hK6 _ _ _ (seq_step fun K8 hK8 => ?_)
      refine seq_step fun K9 hK9 => ?_
      conv => whnf
      refine ⟨_, _, SubH.refl _, SubB.refl _, ?_⟩
      conv => whnf
      refine opt_if ⟨by omega, by omega⟩ ?_
      conv => whnf
      refine opt_ld hb2 (v := .bool (kept ks k)) (hcc2 0 _ (by rw [Nat.mul_one, Nat.add_zero, List.getElem?_map, hkv]; rfl)) ?_
      have e0 : lkp l ks (plc yi.sector) (k + 1) = if kept ks k = true ∧ plc y.sector = plc yi.sector then (k : Int) else lkp l ks (plc yi.sector) k := by simp only [lkp, hy]
      cases hkt : kept ks k with
      | false =>
        conv => whnf
        refine ⟨⟨SubH.refl _, SubB.refl _⟩, ?_⟩
        conv => whnf
        refine hK9 _ _ _ ?_
        conv => whnf
        refine hK8 _ _ _ ?_
        conv => whnf
        refine ⟨k + 1, ⟨(show k + 1 ≤ l.length by omega), (show k + 1 ≤ ks.length by omega)⟩, (by show l.length - (k + 1) < l.length - k; omega), ⟨int_eq (wrap_nat (by omega)) rfl, int_eq ?_ rfl, rfl, rfl, rfl, trivial⟩, subB_nil, rfl⟩
        rw [e0, if_neg (by rw [hkt]; simp)]
      | true =>
        conv => whnf
        refine opt_if ⟨by omega, by omega⟩ ?_
        conv => whnf
        refine opt_ld hb (v := iv y.sector) hc0 ?_
        conv => whnf
        refine opt_if ⟨by omega, by omega⟩ ?_
        conv => whnf
        refine opt_ld hb (v := iv yi.sector) hc0' ?_
        conv => whnf
        refine place16 _ ?_
        conv => whnf
        refine ⟨⟨SubH.refl _, SubB.refl _⟩, ?_⟩
        conv => whnf
        refine place16 _ ?_
        conv => whnf
        refine hK9 _ _ _ ?_
        conv => whnf
        refine cond_beq (fun he => ?_) (fun he => ?_)
        · conv => whnf
          refine hK8 _ _ _ ?_
          conv => whnf
          refine ⟨k + 1, ⟨(show k + 1 ≤ l.length by omega), (show k + 1 ≤ ks.length by omega)⟩, (by show l.length - (k + 1) < l.length - k; omega), ⟨int_eq (wrap_nat (by omega)) rfl, int_eq ?_ rfl, rfl, rfl, rfl, trivial⟩, subB_nil, rfl⟩
          rw [e0, if_pos ⟨hkt, he⟩]
        · conv => whnf
          refine hK8 _ _ _ ?_
          conv => whnf
          refine ⟨k + 1, ⟨(show k + 1 ≤ l.length by omega), (show k + 1 ≤ ks.length by omega)⟩, (by show l.length - (k + 1) < l.length - k; omega), ⟨int_eq (wrap_nat (by omega)) rfl, int_eq ?_ rfl, rfl, rfl, rfl, trivial⟩, subB_nil, rfl⟩
          rw [e0, if_neg (fun h => he h.2)]
    · conv => whnf
      refine hK2 _ _ _ ?_
      conv => whnf
      rw [fin (.inr (by omega))]
      exact hq
  · rw [show decide ((k : Int) < (l.length : Int)) = false from decide_eq_false (by omega)]
    conv => whnf
    refine hK7 _ _ _ ?_
    conv => whnf
    refine hK2 _ _ _ ?_
    conv => whnf
    rw [fin (.inl (by omega))]
    exact hq

end
end Go.Proofs.Ytpkleblggehghaa.V
