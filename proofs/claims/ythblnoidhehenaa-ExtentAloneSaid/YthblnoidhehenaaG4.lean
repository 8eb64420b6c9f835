/- Seat 10: extents: what each function does. -/
import Derived.Test.YthblnoidhehenaaG3
namespace Go.Proofs.Ythblnoidhehenaa.V
set_option linter.unusedVariables false
set_option linter.unusedSimpArgs false
set_option linter.unusedSectionVars false
set_option linter.unusedSectionVars false
open Go

def plE (n : Nat) (x : Int) : Option Ext := if 0 < x then some ((n : Int), 7, x) else none

structure TbOk (l : List (Option Ext)) (hs : List Int) : Prop where
  len : l.length = 32
  len2 : hs.length = 32
  at_ : ∀ (n : Nat) (x : Int), hs[n]? = some x → 0 ≤ x ∧ l[n]? = some (plE n x)

theorem TbOk.set {l : List (Option Ext)} {hs : List Int} (h : TbOk l hs) (n : Nat) (y : Int) (hy : 0 ≤ y) : TbOk (l.set n (plE n y)) (hs.set n y) := by
  refine ⟨by rw [List.length_set]; exact h.len, by rw [List.length_set]; exact h.len2, fun m x hm => ?_⟩
  rw [List.getElem?_set] at hm
  by_cases e : n = m
  · subst e
    rw [if_pos rfl] at hm
    split at hm
    · cases hm
      exact ⟨hy, by rw [List.getElem?_set_self (by rw [h.len, ← h.len2]; assumption)]⟩
    · cases hm
  · rw [if_neg e] at hm
    rw [List.getElem?_set_ne e]
    exact h.at_ m x hm

def ExtP (t : Nat) (hs : List Int) : As := fun h => ∃ (b : Nat) (v : Value) (l : List (Option Ext)), TbOk l hs ∧ Has [Pt t (.cells #[v, ptr b] 52 (0, 0)), TabP rowE b l] h

theorem set12T {p k : Nat} {l : List (Option Ext)} {w : Ext} (v : Ext) (h2 : l[k]? = some (some w)) : Sp PR 12 [ptr p, iv k, ee v] (TabP rowE p l) (X := Unit) (fun _ => .bool true) (fun _ => TabP rowE p (l.set k (some v))) := by
  have h3 := set12S (p := p) (l := l) k v
  have e : setE l k v = (true, l.set k (some v)) := by
    unfold setE
    rw [got_nat, h2]; rfl
  rw [e] at h3
  exact h3

section
variable {h : Hp} {Q : Value → Hp → Prop} {L : List As} {t : Nat} {hs : List Int}

theorem ExtP.opn (hh : Has (ExtP t hs :: L) h) : ∃ (b : Nat) (v : Value) (l : List (Option Ext)), TbOk l hs ∧ Has (Pt t (.cells #[v, ptr b] 52 (0, 0)) :: TabP rowE b l :: L) h := by
  obtain ⟨h1, h2, e, ap, ⟨b, v, l, hok, hd⟩, hL⟩ := hh
  exact ⟨b, v, l, hok, Has.flat (L1 := [_, _]) ⟨h1, h2, e, ap, hd, hL⟩⟩

theorem ExtP.cls {b : Nat} {v : Value} {l : List (Option Ext)} (hok : TbOk l hs) (hh : Has (Pt t (.cells #[v, ptr b] 52 (0, 0)) :: TabP rowE b l :: L) h) : Has (ExtP t hs :: L) h := by
  obtain ⟨h1, h2, e, ap, hd, hL⟩ := Has.group (L1 := [_, _]) hh
  exact ⟨h1, h2, e, ap, ⟨b, v, l, hok, hd⟩, hL⟩

theorem hold7 {n : Nat} {x : Int} (hh : Has (ExtP t hs :: L) h) (hx : hs[n]? = some x) (hb : x < 2 ^ 62) (h1 : 0 < x → ∀ h', Has (ExtP t (hs.set n (x + 1)) :: L) h' → Q (iv 0) h') (h2 : x = 0 → ∀ h', Has (ExtP t hs :: L) h' → Q (iv 100) h') : Ok PR 7 [ptr t, iv n] h Q := by
  obtain ⟨b, v, l, hok, hh⟩ := ExtP.opn hh
  obtain ⟨hx0, hl⟩ := hok.at_ n x hx
  refine e7 rfl ?_
  refine seq_step fun K hK => ?_
  conv => whnf
  refine hK _ _ _ (seq_step fun K1 hK1 => ?_)
  conv => whnf
  refine opt_ld (hh.pt 0 rfl) (v := ptr b) rfl ?_
  conv => whnf
  by_cases hp : 0 < x
  · rw [plE, if_pos hp] at hl
    refine Has.call hh 1 rfl (get14S hl) fun _ g1 hg1 => ?_
    replace hg1 : Has (Pt t (.cells #[v, ptr b] 52 (0, 0)) :: TabP rowE b l :: L) g1 := hg1
    conv => whnf
    refine hK1 _ _ _ (seq_step fun K2 hK2 => ?_)
    refine seq_step fun K3 hK3 => ?_
    conv => whnf
    refine hK3 _ _ _ ?_
    conv => whnf
    refine hK2 _ _ _ (seq_step fun K4 hK4 => ?_)
    conv => whnf
    refine hK4 _ _ _ (seq_step fun K5 hK5 => ?_)
    conv => whnf
    refine opt_ld (hg1.pt 0 rfl) (v := ptr b) rfl ?_
    conv => whnf
    have hw : IntKind.i64.wrap (x + 1) = x + 1 := wrap_i64 (by omega) (by omega)
    rw [hw]
    show Ok PR 12 [ptr b, iv n, ee ((n : Int), 7, x + 1)] g1 _
    refine Has.call hg1 1 rfl (set12T ((n : Int), 7, x + 1) hl) fun _ g2 hg2 => ?_
    replace hg2 : Has (Pt t (.cells #[v, ptr b] 52 (0, 0)) :: TabP rowE b (l.set n (some ((n : Int), 7, x + 1))) :: L) g2 := hg2
    conv => whnf
    refine hK5 _ _ _ ?_
    conv => whnf
    have h3 := hok.set n (x + 1) (by omega)
    rw [plE, if_pos (by omega)] at h3
    exact h1 hp _ (ExtP.cls h3 hg2)
  · have hx1 : x = 0 := by omega
    rw [plE, if_neg hp] at hl
    refine Has.call hh 1 rfl (get14F hl) fun _ g1 hg1 => ?_
    conv => whnf
    refine hK1 _ _ _ (seq_step fun K2 hK2 => ?_)
    refine seq_step fun K3 hK3 => ?_
    conv => whnf
    refine hK3 _ _ _ ?_
    conv => whnf
    exact h2 hx1 _ (ExtP.cls hok hg1)

theorem drop8 {n : Nat} {x : Int} (hh : Has (ExtP t hs :: L) h) (hx : hs[n]? = some x) (hb : x < 2 ^ 62) (h1 : 0 < x → ∀ h', Has (ExtP t (hs.set n (x - 1)) :: L) h' → Q (.tuple #[.bool (decide (x = 1)), iv 0]) h') (h2 : x = 0 → ∀ h', Has (ExtP t hs :: L) h' → Q (.tuple #[.bool false, iv 100]) h') : Ok PR 8 [ptr t, iv n] h Q := by
  obtain ⟨b, v, l, hok, hh⟩ := ExtP.opn hh
  obtain ⟨hx0, hl⟩ := hok.at_ n x hx
  refine e8 rfl ?_
  refine seq_step fun K hK => ?_
  conv => whnf
  refine hK _ _ _ (seq_step fun K1 hK1 => ?_)
  conv => whnf
  refine opt_ld (hh.pt 0 rfl) (v := ptr b) rfl ?_
  conv => whnf
  by_cases hp : 0 < x
  · rw [plE, if_pos hp] at hl
    refine Has.call hh 1 rfl (get14S hl) fun _ g1 hg1 => ?_
    replace hg1 : Has (Pt t (.cells #[v, ptr b] 52 (0, 0)) :: TabP rowE b l :: L) g1 := hg1
    have hw : IntKind.i64.wrap (x - 1) = x - 1 := wrap_i64 (by omega) (by omega)
    conv => whnf
    refine hK1 _ _ _ (seq_step fun K2 hK2 => ?_)
    refine seq_step fun K3 hK3 => ?_
    conv => whnf
    refine hK3 _ _ _ ?_
    conv => whnf
    refine hK2 _ _ _ (seq_step fun K4 hK4 => ?_)
    conv => whnf
    rw [hw]
    refine hK4 _ _ _ (seq_step fun K5 hK5 => ?_)
    refine seq_step fun K6 hK6 => ?_
    conv => whnf
    refine hK6 _ _ _ ?_
    refine cond_beq (fun he => ?_) (fun he => ?_)
    · have hx1 : x = 1 := by
        have : x - 1 = 0 := he
        omega
      rw [decide_eq_true hx1] at h1
      refine seq_step fun K7 hK7 => ?_
      conv => whnf
      refine opt_ld (hg1.pt 0 rfl) (v := ptr b) rfl ?_
      conv => whnf
      refine Has.call hg1 1 rfl (drop15S hl) fun _ g2 hg2 => ?_
      replace hg2 : Has (Pt t (.cells #[v, ptr b] 52 (0, 0)) :: TabP rowE b (l.set n none) :: L) g2 := hg2
      conv => whnf
      refine hK7 _ _ _ ?_
      conv => whnf
      have h3 := hok.set n (x - 1) (by omega)
      rw [plE, if_neg (by omega)] at h3
      exact h1 hp _ (ExtP.cls h3 hg2)
    · have hx1 : ¬ x = 1 := fun e => he (by subst e; rfl)
      rw [decide_eq_false hx1] at h1
      conv => whnf
      refine hK5 _ _ _ (seq_step fun K7 hK7 => ?_)
      conv => whnf
      refine opt_ld (hg1.pt 0 rfl) (v := ptr b) rfl ?_
      conv => whnf
      show Ok PR 12 [ptr b, iv n, ee ((n : Int), 7, x - 1)] g1 _
      refine Has.call hg1 1 rfl (set12T ((n : Int), 7, x - 1) hl) fun _ g2 hg2 => ?_
      replace hg2 : Has (Pt t (.cells #[v, ptr b] 52 (0, 0)) :: TabP rowE b (l.set n (some ((n : Int), 7, x - 1))) :: L) g2 := hg2
      conv => whnf
      refine hK7 _ _ _ ?_
      conv => whnf
      have h3 := hok.set n (x - 1) (by omega)
      rw [plE, if_pos (by omega)] at h3
      exact h1 hp _ (ExtP.cls h3 hg2)
  · have hx1 : x = 0 := by omega
    rw [plE, if_neg hp] at hl
    refine Has.call hh 1 rfl (get14F hl) fun _ g1 hg1 => ?_
    conv => whnf
    refine hK1 _ _ _ (seq_step fun K2 hK2 => ?_)
    refine seq_step fun K3 hK3 => ?_
    conv => whnf
    refine hK3 _ _ _ ?_
    conv => whnf
    exact h2 hx1 _ (ExtP.cls hok hg1)

/-- A claim of any. -/
theorem claim6 {m : Int} (hm : m = -1) (hh : Has (ExtP t hs :: L) h) (h1 : ∀ (k : Nat), (∀ (j : Nat) (x : Int), j < k → hs[j]? = some x → 0 < x) → hs[k]? = some 0 → ∀ h', Has (ExtP t (hs.set k 1) :: L) h' → Q (.tuple #[iv k, iv 0]) h')
    (h2 : (∀ (j : Nat) (x : Int), hs[j]? = some x → 0 < x) → ∀ h', Has (ExtP t hs :: L) h' → Q (.tuple #[iv (-1), iv 2]) h') : Ok PR 6 [ptr t, iv m, iv 7] h Q := by
  obtain ⟨b, v, l, hok, hh⟩ := ExtP.opn hh
  refine e6 rfl ?_
  refine seq_step fun K hK => ?_
  conv => whnf
  refine hK _ _ _ (seq_step fun K1 hK1 => ?_)
  refine seq_step fun K2 hK2 => ?_
  conv => whnf
  refine hK2 _ _ _ ?_
  conv => whnf
  refine hK1 _ _ _ (seq_step fun K3 hK3 => ?_)
  conv => whnf
  refine hK3 _ _ _ (seq_step fun K4 hK4 => ?_)
  refine seq_step fun K5 hK5 => ?_
  conv => whnf
  refine hK5 _ _ _ ?_
  refine cond_beq (fun _ => ?_) (fun e => absurd hm e)
  refine seq_step fun K6 hK6 => ?_
  conv => whnf
  refine opt_ld (hh.pt 0 rfl) (v := ptr b) rfl ?_
  conv => whnf
  show Ok PR 11 [ptr b, ee (m, 7, 1)] h _
  by_cases hall : ∀ (j : Nat) (x : Int), hs[j]? = some x → 0 < x
  · have hf : ∀ j, j < l.length → l[j]? ≠ some none := fun j hj e => by
      have hj2 : j < hs.length := by rw [hok.len2, ← hok.len]; exact hj
      have hx := List.getElem?_eq_getElem hj2
      have h3 := (hok.at_ j _ hx).2
      rw [plE, if_pos (hall j _ hx), e] at h3
      cases h3
    refine Has.call hh 1 rfl (put11F (m, 7, 1) hf) fun _ g1 hg1 => ?_
    conv => whnf
    refine hK6 _ _ _ (seq_step fun K7 hK7 => ?_)
    refine seq_step fun K8 hK8 => ?_
    conv => whnf
    refine hK8 _ _ _ ?_
    conv => whnf
    exact h2 hall _ (ExtP.cls hok hg1)
  · obtain ⟨k, hk1, hk2⟩ : ∃ k : Nat, (∀ (j : Nat) (x : Int), j < k → hs[j]? = some x → 0 < x) ∧ hs[k]? = some 0 := by
      have hex : ∃ k : Nat, hs[k]? = some 0 := by
        refine Classical.byContradiction fun hne => hall fun j x hx => ?_
        have h3 := (hok.at_ j x hx).1
        rcases Int.lt_or_eq_of_le h3 with h4 | h4
        · exact h4
        · subst h4; exact absurd ⟨j, hx⟩ hne
      have key : ∀ m : Nat, (∃ k : Nat, (∀ (j : Nat) (x : Int), j < k → hs[j]? = some x → 0 < x) ∧ hs[k]? = some 0) ∨ ∀ (j : Nat) (x : Int), j < m → hs[j]? = some x → 0 < x := by
        intro m
        induction m with
        | zero => exact .inr fun j x hj => absurd hj (Nat.not_lt_zero _)
        | succ m ih =>
          rcases ih with ih | ih
          · exact .inl ih
          · by_cases hm : hs[m]? = some 0
            · exact .inl ⟨m, ih, hm⟩
            · refine .inr fun j x hj hx => ?_
              by_cases e : j = m
              · subst e
                have h3 := (hok.at_ j x hx).1
                rcases Int.lt_or_eq_of_le h3 with h4 | h4
                · exact h4
                · subst h4; exact absurd hx hm
              · exact ih j x (by omega) hx
      obtain ⟨k, hk⟩ := hex
      rcases key (k + 1) with h3 | h3
      · exact h3
      · exact absurd (h3 k 0 (by omega) hk) (by decide)
    have hlk : l[k]? = some none := by
      have := (hok.at_ k 0 hk2).2
      rwa [plE, if_neg (by omega)] at this
    have hlj : ∀ j, j < k → l[j]? ≠ some none := fun j hj e => by
      have hk3 := (List.getElem?_eq_some_iff.1 hk2).1
      have hx := List.getElem?_eq_getElem (l := hs) (i := j) (by omega)
      have h3 := (hok.at_ j _ hx).2
      rw [plE, if_pos (hk1 j _ hj hx), e] at h3
      cases h3
    have hkl := (List.getElem?_eq_some_iff.1 hlk).1
    refine Has.call hh 1 rfl (put11S (m, 7, 1) hlj hlk) fun _ g1 hg1 => ?_
    replace hg1 : Has (Pt t (.cells #[v, ptr b] 52 (0, 0)) :: TabP rowE b (l.set k (some (m, 7, 1))) :: L) g1 := hg1
    conv => whnf
    refine hK6 _ _ _ (seq_step fun K7 hK7 => ?_)
    refine seq_step fun K8 hK8 => ?_
    conv => whnf
    refine hK8 _ _ _ ?_
    conv => whnf
    refine hK7 _ _ _ (seq_step fun K9 hK9 => ?_)
    conv => whnf
    refine hK9 _ _ _ (seq_step fun K10 hK10 => ?_)
    conv => whnf
    refine opt_ld (hg1.pt 0 rfl) (v := ptr b) rfl ?_
    conv => whnf
    show Ok PR 12 [ptr b, iv k, ee ((k : Int), 7, 1)] g1 _
    refine Has.call hg1 1 rfl (set12T ((k : Int), 7, 1) (List.getElem?_set_self hkl)) fun _ g2 hg2 => ?_
    rw [List.set_set] at hg2
    replace hg2 : Has (Pt t (.cells #[v, ptr b] 52 (0, 0)) :: TabP rowE b (l.set k (some ((k : Int), 7, 1))) :: L) g2 := hg2
    conv => whnf
    refine hK10 _ _ _ ?_
    conv => whnf
    have h3 := hok.set k 1 (by omega)
    rw [plE, if_pos (by omega)] at h3
    exact h1 k hk1 hk2 _ (ExtP.cls h3 hg2)

/-- A claim of one. -/
theorem claim6n {n : Nat} {x : Int} (hh : Has (ExtP t hs :: L) h) (hx : hs[n]? = some x) (h1 : x = 0 → ∀ h', Has (ExtP t (hs.set n 1) :: L) h' → Q (.tuple #[iv n, iv 0]) h')
    (h2 : 0 < x → ∀ h', Has (ExtP t hs :: L) h' → Q (.tuple #[iv (-1), iv 101]) h') : Ok PR 6 [ptr t, iv n, iv 7] h Q := by
  obtain ⟨b, v, l, hok, hh⟩ := ExtP.opn hh
  obtain ⟨hx0, hl⟩ := hok.at_ n x hx
  have hn := (List.getElem?_eq_some_iff.1 hx).1
  have hn2 := hok.len2
  refine e6 rfl ?_
  refine seq_step fun K hK => ?_
  conv => whnf
  refine hK _ _ _ (seq_step fun K1 hK1 => ?_)
  refine seq_step fun K2 hK2 => ?_
  conv => whnf
  refine hK2 _ _ _ ?_
  conv => whnf
  refine hK1 _ _ _ (seq_step fun K3 hK3 => ?_)
  conv => whnf
  refine hK3 _ _ _ (seq_step fun K4 hK4 => ?_)
  refine seq_step fun K5 hK5 => ?_
  conv => whnf
  refine hK5 _ _ _ ?_
  refine cond_beq (fun e => by have e2 : (n : Int) = -1 := e; omega) (fun _ => ?_)
  conv => whnf
  refine hK4 _ _ _ (seq_step fun K6 hK6 => ?_)
  refine seq_step fun K7 hK7 => ?_
  conv => whnf
  rw [show decide ((n : Int) < 0) = false from decide_eq_false (by omega)]
  conv => whnf
  rw [show decide ((n : Int) ≥ 32) = false from decide_eq_false (by omega)]
  refine hK7 _ _ _ ?_
  conv => whnf
  refine hK6 _ _ _ (seq_step fun K8 hK8 => ?_)
  refine seq_step fun K9 hK9 => ?_
  conv => whnf
  refine opt_ld (hh.pt 0 rfl) (v := ptr b) rfl ?_
  conv => whnf
  show Ok PR 13 [ptr b, iv n, ee ((n : Int), 7, 1)] h _
  by_cases hp : 0 < x
  · rw [plE, if_pos hp] at hl
    refine Has.call hh 1 rfl (putat13F ((n : Int), 7, 1) hl) fun _ g1 hg1 => ?_
    conv => whnf
    refine hK9 _ _ _ ?_
    conv => whnf
    exact h2 hp _ (ExtP.cls hok hg1)
  · rw [plE, if_neg hp] at hl
    refine Has.call hh 1 rfl (putat13S ((n : Int), 7, 1) hl) fun _ g1 hg1 => ?_
    replace hg1 : Has (Pt t (.cells #[v, ptr b] 52 (0, 0)) :: TabP rowE b (l.set n (some ((n : Int), 7, 1))) :: L) g1 := hg1
    conv => whnf
    refine hK9 _ _ _ ?_
    conv => whnf
    refine hK8 _ _ _ ?_
    conv => whnf
    have h3 := hok.set n 1 (by omega)
    rw [plE, if_pos (by omega)] at h3
    exact h1 (by omega) _ (ExtP.cls h3 hg1)

end
end Go.Proofs.Ythblnoidhehenaa.V
