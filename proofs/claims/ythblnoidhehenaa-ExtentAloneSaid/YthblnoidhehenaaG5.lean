/- Seat 10: the list of extents. -/
import Derived.Test.YthblnoidhehenaaG4
namespace Go.Proofs.Ythblnoidhehenaa.V
set_option linter.unusedVariables false
set_option linter.unusedSimpArgs false
set_option linter.unusedSectionVars false
set_option linter.unusedSectionVars false
open Go

def rowX (v : Ext) : List Value := [iv v.1, iv v.2.1, iv v.2.2]
theorem rowX_len (v : Ext) : (rowX v).length = 3 := rfl

/-- What is taken below c. -/
def tkE (l : List (Option Ext)) (c : Int) : List Ext := (l.take c.toNat).filterMap id

theorem filt_none : ∀ {l : List (Option Ext)}, (∀ j, j < l.length → l[j]? = some none) → l.filterMap id = []
  | [], _ => rfl
  | x :: l, h => by
    have h0 := h 0 (by simp)
    simp only [List.getElem?_cons_zero, Option.some.injEq] at h0
    subst h0
    rw [List.filterMap_cons]
    exact filt_none fun j hj => by
      have := h (j + 1) (by simp; omega)
      simpa using this

theorem tk_step {l : List (Option Ext)} {c : Int} {k : Nat} {v : Ext} (h0 : 0 ≤ c) (hc : c ≤ k) (h1 : ∀ j : Nat, c ≤ j → j < k → l[j]? = some none) (h2 : l[k]? = some (some v)) : tkE l ((k : Int) + 1) = tkE l c ++ [v] := by
  have hk := (List.getElem?_eq_some_iff.1 h2).1
  have hkv := (List.getElem?_eq_some_iff.1 h2).2
  unfold tkE
  rw [show ((k : Int) + 1).toNat = k + 1 by omega, List.take_succ_eq_append_getElem hk, hkv, List.filterMap_append]
  have e : l.take k = l.take c.toNat ++ (l.take k).drop c.toNat := by
    have h3 : l.take c.toNat = (l.take k).take c.toNat := by rw [List.take_take, Nat.min_eq_left (by omega)]
    rw [h3, List.take_append_drop]
  rw [e, List.filterMap_append, filt_none (l := (l.take k).drop c.toNat) (fun j hj => ?_), List.append_nil]
  · rfl
  · rw [List.length_drop, List.length_take] at hj
    rw [List.getElem?_drop, List.getElem?_take, if_pos (by omega)]
    exact h1 (c.toNat + j) (by omega) (by omega)

theorem tk_end {l : List (Option Ext)} {c : Int} (h0 : 0 ≤ c) (h1 : ∀ j : Nat, c ≤ j → j < l.length → l[j]? = some none) : l.filterMap id = tkE l c := by
  unfold tkE
  have e : l = l.take c.toNat ++ l.drop c.toNat := (List.take_append_drop ..).symm
  conv => lhs; rw [e]
  rw [List.filterMap_append, filt_none (l := l.drop c.toNat) (fun j hj => ?_), List.append_nil]
  rw [List.length_drop] at hj
  rw [List.getElem?_drop]
  exact h1 (c.toNat + j) (by omega) (by omega)

theorem tk_le (l : List (Option Ext)) (c : Int) : (tkE l c).length ≤ l.length := by
  unfold tkE
  have := List.length_filterMap_le (id : Option Ext → Option Ext) (l.take c.toNat)
  rw [List.length_take] at this
  omega

theorem callable19 : callable PR 19 = true := by kernel_rfl

section
variable {h : Hp} {Q : Value → Hp → Prop} {L : List As} {t : Nat} {hs : List Int}

theorem list9 (hh : Has (ExtP t hs :: L) h) (hq : ∀ (l : List (Option Ext)) s h', TbOk l hs → Has (WnP 3 s (l.filterMap id).length ((l.filterMap id).flatMap rowX) :: ExtP t hs :: L) h' → Q s h') : Ok PR 9 [ptr t] h Q := by
  obtain ⟨b, v, l, hok, hh⟩ := ExtP.opn hh
  refine e9 rfl ?_
  refine seq_step fun K hK => ?_
  conv => whnf
  refine hK _ _ _ (seq_step fun K1 hK1 => ?_)
  conv => whnf
  refine fresh_has hh fun b2 h2 hb2 _ hs2 hh2 => ?_
  conv => whnf
  refine hK1 _ _ _ (seq_step fun K2 hK2 => ?_)
  conv => whnf
  refine opt_ld (hh2.pt 1 rfl) (v := ptr b) rfl ?_
  conv => whnf
  refine all16H hh2 fun b3 h3 hh3 _ _ => ?_
  conv => whnf
  refine rf_intro trivial callable19 fun r R hr hR hY => ?_
  have hh4 := hh3.new hr (o := R .ready)
  refine Ok.mono (walk19 (p := b) (Qd := fun h' => ∃ s, Has (Pt r (R .ready) :: Pt b3 (.cells #[ptr b] 47 (0, 0)) :: Pt b2 (.cells #[s] 36 (0, 0)) :: WnP 3 s (l.filterMap id).length ((l.filterMap id).flatMap rowX) :: Pt t (.cells #[v, ptr b] 52 (0, 0)) :: TabP rowE b l :: L) h')
    (fun c h' => 0 ≤ c ∧ ∃ s, Has (Pt r (R .ready) :: Pt b3 (.cells #[ptr b] 47 (0, 0)) :: Pt b2 (.cells #[s] 36 (0, 0)) :: WnP 3 s (tkE l c).length ((tkE l c).flatMap rowX) :: Pt t (.cells #[v, ptr b] 52 (0, 0)) :: TabP rowE b l :: L) h')
    (fun c g ⟨hc, s, hg⟩ => ⟨hc, hg.pt 1 rfl, l, Has.get hg 5 rfl fun _ _ => TabP.sub, fun hn => ?_, fun k w hk hw => ?_⟩)
    ⟨Int.le_refl _, .slice none 0 0, ?_⟩) ?_
  · rcases nextR_spec l c with ⟨_, h1⟩ | ⟨k, w, e, _⟩
    · refine ⟨s, ?_⟩
      rw [tk_end hc h1]; exact hg
    · rw [hn] at e; omega
  · obtain ⟨hck, hno⟩ : c ≤ (k : Int) ∧ ∀ j : Nat, c ≤ j → j < k → l[j]? = some none := by
      rcases nextR_spec l c with ⟨e, _⟩ | ⟨k2, w2, e, h1, h2, h3⟩
      · rw [hk] at e; omega
      · rw [hk] at e
        have : k2 = k := by omega
        subst this
        exact ⟨h1, h2⟩
    have etk := tk_step hc hck hno hw
    refine hY _ g _ rfl (hg.pt 0 rfl) ?_
    have hle := tk_le l c
    have hl32 := hok.len
    conv => whnf
    refine fresh_has hg fun b5 g1 hb5 _ _ hg1 => ?_
    conv => whnf
    refine st_has hg1 0 rfl rfl (Nat.le_refl _) rfl fun g2 _ _ hg2 => ?_
    replace hg2 : Has (Pt b5 (.cells (rowX w).toArray 39 (0, 0)) :: Pt r (R .ready) :: Pt b3 (.cells #[ptr b] 47 (0, 0)) :: Pt b2 (.cells #[s] 36 (0, 0)) :: WnP 3 s (tkE l c).length ((tkE l c).flatMap rowX) :: Pt t (.cells #[v, ptr b] 52 (0, 0)) :: TabP rowE b l :: L) g2 := hg2
    conv => whnf
    refine ⟨hg2.pt 1 rfl, ?_⟩
    have hg3 := hg2.st 1 rfl (R .busy)
    conv => whnf
    refine opt_ld (hg3.pt 3 rfl) (v := s) rfl ?_
    conv => whnf
    refine opt_ld (hg3.pt 0 rfl) (v := .agg (rowX w).toArray) rfl ?_
    conv => whnf
    refine fresh_has hg3 fun b6 g3 hb6 _ _ hg4 => ?_
    conv => whnf
    have hv6 : Vw 3 g3 (.slice (some ⟨b6, 0, none⟩) 1 1) 1 (rowX w) := (pt_wn (e := 3) (n := 1) (cap := 1) (cs := rowX w) rfl (Nat.le_refl _) rfl (hg4.pt 0 rfl)).vw
    refine app_hasW (z := [.int .i64 0, .int .i64 0, .int .i64 0]) hg4 5 rfl hv6 rfl (by omega) fun s7 g5 hg5 => ?_
    replace hg5 : Has (Pt b5 (.cells (rowX w).toArray 39 (0, 0)) :: Pt r (R .busy) :: Pt b3 (.cells #[ptr b] 47 (0, 0)) :: Pt b2 (.cells #[s] 36 (0, 0)) :: WnP 3 s7 ((tkE l c).length + 1) ((tkE l c).flatMap rowX ++ rowX w) :: Pt t (.cells #[v, ptr b] 52 (0, 0)) :: TabP rowE b l :: L) g5 := hg5.tail
    obtain ⟨bs7, cp7, hs7⟩ := hg5.slv 4 rfl
    subst hs7
    conv => whnf
    refine st_has hg5 3 rfl rfl (Nat.le_refl _) rfl fun g6 _ _ hg6 => ?_
    replace hg6 : Has (Pt b5 (.cells (rowX w).toArray 39 (0, 0)) :: Pt r (R .busy) :: Pt b3 (.cells #[ptr b] 47 (0, 0)) :: Pt b2 (.cells #[.slice bs7 ((tkE l c).length + 1) cp7] 36 (0, 0)) :: WnP 3 (.slice bs7 ((tkE l c).length + 1) cp7) ((tkE l c).length + 1) ((tkE l c).flatMap rowX ++ rowX w) :: Pt t (.cells #[v, ptr b] 52 (0, 0)) :: TabP rowE b l :: L) g6 := hg6
    conv => whnf
    refine ⟨hg6.pt 1 rfl, .inl ⟨rfl, by omega, .slice bs7 ((tkE l c).length + 1) cp7, ?_⟩⟩
    have e2 : (tkE l ((k : Int) + 1)).flatMap rowX = (tkE l c).flatMap rowX ++ rowX w := by rw [etk, List.flatMap_append]; simp
    have e3 : (tkE l ((k : Int) + 1)).length = (tkE l c).length + 1 := by rw [etk, List.length_append]; rfl
    rw [e2, e3]
    exact (hg6.st 1 rfl (R .ready)).tail
  · exact hh4.map_tail fun g hg => hg.map_tail fun g hg => hg.map_tail fun g hg => hg.nilW 3
  · rintro v' h' ⟨s, hg⟩
    refine ⟨.ready, hg.pt 0 rfl, fun o => ?_⟩
    have hg' := hg.st 0 rfl o
    refine hK2 _ _ _ ?_
    conv => whnf
    refine opt_ld (hg'.pt 2 rfl) (v := s) rfl ?_
    conv => whnf
    exact hq l s _ hok ((((hg'.erase 0).erase 0).erase 0).map_tail fun g hg => ExtP.cls hok hg)

end
end Go.Proofs.Ythblnoidhehenaa.V
