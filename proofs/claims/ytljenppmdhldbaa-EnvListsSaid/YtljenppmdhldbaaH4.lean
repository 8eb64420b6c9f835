/- Seat 09: tables of environments; what is set and asked of one. -/
import Derived.Test.YtljenppmdhldbaaH3
namespace Go.Proofs.Ytljenppmdhldbaa.V
set_option linter.unusedVariables false
set_option linter.unusedSimpArgs false
set_option linter.unusedSectionVars false
set_option linter.unusedSectionVars false
open Go

abbrev Xs := List (Option (Nat × Rec × Value))
def blk (xs : Xs) : List (Option Nat) := xs.map fun x => x.map fun y => y.1
def rcs (xs : Xs) : List (Option Rec) := xs.map fun x => x.map fun y => y.2.1

def EnvP (t : Nat) (rs : List (Option Rec)) (last : Int) : As := fun h => ∃ (tab : Nat) (xs : Xs), xs.length = 16 ∧ rcs xs = rs ∧
  Has [Pt t (.cells #[ptr tab, iv last] 98 (0, 0)), TabP rowP tab (blk xs), RecsP xs] h

section
variable {h : Hp} {Q : Value → Hp → Prop} {L : List As} {t : Nat} {rs : List (Option Rec)} {last : Int}

theorem EnvP.opn (hh : Has (EnvP t rs last :: L) h) : ∃ (tab : Nat) (xs : Xs), xs.length = 16 ∧ rcs xs = rs ∧ Has (Pt t (.cells #[ptr tab, iv last] 98 (0, 0)) :: TabP rowP tab (blk xs) :: RecsP xs :: L) h := by
  obtain ⟨h1, h2, e, ap, ⟨tab, xs, a1, a2, hd⟩, hL⟩ := hh
  exact ⟨tab, xs, a1, a2, Has.flat (L1 := [_, _, _]) ⟨h1, h2, e, ap, hd, hL⟩⟩

theorem EnvP.cls {tab : Nat} {xs : Xs} (a1 : xs.length = 16) (a2 : rcs xs = rs) (hh : Has (Pt t (.cells #[ptr tab, iv last] 98 (0, 0)) :: TabP rowP tab (blk xs) :: RecsP xs :: L) h) : Has (EnvP t rs last :: L) h := by
  obtain ⟨h1, h2, e, ap, hd, hL⟩ := Has.group (L1 := [_, _, _]) hh
  exact ⟨h1, h2, e, ap, ⟨tab, xs, a1, a2, hd⟩, hL⟩

theorem got_blk (xs : Xs) (e : Int) : got (blk xs) e = (got xs e).map fun y => y.1 := by
  by_cases h0 : 0 ≤ e
  · obtain ⟨n, rfl⟩ := Int.eq_ofNat_of_zero_le h0
    rw [got_nat, got_nat, blk, List.getElem?_map]
    cases xs[n]? with
    | none => rfl
    | some x => rfl
  · rw [got_neg (by omega), got_neg (by omega)]; rfl

theorem got_rcs (xs : Xs) (e : Int) : got (rcs xs) e = (got xs e).map fun y => y.2.1 := by
  by_cases h0 : 0 ≤ e
  · obtain ⟨n, rfl⟩ := Int.eq_ofNat_of_zero_le h0
    rw [got_nat, got_nat, rcs, List.getElem?_map]
    cases xs[n]? with
    | none => rfl
    | some x => rfl
  · rw [got_neg (by omega), got_neg (by omega)]; rfl

/-- A look at one number: none lives there, or its record in sight. -/
theorem EnvP.look {e : Int} (hh : Has (EnvP t rs last :: L) h) : ∃ (tab : Nat) (xs : Xs), xs.length = 16 ∧ rcs xs = rs ∧ Has (Pt t (.cells #[ptr tab, iv last] 98 (0, 0)) :: TabP rowP tab (blk xs) :: RecsP xs :: L) h ∧
    ((got rs e = none ∧ got (blk xs) e = none) ∨ ∃ (n b : Nat) (r : Rec) (s : Value), e = n ∧ n < 16 ∧ got rs e = some r ∧ got (blk xs) e = some b ∧ xs[n]? = some (some (b, r, s))) := by
  obtain ⟨tab, xs, a1, a2, hh⟩ := EnvP.opn hh
  refine ⟨tab, xs, a1, a2, hh, ?_⟩
  rw [← a2, got_blk, got_rcs]
  cases hg : got xs e with
  | none => exact .inl ⟨rfl, rfl⟩
  | some y =>
    obtain ⟨n, rfl, hn, hx⟩ := got_some hg
    obtain ⟨b, r, s⟩ := y
    exact .inr ⟨n, b, r, s, rfl, by omega, rfl, rfl, hx⟩

theorem wrL_one {c : List Value} {o : Nat} (x : Value) (ho : o < c.length) : wrL c o [x] = c.set o x := by
  apply List.ext_getElem?
  intro i
  rw [wrL_get _ _ _ _ (by simp; omega), List.getElem?_set]
  by_cases hi : o = i
  · subst hi
    rw [if_pos ⟨by omega, by simp⟩, if_pos rfl, if_pos ho]; simp
  · rw [if_neg (by simp; omega), if_neg hi]

theorem rc_st {β : Bx} {b off : Nat} {r : Rec} {s : Value} {K : Hp × Bx → Prop} (hh : Has (Pt b (.cells (recC r s).toArray 103 (0, 0)) :: L) h) (k : Nat) (v : Value) (ho : off = k) (hk : k < (recC r s).length)
    (r' : Rec) (s' : Value) (ht : (recC r s).set k v = recC r' s') (h1 : v.cells = #[v]) (h4 : one v = true) (hK : ∀ h', Has (Pt b (.cells (recC r' s').toArray 103 (0, 0)) :: L) h' → K (h', β)) :
    optK (pSt 1 h β (.v (.pointer (some ⟨b, off, none⟩))) (.v v)) K := by
  subst ho
  refine st_has hh 0 rfl (by rw [h1]; rfl) (by rw [List.size_toArray]; omega) (by simp [h1, h4]) fun h' _ _ hh' => hK h' ?_
  rw [h1] at hh'
  have e : wr (recC r s).toArray off [v] = (recC r' s').toArray := by
    rw [wr_wrL, wrL_one v hk, ht]
  have hh2 : Has (Pt b (.cells (wr (recC r s).toArray off [v]) 103 (0, 0)) :: L) h' := hh'
  rw [e] at hh2
  exact hh2

/-- Waiting, of one that lives. -/
def Rec.wait (r : Rec) : Rec := if r.bits = 0 then { r with bits := 0, state := 2 } else { r with bits := 0 }

theorem wait16n {e : Int} (hh : Has (EnvP t rs last :: L) h) (hg : got rs e = none) (hq : ∀ h', Has (EnvP t rs last :: L) h' → Q (.tuple #[iv 0, iv 90]) h') : Ok PR 16 [ptr t, iv e] h Q := by
  obtain ⟨tab, xs, a1, a2, hh, ⟨_, hb⟩ | ⟨n, b, r, s, _, _, hr, _⟩⟩ := EnvP.look (e := e) hh
  · refine e16 rfl ?_
    refine seq_step fun K hK => ?_
    conv => whnf
    refine hK _ _ _ (seq_step fun K1 hK1 => ?_)
    conv => whnf
    refine opt_ld (hh.pt 0 rfl) (v := .agg #[ptr tab]) rfl ?_
    conv => whnf
    refine at56 (Has.get hh 1 rfl fun _ _ => TabP.sub) e ?_
    rw [hb]
    conv => whnf
    refine hK1 _ _ _ (seq_step fun K2 hK2 => ?_)
    refine seq_step fun K3 hK3 => ?_
    conv => whnf
    refine hK3 _ _ _ ?_
    conv => whnf
    exact hq _ (EnvP.cls a1 a2 hh)
  · rw [hg] at hr; cases hr

theorem rcs_set (xs : Xs) (n : Nat) (b : Nat) (r : Rec) (s : Value) : rcs (xs.set n (some (b, r, s))) = (rcs xs).set n (some r) := by
  unfold rcs; rw [List.map_set]; rfl

theorem blk_set {xs : Xs} {n b : Nat} {r r' : Rec} {s s' : Value} (hx : xs[n]? = some (some (b, r, s))) : blk (xs.set n (some (b, r', s'))) = blk xs := by
  unfold blk
  rw [List.map_set]
  apply List.ext_getElem?
  intro i
  rw [List.getElem?_set]
  by_cases hi : n = i
  · subst hi
    have hn := (List.getElem?_eq_some_iff.1 hx).1
    rw [if_pos rfl, if_pos (by rw [List.length_map]; exact hn), List.getElem?_map, hx]; rfl
  · rw [if_neg hi]

/-- The record of a place in sight. -/
theorem EnvP.see {tab n b : Nat} {xs : Xs} {r : Rec} {s : Value} (hx : xs[n]? = some (some (b, r, s))) (hh : Has (Pt t (.cells #[ptr tab, iv last] 98 (0, 0)) :: TabP rowP tab (blk xs) :: RecsP xs :: L) h) :
    Has (Pt b (.cells (recC r s).toArray 103 (0, 0)) :: WnP 1 s r.kids.length (r.kids.map iv) :: RecsP (xs.set n none) :: Pt t (.cells #[ptr tab, iv last] 98 (0, 0)) :: TabP rowP tab (blk xs) :: L) h :=
  RecsP.focus (hh.pull 2 rfl) hx

theorem EnvP.put {tab n b : Nat} {xs : Xs} {r r' : Rec} {s s' : Value} (a1 : xs.length = 16) (a2 : rcs xs = rs) (hx : xs[n]? = some (some (b, r, s)))
    (hh : Has (Pt b (.cells (recC r' s').toArray 103 (0, 0)) :: WnP 1 s' r'.kids.length (r'.kids.map iv) :: RecsP (xs.set n none) :: Pt t (.cells #[ptr tab, iv last] 98 (0, 0)) :: TabP rowP tab (blk xs) :: L) h) : Has (EnvP t (rs.set n (some r')) last :: L) h := by
  have hn := (List.getElem?_eq_some_iff.1 hx).1
  have h2 := RecsP.unfocus (x := some (b, r', s')) hn hh
  have h3 := (h2.pull 2 rfl).pull 2 rfl
  rw [← blk_set (r' := r') (s' := s') hx] at h3
  exact EnvP.cls (by rw [List.length_set]; exact a1) (by rw [rcs_set, a2]) h3

theorem wait16 {n : Nat} {r : Rec} (hh : Has (EnvP t rs last :: L) h) (hg : got rs (n : Int) = some r) (hq : ∀ h', Has (EnvP t (rs.set n (some r.wait)) last :: L) h' → Q (.tuple #[iv r.bits, iv 0]) h') : Ok PR 16 [ptr t, iv n] h Q := by
  obtain ⟨tab, xs, a1, a2, hh, ⟨hr, _⟩ | ⟨m, b, r1, s, e1, hm, hr, hb, hx⟩⟩ := EnvP.look (e := n) hh
  · rw [hg] at hr; cases hr
  · obtain rfl : m = n := by omega
    rw [hg] at hr
    cases hr
    refine e16 rfl ?_
    refine seq_step fun K hK => ?_
    conv => whnf
    refine hK _ _ _ (seq_step fun K1 hK1 => ?_)
    conv => whnf
    refine opt_ld (hh.pt 0 rfl) (v := .agg #[ptr tab]) rfl ?_
    conv => whnf
    refine at56 (Has.get hh 1 rfl fun _ _ => TabP.sub) m ?_
    rw [hb]
    have hv := EnvP.see hx hh
    conv => whnf
    refine hK1 _ _ _ (seq_step fun K2 hK2 => ?_)
    refine seq_step fun K3 hK3 => ?_
    conv => whnf
    refine hK3 _ _ _ ?_
    conv => whnf
    refine hK2 _ _ _ (seq_step fun K4 hK4 => ?_)
    conv => whnf
    refine opt_ld (hv.pt 0 rfl) (v := iv r.bits) rfl ?_
    conv => whnf
    refine hK4 _ _ _ (seq_step fun K5 hK5 => ?_)
    conv => whnf
    refine rc_st hv 4 (iv 0) rfl (by simp [recC]) { r with bits := 0 } s rfl rfl rfl fun h1 hh1 => ?_
    conv => whnf
    refine hK5 _ _ _ (seq_step fun K6 hK6 => ?_)
    refine seq_step fun K7 hK7 => ?_
    conv => whnf
    refine hK7 _ _ _ ?_
    refine cond_beq (fun hz => ?_) (fun hz => ?_)
    · have ew : r.wait = { r with bits := 0, state := 2 } := by unfold Rec.wait; rw [if_pos hz]
      conv => whnf
      refine rc_st hh1 2 (iv 2) rfl (by simp [recC]) { r with bits := 0, state := 2 } s rfl rfl rfl fun h2 hh2 => ?_
      conv => whnf
      refine hK6 _ _ _ ?_
      conv => whnf
      refine hq _ ?_
      rw [ew]
      exact EnvP.put a1 a2 hx hh2
    · have ew : r.wait = { r with bits := 0 } := by unfold Rec.wait; rw [if_neg hz]
      conv => whnf
      refine hK6 _ _ _ ?_
      conv => whnf
      refine hq _ ?_
      rw [ew]
      exact EnvP.put a1 a2 hx hh1

end
end Go.Proofs.Ytljenppmdhldbaa.V
