/- Seat 04: what waits. -/
import Derived.Test.YtpkleblggehghaaD6
namespace Go.Proofs.Ytpkleblggehghaa.V
set_option linter.unusedVariables false
set_option linter.unusedSimpArgs false
set_option linter.unusedSectionVars false
set_option linter.unusedSectionVars false
open Go

section
variable {h : Hp} {Q : Value → Hp → Prop} {L : List As} {p : Nat} {d : Dk}

theorem rowQ_agg {c : Array Value} {o : Nat} {y : Int × Sec} (hsz : o + 129 ≤ c.size) (hc : ∀ j v, (rowQ y)[j]? = some v → c[o + j]? = some v) : rd c o 129 true = some (.agg (rowQ y).toArray) := by
  unfold rd
  rw [if_pos rfl, if_pos hsz]
  congr 2
  unfold sub
  congr 1
  apply List.ext_getElem?
  intro j
  rw [List.getElem?_take, List.getElem?_drop]
  by_cases hj : j < 129
  · rw [if_pos hj]
    have : (rowQ y)[j]? = some ((rowQ y)[j]'(by rw [rowQ_len]; exact hj)) := List.getElem?_eq_getElem _
    rw [this, Array.getElem?_toList]
    exact hc j _ this
  · rw [if_neg hj, List.getElem?_eq_none (by rw [rowQ_len]; omega)]

set_option maxRecDepth 20000 in
theorem pending23 (hh : Has (DkP p d :: L) h) (hc : d.cache.length ≤ 2 ^ 40) (hq : ∀ s h', Has (WnP 1 s d.cache.length (d.cache.map fun x => iv x.1) :: DkP p d :: L) h' → Q s h') : Ok PR 23 [ptr p] h Q := by
  obtain ⟨hok, s, hh⟩ := DkP.opn hh
  have hW : WnP 129 s d.cache.length (d.cache.flatMap rowQ) h := Has.get (L := Pt p (.cells (dkC d s).toArray 84 (0, 0)) :: WnP 129 s d.cache.length (d.cache.flatMap rowQ) :: L) hh 1 rfl fun _ _ => WnP.sub
  obtain ⟨base, cap, hs, hnc, hb0⟩ := hW.val
  subst hs
  refine e23 rfl ?_
  refine seq_step fun K hK => ?_
  conv => whnf
  refine hK _ _ _ (seq_step fun K1 hK1 => ?_)
  conv => whnf
  refine hK1 _ _ _ (seq_step fun K2 hK2 => ?_)
  conv => whnf
  refine dk_ld (hh.pt 0 rfl) hok.med 0 _ rfl rfl ?_
  conv => whnf
  refine loop_intro (σ := Nat × Value × Hp) (fun x => [(11, .v (iv x.1)), (10, .v (iv d.cache.length)), (9, .v (.slice base d.cache.length cap)), (3, .v x.2.1)]) (fun _ => []) (fun x => x.2.2)
    (fun x => x.1 ≤ d.cache.length ∧ Has (WnP 1 x.2.1 x.1 ((d.cache.take x.1).map fun x => iv x.1) :: Pt p (.cells (dkC d (.slice base d.cache.length cap)).toArray 84 (0, 0)) :: WnP 129 (.slice base d.cache.length cap) d.cache.length (d.cache.flatMap rowQ) :: L) x.2.2) (fun x => d.cache.length - x.1) (0, .slice none 0 0, h) ⟨Nat.zero_le _, hh.nilW 1⟩
    ⟨rfl, rfl, rfl, rfl, trivial⟩ subB_nil rfl ?_
  rintro ⟨k, s1, g⟩ ⟨hk, hg⟩
  dsimp only at hk hg ⊢
  have hW' : WnP 129 (.slice base d.cache.length cap) d.cache.length (d.cache.flatMap rowQ) g := Has.get (L := WnP 1 s1 k ((d.cache.take k).map fun x => iv x.1) :: Pt p (.cells (dkC d (.slice base d.cache.length cap)).toArray 84 (0, 0)) :: WnP 129 (.slice base d.cache.length cap) d.cache.length (d.cache.flatMap rowQ) :: L) hg 2 rfl fun _ _ => WnP.sub
  refine seq_step fun K4 hK4 => ?_
  conv => whnf
  refine hK4 _ _ _ (seq_step fun K5 hK5 => ?_)
  conv => whnf
  refine cond_dec (fun hlt => ?_) (fun hlt => ?_)
  · have hm : d.cache[k]? = some d.cache[k] := List.getElem?_eq_getElem (by omega)
    generalize d.cache[k] = y at hm
    obtain ⟨b, o, c, ty, z, cap', hs, hb, hsz, hcc⟩ := hW'.vw.at (i := k) (by omega)
    cases hs
    have hcell : ∀ j v, (rowQ y)[j]? = some v → c[o + k * 129 + j]? = some v := fun j v hv => by
      have hj : j < 129 := by rw [← rowQ_len y]; exact (List.getElem?_eq_some_iff.1 hv).1
      exact hcc j v (by rw [flat_get rowQ_len _ _ _ _ hm hj]; exact hv)
    conv => whnf
    refine hK5 _ _ _ (seq_step fun K6 hK6 => ?_)
    refine seq_step fun K7 hK7 => ?_
    conv => whnf
    refine opt_if ⟨by omega, by omega⟩ ?_
    conv => whnf
    have hkk : k * 129 + 129 ≤ d.cache.length * 129 := by rw [← Nat.succ_mul]; exact Nat.mul_le_mul_right 129 (by omega)
    have hbd : o + k * 129 + 129 ≤ c.size := by omega
    refine opt_ld hb (v := .agg (rowQ y).toArray) (rowQ_agg (o := o + k * 129) hbd hcell) ?_
    conv => whnf
    refine opt_stL rfl (show (rowQ y).toArray.size = 129 from by rw [List.size_toArray, rowQ_len]) rfl (show (rowQ y).toArray.toList.all one = true from rowQ_one y) ?_
    conv => whnf
    refine hK7 _ _ _ ?_
    conv => whnf
    refine fresh_has hg fun b1 g1 hb1 _ hs1 hh1 => ?_
    conv => whnf
    have hv : Vw 1 g1 (.slice (some ⟨b1, 0, none⟩) 1 1) 1 [iv y.1] := (pt_wn (e := 1) (n := 1) (cap := 1) (vs := [iv y.1]) (cs := [iv y.1]) rfl (Nat.le_refl _) rfl hb1).vw
    refine app_hasW (z := [.int .i64 0]) hh1 1 rfl hv rfl (by omega) fun s4 g2 hh2 => ?_
    replace hh2 : Has (WnP 1 s4 (k + 1) ((d.cache.take k).map (fun x => iv x.1) ++ [iv y.1]) :: Pt p (.cells (dkC d (.slice (some ⟨b, o, none⟩) d.cache.length cap)).toArray 84 (0, 0)) :: WnP 129 (.slice (some ⟨b, o, none⟩) d.cache.length cap) d.cache.length (d.cache.flatMap rowQ) :: L) g2 := Has.tail hh2
    have etk : (d.cache.take (k + 1)).map (fun x => iv x.1) = (d.cache.take k).map (fun x => iv x.1) ++ [iv y.1] := by rw [List.take_add_one, hm, List.map_append]; rfl
    rw [← etk] at hh2
    conv => whnf
    refine hK6 _ _ _ ?_
    conv => whnf
    exact ⟨(k + 1, s4, g2), ⟨by omega, hh2⟩, (by show d.cache.length - (k + 1) < d.cache.length - k; omega), ⟨int_eq (wrap_nat (by omega)) rfl, rfl, rfl, rfl, trivial⟩, subB_nil, rfl⟩
  · have hkl : k = d.cache.length := by omega
    subst hkl
    rw [List.take_of_length_le (Nat.le_refl _)] at hg
    conv => whnf
    refine hK2 _ _ _ ?_
    conv => whnf
    obtain ⟨h1, h2, e, ap, hA, hL⟩ := hg
    exact hq _ _ ⟨h1, h2, e, ap, hA, DkP.cls hok hL⟩

end
end Go.Proofs.Ytpkleblggehghaa.V
