/- Seat 04: the cache drained. -/
import Derived.Test.YtpkleblggehghaaD7
namespace Go.Proofs.Ytpkleblggehghaa.V
set_option linter.unusedVariables false
set_option linter.unusedSimpArgs false
set_option linter.unusedSectionVars false
set_option linter.unusedSectionVars false
open Go

/-- The medium behind the first k writes, of which keep tells the ones that land; how many. -/
def drM (m : List Sec) (l : List (Int × Sec)) (keep : Nat → Bool) : Nat → List Sec
  | 0 => m
  | k + 1 => match l[k]? with
    | some x => if keep k then (drM m l keep k).set x.1.toNat x.2 else drM m l keep k
    | none => drM m l keep k

def drN (keep : Nat → Bool) : Nat → Nat
  | 0 => 0
  | k + 1 => if keep k then drN keep k + 1 else drN keep k

theorem drM_len {m : List Sec} {l : List (Int × Sec)} {keep : Nat → Bool} : ∀ k, (drM m l keep k).length = m.length
  | 0 => rfl
  | k + 1 => by
    simp only [drM]
    split
    · split
      · rw [List.length_set, drM_len k]
      · exact drM_len k
    · exact drM_len k

theorem drN_le {keep : Nat → Bool} : ∀ k, drN keep k ≤ k
  | 0 => Nat.le_refl _
  | k + 1 => by have := drN_le (keep := keep) k; simp only [drN]; split <;> omega

def Dk.drain (d : Dk) (keep : Nat → Bool) : Dk := { d with med := drM d.med d.cache keep d.cache.length, cache := [] }

theorem dk_wrS {d : Dk} {s : Value} (hd : d.med.length = 1024) {i : Nat} (hi : i < 1024) (x : Sec) : wr (dkC d s).toArray (i * 128) (rowS x) = (dkC { d with med := d.med.set i x } s).toArray := by
  rw [wr_wrL]
  congr 1
  apply List.ext_getElem?
  intro j
  have hx := rowS_len x
  have hl := dk_len hd
  rw [wrL_get _ _ _ _ (by rw [dkC, List.length_append, hl, hx]; omega)]
  have e := flat_set rowS_len d.med i x (by omega)
  unfold dkC
  show _ = ((d.med.set i x).flatMap rowS ++ dkT d s)[j]?
  rw [← e]
  by_cases hj : j < 131072
  · rw [List.getElem?_append_left (l₁ := d.med.flatMap rowS) (by rw [hl]; exact hj), List.getElem?_append_left (l₁ := wrL (d.med.flatMap rowS) (i * 128) (rowS x)) (by rw [wrL_length, hl]; exact hj), wrL_get _ _ _ _ (by rw [hl, hx]; omega)]
  · rw [if_neg (by omega), List.getElem?_append_right (l₁ := d.med.flatMap rowS) (by rw [hl]; omega), List.getElem?_append_right (l₁ := wrL (d.med.flatMap rowS) (i * 128) (rowS x)) (by rw [wrL_length, hl]; omega), wrL_length]

theorem rowQ_dat (y : Int × Sec) : toE (ldL 1 128 true (some (rowQ y))) = some (.v (.agg (rowS y.2).toArray)) := by
  have : rd (rowQ y).toArray 1 128 true = some (.agg (rowS y.2).toArray) := by
    unfold rd
    rw [if_pos rfl, if_pos (by rw [List.size_toArray, rowQ_len]; omega)]
    congr 2
    unfold sub
    congr 1
    show List.take 128 (rowS y.2) = rowS y.2
    rw [List.take_of_length_le (by rw [rowS_len]; omega)]
  simp only [ldL, this, toE]

section
variable {h : Hp} {Q : Value → Hp → Prop} {L : List As} {p : Nat} {d : Dk}

set_option maxRecDepth 20000 in
theorem drain45 {kf : FuncId} {fc : Array Value} {keep : Nat → Bool} (hh : Has (DkP p d :: L) h) (hc : d.cache.length ≤ 2 ^ 40) (hcl : callable PR kf = true)
    (hk : ∀ (i : Nat) (g : Hp) (R : Value → Hp → Prop), Has L g → i < d.cache.length → R (.bool (keep i)) g → Ok PR kf ([iv i] ++ fc.toList) g R)
    (hq : ∀ h', Has (DkP p (d.drain keep) :: L) h' → Q (iv (drN keep d.cache.length)) h') : Ok PR 45 [ptr p, .func (.func kf) #[] fc] h Q := by
  obtain ⟨hok, s, hh⟩ := DkP.opn hh
  have hW : WnP 129 s d.cache.length (d.cache.flatMap rowQ) h := Has.get (L := Pt p (.cells (dkC d s).toArray 84 (0, 0)) :: WnP 129 s d.cache.length (d.cache.flatMap rowQ) :: L) hh 1 rfl fun _ _ => WnP.sub
  obtain ⟨base, cap, hs, hnc, hb0⟩ := hW.val
  subst hs
  refine e45 rfl ?_
  refine seq_step fun K hK => ?_
  conv => whnf
  refine hK _ _ _ (seq_step fun K1 hK1 => ?_)
  conv => whnf
  refine hK1 _ _ _ (seq_step fun K2 hK2 => ?_)
  conv => whnf
  refine dk_ld (hh.pt 0 rfl) hok.med 0 _ rfl rfl ?_
  conv => whnf
  refine loop_intro (σ := Nat × Hp) (fun x => [(13, .v (iv x.1)), (12, .v (iv d.cache.length)), (11, .v (.slice base d.cache.length cap)), (5, .v (iv (drN keep x.1))), (0, .v (ptr p)), (1, .v (.func (.func kf) #[] fc))]) (fun _ => []) (fun x => x.2)
    (fun x => x.1 ≤ d.cache.length ∧ Has (Pt p (.cells (dkC { d with med := drM d.med d.cache keep x.1 } (.slice base d.cache.length cap)).toArray 84 (0, 0)) :: WnP 129 (.slice base d.cache.length cap) d.cache.length (d.cache.flatMap rowQ) :: L) x.2) (fun x => d.cache.length - x.1) (0, h) ⟨Nat.zero_le _, hh⟩
    ⟨rfl, rfl, rfl, rfl, rfl, rfl, trivial⟩ subB_nil rfl ?_
  rintro ⟨k, g⟩ ⟨hkl, hg⟩
  dsimp only at hkl hg ⊢
  have hml : (drM d.med d.cache keep k).length = 1024 := (drM_len k).trans hok.med
  have hW' : WnP 129 (.slice base d.cache.length cap) d.cache.length (d.cache.flatMap rowQ) g := Has.get (L := Pt p (.cells (dkC { d with med := drM d.med d.cache keep k } (.slice base d.cache.length cap)).toArray 84 (0, 0)) :: WnP 129 (.slice base d.cache.length cap) d.cache.length (d.cache.flatMap rowQ) :: L) hg 1 rfl fun _ _ => WnP.sub
  refine seq_step fun K4 hK4 => ?_
  conv => whnf
  refine hK4 _ _ _ (seq_step fun K5 hK5 => ?_)
  conv => whnf
  refine cond_dec (fun hlt => ?_) (fun hlt => ?_)
  · have hm : d.cache[k]? = some d.cache[k] := List.getElem?_eq_getElem (by omega)
    have hat := hok.at_ _ (List.getElem_mem (l := d.cache) (n := k) (by omega))
    generalize d.cache[k] = y at hm hat
    obtain ⟨b, o, c, ty, z, cap', hs, hb, hsz, hcc⟩ := hW'.vw.at (i := k) (by omega)
    cases hs
    have hcell : ∀ j v, (rowQ y)[j]? = some v → c[o + k * 129 + j]? = some v := fun j v hv => by
      have hj : j < 129 := by rw [← rowQ_len y]; exact (List.getElem?_eq_some_iff.1 hv).1
      exact hcc j v (by rw [flat_get rowQ_len _ _ _ _ hm hj]; exact hv)
    have hkk : k * 129 + 129 ≤ d.cache.length * 129 := by rw [← Nat.succ_mul]; exact Nat.mul_le_mul_right 129 (by omega)
    have hbd : o + k * 129 + 129 ≤ c.size := by omega
    conv => whnf
    refine hK5 _ _ _ (seq_step fun K6 hK6 => ?_)
    refine seq_step fun K7 hK7 => ?_
    conv => whnf
    refine opt_if ⟨by omega, by omega⟩ ?_
    conv => whnf
    refine opt_ld hb (v := .agg (rowQ y).toArray) (rowQ_agg (o := o + k * 129) hbd hcell) ?_
    conv => whnf
    refine opt_stL rfl (show (rowQ y).toArray.size = 129 from by rw [List.size_toArray, rowQ_len]) rfl (show (rowQ y).toArray.toList.all one = true from rowQ_one y) ?_
    conv => whnf
    refine hK7 _ _ _ (seq_step fun K8 hK8 => ?_)
    conv => whnf
    refine ⟨hcl, hk k g _ (Has.tail (Has.tail hg)) (by omega) ?_⟩
    conv => whnf
    refine hK8 _ _ _ ?_
    conv => whnf
    refine cond_split (fun hkeep => ?_) (fun hkeep => ?_)
    · refine seq_step fun K9 hK9 => ?_
      conv => whnf
      refine opt_some (x := .v (.agg (rowS y.2).toArray)) (by show toE (ldL 1 128 true (some (rowQ y))) = _; exact rowQ_dat y) ?_
      conv => whnf
      refine opt_if ⟨hat.1, hat.2⟩ ?_
      conv => whnf
      have hi : y.1.toNat < 1024 := by omega
      refine st_has hg 0 rfl (show (rowS y.2).toArray.size = 128 from by rw [List.size_toArray, rowS_len]) (by rw [dk_size (d := { d with med := drM d.med d.cache keep k }) hml]; omega) (show (rowS y.2).toArray.toList.all one = true from rowS_one y.2) fun h2 _ _ hh2 => ?_
      have eM : drM d.med d.cache keep (k + 1) = (drM d.med d.cache keep k).set y.1.toNat y.2 := by
        simp only [drM, hm, hkeep]; rfl
      have eN : drN keep (k + 1) = drN keep k + 1 := by simp only [drN, hkeep]; rfl
      replace hh2 : Has (Pt p (.cells (wr (dkC { d with med := drM d.med d.cache keep k } (.slice (some ⟨b, o, none⟩) d.cache.length cap)).toArray (0 + 0 + y.1.toNat * 128) (rowS y.2)) 84 (0, 0)) :: WnP 129 (.slice (some ⟨b, o, none⟩) d.cache.length cap) d.cache.length (d.cache.flatMap rowQ) :: L) h2 := hh2
      rw [show 0 + 0 + y.1.toNat * 128 = y.1.toNat * 128 from by omega, dk_wrS (d := { d with med := drM d.med d.cache keep k }) hml hi] at hh2
      have hNl := drN_le (keep := keep) k
      have hh3 : Has (Pt p (.cells (dkC { d with med := drM d.med d.cache keep (k + 1) } (.slice (some ⟨b, o, none⟩) d.cache.length cap)).toArray 84 (0, 0)) :: WnP 129 (.slice (some ⟨b, o, none⟩) d.cache.length cap) d.cache.length (d.cache.flatMap rowQ) :: L) h2 := by rw [eM]; exact hh2
      conv => whnf
      refine hK9 _ _ _ ?_
      conv => whnf
      refine hK6 _ _ _ ?_
      conv => whnf
      refine ⟨(k + 1, h2), ⟨by omega, hh3⟩, (by show d.cache.length - (k + 1) < d.cache.length - k; omega), ⟨int_eq (wrap_nat (by omega)) rfl, rfl, rfl, int_eq ?_ rfl, rfl, rfl, trivial⟩, subB_nil, rfl⟩
      rw [eN, wrap_nat (by omega)]
    · have eM : drM d.med d.cache keep (k + 1) = drM d.med d.cache keep k := by
        simp only [drM, hm, hkeep]; rfl
      have eN : drN keep (k + 1) = drN keep k := by simp only [drN, hkeep]; rfl
      conv => whnf
      refine hK6 _ _ _ ?_
      conv => whnf
      exact ⟨(k + 1, g), ⟨by omega, by rw [eM]; exact hg⟩, (by show d.cache.length - (k + 1) < d.cache.length - k; omega), ⟨int_eq (wrap_nat (by omega)) rfl, rfl, rfl, by rw [eN]; rfl, rfl, rfl, trivial⟩, subB_nil, rfl⟩
  · have hkl : k = d.cache.length := by omega
    subst hkl
    conv => whnf
    refine hK2 _ _ _ (seq_step fun K9 hK9 => ?_)
    conv => whnf
    refine dk_st hg hml 0 _ rfl (by omega) { d with med := drM d.med d.cache keep d.cache.length, cache := [] } (.slice none 0 0) rfl rfl rfl rfl fun h2 hh2 => ?_
    conv => whnf
    refine hK9 _ _ _ ?_
    conv => whnf
    refine hq _ (DkP.cls (d := d.drain keep) (s := .slice none 0 0) ⟨hml, (fun x hx => absurd hx (List.not_mem_nil)), hok.left, hok.left2, hok.acts⟩ ?_)
    obtain ⟨h3, h4, e, ap, hA, hL⟩ := hh2
    exact ⟨h3, h4, e, ap, hA, (Has.tail hL).nilW 129⟩

end
end Go.Proofs.Ytpkleblggehghaa.V
