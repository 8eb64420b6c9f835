/- Seat 04: the medium, carried. -/
import Derived.Test.YtpkleblggehghaaD15
namespace Go.Proofs.Ytpkleblggehghaa.V
set_option linter.unusedVariables false
set_option linter.unusedSimpArgs false
set_option linter.unusedSectionVars false
set_option linter.unusedSectionVars false
open Go

theorem reps_sl (n : Nat) : reps n [Value.slice none 0 0] = List.replicate n (.slice none 0 0) := by
  induction n with
  | zero => rfl
  | succ n ih => simp only [reps, ih, List.replicate_succ]; rfl

/-- The first k parts told. -/
def prt (p k : Nat) : List Value := (List.range 1024).map fun i => if i < k then .slice (some ⟨p, i * 128, none⟩) 128 128 else .slice none 0 0

theorem prt_len (p k : Nat) : (prt p k).length = 1024 := by rw [prt, List.length_map, List.length_range]

theorem prt_set {p k : Nat} (hk : k < 1024) : (prt p k).set k (.slice (some ⟨p, k * 128, none⟩) 128 128) = prt p (k + 1) := by
  apply List.ext_getElem?
  intro j
  by_cases hj : j = k
  · subst hj
    rw [List.getElem?_set_self (by rw [prt_len]; exact hk)]
    simp only [prt, List.getElem?_map, List.getElem?_range hk, Option.map_some]
    rw [if_pos (by omega)]
  · rw [List.getElem?_set_ne (fun e => hj e.symm)]
    simp only [prt, List.getElem?_map]
    cases h : (List.range 1024)[j]? with
    | none => rfl
    | some i =>
      have hj2 := (List.getElem?_eq_some_iff.1 h).1
      rw [List.length_range] at hj2
      rw [List.getElem?_range hj2] at h
      cases h
      simp only [Option.map_some]
      congr 1
      by_cases h1 : j < k
      · rw [if_pos h1, if_pos (by omega)]
      · rw [if_neg h1, if_neg (by omega)]

theorem prt_zero (p : Nat) : prt p 0 = List.replicate 1024 (.slice none 0 0) := by
  unfold prt
  apply List.ext_getElem?
  intro j
  rw [List.getElem?_map]
  by_cases hj : j < 1024
  · rw [List.getElem?_range hj, List.getElem?_replicate, if_pos hj]; rfl
  · rw [List.getElem?_eq_none (by rw [List.length_range]; omega), List.getElem?_replicate, if_neg hj]; rfl

def medB (m : List Sec) : List Int := (m.map fun x => x.val).flatten

theorem medB_len {m : List Sec} : (medB m).length = m.length * 128 := by
  unfold medB
  induction m with
  | nil => rfl
  | cons x m ih => rw [List.map_cons, List.flatten_cons, List.length_append, ih, x.len, List.length_cons, Nat.succ_mul]; omega

/-- One sector of a medium's bytes. -/
def chunk (l : List Int) (i : Nat) : Sec := if h : ((l.drop (i * 128)).take 128).length = 128 then ⟨(l.drop (i * 128)).take 128, h⟩ else zsec

theorem medB_get {x : Sec} : ∀ (m : List Sec) (i : Nat), m[i]? = some x → ((medB m).drop (i * 128)).take 128 = x.val := by
    intro m
    induction m with
    | nil => intro i h; simp at h
    | cons y m ih =>
      intro i h
      have e : medB (y :: m) = y.val ++ medB m := rfl
      rw [e]
      rcases i with _ | i
      · cases h
        rw [Nat.zero_mul, List.drop_zero, List.take_append_of_le_length (by rw [x.len]; exact Nat.le_refl _), List.take_of_length_le (by rw [x.len]; exact Nat.le_refl _)]
      · rw [List.drop_append, List.drop_of_length_le (by rw [y.len]; omega), List.nil_append, y.len, show (i + 1) * 128 - 128 = i * 128 by omega]
        exact ih i (by simpa using h)

theorem chunk_medB {m : List Sec} {i : Nat} {x : Sec} (h : m[i]? = some x) : chunk (medB m) i = x := by
  have hv := medB_get m i h
  unfold chunk
  rw [dif_pos (by rw [hv, x.len])]
  cases x
  simp only at hv ⊢
  congr 1

/-- A disk of these bytes. -/
def ofM (l : List Int) (k : Nat) : List Sec := (List.range 1024).map fun i => if i < k then chunk l i else zsec
def ofD (l : List Int) (k : Nat) : Dk := { dk0 with med := ofM l k }

theorem ofM_len (l : List Int) (k : Nat) : (ofM l k).length = 1024 := by rw [ofM, List.length_map, List.length_range]

theorem ofM_get (l : List Int) (k : Nat) {i : Nat} (hi : i < 1024) : (ofM l k)[i]? = some (if i < k then chunk l i else zsec) := by
  rw [ofM, List.getElem?_map, List.getElem?_range hi]; rfl

theorem ofM_zero (l : List Int) : ofM l 0 = List.replicate 1024 zsec := by
  apply List.ext_getElem?
  intro j
  by_cases hj : j < 1024
  · rw [ofM_get _ _ hj, List.getElem?_replicate, if_pos hj, if_neg (by omega)]
  · rw [List.getElem?_eq_none (by rw [ofM_len]; omega), List.getElem?_replicate, if_neg hj]

theorem ofM_set (l : List Int) {k : Nat} (hk : k < 1024) : (ofM l k).set k (chunk l k) = ofM l (k + 1) := by
  apply List.ext_getElem?
  intro j
  by_cases hj : j = k
  · subst hj
    rw [List.getElem?_set_self (by rw [ofM_len]; exact hk), ofM_get _ _ hk, if_pos (by omega)]
  · rw [List.getElem?_set_ne (fun e => hj e.symm)]
    by_cases hj2 : j < 1024
    · rw [ofM_get _ _ hj2, ofM_get _ _ hj2]
      by_cases h1 : j < k
      · rw [if_pos h1, if_pos (by omega)]
      · rw [if_neg h1, if_neg (by omega)]
    · rw [List.getElem?_eq_none (by rw [ofM_len]; omega), List.getElem?_eq_none (by rw [ofM_len]; omega)]

theorem ofM_med {m : List Sec} (hm : m.length = 1024) : ofM (medB m) 1024 = m := by
  apply List.ext_getElem?
  intro j
  by_cases hj : j < 1024
  · have h : m[j]? = some m[j] := List.getElem?_eq_getElem (by omega)
    rw [ofM_get _ _ hj, if_pos hj, h, chunk_medB h]
  · rw [List.getElem?_eq_none (by rw [ofM_len]; omega), List.getElem?_eq_none (by omega)]

section
variable {h : Hp} {Q : Value → Hp → Prop} {L : List As} {p : Nat} {d : Dk}

set_option maxRecDepth 20000 in
theorem medium35 (hh : Has (DkP p d :: L) h) (hq : ∀ s h', Has (WnP 1 s 131072 ((medB d.med).map by8) :: DkP p d :: L) h' → Q s h') : Ok PR 35 [ptr p] h Q := by
  obtain ⟨hok, s, hh⟩ := DkP.opn hh
  refine e35 rfl ?_
  refine seq_step fun K hK => ?_
  conv => whnf
  refine hK _ _ _ (seq_step fun K1 hK1 => ?_)
  conv => whnf
  refine ⟨by omega, by omega, by omega, by omega, fresh_has hh fun b h1 hb _ _ hh1 => ?_⟩
  conv => whnf
  have hh2 : Has (WnP 1 (.slice (some ⟨b, 0, none⟩) 1024 1024) 1024 (prt p 0) :: Pt p (.cells (dkC d s).toArray 84 (0, 0)) :: WnP 129 s d.cache.length (d.cache.flatMap rowQ) :: L) h1 := by
    refine Has.mono1 hh1 fun g' hg' => ?_
    exact pt_wn (e := 1) (n := 1024) (cap := 1024) (by rw [show Int.toNat 1024 = 1024 from rfl, reps_sl, List.length_replicate]) (Nat.le_refl _) (by rw [show Int.toNat 1024 = 1024 from rfl, reps_sl, prt_zero, List.take_of_length_le (by rw [List.length_replicate]; omega)]) hg'
  clear hh1 hb
  refine hK1 _ _ _ (seq_step fun K2 hK2 => ?_)
  refine seq_step fun K3 hK3 => ?_
  conv => whnf
  refine hK3 _ _ _ ?_
  refine loop_intro (σ := Nat × Hp) (fun x => [(6, .v (iv x.1)), (3, .v (.slice (some ⟨b, 0, none⟩) 1024 1024)), (0, .v (ptr p))]) (fun _ => []) (fun x => x.2)
    (fun x => x.1 ≤ 1024 ∧ Has (WnP 1 (.slice (some ⟨b, 0, none⟩) 1024 1024) 1024 (prt p x.1) :: Pt p (.cells (dkC d s).toArray 84 (0, 0)) :: WnP 129 s d.cache.length (d.cache.flatMap rowQ) :: L) x.2) (fun x => 1024 - x.1) (0, h1) ⟨Nat.zero_le _, hh2⟩
    ⟨rfl, rfl, rfl, trivial⟩ subB_nil rfl ?_
  clear hh2 hh
  rintro ⟨k, g⟩ ⟨hkl, hg⟩
  dsimp only at hkl hg ⊢
  refine seq_step fun K6 hK6 => ?_
  conv => whnf
  refine hK6 _ _ _ (seq_step fun K7 hK7 => ?_)
  conv => whnf
  refine cond_dec (fun hlt => ?_) (fun hlt => ?_)
  · conv => whnf
    refine hK7 _ _ _ (seq_step fun K8 hK8 => ?_)
    conv => whnf
    refine opt_if ⟨by omega, by omega⟩ ?_
    conv => whnf
    refine opt_if ⟨by omega, by omega⟩ ?_
    conv => whnf
    have e1 : (if (128 : Nat) = 0 then 0 + 0 + ((k : Int)).toNat * 128 else 0 + 0 + ((k : Int)).toNat * 128 + 0 * 1) = k * 128 := by rw [if_neg (by decide)]; omega
    rw [e1, show 0 + (k : Int).toNat * 1 = 0 + k by omega]
    refine st_hasW hg 0 rfl (k := k) (x := .slice (some ⟨p, k * 128, none⟩) 128 128) (by omega) rfl rfl fun g1 hg1 => ?_
    rw [prt_set (by omega)] at hg1
    conv => whnf
    refine hK8 _ _ _ ?_
    conv => whnf
    exact ⟨(k + 1, g1), ⟨(show k + 1 ≤ 1024 by omega), hg1⟩, (by show 1024 - (k + 1) < 1024 - k; omega), ⟨int_eq (wrap_nat (by omega)) rfl, rfl, rfl, trivial⟩, subB_nil, rfl⟩
  · have hkl : k = 1024 := by omega
    subst hkl
    conv => whnf
    refine hK2 _ _ _ (seq_step fun K8 hK8 => ?_)
    conv => whnf
    have e2 : (d.med.map fun x => x.val).flatten.length = 131072 := by
      have := medB_len (m := d.med)
      rw [hok.med] at this; exact this
    refine join50 (bs := d.med.map fun x => x.val) hg (hg.wn 0 rfl) (by rw [List.length_map, hok.med]) (fun i q l hq1 hq2 => ?_) (by omega) (by rw [e2]; omega) fun s2 h2 hh2 => ?_
    · have hi := (List.getElem?_eq_some_iff.1 hq1).1
      rw [prt_len] at hi
      simp only [prt, List.getElem?_map, List.getElem?_range hi, Option.map_some, if_pos hi] at hq1
      cases hq1
      rw [List.getElem?_map] at hq2
      cases hx : d.med[i]? with
      | none => rw [hx] at hq2; cases hq2
      | some x =>
        rw [hx] at hq2; cases hq2
        rw [x.len]
        exact dk_vw hok (hg.pt 1 rfl) hx
    rw [e2] at hh2
    have hh3 : Has (Pt p (.cells (dkC d s).toArray 84 (0, 0)) :: WnP 129 s d.cache.length (d.cache.flatMap rowQ) :: WnP 1 s2 131072 ((medB d.med).map by8) :: L) h2 := ((((hh2.erase 1).pull 2 rfl).pull 2 rfl))
    conv => whnf
    refine hK8 _ _ _ ?_
    conv => whnf
    exact hq _ _ (DkP.cls hok hh3).swap

theorem slA_all {b o : Nat} : pSlA 128 1 none none (.v (.pointer (some ⟨b, o, none⟩))) = some (.v (.slice (some ⟨b, o, none⟩) 128 128)) := by
  simp only [pSlA, bnd]
  simp

theorem of36z {base : Option Addr} {len cap : Nat} (hl : len ≠ 131072) (hq : Q (.tuple #[.pointer none, iv 41]) h) : Ok PR 36 [.slice base len cap] h Q := by
  refine e36 rfl ?_
  refine seq_step fun K hK => ?_
  conv => whnf
  refine hK _ _ _ (seq_step fun K1 hK1 => ?_)
  refine seq_step fun K2 hK2 => ?_
  conv => whnf
  refine hK2 _ _ _ ?_
  conv => whnf
  refine cond_bne (fun _ => ?_) (fun e => absurd e (by omega))
  conv => whnf
  exact hq

set_option maxRecDepth 20000 in
theorem of36 {a : Value} {l : List Int} (hh : Has L h) (ha : ∀ g, Has L g → Vw 1 g a 131072 (l.map by8)) (hq : ∀ q h', Has (DkP q (ofD l 1024) :: L) h' → Q (.tuple #[ptr q, iv 0]) h') : Ok PR 36 [a] h Q := by
  have hll : l.length = 131072 := by have := (ha h hh).1; simpa using this
  obtain ⟨base, cap, hs⟩ : ∃ base cap, a = .slice base 131072 cap := let ⟨_, x, y, z, _⟩ := ha h hh; ⟨x, y, z⟩
  obtain ⟨b, o, c, ty, z, cap', hs', hb, hsz, hcc⟩ := (ha h hh).at (i := 0) (by omega)
  rw [hs] at hs'
  cases hs'
  subst hs
  have hcap : 131072 ≤ cap := by
    obtain ⟨_, base', cap'', e1, e2, _⟩ := ha h hh
    cases e1; exact e2
  refine e36 rfl ?_
  refine seq_step fun K hK => ?_
  conv => whnf
  refine hK _ _ _ (seq_step fun K1 hK1 => ?_)
  refine seq_step fun K2 hK2 => ?_
  conv => whnf
  refine hK2 _ _ _ ?_
  conv => whnf
  refine hK1 _ _ _ (seq_step fun K3 hK3 => ?_)
  conv => whnf
  refine new37 hh fun q h1 hh1 => ?_
  conv => whnf
  refine hK3 _ _ _ (seq_step fun K4 hK4 => ?_)
  refine seq_step fun K5 hK5 => ?_
  conv => whnf
  refine hK5 _ _ _ ?_
  have e0 : ofD l 0 = dk0 := by unfold ofD; rw [ofM_zero]; rfl
  refine loop_intro (σ := Nat × Hp) (fun x => [(10, .v (iv x.1)), (4, .v (ptr q)), (0, .v (.slice (some ⟨b, o, none⟩) 131072 cap))]) (fun _ => []) (fun x => x.2)
    (fun x => x.1 ≤ 1024 ∧ Has (DkP q (ofD l x.1) :: L) x.2) (fun x => 1024 - x.1) (0, h1) ⟨Nat.zero_le _, by show Has (DkP q (ofD l 0) :: L) h1; rw [e0]; exact hh1⟩
    ⟨rfl, rfl, rfl, trivial⟩ subB_nil rfl ?_
  clear hh1 hh hb hsz hcc
  rintro ⟨k, g⟩ ⟨hkl, hg⟩
  dsimp only at hkl hg ⊢
  refine seq_step fun K6 hK6 => ?_
  conv => whnf
  refine hK6 _ _ _ (seq_step fun K7 hK7 => ?_)
  conv => whnf
  refine cond_dec (fun hlt => ?_) (fun hlt => ?_)
  · have hw : IntKind.i64.wrap ((k : Int) * 128) = ((k * 128 : Nat) : Int) := by rw [wrap_i64 (by omega) (by omega)]; omega
    have hlast := ha g hg.tail
    obtain ⟨hok, s, hh⟩ := DkP.opn hg
    conv => whnf
    refine hK7 _ _ _ (seq_step fun K8 hK8 => ?_)
    refine seq_step fun K9 hK9 => ?_
    conv => whnf
    refine hK9 _ _ _ ?_
    conv => whnf
    refine opt_if ⟨by omega, by omega⟩ ?_
    conv => whnf
    rw [hw]
    refine opt_some (slS_lo (lo := k * 128) (by omega) (by omega)) ?_
    conv => whnf
    have hp := hlast.part (b := b) (o := o) (cap := cap) rfl (lo := k * 128) (hi := 131072) (c2 := cap - k * 128) (o2 := if cap = k * 128 then o else o + k * 128) (by omega) (Nat.le_refl _) (by omega) (.inl (by rw [if_neg (by omega)]; omega))
    have e1 : (if (128 : Nat) = 0 then 0 + 0 + ((k : Int)).toNat * 128 else 0 + 0 + ((k : Int)).toNat * 128 + 0 * 1) = k * 128 := by rw [if_neg (by decide)]; omega
    have e2 : (((l.map by8).drop (k * 128 * 1)).take ((131072 - k * 128) * 1)) = ((l.drop (k * 128)).take (131072 - k * 128)).map by8 := by
      rw [Nat.mul_one, Nat.mul_one, ← List.map_drop, ← List.map_take]
    rw [e2] at hp
    rw [e1, show 128 - 0 = 128 from rfl]
    have hmin : min (131072 - k * 128) 128 = 128 := by omega
    refine cpy_has hh 0 rfl hp (by8_one _) (by rw [hmin, dk_size hok.med]; omega) fun h2 hh2 => ?_
    rw [hmin] at hh2 ⊢
    have hcl : ((l.drop (k * 128)).take 128).length = 128 := by rw [List.length_take, List.length_drop, hll]; omega
    have e3 : ((((l.drop (k * 128)).take (131072 - k * 128)).map by8).take (128 * 1)) = rowS (chunk l k) := by
      unfold chunk
      rw [dif_pos hcl, Nat.mul_one, ← List.map_take, List.take_take, show min 128 (131072 - k * 128) = 128 by omega]
      rfl
    rw [e3] at hh2
    replace hh2 : Has (Pt q (.cells (wr (dkC (ofD l k) s).toArray (k * 128) (rowS (chunk l k))) 84 (0, 0)) :: WnP 129 s 0 [] :: L) h2 := hh2
    rw [dk_wrS (d := ofD l k) hok.med (by omega)] at hh2
    have e4 : ({ ofD l k with med := (ofD l k).med.set k (chunk l k) } : Dk) = ofD l (k + 1) := by
      unfold ofD
      rw [← ofM_set l (by omega)]
    rw [e4] at hh2
    have hok2 : Dok (ofD l (k + 1)) := ⟨ofM_len _ _, hok.at_, hok.left, hok.left2, hok.acts⟩
    conv => whnf
    refine hK8 _ _ _ ?_
    conv => whnf
    exact ⟨(k + 1, h2), ⟨(show k + 1 ≤ 1024 by omega), DkP.cls (d := ofD l (k + 1)) hok2 hh2⟩, (by show 1024 - (k + 1) < 1024 - k; omega), ⟨int_eq (wrap_nat (by omega)) rfl, rfl, rfl, trivial⟩, subB_nil, rfl⟩
  · have hkl : k = 1024 := by omega
    subst hkl
    conv => whnf
    refine hK4 _ _ _ ?_
    conv => whnf
    exact hq _ _ hg

end
end Go.Proofs.Ytpkleblggehghaa.V
