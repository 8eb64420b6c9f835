/- Seat 04: DiskStays. -/
import Derived.Test.YtpkleblggehghaaD17
import Derived.Test.YtpkleblggehghaaE4
namespace Go.Proofs.Ytpkleblggehghaa.V
set_option linter.unusedVariables false
set_option linter.unusedSimpArgs false
set_option linter.unusedSectionVars false
set_option linter.unusedSectionVars false
open Go

theorem cacheAt_add (l : List (Int × Sec)) (x : Int × Sec) (n : Int) : cacheAt (l ++ [x]) n = if x.1 = n then some x.2 else cacheAt l n := by
  unfold cacheAt
  rw [List.reverse_append, List.reverse_singleton, List.singleton_append, List.find?_cons]
  by_cases h : x.1 = n
  · rw [if_pos h, show (x.1 == n) = true by simpa using h]; rfl
  · rw [if_neg h, show (x.1 == n) = false by simpa using h]

theorem reps_bo (n : Nat) : reps n [.bool false] = (List.replicate n false).map fun t => Value.bool t := by
  induction n with
  | zero => rfl
  | succ n ih => simp only [reps, ih, List.replicate_succ, List.map_cons]; rfl

/-- All of it lands: what is read is what lies there. -/
theorem drM_all {m : List Sec} {l : List (Int × Sec)} (hl : ∀ x ∈ l, 0 ≤ x.1) (n : Nat) (hn : n < m.length) : ∀ k, k ≤ l.length → (drM m l (fun _ => true) k)[n]? = match cacheAt (l.take k) n with
    | some x => some x
    | none => m[n]?
  | 0, _ => rfl
  | k + 1, hk => by
    have hlk : l[k]? = some l[k] := List.getElem?_eq_getElem (by omega)
    have ht : l.take (k + 1) = l.take k ++ [l[k]] := List.take_succ_eq_append_getElem (by omega)
    have h0 := hl _ (List.getElem_mem (l := l) (n := k) (by omega))
    simp only [drM, hlk, if_true]
    rw [ht, cacheAt_add]
    have ih := drM_all hl n hn k (by omega)
    by_cases hx : l[k].1 = (n : Int)
    · rw [if_pos hx]
      rw [show l[k].1.toNat = n by omega, List.getElem?_set_self (by rw [drM_len]; exact hn)]
    · rw [if_neg hx, List.getElem?_set_ne (by omega), ih]

theorem drM_other {m : List Sec} {l : List (Int × Sec)} {keep : Nat → Bool} {n : Nat} (hl : ∀ x ∈ l, x.1.toNat ≠ n) : ∀ k, (drM m l keep k)[n]? = m[n]?
  | 0 => rfl
  | k + 1 => by
    simp only [drM]
    split
    · rename_i x hx
      split
      · rw [List.getElem?_set_ne (hl x (List.mem_of_getElem? hx)), drM_other hl k]
      · exact drM_other hl k
    · exact drM_other hl k

/-- What is read at a sector. -/
def Dk.lk (d : Dk) (n : Int) : Sec := (d.look (plc n).toNat).getD zsec

theorem Dok.lk {d : Dk} (hok : Dok d) (n : Int) : d.look (plc n).toNat = some (d.lk n) := by
  unfold Dk.lk Dk.look
  cases cacheAt d.cache ((plc n).toNat : Int) with
  | some x => rfl
  | none =>
    dsimp only
    rw [hok.get n]; rfl

section
variable {h : Hp} {Q : Value → Hp → Prop} {L : List As} {p : Nat} {d : Dk}

theorem read22p (n : Int) (hd : d.down = false) (hc : d.cache.length ≤ 2 ^ 40) (hh : Has (DkP p d :: L) h) (hq : ∀ s h', Has (WnP 1 s 128 (rowS (d.lk n)) :: DkP p d :: L) h' → Q (.tuple #[s, iv 0]) h') : Ok PR 22 [ptr p, iv (plc n)] h Q := by
  have := plc_lt n
  have := read22 (Q := Q) (plc n).toNat hd (by omega) hh ((DkP.opn hh).1.lk n) hc hq
  rwa [plc_nat] at this

theorem law4 {a0 a1 a2 : Value} {l0 : List OpD} {l : List PutD} {ks : List Bool} (hs0 : SlR 7 OpR h [a0] l0) (hb0 : ∀ o ∈ l0, o.data.length ≤ 2 ^ 40 ∧ o.keep.length ≤ 2 ^ 40) (hl0 : l0.length ≤ 2 ^ 30) (hs1 : SlR 2 PutR h [a1] l) (hl : l.length ≤ 2 ^ 30)
    (hs2 : SlR 1 boR h [a2] ks) (hks : ks.length ≤ 2 ^ 30) (hq : ∀ h', SubH h h' → Q (.bool true) h') : Ok PR 4 [a0, a1, a2] h Q := by
  have hv0 := hs1.puts
  obtain ⟨base, cap, hs⟩ : ∃ base cap, a1 = .slice base l.length cap := let ⟨_, x, y, z, _⟩ := hv0; ⟨x, y, z⟩
  have hv : ∀ g, SubH h g → Vw 2 g a1 l.length (l.flatMap putV) := fun g hg => hv0.sub hg
  obtain ⟨base2, cap2, hsk⟩ : ∃ base cap, a2 = .slice base ks.length cap := let ⟨_, x, y, z, _⟩ := hs2.bo; ⟨x, y, z⟩
  have hv2 : ∀ g, SubH h g → Vw 1 g a2 ks.length (ks.map fun t => Value.bool t) := fun g hg => hs2.bo.sub hg
  subst hs hsk
  refine e4 rfl ?_
  refine seq_step fun K hK => ?_
  conv => whnf
  refine hK _ _ _ (seq_step fun K1 hK1 => ?_)
  conv => whnf
  refine fresh11 (Has.start h) (fun g hg => hg.is 0 rfl) hs0 hb0 hl0 fun q d0 h1 hcl hh1 => ?_
  conv => whnf
  refine hK1 _ _ _ (seq_step fun K2 hK2 => ?_)
  refine seq_step fun K3 hK3 => ?_
  conv => whnf
  refine laid21 hh1 hcl.down hcl.armed (fun g hg => hv g (hg.is 0 rfl)) (by rw [hcl.cache]; show 0 + _ ≤ _; omega) fun h2 hh2 => ?_
  have hd1 : (d0.lay l).down = false := hcl.down
  have ha1 : (d0.lay l).armed = false := hcl.armed
  have hc1 : (d0.lay l).cache.length = l.length := by show (d0.cache ++ l.map putQ).length = _; rw [hcl.cache]; simp
  generalize d0.lay l = d at hh2 hd1 ha1 hc1
  conv => whnf
  refine hK3 _ _ _ ?_
  conv => whnf
  refine hK2 _ _ _ (seq_step fun K4 hK4 => ?_)
  conv => whnf
  refine hK4 _ _ _ (seq_step fun K5 hK5 => ?_)
  refine seq_step fun K6 hK6 => ?_
  conv => whnf
  refine hK6 _ _ _ ?_
  refine loop_intro (σ := Nat × Value × Hp) (fun x => [(9, .v (iv x.1)), (8, .v x.2.1), (7, .v (ptr q)), (1, .v (.slice base l.length cap)), (2, .v (.slice base2 ks.length cap2))]) (fun _ => []) (fun x => x.2.2)
    (fun x => x.1 ≤ l.length ∧ Has [RdP x.2.1 ((l.take x.1).map fun o => d.lk o.sector), DkP q d, Is h] x.2.2) (fun x => l.length - x.1) (0, .slice none 0 0, h2) ⟨Nat.zero_le _, RdP.nil hh2⟩
    ⟨rfl, rfl, rfl, rfl, rfl, trivial⟩ subB_nil rfl ?_
  rintro ⟨k, s, g⟩ ⟨hkl, hg⟩
  dsimp only at hkl hg ⊢
  refine seq_step fun K7 hK7 => ?_
  refine seq_step fun K8 hK8 => ?_
  conv => whnf
  refine hK8 _ _ _ ?_
  conv => whnf
  refine cond_dec (fun hlt => ?_) (fun hlt => ?_)
  · obtain ⟨b, off, c, ty, z, cap', y, hs, hy, hb, hc0, hc1⟩ := puts_at (hv g (hg.is 2 rfl)) (i := k) (by omega)
    cases hs
    conv => whnf
    refine hK7 _ _ _ (seq_step fun K9 hK9 => ?_)
    refine seq_step fun K10 hK10 => ?_
    conv => whnf
    refine opt_if ⟨by omega, by omega⟩ ?_
    conv => whnf
    refine opt_ld hb (v := iv y.sector) hc0 ?_
    conv => whnf
    refine place16 _ ?_
    conv => whnf
    refine read22p _ hd1 (by omega) (hg.pull 1 rfl) fun s1 g1 hg1 => ?_
    obtain ⟨bs1, cp1, hs1⟩ := hg1.slv 0 rfl
    subst hs1
    conv => whnf
    refine hK10 _ _ _ (seq_step fun K11 hK11 => ?_)
    refine seq_step fun K12 hK12 => ?_
    conv => whnf
    refine hK12 _ _ _ ?_
    conv => whnf
    refine hK11 _ _ _ ?_
    conv => whnf
    refine fresh_has hg1 fun b1 g2 hb1 _ _ hg2 => ?_
    conv => whnf
    have hg3 : Has (Pt b1 (.cells #[.slice bs1 128 cp1] 34 (0, 0)) :: WnP 1 (.slice bs1 128 cp1) 128 (rowS (d.lk y.sector)) :: RdP s ((l.take k).map fun o => d.lk o.sector) :: DkP q d :: [Is h]) g2 := (((hg2.pull 3 rfl).pull 2 rfl).pull 2 rfl)
    have hrl : ((l.take k).map fun o => d.lk o.sector).length = k := by rw [List.length_map, List.length_take]; omega
    refine RdP.app hg3 (by rw [hrl]; omega) fun s' g4 hg4 => ?_
    conv => whnf
    refine hK9 _ _ _ ?_
    conv => whnf
    refine ⟨(k + 1, s', g4), ⟨(show k + 1 ≤ l.length by omega), ?_⟩, (by show l.length - (k + 1) < l.length - k; omega), ⟨int_eq (wrap_nat (by omega)) rfl, rfl, rfl, rfl, rfl, trivial⟩, subB_nil, rfl⟩
    have htk : l.take (k + 1) = l.take k ++ [y] := by
      rw [List.take_succ_eq_append_getElem (by omega)]
      have := (List.getElem?_eq_some_iff.1 hy).2
      rw [this]
    rw [htk, List.map_append]
    exact hg4
  · have hkl : k = l.length := by omega
    subst hkl
    rw [List.take_length] at hg
    have hok := (DkP.opn (hg.pull 1 rfl)).1
    conv => whnf
    refine hK5 _ _ _ (seq_step fun K9 hK9 => ?_)
    refine seq_step fun K10 hK10 => ?_
    conv => whnf
    refine flush14 (hg.pull 1 rfl) (by omega) fun g1 hg1 => ?_
    have hfl : d.flush.1 = 0 ∧ d.flush.2.down = false ∧ d.flush.2.armed = false ∧ d.flush.2.cache = [] ∧ d.flush.2.med = drM d.med d.cache (fun _ => true) d.cache.length := by
      unfold Dk.flush
      rw [up_act hd1 ha1]
      exact ⟨rfl, hd1, ha1, rfl, rfl⟩
    generalize d.flush = r at hfl hg1
    obtain ⟨r1, d2⟩ := r
    obtain ⟨hr, hd2, ha2, hc2, hm2⟩ := hfl
    dsimp only at hr hd2 ha2 hc2 hm2 hg1
    subst hr
    conv => whnf
    refine pending23 hg1 (by rw [hc2]; exact Nat.zero_le _) fun s3 g3 hg3 => ?_
    obtain ⟨bs3, cp3, hs3⟩ := hg3.slv 0 rfl
    have hc20 : d2.cache.length = 0 := by rw [hc2]; rfl
    rw [hc20] at hs3
    subst hs3
    conv => whnf
    refine hK10 _ _ _ ?_
    conv => whnf
    refine hK9 _ _ _ (seq_step fun K11 hK11 => ?_)
    conv => whnf
    refine ⟨by omega, by omega, by omega, by omega, fresh_has hg3 fun bt g4 hbt _ _ hg4 => ?_⟩
    conv => whnf
    have hg5 : Has [WnP 1 (.slice (some ⟨bt, 0, none⟩) 1024 1024) 1024 ((List.replicate 1024 false).map fun t => Value.bool t), DkP q d2, RdP s (l.map fun o => d.lk o.sector), Is h] g4 := by
      refine Has.mono1 (((hg4.erase 1)) : Has [Pt bt (.cells (reps (Int.toNat 1024) [.bool false]).toArray 4 (0, 0)), DkP q d2, RdP s (l.map fun o => d.lk o.sector), Is h] g4) fun g' hg' => ?_
      exact pt_wn (e := 1) (n := 1024) (cap := 1024) (by rw [show Int.toNat 1024 = 1024 from rfl, reps_bo, List.length_map, List.length_replicate]) (Nat.le_refl _) (by rw [show Int.toNat 1024 = 1024 from rfl, reps_bo, List.take_of_length_le (by rw [List.length_map, List.length_replicate]; omega)]) hg'
    clear hg4 hbt
    have hdk : ∀ y ∈ l, d2.med[(plc y.sector).toNat]? = some (d.lk y.sector) := fun y hy => by
      have hp := plc_lt y.sector
      rw [hm2, drM_all (fun x hx => (hok.at_ x hx).1) _ (by rw [hok.med]; omega) _ (Nat.le_refl _), List.take_length]
      rw [← hok.lk y.sector]; rfl
    clear hm2
    refine hK11 _ _ _ (seq_step fun K12 hK12 => ?_)
    refine seq_step fun K13 hK13 => ?_
    conv => whnf
    refine hK13 _ _ _ ?_
    refine loop_intro (σ := Nat × List Bool × Hp) (fun x => [(13, .v (iv x.1)), (12, .v (.slice (some ⟨bt, 0, none⟩) 1024 1024)), (8, .v s), (7, .v (ptr q)), (1, .v (.slice base l.length cap)), (2, .v (.slice base2 ks.length cap2))]) (fun _ => []) (fun x => x.2.2)
      (fun x => x.1 ≤ l.length ∧ x.2.1.length = 1024 ∧ (∀ (j : Nat) (y : PutD), j < x.1 → l[j]? = some y → x.2.1[(plc y.sector).toNat]? = some true) ∧ Has [WnP 1 (.slice (some ⟨bt, 0, none⟩) 1024 1024) 1024 (x.2.1.map fun t => Value.bool t), DkP q d2, RdP s (l.map fun o => d.lk o.sector), Is h] x.2.2) (fun x => l.length - x.1) (0, List.replicate 1024 false, g4) ⟨Nat.zero_le _, List.length_replicate .., (fun j y hj => absurd hj (Nat.not_lt_zero _)), hg5⟩
      ⟨rfl, rfl, rfl, rfl, rfl, rfl, trivial⟩ subB_nil rfl ?_
    clear hg5 hg3 hg1 hg hh2 hh1
    rintro ⟨k, tk, g⟩ ⟨hkl, htl, htk, hg⟩
    dsimp only at hkl htl htk hg ⊢
    refine seq_step fun K14 hK14 => ?_
    refine seq_step fun K15 hK15 => ?_
    conv => whnf
    refine hK15 _ _ _ ?_
    conv => whnf
    refine cond_dec (fun hlt => ?_) (fun hlt => ?_)
    · obtain ⟨b, off, c, ty, z, cap', y, hs, hy, hb, hc0, hc1⟩ := puts_at (hv g (hg.is 3 rfl)) (i := k) (by omega)
      cases hs
      have hp := plc_lt y.sector
      conv => whnf
      refine hK14 _ _ _ ?_
      conv => whnf
      refine opt_if ⟨by omega, by omega⟩ ?_
      conv => whnf
      refine opt_ld hb (v := iv y.sector) hc0 ?_
      conv => whnf
      refine place16 _ ?_
      conv => whnf
      refine opt_if ⟨by omega, by omega⟩ ?_
      conv => whnf
      rw [Nat.mul_one]
      refine st_hasW hg 0 rfl (x := .bool true) (by omega) rfl rfl fun g1 hg1 => ?_
      conv => whnf
      refine ⟨(k + 1, tk.set (plc y.sector).toNat true, g1), ⟨(show k + 1 ≤ l.length by omega), (by rw [List.length_set]; exact htl), fun j y' hj hy' => ?_, ?_⟩, (by show l.length - (k + 1) < l.length - k; omega), ⟨int_eq (wrap_nat (by omega)) rfl, rfl, rfl, rfl, rfl, rfl, trivial⟩, subB_nil, rfl⟩
      · show (tk.set (plc y.sector).toNat true)[(plc y'.sector).toNat]? = some true
        by_cases hjk : j = k
        · subst hjk
          rw [hy] at hy'; cases hy'
          rw [List.getElem?_set_self (by omega)]
        · have := htk j y' (by have : j < k + 1 := hj; omega) hy'
          by_cases he : (plc y.sector).toNat = (plc y'.sector).toNat
          · rw [he, List.getElem?_set_self (by rw [← he]; omega)]
          · rw [List.getElem?_set_ne he]; exact this
      · have : (tk.set (plc y.sector).toNat true).map (fun t => Value.bool t) = (tk.map fun t => Value.bool t).set (plc y.sector).toNat (.bool true) := by rw [List.map_set]
        show Has [WnP 1 _ 1024 ((tk.set (plc y.sector).toNat true).map fun t => Value.bool t), _, _, _] g1
        rw [this]
        exact hg1
    · have hkl : k = l.length := by omega
      subst hkl
      conv => whnf
      refine hK12 _ _ _ (seq_step fun K16 hK16 => ?_)
      refine seq_step fun K17 hK17 => ?_
      conv => whnf
      refine hK17 _ _ _ ?_
      refine loop_intro (σ := Nat × Dk × Hp) (fun x => [(14, .v (iv x.1)), (12, .v (.slice (some ⟨bt, 0, none⟩) 1024 1024)), (8, .v s), (7, .v (ptr q)), (1, .v (.slice base l.length cap)), (2, .v (.slice base2 ks.length cap2))]) (fun _ => []) (fun x => x.2.2)
        (fun x => x.1 ≤ ks.length ∧ x.2.1.down = false ∧ x.2.1.armed = false ∧ x.2.1.cache.length ≤ x.1 ∧ x.2.1.med = d2.med ∧ (∀ z ∈ x.2.1.cache, ∀ y ∈ l, z.1.toNat ≠ (plc y.sector).toNat) ∧ Has [DkP q x.2.1, WnP 1 (.slice (some ⟨bt, 0, none⟩) 1024 1024) 1024 (tk.map fun t => Value.bool t), RdP s (l.map fun o => d.lk o.sector), Is h] x.2.2) (fun x => ks.length - x.1) (0, d2, g) ⟨Nat.zero_le _, hd2, ha2, (by rw [hc2]; exact Nat.zero_le _), rfl, (fun z hz => by rw [hc2] at hz; cases hz), hg.swap⟩
        ⟨rfl, rfl, rfl, rfl, rfl, rfl, trivial⟩ subB_nil rfl ?_
      clear hg
      rintro ⟨k, d3, g⟩ ⟨hkl, hd3, ha3, hc3, hm3, hn3, hg⟩
      dsimp only at hkl hd3 ha3 hc3 hm3 hn3 hg ⊢
      refine seq_step fun K18 hK18 => ?_
      refine seq_step fun K19 hK19 => ?_
      conv => whnf
      refine hK19 _ _ _ ?_
      conv => whnf
      refine cond_dec (fun hlt => ?_) (fun hlt => ?_)
      · conv => whnf
        refine hK18 _ _ _ (seq_step fun K20 hK20 => ?_)
        refine seq_step fun K21 hK21 => ?_
        conv => whnf
        refine place16 _ ?_
        generalize IntKind.i64.wrap (37 * (k : Int)) = n37
        have hp := plc_lt n37
        conv => whnf
        refine hK21 _ _ _ (seq_step fun K22 hK22 => ?_)
        conv => whnf
        refine opt_if ⟨by omega, by omega⟩ ?_
        conv => whnf
        have htg : tk[(plc n37).toNat]? = some tk[(plc n37).toNat] := List.getElem?_eq_getElem (by omega)
        obtain ⟨b', o', c, ty, z, cap', hs', hb', hsz', hcc'⟩ := (hg.wn 1 rfl).at (i := (plc n37).toNat) (by omega)
        cases hs'
        refine opt_ld hb' (v := .bool tk[(plc n37).toNat]) ?_ ?_
        · have := hcc' 0 (.bool tk[(plc n37).toNat]) (by rw [Nat.mul_one, Nat.add_zero, List.getElem?_map, htg]; rfl)
          exact this
        cases htv : tk[(plc n37).toNat] with
        | true =>
          conv => whnf
          refine hK22 _ _ _ ?_
          conv => whnf
          refine hK20 _ _ _ ?_
          conv => whnf
          exact ⟨(k + 1, d3, g), ⟨(show k + 1 ≤ ks.length by omega), hd3, ha3, (by show d3.cache.length ≤ k + 1; omega), hm3, hn3, hg⟩, (by show ks.length - (k + 1) < ks.length - k; omega), ⟨int_eq (wrap_nat (by omega)) rfl, rfl, rfl, rfl, rfl, rfl, trivial⟩, subB_nil, rfl⟩
        | false =>
          rw [htv] at htg
          conv => whnf
          refine full17 _ hg fun s1 g1 hg1 => ?_
          conv => whnf
          refine write15 _ (x := one1S (IntKind.u8.wrap k)) (plc_lt _) hg1.swap (by omega) (fun g' hg' => hg'.wn 0 rfl) fun g2 hg2 => ?_
          rw [up_write hd3 ha3] at hg2 ⊢
          conv => whnf
          refine hK22 _ _ _ ?_
          conv => whnf
          refine hK20 _ _ _ ?_
          conv => whnf
          refine ⟨(k + 1, { d3 with acts := IntKind.i64.wrap (d3.acts + 1), cache := d3.cache ++ [(plc n37, one1S (IntKind.u8.wrap k))] }, g2), ⟨(show k + 1 ≤ ks.length by omega), hd3, ha3, ?_, hm3, ?_, hg2.erase 1⟩, (by show ks.length - (k + 1) < ks.length - k; omega), ⟨int_eq (wrap_nat (by omega)) rfl, rfl, rfl, rfl, rfl, rfl, trivial⟩, subB_nil, rfl⟩
          · show (d3.cache ++ [_]).length ≤ k + 1
            rw [List.length_append]; simp; omega
          · intro zz hzz y hy
            rcases List.mem_append.1 hzz with hz | hz
            · exact hn3 zz hz y hy
            · obtain rfl := List.mem_singleton.1 hz
              obtain ⟨j, hj⟩ := List.mem_iff_getElem?.1 hy
              have := htk j y (List.getElem?_eq_some_iff.1 hj).1 hj
              intro e
              have e' : (plc n37).toNat = (plc y.sector).toNat := e
              rw [← e', htg] at this
              cases this
      · have hkl : k = ks.length := by omega
        subst hkl
        conv => whnf
        refine hK16 _ _ _ (seq_step fun K20 hK20 => ?_)
        conv => whnf
        refine flags24 hg (hv2 g (hg.is 3 rfl)) (bo_one _) (by omega) fun s1 g1 hg1 => ?_
        conv => whnf
        refine crash20 hg1.swap (by omega) (fun g' hg' => hg'.wn 0 rfl) fun g2 hg2 => ?_
        have hmd : ∀ y ∈ l, (d3.crash (kept ks)).med[(plc y.sector).toNat]? = some (d.lk y.sector) := fun y hy => by
          show (drM d3.med d3.cache (kept ks) d3.cache.length)[(plc y.sector).toNat]? = _
          rw [drM_other (fun z hz => hn3 z hz y hy), hm3]
          exact hdk y hy
        generalize d3.crash (kept ks) = d4 at hg2 hmd
        conv => whnf
        refine hK20 _ _ _ (seq_step fun K23 hK23 => ?_)
        refine seq_step fun K24 hK24 => ?_
        conv => whnf
        refine hK24 _ _ _ ?_
        have hg3 : Has [DkP q d4, RdP s (l.map fun o => d.lk o.sector), Is h] g2 := (hg2.erase 1).erase 1
        clear hg hg1 hg2
        refine loop_intro (σ := Nat × Hp) (fun x => [(16, .v (iv x.1)), (8, .v s), (7, .v (ptr q)), (1, .v (.slice base l.length cap))]) (fun _ => []) (fun x => x.2)
          (fun x => x.1 ≤ l.length ∧ Has [DkP q d4, RdP s (l.map fun o => d.lk o.sector), Is h] x.2) (fun x => l.length - x.1) (0, g2) ⟨Nat.zero_le _, hg3⟩
          ⟨rfl, rfl, rfl, rfl, trivial⟩ subB_nil rfl ?_
        rintro ⟨k, g⟩ ⟨hkl, hg⟩
        dsimp only at hkl hg ⊢
        refine seq_step fun K25 hK25 => ?_
        refine seq_step fun K26 hK26 => ?_
        conv => whnf
        refine hK26 _ _ _ ?_
        conv => whnf
        refine cond_dec (fun hlt => ?_) (fun hlt => ?_)
        · obtain ⟨b, off, c, ty, z, cap', y, hs, hy, hb, hc0, hc1⟩ := puts_at (hv g (hg.is 2 rfl)) (i := k) (by omega)
          cases hs
          have hyl := List.mem_of_getElem? hy
          conv => whnf
          refine hK25 _ _ _ (seq_step fun K27 hK27 => ?_)
          refine seq_step fun K28 hK28 => ?_
          conv => whnf
          refine opt_if ⟨by omega, by omega⟩ ?_
          conv => whnf
          refine opt_ld hb (v := iv y.sector) hc0 ?_
          conv => whnf
          refine place16 _ ?_
          conv => whnf
          refine raw25p _ hg fun s1 g1 hg1 => ?_
          obtain ⟨bs1, cp1, hs1⟩ := hg1.slv 0 rfl
          subst hs1
          conv => whnf
          refine hK28 _ _ _ (seq_step fun K29 hK29 => ?_)
          conv => whnf
          obtain ⟨br, or, cr, tyr, zr, capr, vr, hsr, hbr, hcr, hlr, hvr⟩ := RdP.at hg1 2 rfl (i := k) (x := d.lk y.sector) (by rw [List.getElem?_map, hy]; rfl)
          rw [List.length_map] at hsr
          subst hsr
          conv => whnf
          refine opt_if ⟨by omega, by omega⟩ ?_
          conv => whnf
          refine opt_ld hbr (v := vr) ?_ ?_
          · rw [show or + (k : Int).toNat * 1 = or + k by omega]; exact hcr
          conv => whnf
          have hmy := hmd y hyl
          have hge : d4.med.getD (plc y.sector).toNat zsec = d.lk y.sector := by rw [List.getD_eq_getElem?_getD, hmy]; rfl
          rw [hge] at hg1
          refine same26 (l := (d.lk y.sector).val) (k := (d.lk y.sector).val) (hg1.wn 0 rfl) hvr fun t ht => ?_
          obtain rfl := ht rfl
          conv => whnf
          refine hK29 _ _ _ ?_
          conv => whnf
          refine hK27 _ _ _ ?_
          conv => whnf
          exact ⟨(k + 1, g1), ⟨(show k + 1 ≤ l.length by omega), hg1.tail⟩, (by show l.length - (k + 1) < l.length - k; omega), ⟨int_eq (wrap_nat (by omega)) rfl, rfl, rfl, rfl, trivial⟩, subB_nil, rfl⟩
        · have hkl : k = l.length := by omega
          subst hkl
          conv => whnf
          refine hK23 _ _ _ ?_
          conv => whnf
          exact hq _ (hg.is 2 rfl)

end
end Go.Proofs.Ytpkleblggehghaa.V
