/- Seat 04: DiskLeaves. -/
import Derived.Test.YtpkleblggehghaaD20
import Derived.Test.YtpkleblggehghaaE6
namespace Go.Proofs.Ytpkleblggehghaa.V
set_option linter.unusedVariables false
set_option linter.unusedSimpArgs false
set_option linter.unusedSectionVars false
set_option linter.unusedSectionVars false
open Go

section
variable {h : Hp} {Q : Value → Hp → Prop} {L : List As} {p : Nat} {d : Dk}

set_option maxRecDepth 20000 in
theorem law6 {a0 a1 a2 : Value} {l0 : List OpD} {l : List PutD} {ks : List Bool} (hs0 : SlR 7 OpR h [a0] l0) (hb0 : ∀ o ∈ l0, o.data.length ≤ 2 ^ 40 ∧ o.keep.length ≤ 2 ^ 40) (hl0 : l0.length ≤ 2 ^ 30) (hs1 : SlR 2 PutR h [a1] l) (hl : l.length ≤ 2 ^ 30)
    (hs2 : SlR 1 boR h [a2] ks) (hks : ks.length ≤ 2 ^ 30) (hq : ∀ h', SubH h h' → Q (.bool true) h') : Ok PR 6 [a0, a1, a2] h Q := by
  have hv0 := hs1.puts
  obtain ⟨base, cap, hs⟩ : ∃ base cap, a1 = .slice base l.length cap := let ⟨_, x, y, z, _⟩ := hv0; ⟨x, y, z⟩
  have hv : ∀ g, SubH h g → Vw 2 g a1 l.length (l.flatMap putV) := fun g hg => hv0.sub hg
  obtain ⟨base2, cap2, hsk⟩ : ∃ base cap, a2 = .slice base ks.length cap := let ⟨_, x, y, z, _⟩ := hs2.bo; ⟨x, y, z⟩
  have hv2 : ∀ g, SubH h g → Vw 1 g a2 ks.length (ks.map fun t => Value.bool t) := fun g hg => hs2.bo.sub hg
  subst hs hsk
  refine e6 rfl ?_
  refine seq_step fun K hK => ?_
  conv => whnf
  refine hK _ _ _ (seq_step fun K1 hK1 => ?_)
  conv => whnf
  refine fresh11 (Has.start h) (fun g hg => hg.is 0 rfl) hs0 hb0 hl0 fun q d0 h1 hcl hh1 => ?_
  conv => whnf
  refine hK1 _ _ _ (seq_step fun K2 hK2 => ?_)
  refine seq_step fun K3 hK3 => ?_
  conv => whnf
  refine hK3 _ _ _ ?_
  conv => whnf
  refine hK2 _ _ _ (seq_step fun K4 hK4 => ?_)
  conv => whnf
  refine raws30 hh1 (fun g hg => hv g (hg.is 0 rfl)) hl fun s8 h2 hh2 => ?_
  conv => whnf
  refine hK4 _ _ _ (seq_step fun K5 hK5 => ?_)
  conv => whnf
  refine next31 hh2 (fun g hg => hv g (hg.is 2 rfl)) hl fun s9 h3 hh3 => ?_
  conv => whnf
  refine hK5 _ _ _ (seq_step fun K6 hK6 => ?_)
  conv => whnf
  refine raws30 (hh3.pull 2 rfl) (fun g hg => hg.wn 0 rfl) (by rw [show (nxt l).length = l.length from List.length_map _]; exact hl) fun s10 h4 hh4 => ?_
  conv => whnf
  refine hK6 _ _ _ (seq_step fun K7 hK7 => ?_)
  refine seq_step fun K8 hK8 => ?_
  conv => whnf
  refine laid21 (hh4.pull 1 rfl) hcl.down hcl.armed (fun g hg => hv g (hg.is 3 rfl)) (by rw [hcl.cache]; show 0 + _ ≤ _; omega) fun h5 hh5 => ?_
  have hc1 : (d0.lay l).cache = l.map putQ := by show (d0.cache ++ l.map putQ) = _; rw [hcl.cache]; rfl
  have hm1 : (d0.lay l).med = d0.med := rfl
  generalize d0.lay l = d1 at hh5 hc1 hm1
  conv => whnf
  refine hK8 _ _ _ ?_
  conv => whnf
  refine hK7 _ _ _ (seq_step fun K9 hK9 => ?_)
  have hc1l : d1.cache.length = l.length := by rw [hc1, List.length_map]
  conv => whnf
  refine flags24 hh5 (hv2 _ (hh5.is 4 rfl)) (bo_one _) (by omega) fun s11 h6 hh6 => ?_
  conv => whnf
  refine crash20 hh6.swap (by omega) (fun g' hg' => hg'.wn 0 rfl) fun h7 hh7 => ?_
  have hm2 : (d1.crash (kept ks)).med = drM d0.med (l.map putQ) (kept ks) l.length := by
    show drM d1.med d1.cache (kept ks) d1.cache.length = _
    rw [hm1, hc1l, hc1]
  have hc2 := Clean.crash d1 (kept ks)
  rw [hc1l]
  generalize d1.crash (kept ks) = d2 at hh7 hm2 hc2
  conv => whnf
  refine hK9 _ _ _ (seq_step fun K10 hK10 => ?_)
  refine seq_step fun K11 hK11 => ?_
  conv => whnf
  refine pending23 hh7 (by rw [hc2.cache]; exact Nat.zero_le _) fun s12 h8 hh8 => ?_
  obtain ⟨bs12, cp12, hs12⟩ := hh8.slv 0 rfl
  rw [show d2.cache.length = 0 by rw [hc2.cache]; rfl] at hs12
  subst hs12
  conv => whnf
  refine Has.call hh8 1 rfl down18S fun _ h9 hh9 => ?_
  rw [hc2.down]
  conv => whnf
  refine hK11 _ _ _ ?_
  conv => whnf
  have hh10 : Has [DkP q d2, RdP s10 (d0.raws (nxt l)), WnP 2 s9 (nxt l).length ((nxt l).flatMap putV), RdP s8 (d0.raws l), Is h] h9 := (hh9.erase 0).erase 1
  have hml : d0.med.length = 1024 := (DkP.opn hh1).1.med
  clear hh9 hh8 hh7 hh6 hh5 hh4 hh3 hh2 hh1
  refine hK10 _ _ _ (seq_step fun K12 hK12 => ?_)
  refine seq_step fun K13 hK13 => ?_
  conv => whnf
  refine hK13 _ _ _ ?_
  refine loop_intro (σ := Nat × Hp) (fun x => [(12, .v (iv x.1)), (11, .v (iv ((drN (kept ks) l.length : Int) - drN (kept ks) x.1))), (8, .v s8), (9, .v s9), (10, .v s10), (7, .v (ptr q)), (1, .v (.slice base l.length cap)), (2, .v (.slice base2 ks.length cap2))]) (fun _ => []) (fun x => x.2)
    (fun x => x.1 ≤ l.length ∧ Has [DkP q d2, RdP s10 (d0.raws (nxt l)), WnP 2 s9 (nxt l).length ((nxt l).flatMap putV), RdP s8 (d0.raws l), Is h] x.2) (fun x => l.length - x.1) (0, h9) ⟨Nat.zero_le _, hh10⟩
    ⟨rfl, int_eq (by show (drN (kept ks) l.length : Int) = (drN (kept ks) l.length : Int) - ((0 : Nat) : Int); omega) rfl, rfl, rfl, rfl, rfl, rfl, rfl, trivial⟩ subB_nil rfl ?_
  clear hK1 hK2 hK3 hK4 hK5 hK6 hK7 hK8 hK9 hK10 hK11 hK13 hh10
  rintro ⟨k, g⟩ ⟨hkl, hg⟩
  dsimp only at hkl hg ⊢
  refine seq_step fun K14 hK14 => ?_
  refine seq_step fun K15 hK15 => ?_
  conv => whnf
  refine hK15 _ _ _ ?_
  conv => whnf
  refine cond_dec (fun hlt => ?_) (fun hlt => ?_)
  · obtain ⟨b, off, c, ty, z, cap', y, hs, hy, hb, hc0, hc1⟩ := puts_at (hv g (hg.is 4 rfl)) (i := k) (by omega)
    cases hs
    conv => whnf
    refine hK14 _ _ _ (seq_step fun K16 hK16 => ?_)
    have hkb : ∀ k, drN (kept ks) (k + 1) = if kept ks k then drN (kept ks) k + 1 else drN (kept ks) k := fun k => rfl
    have hnl := drN_le (keep := kept ks) l.length
    have hnk := drN_le (keep := kept ks) k
    refine cut_intro (σ := Unit) (fun _ => [(12, .v (iv k)), (11, .v (iv ((drN (kept ks) l.length : Int) - drN (kept ks) (k + 1)))), (8, .v s8), (9, .v s9), (10, .v s10), (7, .v (ptr q)), (1, .v (.slice (some ⟨b, off, none⟩) l.length cap)), (2, .v (.slice base2 ks.length cap2))]) (fun _ => []) (fun _ => g) (fun _ => True) ?_ ?_
    · refine seq_step fun K17 hK17 => ?_
      conv => whnf
      by_cases hk2 : k < ks.length
      · rw [show decide ((k : Int) < (ks.length : Int)) = true from decide_eq_true (by omega)]
        obtain ⟨b2, off2, c2, ty2, z2, cap2', hs3, hb2, hsz2, hcc2⟩ := (hv2 g (hg.is 4 rfl)).at (i := k) (by omega)
        cases hs3
        have hkv := kept_lt (ks := ks) (k := k) (by omega)
        have hkb' := hkb k
        conv => whnf
        refine opt_if ⟨by omega, by omega⟩ ?_
        conv => whnf
        refine opt_ld hb2 (v := .bool (kept ks k)) (hcc2 0 _ (by rw [Nat.mul_one, Nat.add_zero, List.getElem?_map, hkv]; rfl)) ?_
        cases hkt : kept ks k with
        | true =>
          rw [hkt, if_pos rfl] at hkb'
          have hw : IntKind.i64.wrap ((drN (kept ks) l.length : Int) - drN (kept ks) k - 1) = (drN (kept ks) l.length : Int) - drN (kept ks) k - 1 := wrap_i64 (by omega) (by omega)
          conv => whnf
          refine hK17 _ _ _ ?_
          conv => whnf
          rw [hw]
          exact ⟨(), trivial, ⟨rfl, int_eq (by omega) rfl, rfl, rfl, rfl, rfl, rfl, rfl, trivial⟩, subB_nil, rfl⟩
        | false =>
          rw [hkt, if_neg (by decide)] at hkb'
          conv => whnf
          refine hK17 _ _ _ ?_
          conv => whnf
          exact ⟨(), trivial, ⟨rfl, int_eq (by omega) rfl, rfl, rfl, rfl, rfl, rfl, rfl, trivial⟩, subB_nil, rfl⟩
      · rw [show decide ((k : Int) < (ks.length : Int)) = false from decide_eq_false (by omega)]
        have hkb' := hkb k
        rw [kept_ge (by omega), if_neg (by decide)] at hkb'
        conv => whnf
        refine hK17 _ _ _ ?_
        conv => whnf
        exact ⟨(), trivial, ⟨rfl, int_eq (by omega) rfl, rfl, rfl, rfl, rfl, rfl, rfl, trivial⟩, subB_nil, rfl⟩
    · rintro ⟨⟩ _
      have hpy := plc_lt y.sector
      refine seq_step fun K17 hK17 => ?_
      conv => whnf
      obtain ⟨vs, hvs, hgo⟩ := RdP.opn (hg.pull 3 rfl)
      replace hgo : Has [WnP 1 s8 vs.length (vs.map (·.1)), VwsP vs, DkP q d2, RdP s10 (d0.raws (nxt l)), WnP 2 s9 (nxt l).length ((nxt l).flatMap putV), Is h] g := hgo
      have hvl : vs.length = l.length := by
        have := congrArg List.length hvs
        rw [List.length_map, Dk.raws, List.length_map] at this; exact this
      obtain ⟨br, or, cr, tyr, zr, capr, hsr, hbr, hszr, hcr⟩ := (hgo.wn 0 rfl).at (i := k) (by omega)
      obtain ⟨vr, hvk⟩ : ∃ v, vs[k]? = some v := ⟨_, List.getElem?_eq_getElem (by omega)⟩
      have hvr2 : vr.2 = d0.med.getD (plc y.sector).toNat zsec := by
        have e : (vs.map (·.2))[k]? = (d0.raws l)[k]? := by rw [hvs]
        rw [List.getElem?_map, hvk, Dk.raws, List.getElem?_map, hy] at e
        exact Option.some.inj e
      subst hsr
      conv => whnf
      refine opt_if ⟨by omega, by omega⟩ ?_
      conv => whnf
      refine opt_ld hbr (v := vr.1) (hcr 0 _ (by rw [Nat.mul_one, Nat.add_zero, List.getElem?_map, hvk]; rfl)) ?_
      conv => whnf
      refine hK17 _ _ _ (seq_step fun K18 hK18 => ?_)
      conv => whnf
      refine last32 hy (hv g (hg.is 4 rfl)) (hv2 g (hg.is 4 rfl)) hl ?_
      conv => whnf
      refine hK18 _ _ _ ?_
      obtain ⟨g1, g2, g3⟩ := lkp_lt l ks (plc y.sector) l.length
      have hmk := drM_lkp (m := d0.med) (l := l) (ks := ks) hpy.1 (by omega) l.length (Nat.le_refl _)
      rw [← hm2] at hmk
      generalize lkp l ks (plc y.sector) l.length = m at g1 g2 g3 hmk
      refine cut_intro (σ := Value × Hp) (fun x => [(12, .v (iv k)), (13, .v x.1), (11, .v (iv ((drN (kept ks) l.length : Int) - drN (kept ks) (k + 1)))), (8, .v (.slice (some ⟨br, or, none⟩) vs.length capr)), (9, .v s9), (10, .v s10), (7, .v (ptr q)), (1, .v (.slice (some ⟨b, off, none⟩) l.length cap)), (2, .v (.slice base2 ks.length cap2))]) (fun _ => []) (fun x => x.2)
        (fun x => ∃ L', Has (DkP q d2 :: L') x.2 ∧ ∀ g', Has L' g' → Vw 1 g' x.1 128 (rowS (d2.med.getD (plc y.sector).toNat zsec)) ∧ Has [WnP 1 (.slice (some ⟨br, or, none⟩) vs.length capr) vs.length (vs.map (·.1)), VwsP vs, RdP s10 (d0.raws (nxt l)), WnP 2 s9 (nxt l).length ((nxt l).flatMap putV), Is h] g') ?_ ?_
      · refine seq_step fun K19 hK19 => ?_
        conv => whnf
        refine hK19 _ _ _ ?_
        conv => whnf
        refine cond_dec (fun hge => ?_) (fun hge => ?_)
        · obtain ⟨ym, hym⟩ := g3 hge
          have hml2 := (List.getElem?_eq_some_iff.1 hym).1
          obtain ⟨b', off', c', ty', z', cap'', y', hs', hy', hb', hc0', hc1'⟩ := puts_at (hv g (hg.is 4 rfl)) (i := m.toNat) hml2
          cases hs'
          rw [hb] at hb'; cases hb'
          rw [hym] at hy'; cases hy'
          conv => whnf
          refine opt_if ⟨by omega, by omega⟩ ?_
          conv => whnf
          refine opt_ld hb (v := by8 ym.byte) hc1' ?_
          conv => whnf
          refine full17 _ (hgo.pull 2 rfl) fun s13 g4 hg4 => ?_
          conv => whnf
          refine ⟨(s13, g4), ⟨_, hg4.swap, fun g' hg' => ⟨?_, hg'.tail⟩⟩, ⟨rfl, rfl, rfl, rfl, rfl, rfl, rfl, rfl, rfl, trivial⟩, subB_nil, rfl⟩
          have e : d2.med.getD (plc y.sector).toNat zsec = one1S ym.byte := by
            rw [List.getD_eq_getElem?_getD, hmk, if_pos hge, hym]; rfl
          rw [e]
          exact hg'.wn 0 rfl
        · conv => whnf
          refine ⟨(vr.1, g), ⟨_, hgo.pull 2 rfl, fun g' hg' => ⟨?_, hg'⟩⟩, ⟨rfl, rfl, rfl, rfl, rfl, rfl, rfl, rfl, rfl, trivial⟩, subB_nil, rfl⟩
          have e : d2.med.getD (plc y.sector).toNat zsec = vr.2 := by
            rw [hvr2, List.getD_eq_getElem?_getD, hmk, if_neg hge, List.getD_eq_getElem?_getD]
          rw [e]
          exact (Has.get (A := VwsP vs) (L := [_, VwsP vs, _, _, _]) hg' 1 rfl fun g g' hg hs => fun y hy => (hg y hy).sub hs) vr (List.mem_of_getElem? hvk)
      · rintro ⟨w, g1⟩ ⟨L', hg1, hL'⟩
        dsimp only at hg1 hL' ⊢
        obtain ⟨b', off', c', ty', z', cap'', y', hs', hy', hb', hc0', hc1'⟩ := puts_at hv0 (i := k) (by omega)
        cases hs'
        rw [hy] at hy'; cases hy'
        refine seq_step fun K19 hK19 => ?_
        conv => whnf
        refine opt_if ⟨by omega, by omega⟩ ?_
        conv => whnf
        refine opt_ld ((hL' _ hg1.tail).2.is 4 rfl _ _ hb') (v := iv y.sector) hc0' ?_
        conv => whnf
        refine place16 _ ?_
        conv => whnf
        refine raw25p _ hg1 fun s15 g2 hg2 => ?_
        conv => whnf
        refine hK19 _ _ _ (seq_step fun K20 hK20 => ?_)
        conv => whnf
        refine opt_if ⟨by omega, by omega⟩ ?_
        conv => whnf
        refine opt_ld ((hL' _ hg2.tail.tail).2.is 4 rfl _ _ hb') (v := iv y.sector) hc0' ?_
        conv => whnf
        refine place16 _ ?_
        conv => whnf
        refine read22p _ hc2.down (by rw [hc2.cache]; exact Nat.zero_le _) (hg2.pull 1 rfl) fun s17 g3 hg3 => ?_
        rw [lk_nil hc2.cache] at hg3
        obtain ⟨bs15, cp15, hs15⟩ := hg3.slv 2 rfl
        subst hs15
        generalize d2.med.getD (plc y.sector).toNat zsec = xx at hL' hg3
        conv => whnf
        refine hK20 _ _ _ (seq_step fun K22 hK22 => ?_)
        conv => whnf
        refine same26 (l := xx.val) (k := xx.val) (hg3.wn 2 rfl) (hL' _ hg3.tail.tail.tail).1 fun t ht => ?_
        obtain rfl := ht rfl
        conv => whnf
        refine same26 (l := xx.val) (k := xx.val) (hg3.wn 0 rfl) (hL' _ hg3.tail.tail.tail).1 fun t ht => ?_
        obtain rfl := ht rfl
        conv => whnf
        refine hK22 _ _ _ ?_
        conv => whnf
        refine hK16 _ _ _ ?_
        conv => whnf
        have hg4 : Has [DkP q d2, WnP 1 (.slice (some ⟨br, or, none⟩) vs.length capr) vs.length (vs.map (·.1)), VwsP vs, RdP s10 (d0.raws (nxt l)), WnP 2 s9 (nxt l).length ((nxt l).flatMap putV), Is h] g3 := ((hg3.erase 0).erase 1).map_tail fun g' hg' => (hL' g' hg').2
        have hg5 := RdP.cls (L := [DkP q d2, RdP s10 (d0.raws (nxt l)), WnP 2 s9 (nxt l).length ((nxt l).flatMap putV), Is h]) (vs := vs) ((hg4.pull 2 rfl).pull 2 rfl)
        rw [hvs] at hg5
        exact ⟨(k + 1, g3), ⟨(show k + 1 ≤ l.length by omega), Has.sel hg5 [1, 2, 3, 0, 4] rfl⟩, (by show l.length - (k + 1) < l.length - k; omega), ⟨int_eq (wrap_nat (by omega)) rfl, rfl, rfl, rfl, rfl, rfl, rfl, rfl, trivial⟩, subB_nil, rfl⟩
  · have hkl : k = l.length := by omega
    subst hkl
    conv => whnf
    refine hK12 _ _ _ (seq_step fun K16 hK16 => ?_)
    refine seq_step fun K17 hK17 => ?_
    conv => whnf
    refine hK17 _ _ _ ?_
    have hnl : (nxt l).length = l.length := List.length_map _
    refine loop_intro (σ := Nat × Hp) (fun x => [(19, .v (iv x.1)), (11, .v (iv ((drN (kept ks) l.length : Int) - drN (kept ks) l.length))), (9, .v s9), (10, .v s10), (7, .v (ptr q)), (1, .v (.slice base l.length cap))]) (fun _ => []) (fun x => x.2)
      (fun x => x.1 ≤ l.length ∧ Has [DkP q d2, RdP s10 (d0.raws (nxt l)), WnP 2 s9 (nxt l).length ((nxt l).flatMap putV), RdP s8 (d0.raws l), Is h] x.2) (fun x => l.length - x.1) (0, g) ⟨Nat.zero_le _, hg⟩
      ⟨rfl, rfl, rfl, rfl, rfl, rfl, trivial⟩ subB_nil rfl ?_
    clear hg
    rintro ⟨k, g⟩ ⟨hkl, hg⟩
    dsimp only at hkl hg ⊢
    refine seq_step fun K18 hK18 => ?_
    refine seq_step fun K19 hK19 => ?_
    conv => whnf
    refine hK19 _ _ _ ?_
    conv => whnf
    refine cond_dec (fun hlt => ?_) (fun hlt => ?_)
    · obtain ⟨b, off, c, ty, z, cap', y, hs, hy, hb, hc0, hc1⟩ := puts_at (hg.wn 2 rfl) (i := k) (by omega)
      subst hs
      have hpy := plc_lt y.sector
      conv => whnf
      refine hK18 _ _ _ (seq_step fun K20 hK20 => ?_)
      refine seq_step fun K21 hK21 => ?_
      conv => whnf
      refine opt_if ⟨by omega, by omega⟩ ?_
      conv => whnf
      refine opt_ld hb (v := iv y.sector) hc0 ?_
      conv => whnf
      refine place16 _ ?_
      conv => whnf
      refine hK21 _ _ _ (seq_step fun K22 hK22 => ?_)
      conv => whnf
      refine raw25p _ hg fun s15 g2 hg2 => ?_
      conv => whnf
      refine hK22 _ _ _ (seq_step fun K23 hK23 => ?_)
      conv => whnf
      refine among33 _ (hv g2 (hg2.is 5 rfl)) hl fun t ht => ?_
      cases t with
      | true =>
        conv => whnf
        refine hK23 _ _ _ ?_
        conv => whnf
        refine hK20 _ _ _ ?_
        conv => whnf
        exact ⟨(k + 1, g2), ⟨(show k + 1 ≤ l.length by omega), hg2.tail⟩, (by show l.length - (k + 1) < l.length - k; omega), ⟨int_eq (wrap_nat (by omega)) rfl, rfl, rfl, rfl, rfl, rfl, trivial⟩, subB_nil, rfl⟩
      | false =>
        have hno := ht rfl
        have e : d2.med.getD (plc y.sector).toNat zsec = d0.med.getD (plc y.sector).toNat zsec := by
          rw [List.getD_eq_getElem?_getD, hm2, drM_other, List.getD_eq_getElem?_getD]
          intro x hx
          obtain ⟨o, ho, rfl⟩ := List.mem_map.1 hx
          have := hno o ho
          have := plc_lt o.sector
          show (plc o.sector).toNat ≠ _
          omega
        rw [e] at hg2
        obtain ⟨br, or, cr, tyr, zr, capr, vr, hsr, hbr, hcr, hlr, hvr⟩ := RdP.at hg2 2 rfl (i := k) (x := d0.med.getD (plc y.sector).toNat zsec) (by rw [Dk.raws, List.getElem?_map, hy]; rfl)
        rw [show (d0.raws (nxt l)).length = (nxt l).length from List.length_map _] at hsr
        subst hsr
        conv => whnf
        refine opt_if ⟨by omega, by omega⟩ ?_
        conv => whnf
        refine opt_ld hbr (v := vr) (by rw [show or + (k : Int).toNat * 1 = or + k by omega]; exact hcr) ?_
        conv => whnf
        refine same26 (l := (d0.med.getD (plc y.sector).toNat zsec).val) (k := (d0.med.getD (plc y.sector).toNat zsec).val) (hg2.wn 0 rfl) hvr fun t ht => ?_
        obtain rfl := ht rfl
        conv => whnf
        refine hK23 _ _ _ ?_
        conv => whnf
        refine hK20 _ _ _ ?_
        conv => whnf
        exact ⟨(k + 1, g2), ⟨(show k + 1 ≤ l.length by omega), hg2.tail⟩, (by show l.length - (k + 1) < l.length - k; omega), ⟨int_eq (wrap_nat (by omega)) rfl, rfl, rfl, rfl, rfl, rfl, trivial⟩, subB_nil, rfl⟩
    · have hkl : k = l.length := by omega
      subst hkl
      conv => whnf
      refine hK16 _ _ _ ?_
      conv => whnf
      rw [show ((drN (kept ks) l.length : Int) - drN (kept ks) l.length) = 0 by omega]
      exact hq _ (hg.is 4 rfl)

end
end Go.Proofs.Ytpkleblggehghaa.V
