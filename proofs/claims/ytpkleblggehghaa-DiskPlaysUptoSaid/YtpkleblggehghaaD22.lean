/- Seat 04: DiskKeeps. -/
import Derived.Test.YtpkleblggehghaaD21
import Derived.Test.YtpkleblggehghaaE10
namespace Go.Proofs.Ytpkleblggehghaa.V
set_option linter.unusedVariables false
set_option linter.unusedSimpArgs false
set_option linter.unusedSectionVars false
set_option linter.unusedSectionVars false
open Go

section
variable {h : Hp} {Q : Value → Hp → Prop} {L : List As} {p : Nat} {d : Dk}

theorem refused34 (n s : Int) (hs : 0 ≤ s ∧ s < 1024) (hh : Has (DkP p d :: L) h) (hq : ∀ e h', Has (DkP p d :: L) h' → Q (.tuple #[iv e, iv e]) h') : Ok PR 34 [ptr p, iv n, iv s] h Q := by
  refine e34 rfl ?_
  refine seq_step fun K hK => ?_
  conv => whnf
  refine hK _ _ _ (seq_step fun K1 hK1 => ?_)
  refine seq_step fun K2 hK2 => ?_
  conv => whnf
  refine hK2 _ _ _ ?_
  refine seq_step fun K3 hK3 => ?_
  conv => whnf
  refine hK3 _ _ _ ?_
  refine cond_beq (fun hc => ?_) (fun hc => ?_)
  · conv => whnf
    refine full17 1 hh fun s1 h1 hh1 => ?_
    conv => whnf
    refine write15o 1024 _ (by omega) ?_
    conv => whnf
    exact hq _ _ hh1.tail
  refine seq_step fun K4 hK4 => ?_
  conv => whnf
  refine hK4 _ _ _ ?_
  refine cond_beq (fun hc => ?_) (fun hc => ?_)
  · conv => whnf
    refine write15o (-1) _ (by omega) ?_
    conv => whnf
    exact hq _ _ hh
  refine seq_step fun K5 hK5 => ?_
  conv => whnf
  refine hK5 _ _ _ ?_
  refine cond_beq (fun hc => ?_) (fun hc => ?_)
  · conv => whnf
    refine full17 1 hh fun s1 h1 hh1 => ?_
    obtain ⟨b, o, c, ty, z, cap, hs1, _⟩ := (hh1.wn 0 rfl).at (i := 0) (by omega)
    subst hs1
    have hcp : 128 ≤ cap := (Has.get (L := WnP 1 _ 128 _ :: _) hh1 0 rfl fun _ _ => WnP.sub).val.elim fun _ h => h.elim fun _ h => by cases h.1; exact h.2.1
    conv => whnf
    refine opt_some (slS_hi (hi := 127) (by omega)) ?_
    conv => whnf
    refine write15z s hs (by omega) ?_
    conv => whnf
    exact hq _ _ hh1.tail
  refine seq_step fun K6 hK6 => ?_
  conv => whnf
  refine hK6 _ _ _ ?_
  refine cond_beq (fun hc => ?_) (fun hc => ?_)
  · conv => whnf
    refine full17 1 hh fun s1 h1 hh1 => ?_
    conv => whnf
    refine fresh_has hh1 fun b h2 hb _ _ hh2 => ?_
    conv => whnf
    have hv : Vw 1 h2 (.slice (some ⟨b, 0, none⟩) 1 1) 1 [by8 1] := (pt_wn (e := 1) (n := 1) (cap := 1) (cs := [by8 1]) rfl (Nat.le_refl _) rfl hb).vw
    refine app_hasW (z := [.int .u8 0]) hh2 1 rfl hv rfl (by omega) fun s2 h3 hh3 => ?_
    obtain ⟨bs, cp, hs2⟩ := Has.slv (L := [_, _, _]) (hh3.map_tail (L' := [WnP 1 s2 (128 + 1) (rowS (one1S 1) ++ [by8 1]), fun _ => True]) fun g hg => hg.map_tail fun g' hg' => ⟨g', fun _ => none, by funext b; simp [join], fun _ _ _ => rfl, trivial, trivial⟩) 1 rfl
    subst hs2
    conv => whnf
    refine write15z s hs (by omega) ?_
    conv => whnf
    exact hq _ _ hh3.tail.tail
  refine seq_step fun K7 hK7 => ?_
  conv => whnf
  refine hK7 _ _ _ ?_
  refine cond_beq (fun hc => ?_) (fun hc => ?_)
  · conv => whnf
    refine fresh_has hh fun b h2 hb _ _ hh2 => ?_
    conv => whnf
    refine edit28z s 127 hs (by omega) (.inr (by omega)) ?_
    conv => whnf
    exact hq _ _ hh2.tail
  refine seq_step fun K8 hK8 => ?_
  conv => whnf
  refine hK8 _ _ _ ?_
  refine cond_beq (fun hc => ?_) (fun hc => ?_)
  · conv => whnf
    refine fresh_has hh fun b h2 hb _ _ hh2 => ?_
    conv => whnf
    refine edit28z s (-1) hs (by omega) (.inl (by omega)) ?_
    conv => whnf
    exact hq _ _ hh2.tail
  refine seq_step fun K9 hK9 => ?_
  conv => whnf
  refine hK9 _ _ _ ?_
  refine cond_beq (fun hc => ?_) (fun hc => ?_)
  · conv => whnf
    refine edit28o 1024 (-1) _ (by omega) ?_
    conv => whnf
    exact hq _ _ hh
  refine seq_step fun K10 hK10 => ?_
  conv => whnf
  refine hK10 _ _ _ ?_
  refine cond_beq (fun hc => ?_) (fun hc => ?_)
  · conv => whnf
    refine Has.call hh 0 rfl (arm12S (-1) (by decide)) fun _ h2 hh2 => ?_
    rw [neg_arm (by decide)] at hh2 ⊢
    conv => whnf
    exact hq _ _ hh2
  refine seq_step fun K11 hK11 => ?_
  conv => whnf
  refine hK11 _ _ _ ?_
  refine cond_beq (fun hc => ?_) (fun hc => ?_)
  · conv => whnf
    refine read22o 1024 (by omega) ?_
    conv => whnf
    exact hq _ _ hh
  refine seq_step fun K12 hK12 => ?_
  conv => whnf
  refine hK12 _ _ _ ?_
  refine cond_beq (fun hc => ?_) (fun hc => ?_)
  · conv => whnf
    refine raw25o (-1) (by omega) ?_
    conv => whnf
    exact hq _ _ hh
  conv => whnf
  refine hK1 _ _ _ ?_
  conv => whnf
  refine edit28z s 129 hs (by omega) (.inr (by omega)) ?_
  conv => whnf
  exact hq _ _ hh

theorem u64_nat {n : Nat} (h : n < 2 ^ 62) : IntKind.u64.wrap (n : Int) = (n : Int) := by
  have e64 : (2 : Int) ^ IntKind.u64.bits = 18446744073709551616 := by decide
  unfold IntKind.wrap
  simp only [e64]
  rw [if_neg]
  · omega
  · simp [IntKind.signed]

theorem pdv_rem {g : Hp} {β : Bx} {x : Int} {n : Nat} (h : 0 < n) : prv g β (Pr.dv BinOp.rem) [.v (.int .u64 x), .v (.int .u64 n)] = some (.v (.int .u64 (x.tmod n))) := by
  show (if _ ∧ _ then _ else _) = _
  rw [if_pos ⟨rfl, by omega⟩]

set_option maxRecDepth 20000 in
theorem law7 {a0 a1 a2 : Value} {l0 : List OpD} {l : List PutD} {bs : List Int} (hs0 : SlR 7 OpR h [a0] l0) (hb0 : ∀ o ∈ l0, o.data.length ≤ 2 ^ 40 ∧ o.keep.length ≤ 2 ^ 40) (hl0 : l0.length ≤ 2 ^ 30) (hs1 : SlR 2 PutR h [a1] l) (hl : l.length ≤ 2 ^ 30)
    (hs2 : SlR 1 inR h [a2] bs) (hbs : bs.length ≤ 2 ^ 30) (hq : ∀ h', SubH h h' → Q (.bool true) h') : Ok PR 7 [a0, a1, a2] h Q := by
  have hv0 := hs1.puts
  obtain ⟨base, cap, hs⟩ : ∃ base cap, a1 = .slice base l.length cap := let ⟨_, x, y, z, _⟩ := hv0; ⟨x, y, z⟩
  have hv : ∀ g, SubH h g → Vw 2 g a1 l.length (l.flatMap putV) := fun g hg => hv0.sub hg
  have hv20 : Vw 1 h a2 bs.length (bs.map iv) := hs2.vw1 fun _ _ _ hr => hr.1
  obtain ⟨base2, cap2, hsk⟩ : ∃ base cap, a2 = .slice base bs.length cap := let ⟨_, x, y, z, _⟩ := hv20; ⟨x, y, z⟩
  subst hs hsk
  refine e7 rfl ?_
  refine seq_step fun K hK => ?_
  conv => whnf
  refine hK _ _ _ (seq_step fun K1 hK1 => ?_)
  conv => whnf
  refine fresh11 (Has.start h) (fun g hg => hg.is 0 rfl) hs0 hb0 hl0 fun q d0 h1 hcl hh1 => ?_
  conv => whnf
  refine hK1 _ _ _ (seq_step fun K2 hK2 => ?_)
  refine seq_step fun K3 hK3 => ?_
  conv => whnf
  refine laid21 hh1 hcl.down hcl.armed (fun g hg => hv g (hg.is 0 rfl)) (by rw [hcl.cache]; show 0 + _ ≤ _; omega) fun h2 hh2 => ?_
  have hc1 : (d0.lay l).cache = l.map putQ := by show (d0.cache ++ l.map putQ) = _; rw [hcl.cache]; rfl
  have hd1 : (d0.lay l).down = false := hcl.down
  generalize d0.lay l = d1 at hh2 hc1 hd1
  conv => whnf
  refine Has.call hh2 0 rfl (arm12S 1 (by decide)) fun _ h3 hh3 => ?_
  have harm : d1.arm 1 = (0, { d1 with armed := true, left := 1 }) := by
    unfold Dk.arm
    rw [if_neg (by omega), if_neg (by rw [hd1]; decide)]
  rw [harm] at hh3 ⊢
  have hc2 : ({ d1 with armed := true, left := 1 } : Dk).cache = l.map putQ := hc1
  have hd2 : ({ d1 with armed := true, left := 1 } : Dk).down = false := hd1
  have ha2 : ({ d1 with armed := true, left := 1 } : Dk).armed = true := rfl
  have hl2 : ({ d1 with armed := true, left := 1 } : Dk).left = 1 := rfl
  generalize ({ d1 with armed := true, left := 1 } : Dk) = d2 at hh3 hc2 hd2 ha2 hl2
  replace hh3 : Has [DkP q d2, Is h] h3 := hh3
  have hcl2 : d2.cache.length = l.length := by rw [hc2, List.length_map]
  conv => whnf
  refine hK3 _ _ _ ?_
  conv => whnf
  refine hK2 _ _ _ (seq_step fun K4 hK4 => ?_)
  conv => whnf
  refine raws30 hh3 (fun g hg => hv g (hg.is 0 rfl)) hl fun s8 h4 hh4 => ?_
  conv => whnf
  refine hK4 _ _ _ (seq_step fun K5 hK5 => ?_)
  conv => whnf
  refine Has.call hh4 1 rfl acts13S fun _ h5 hh5 => ?_
  conv => whnf
  replace hh5 : Has [RdP s8 (d2.raws l), DkP q d2, Is h] h5 := hh5
  refine hK5 _ _ _ (seq_step fun K6 hK6 => ?_)
  refine seq_step fun K7 hK7 => ?_
  conv => whnf
  refine hK7 _ _ _ ?_
  refine loop_intro (σ := Nat × Hp) (fun x => [(10, .v (iv x.1)), (8, .v s8), (9, .v (iv d2.acts)), (7, .v (ptr q)), (1, .v (.slice base l.length cap)), (2, .v (.slice base2 bs.length cap2))]) (fun _ => []) (fun x => x.2)
    (fun x => x.1 ≤ bs.length ∧ Has [DkP q d2, RdP s8 (d2.raws l), Is h] x.2) (fun x => bs.length - x.1) (0, h5) ⟨Nat.zero_le _, hh5.swap⟩
    ⟨rfl, rfl, rfl, rfl, rfl, rfl, trivial⟩ subB_nil rfl ?_
  clear hK1 hK2 hK3 hK4 hK5 hK7 hh1 hh2 hh3 hh4 hh5
  rintro ⟨k, g⟩ ⟨hkl, hg⟩
  dsimp only at hkl hg ⊢
  refine seq_step fun K14 hK14 => ?_
  refine seq_step fun K15 hK15 => ?_
  conv => whnf
  refine hK15 _ _ _ ?_
  conv => whnf
  refine cond_dec (fun hlt => ?_) (fun hlt => ?_)
  · obtain ⟨b2, off2, c2, ty2, z2, cap2', hs3, hb2, hsz2, hcc2⟩ := hv20.at (i := k) (by omega)
    cases hs3
    obtain ⟨nb, hnb⟩ : ∃ y, bs[k]? = some y := ⟨_, List.getElem?_eq_getElem (by omega)⟩
    have hcb : c2[off2 + k * 1 + 0]? = some (iv nb) := hcc2 0 _ (by rw [Nat.mul_one, Nat.add_zero, List.getElem?_map, hnb]; rfl)
    rw [Nat.add_zero] at hcb
    conv => whnf
    refine hK14 _ _ _ (seq_step fun K16 hK16 => ?_)
    refine seq_step fun K17 hK17 => ?_
    conv => whnf
    refine hK17 _ _ _ ?_
    refine cut_intro (σ := Int) (fun x => [(11, .v (iv x)), (10, .v (iv k)), (8, .v s8), (9, .v (iv d2.acts)), (7, .v (ptr q)), (1, .v (.slice base l.length cap)), (2, .v (.slice (some ⟨b2, off2, none⟩) bs.length cap2))]) (fun _ => []) (fun _ => g) (fun x => 0 ≤ x ∧ x < 1024) ?_ ?_
    · refine seq_step fun K18 hK18 => ?_
      conv => whnf
      refine hK18 _ _ _ ?_
      conv => whnf
      refine cond_dec (fun hgt => ?_) (fun hgt => ?_)
      · have hrem := rem_lt nb l.length (by omega) (by omega)
        conv => whnf
        refine opt_if ⟨by omega, by omega⟩ ?_
        conv => whnf
        refine opt_ld (hg.is 2 rfl _ _ hb2) (v := iv nb) hcb ?_
        conv => whnf
        rw [u64_nat (by omega)]
        refine opt_some (x := .v (.int .u64 ((IntKind.u64.wrap nb).tmod l.length))) (pdv_rem (by omega)) ?_
        conv => whnf
        generalize IntKind.i64.wrap ((IntKind.u64.wrap nb).tmod (l.length : Int)) = m at hrem
        obtain ⟨mn, rfl⟩ : ∃ mn : Nat, m = (mn : Int) := ⟨m.toNat, by omega⟩
        obtain ⟨b, off, c, ty, z, cap', y, hs, hy, hb, hc0, hc1⟩ := puts_at (hv g (hg.is 2 rfl)) (i := mn) (by omega)
        cases hs
        refine opt_if ⟨by omega, by omega⟩ ?_
        conv => whnf
        refine opt_ld hb (v := iv y.sector) hc0 ?_
        conv => whnf
        refine place16 _ ?_
        conv => whnf
        exact ⟨plc y.sector, plc_lt _, ⟨rfl, rfl, rfl, rfl, rfl, rfl, rfl, trivial⟩, subB_nil, rfl⟩
      · conv => whnf
        exact ⟨0, ⟨by omega, by omega⟩, ⟨rfl, rfl, rfl, rfl, rfl, rfl, rfl, trivial⟩, subB_nil, rfl⟩
    · intro x hx
      refine seq_step fun K18 hK18 => ?_
      conv => whnf
      refine opt_if ⟨by omega, by omega⟩ ?_
      conv => whnf
      refine opt_ld (hg.is 2 rfl _ _ hb2) (v := iv nb) hcb ?_
      conv => whnf
      refine refused34 _ _ hx hg fun e g1 hg1 => ?_
      conv => whnf
      refine hK18 _ _ _ ?_
      refine seq_step fun K19 hK19 => ?_
      conv => whnf
      rw [bne_self_eq_false]
      refine hK19 _ _ _ ?_
      conv => whnf
      refine hK16 _ _ _ ?_
      conv => whnf
      exact ⟨(k + 1, g1), ⟨(show k + 1 ≤ bs.length by omega), hg1⟩, (by show bs.length - (k + 1) < bs.length - k; omega), ⟨int_eq (wrap_nat (by omega)) rfl, rfl, rfl, rfl, rfl, rfl, trivial⟩, subB_nil, rfl⟩
  · conv => whnf
    refine hK6 _ _ _ (seq_step fun K16 hK16 => ?_)
    refine seq_step fun K17 hK17 => ?_
    conv => whnf
    refine Has.call hg 0 rfl down18S fun _ g1 hg1 => ?_
    rw [hd2]
    conv => whnf
    refine Has.call hg1 0 rfl acts13S fun _ g2 hg2 => ?_
    conv => whnf
    rw [bne_self_eq_false]
    refine hK17 _ _ _ ?_
    conv => whnf
    refine hK16 _ _ _ (seq_step fun K18 hK18 => ?_)
    conv => whnf
    replace hg2 : Has [DkP q d2, RdP s8 (d2.raws l), Is h] g2 := hg2
    refine pending23 hg2 (by omega) fun s14 g3 hg3 => ?_
    obtain ⟨bs14, cp14, hs14⟩ := hg3.slv 0 rfl
    rw [hcl2] at hs14
    subst hs14
    have hcm : d2.cache.map (fun x => iv x.1) = l.map fun o => iv (plc o.sector) := by rw [hc2, List.map_map]; rfl
    rw [hcm, hcl2] at hg3
    conv => whnf
    refine hK18 _ _ _ (seq_step fun K19 hK19 => ?_)
    refine seq_step fun K20 hK20 => ?_
    conv => whnf
    rw [bne_self_eq_false]
    refine hK20 _ _ _ ?_
    conv => whnf
    refine hK19 _ _ _ (seq_step fun K21 hK21 => ?_)
    refine seq_step fun K22 hK22 => ?_
    conv => whnf
    refine hK22 _ _ _ ?_
    refine loop_intro (σ := Nat × Hp) (fun x => [(15, .v (iv x.1)), (14, .v (.slice bs14 l.length cp14)), (8, .v s8), (7, .v (ptr q)), (1, .v (.slice base l.length cap))]) (fun _ => []) (fun x => x.2)
      (fun x => x.1 ≤ l.length ∧ Has [WnP 1 (.slice bs14 l.length cp14) l.length (l.map fun o => iv (plc o.sector)), DkP q d2, RdP s8 (d2.raws l), Is h] x.2) (fun x => l.length - x.1) (0, g3) ⟨Nat.zero_le _, hg3⟩
      ⟨rfl, rfl, rfl, rfl, rfl, trivial⟩ subB_nil rfl ?_
    clear hg hg1 hg2 hg3 hK16 hK17 hK18 hK19 hK20 hK22
    rintro ⟨k, g⟩ ⟨hkl, hg⟩
    dsimp only at hkl hg ⊢
    refine seq_step fun K23 hK23 => ?_
    refine seq_step fun K24 hK24 => ?_
    conv => whnf
    refine hK24 _ _ _ ?_
    conv => whnf
    refine cond_dec (fun hlt => ?_) (fun hlt => ?_)
    · obtain ⟨b, off, c, ty, z, cap', y, hs, hy, hb, hc0, hc1⟩ := puts_at hv0 (i := k) (by omega)
      cases hs
      conv => whnf
      refine hK23 _ _ _ (seq_step fun K25 hK25 => ?_)
      refine seq_step fun K26 hK26 => ?_
      conv => whnf
      refine opt_if ⟨by omega, by omega⟩ ?_
      conv => whnf
      refine opt_ld (hg.is 3 rfl _ _ hb) (v := iv y.sector) hc0 ?_
      conv => whnf
      refine place16 _ ?_
      conv => whnf
      refine raw25p _ (hg.pull 1 rfl) fun s1 g1 hg1 => ?_
      conv => whnf
      refine hK26 _ _ _ (seq_step fun K27 hK27 => ?_)
      obtain ⟨bp, op, cp, typ, zp, capp, hsp, hbp, hszp, hcp⟩ := (hg1.wn 2 rfl).at (i := k) (by omega)
      cases hsp
      obtain ⟨br, or, cr, tyr, zr, capr, vr, hsr, hbr, hcr, hlr, hvr⟩ := RdP.at hg1 3 rfl (i := k) (x := d2.med.getD (plc y.sector).toNat zsec) (by rw [Dk.raws, List.getElem?_map, hy]; rfl)
      rw [show (d2.raws l).length = l.length from List.length_map _] at hsr
      subst hsr
      conv => whnf
      refine ⟨_, _, SubH.refl _, SubB.refl _, ?_⟩
      conv => whnf
      refine opt_if ⟨by omega, by omega⟩ ?_
      conv => whnf
      refine opt_ld hbp (v := iv (plc y.sector)) (hcp 0 _ (by rw [Nat.mul_one, Nat.add_zero, List.getElem?_map, hy]; rfl)) ?_
      conv => whnf
      refine opt_if ⟨by omega, by omega⟩ ?_
      conv => whnf
      refine opt_ld (hg1.is 4 rfl _ _ hb) (v := iv y.sector) hc0 ?_
      conv => whnf
      refine place16 _ ?_
      conv => whnf
      refine ⟨⟨SubH.refl _, SubB.refl _⟩, ?_⟩
      conv => whnf
      rw [bne_self_eq_false]
      conv => whnf
      refine opt_if ⟨by omega, by omega⟩ ?_
      conv => whnf
      refine opt_ld hbr (v := vr) (by rw [show or + (k : Int).toNat * 1 = or + k by omega]; exact hcr) ?_
      conv => whnf
      refine same26 (l := (d2.med.getD (plc y.sector).toNat zsec).val) (k := (d2.med.getD (plc y.sector).toNat zsec).val) (hg1.wn 0 rfl) hvr fun t ht => ?_
      obtain rfl := ht rfl
      conv => whnf
      refine hK27 _ _ _ ?_
      conv => whnf
      refine hK25 _ _ _ ?_
      conv => whnf
      exact ⟨(k + 1, g1), ⟨(show k + 1 ≤ l.length by omega), hg1.tail.swap⟩, (by show l.length - (k + 1) < l.length - k; omega), ⟨int_eq (wrap_nat (by omega)) rfl, rfl, rfl, rfl, rfl, trivial⟩, subB_nil, rfl⟩
    · conv => whnf
      refine hK21 _ _ _ ?_
      conv => whnf
      have hf1 : d2.flush = (0, { d2 with left := 0, acts := IntKind.i64.wrap (d2.acts + 1), med := drM d2.med d2.cache (fun _ => true) d2.cache.length, cache := [] }) := by
        unfold Dk.flush Dk.act
        simp only [hd2, ha2, hl2, if_true, Bool.false_eq_true, if_false, show ¬ (1 : Int) = 0 from by decide]
        rfl
      refine flush14 (hg.pull 1 rfl) (by omega) fun g1 hg1 => ?_
      rw [hf1] at hg1 ⊢
      conv => whnf
      refine flush14 (d := { d2 with left := 0, acts := IntKind.i64.wrap (d2.acts + 1), med := drM d2.med d2.cache (fun _ => true) d2.cache.length, cache := [] }) hg1 (Nat.zero_le _) fun g4 hg4 => ?_
      rw [spent_flush (d := { d2 with left := 0, acts := IntKind.i64.wrap (d2.acts + 1), med := drM d2.med d2.cache (fun _ => true) d2.cache.length, cache := [] }) hd2 ha2 rfl] at hg4 ⊢
      conv => whnf
      refine Has.call hg4 0 rfl down18S fun _ g5 hg5 => ?_
      conv => whnf
      exact hq _ (hg5.is 3 rfl)

end
end Go.Proofs.Ytpkleblggehghaa.V
