/- Seat 04: DiskCarried. -/
import Derived.Test.YtpkleblggehghaaD22
import Derived.Test.YtpkleblggehghaaD23
import Derived.Test.YtpkleblggehghaaE7
namespace Go.Proofs.Ytpkleblggehghaa.V
set_option linter.unusedVariables false
set_option linter.unusedSimpArgs false
set_option linter.unusedSectionVars false
set_option linter.unusedSectionVars false
open Go

theorem slS_lohi {b o n cap lo hi : Nat} {k k' : IntKind} (h1 : lo ≤ hi) (h2 : hi ≤ cap) (h3 : lo < cap) : pSlS 1 (some (.v (.int k lo))) (some (.v (.int k' hi))) none (.v (.slice (some ⟨b, o, none⟩) n cap)) = some (.v (.slice (some ⟨b, o + lo, none⟩) (hi - lo) (cap - lo))) := by
  simp only [pSlS, bnd]
  rw [if_pos ⟨by omega, by omega⟩]
  simp only [Option.isSome_none, Bool.false_eq_true, if_false, Bool.false_and, Int.toNat_natCast]
  rw [if_pos ⟨by omega, by omega⟩]
  simp only [Int.toNat_natCast]
  rw [if_neg (by omega), Nat.mul_one]

theorem drN_none {keep : Nat → Bool} (hk : ∀ i, keep i = false) : ∀ k, drN keep k = 0
  | 0 => rfl
  | k + 1 => by simp only [drN, hk]; exact drN_none hk k

theorem kept_nil (i : Nat) : kept [] i = false := by unfold kept; simp

theorem putV_one (l : List PutD) : (l.flatMap putV).all one = true := by
  rw [List.all_eq_true]
  intro x hx
  obtain ⟨o, _, ho⟩ := List.mem_flatMap.1 hx
  simp only [putV, List.mem_cons, List.not_mem_nil, or_false] at ho
  rcases ho with rfl | rfl <;> rfl

theorem up_flush {d : Dk} (h1 : d.down = false) (h2 : d.armed = false) : d.flush = (0, { d with acts := IntKind.i64.wrap (d.acts + 1), med := drM d.med d.cache (fun _ => true) d.cache.length, cache := [] }) := by
  unfold Dk.flush
  rw [up_act h1 h2]; rfl

section
variable {h : Hp} {Q : Value → Hp → Prop} {L : List As} {p : Nat} {d : Dk}

set_option maxRecDepth 20000 in
/-- Compared at the end. -/
theorem p10_3 {A : List PutD} {du d1 d3 : Dk} {u q cpA : Nat} {bsA : Option Addr} {s9 : Value} {h g : Hp} {Q : Value → Hp → Prop} (hA : A.length ≤ 2 ^ 30) (hm3 : d3.med = d1.med) (hm5 : du.med.getD 5 zsec = one1S 225) (hmo : ∀ k : Nat, k ≠ 5 → k ≠ 6 → du.med.getD k zsec = d1.med.getD k zsec)
    (hg : Has [DkP q d3, DkP u du, RdP s9 (d1.raws A), WnP 2 (.slice bsA A.length cpA) A.length (A.flatMap putV), Is h] g) (hq : ∀ h', SubH h h' → Q (.bool true) h') :
    codeK PR none c10_3 (retK Q [RV.t 6]) (fun _ _ _ _ => False) (retK Q [RV.t 6]) [(8, .v (.slice bsA A.length cpA)), (9, .v s9), (11, .v (ptr u)), (7, .v (ptr q))] [] g := by
  refine seq_step fun K22 hK22 => ?_
  refine seq_step fun K23 hK23 => ?_
  conv => whnf
  refine hK23 _ _ _ ?_
  refine loop_intro (σ := Nat × Hp) (fun x => [(18, .v (iv x.1)), (8, .v (.slice bsA A.length cpA)), (9, .v s9), (11, .v (ptr u)), (7, .v (ptr q))]) (fun _ => []) (fun x => x.2)
    (fun x => x.1 ≤ A.length ∧ Has [DkP q d3, DkP u du, RdP s9 (d1.raws A), WnP 2 (.slice bsA A.length cpA) A.length (A.flatMap putV), Is h] x.2) (fun x => A.length - x.1) (0, g) ⟨Nat.zero_le _, hg⟩
    ⟨rfl, rfl, rfl, rfl, rfl, trivial⟩ subB_nil rfl ?_
  clear hg hK23
  rintro ⟨k, g⟩ ⟨hkl, hg⟩
  dsimp only at hkl hg ⊢
  refine seq_step fun K20 hK20 => ?_
  refine seq_step fun K21 hK21 => ?_
  conv => whnf
  refine hK21 _ _ _ ?_
  conv => whnf
  refine cond_dec (fun hlt => ?_) (fun hlt => ?_)
  · obtain ⟨b, off, c, ty, z, cap', y, hs, hy, hb, hc0, hc1⟩ := puts_at (hg.wn 3 rfl) (i := k) (by omega)
    cases hs
    have hpy := plc_lt y.sector
    conv => whnf
    refine hK20 _ _ _ (seq_step fun K22 hK22 => ?_)
    refine seq_step fun K23 hK23 => ?_
    conv => whnf
    refine opt_if ⟨by omega, by omega⟩ ?_
    conv => whnf
    refine opt_ld hb (v := iv y.sector) hc0 ?_
    conv => whnf
    refine place16 _ ?_
    conv => whnf
    refine hK23 _ _ _ (seq_step fun K24 hK24 => ?_)
    conv => whnf
    refine raw25p _ hg fun s1 g1 hg1 => ?_
    rw [hm3] at hg1
    conv => whnf
    refine hK24 _ _ _ (seq_step fun K25 hK25 => ?_)
    conv => whnf
    refine raw25p _ (hg1.pull 2 rfl) fun s2 g2 hg2 => ?_
    conv => whnf
    refine hK25 _ _ _ (seq_step fun K26 hK26 => ?_)
    generalize hx : d1.med.getD (plc y.sector).toNat zsec = x at hg2
    obtain ⟨br, or, cr, tyr, zr, capr, vr, hsr, hbr, hcr, hlr, hvr⟩ := RdP.at hg2 4 rfl (i := k) (x := x) (by rw [Dk.raws, List.getElem?_map, hy, ← hx]; rfl)
    rw [show (d1.raws A).length = A.length from List.length_map _] at hsr
    subst hsr
    have hg3 : Has [DkP q d3, DkP u du, RdP (.slice (some ⟨br, or, none⟩) A.length capr) (d1.raws A), WnP 2 (.slice (some ⟨b, off, none⟩) A.length cpA) A.length (A.flatMap putV), Is h] g2 := ((hg2.erase 0).erase 1).swap
    conv => whnf
    refine opt_if ⟨by omega, by omega⟩ ?_
    conv => whnf
    refine opt_ld hbr (v := vr) (by rw [show or + (k : Int).toNat * 1 = or + k by omega]; exact hcr) ?_
    conv => whnf
    refine same26 (l := x.val) (k := x.val) (hg2.wn 2 rfl) hvr fun t ht => ?_
    obtain rfl := ht rfl
    conv => whnf
    generalize hv5 : (plc y.sector != 5) = v5
    cases v5 with
    | false =>
      conv => whnf
      refine hK26 _ _ _ ?_
      conv => whnf
      refine hK22 _ _ _ ?_
      conv => whnf
      exact ⟨(k + 1, g2), ⟨(show k + 1 ≤ A.length by omega), hg3⟩, (by show A.length - (k + 1) < A.length - k; omega), ⟨int_eq (wrap_nat (by omega)) rfl, rfl, rfl, rfl, rfl, trivial⟩, subB_nil, rfl⟩
    | true =>
      have h5 : plc y.sector ≠ 5 := by simpa using hv5
      conv => whnf
      generalize hv6 : (plc y.sector != 6) = v6
      cases v6 with
      | false =>
        conv => whnf
        refine hK26 _ _ _ ?_
        conv => whnf
        refine hK22 _ _ _ ?_
        conv => whnf
        exact ⟨(k + 1, g2), ⟨(show k + 1 ≤ A.length by omega), hg3⟩, (by show A.length - (k + 1) < A.length - k; omega), ⟨int_eq (wrap_nat (by omega)) rfl, rfl, rfl, rfl, rfl, trivial⟩, subB_nil, rfl⟩
      | true =>
        have h6 : plc y.sector ≠ 6 := by simpa using hv6
        rw [hmo _ (by omega) (by omega), hx] at hg2
        conv => whnf
        refine opt_if ⟨by omega, by omega⟩ ?_
        conv => whnf
        refine opt_ld hbr (v := vr) (by rw [show or + (k : Int).toNat * 1 = or + k by omega]; exact hcr) ?_
        conv => whnf
        refine same26 (l := x.val) (k := x.val) (hg2.wn 0 rfl) hvr fun t ht => ?_
        obtain rfl := ht rfl
        conv => whnf
        refine hK26 _ _ _ ?_
        conv => whnf
        refine hK22 _ _ _ ?_
        conv => whnf
        exact ⟨(k + 1, g2), ⟨(show k + 1 ≤ A.length by omega), hg3⟩, (by show A.length - (k + 1) < A.length - k; omega), ⟨int_eq (wrap_nat (by omega)) rfl, rfl, rfl, rfl, rfl, trivial⟩, subB_nil, rfl⟩
  · conv => whnf
    refine hK22 _ _ _ (seq_step fun K24 hK24 => ?_)
    conv => whnf
    have hul : du.med.length = 1024 := (DkP.opn (hg.pull 1 rfl)).1.med
    refine raw25 5 (x := one1S 225) (hg.pull 1 rfl) (by rw [← hm5, List.getD_eq_getElem?_getD, List.getElem?_eq_getElem (by omega)]; rfl) fun s2 g2 hg2 => ?_
    conv => whnf
    refine hK24 _ _ _ ?_
    conv => whnf
    refine full17 225 hg2 fun s3 g3 hg3 => ?_
    conv => whnf
    refine same26 (l := (one1S 225).val) (k := (one1S 225).val) (hg3.wn 1 rfl) (hg3.wn 0 rfl) fun t ht => ?_
    obtain rfl := ht rfl
    conv => whnf
    exact hq _ (hg3.is 6 rfl)

set_option maxRecDepth 20000 in
/-- Spoilt, and compared again. -/
theorem p10_2 {A : List PutD} {du d1 d2 : Dk} {u q bM oM capM cpA cap2 nm : Nat} {bsA base2 : Option Addr} {N : Nat} (hN : N = 131074) {s9 : Value} {h g : Hp} {Q : Value → Hp → Prop} (hA : A.length ≤ 2 ^ 30) (hm2 : d2.med = d1.med) (hc2 : d2.cache.length = nm) (hml : d2.med.length = 1024) (hum : du.med = d1.med) (huc : du.cache = []) (hud : du.down = false) (hua : du.armed = false) (hnm : nm ≤ 2 ^ 30) (hcpM : N ≤ capM)
    (hg : Has [DkP u du, WnP 1 (.slice (some ⟨bM, oM, none⟩) N capM) N ((medB d1.med ++ [165, 166]).map by8), DkP q d2, RdP s9 (d1.raws A), WnP 2 (.slice bsA A.length cpA) A.length (A.flatMap putV), Is h] g) (hq : ∀ h', SubH h h' → Q (.bool true) h') :
    codeK PR none c10_2 (retK Q [RV.t 6]) (fun _ _ _ _ => False) (retK Q [RV.t 6]) [(8, .v (.slice bsA A.length cpA)), (9, .v s9), (10, .v (.slice (some ⟨bM, oM, none⟩) N capM)), (11, .v (ptr u)), (7, .v (ptr q)), (2, .v (.slice base2 nm cap2))] [] g := by
  have hMl : (medB d1.med).length = 131072 := by rw [medB_len, ← hm2, hml]
  have hML2 : (medB d1.med ++ [165, 166]).length = N := by
    have : ([165, 166] : List Int).length = 2 := rfl
    rw [List.length_append, this]; omega
  refine seq_step fun K22 hK22 => ?_
  refine seq_step fun K23 hK23 => ?_
  conv => whnf
  refine hK23 _ _ _ ?_
  refine loop_intro (σ := Nat × List Int × Hp) (fun x => [(17, .v (iv x.1)), (8, .v (.slice bsA A.length cpA)), (9, .v s9), (10, .v (.slice (some ⟨bM, oM, none⟩) N capM)), (11, .v (ptr u)), (7, .v (ptr q)), (2, .v (.slice base2 nm cap2))]) (fun _ => []) (fun x => x.2.2)
    (fun x => x.1 ≤ N ∧ x.2.1.length = N ∧ Has [DkP u du, WnP 1 (.slice (some ⟨bM, oM, none⟩) N capM) N (x.2.1.map by8), DkP q d2, RdP s9 (d1.raws A), WnP 2 (.slice bsA A.length cpA) A.length (A.flatMap putV), Is h] x.2.2) (fun x => N - x.1) (0, medB d1.med ++ [165, 166], g) ⟨Nat.zero_le _, hML2, hg⟩
    ⟨rfl, rfl, rfl, rfl, rfl, rfl, rfl, trivial⟩ subB_nil rfl ?_
  clear hg hK23
  rintro ⟨k, lm, g⟩ ⟨hkl, hll, hg⟩
  dsimp only at hkl hll hg ⊢
  refine seq_step fun K24 hK24 => ?_
  refine seq_step fun K25 hK25 => ?_
  conv => whnf
  refine hK25 _ _ _ ?_
  conv => whnf
  refine cond_dec (fun hlt => ?_) (fun hlt => ?_)
  · obtain ⟨b', o', c', ty', z', cap', hs', hbm, hszm, hcm⟩ := (hg.wn 1 rfl).at (i := k) (by omega)
    cases hs'
    obtain ⟨y, hy⟩ : ∃ y, lm[k]? = some y := ⟨_, List.getElem?_eq_getElem (by omega)⟩
    conv => whnf
    refine hK24 _ _ _ ?_
    conv => whnf
    refine opt_if ⟨by omega, by omega⟩ ?_
    conv => whnf
    refine opt_ld hbm (v := by8 y) (by have := hcm 0 (by8 y) (by rw [Nat.mul_one, Nat.add_zero, List.getElem?_map, hy]; rfl); exact this) ?_
    conv => whnf
    refine opt_if ⟨by omega, by omega⟩ ?_
    conv => whnf
    rw [show oM + (k : Int).toNat * 1 = oM + k by omega]
    refine st_hasW hg 1 rfl (k := k) (by omega) rfl rfl fun g1 hg1 => ?_
    conv => whnf
    refine ⟨(k + 1, lm.set k (IntKind.u8.wrap ↑(BitVec.ofInt IntKind.u8.bits (if IntKind.u8.signed = true then -1 else IntKind.u8.max) ^^^ BitVec.ofInt IntKind.u8.bits y).toNat), g1), ⟨(show k + 1 ≤ N by omega), (by rw [List.length_set]; exact hll), ?_⟩, (by show N - (k + 1) < N - k; omega), ⟨int_eq (wrap_nat (by omega)) rfl, rfl, rfl, rfl, rfl, rfl, rfl, trivial⟩, subB_nil, rfl⟩
    show Has [_, WnP 1 _ N ((lm.set k _).map by8), _, _, _, _] g1
    rw [List.map_set]
    exact hg1
  · conv => whnf
    refine hK22 _ _ _ (seq_step fun K26 hK26 => ?_)
    refine seq_step fun K27 hK27 => ?_
    conv => whnf
    refine full17 225 hg fun s1 g1 hg1 => ?_
    conv => whnf
    refine write15 5 (x := one1S 225) (by omega) (hg1.pull 1 rfl) (by rw [huc]; exact Nat.zero_le _) (fun g' hg' => hg'.wn 0 rfl) fun g2 hg2 => ?_
    rw [up_write hud hua] at hg2 ⊢
    conv => whnf
    have hul : du.med.length = 1024 := (DkP.opn hg).1.med
    refine flush14 (d := { du with acts := IntKind.i64.wrap (du.acts + 1), cache := du.cache ++ [(5, one1S 225)] }) hg2 (by show (du.cache ++ [_]).length ≤ _; rw [huc]; show 1 ≤ _; omega) fun g3 hg3 => ?_
    rw [up_flush (d := { du with acts := IntKind.i64.wrap (du.acts + 1), cache := du.cache ++ [(5, one1S 225)] }) hud hua] at hg3 ⊢
    conv => whnf
    refine fresh_has hg3 fun bE g4 hbE _ _ hg4 => ?_
    conv => whnf
    have e5 : drM du.med (du.cache ++ [(5, one1S 225)]) (fun _ => true) (du.cache ++ [((5 : Int), one1S 225)]).length = du.med.set 5 (one1S 225) := by
      rw [huc]; rfl
    have hd5 : ∀ g', g' bE = some (.cells #[.int .u8 226] 5 (0, 0)) → Vw 1 g' (.slice (some ⟨bE, 0, none⟩) 1 1) 1 ([226].map by8) := fun g' hg' => (pt_wn (e := 1) (n := 1) (cap := 1) (cs := [226].map by8) rfl (Nat.le_refl _) rfl hg').vw
    have hd3 : ({ { du with acts := IntKind.i64.wrap (du.acts + 1), cache := du.cache ++ [(5, one1S 225)] } with acts := IntKind.i64.wrap (IntKind.i64.wrap (du.acts + 1) + 1), med := drM du.med (du.cache ++ [(5, one1S 225)]) (fun _ => true) (du.cache ++ [((5 : Int), one1S 225)]).length, cache := [] } : Dk).med = d1.med.set 5 (one1S 225) := by
      show drM du.med (du.cache ++ [(5, one1S 225)]) (fun _ => true) (du.cache ++ [((5 : Int), one1S 225)]).length = _
      rw [e5, hum]
    have hg5 := hg4.pull 1 rfl
    replace hg5 : Has (DkP u { { du with acts := IntKind.i64.wrap (du.acts + 1), cache := du.cache ++ [(5, one1S 225)] } with acts := IntKind.i64.wrap (IntKind.i64.wrap (du.acts + 1) + 1), med := drM du.med (du.cache ++ [(5, one1S 225)]) (fun _ => true) (du.cache ++ [((5 : Int), one1S 225)]).length, cache := [] } :: [Pt bE (.cells #[.int .u8 226] 5 (0, 0)), WnP 1 s1 128 (rowS (one1S 225)), WnP 1 (.slice (some ⟨bM, oM, none⟩) N capM) N (lm.map by8), DkP q d2, RdP s9 (d1.raws A), WnP 2 (.slice bsA A.length cpA) A.length (A.flatMap putV), Is h]) g4 := hg5
    generalize ({ { du with acts := IntKind.i64.wrap (du.acts + 1), cache := du.cache ++ [(5, one1S 225)] } with acts := IntKind.i64.wrap (IntKind.i64.wrap (du.acts + 1) + 1), med := drM du.med (du.cache ++ [(5, one1S 225)]) (fun _ => true) (du.cache ++ [((5 : Int), one1S 225)]).length, cache := [] } : Dk) = du3 at hg5 hd3
    refine edit28i 6 0 [226] (by show 1 < _; omega) hg5 (fun g' hg' => hd5 g' (hg'.pt 0 rfl)) fun g5 hg6 => ?_
    have hed : du3.edit 6 0 [226] = (0, { du3 with med := du3.med.set 6 ((du3.med.getD 6 zsec).lay 0 [226]) }) := by
      unfold Dk.edit
      rw [if_pos (by omega), if_neg (by show ¬ ((0 : Int) < 0 ∨ 128 - ((1 : Nat) : Int) < 0); omega)]
      rfl
    rw [hed] at hg6 ⊢
    have hm5 : ({ du3 with med := du3.med.set 6 ((du3.med.getD 6 zsec).lay 0 [226]) } : Dk).med.getD 5 zsec = one1S 225 := by
      show (du3.med.set 6 _).getD 5 zsec = _
      rw [List.getD_eq_getElem?_getD, List.getElem?_set_ne (by omega), hd3, List.getElem?_set_self (by rw [← hum]; omega)]; rfl
    have hmo : ∀ k : Nat, k ≠ 5 → k ≠ 6 → ({ du3 with med := du3.med.set 6 ((du3.med.getD 6 zsec).lay 0 [226]) } : Dk).med.getD k zsec = d1.med.getD k zsec := fun k h5 h6 => by
      show (du3.med.set 6 _).getD k zsec = _
      rw [List.getD_eq_getElem?_getD, List.getElem?_set_ne (by omega), hd3, List.getElem?_set_ne (by omega), List.getD_eq_getElem?_getD]
    replace hg6 : Has (DkP u { du3 with med := du3.med.set 6 ((du3.med.getD 6 zsec).lay 0 [226]) } :: [Pt bE (.cells #[.int .u8 226] 5 (0, 0)), WnP 1 s1 128 (rowS (one1S 225)), WnP 1 (.slice (some ⟨bM, oM, none⟩) N capM) N (lm.map by8), DkP q d2, RdP s9 (d1.raws A), WnP 2 (.slice bsA A.length cpA) A.length (A.flatMap putV), Is h]) g5 := hg6
    generalize ({ du3 with med := du3.med.set 6 ((du3.med.getD 6 zsec).lay 0 [226]) } : Dk) = du4 at hg6 hm5 hmo
    conv => whnf
    refine hK27 _ _ _ ?_
    conv => whnf
    have hg7 : Has [DkP u du4, DkP q d2, RdP s9 (d1.raws A), WnP 2 (.slice bsA A.length cpA) A.length (A.flatMap putV), Is h] g5 := ((hg6.erase 1).erase 1).erase 1
    refine hK26 _ _ _ ?_
    refine cut_intro (σ := Hp) (fun _ => [(8, .v (.slice bsA A.length cpA)), (9, .v s9), (11, .v (ptr u)), (7, .v (ptr q))]) (fun _ => []) (fun x => x)
      (fun x => ∃ d3 : Dk, d3.med = d1.med ∧ Has [DkP q d3, DkP u du4, RdP s9 (d1.raws A), WnP 2 (.slice bsA A.length cpA) A.length (A.flatMap putV), Is h] x) ?_ (fun x hx => let ⟨d3, hm3, hx⟩ := hx; p10_3 hA hm3 hm5 hmo hx hq)
    refine seq_step fun K28 hK28 => ?_
    conv => whnf
    refine pending23 (hg7.pull 1 rfl) (by omega) fun s12 g8 hg8 => ?_
    obtain ⟨bs12, cp12, hs12⟩ := hg8.slv 0 rfl
    rw [hc2] at hs12
    subst hs12
    conv => whnf
    rw [bne_self_eq_false]
    conv => whnf
    refine crash20 (d := d2) (l := []) (hg8.pull 1 rfl) (by omega) (fun g _ => vw_nil 1 g) fun g9 hg9 => ?_
    have e1 : (d2.crash (kept [])).med = d1.med := (drM_none kept_nil _).trans hm2
    rw [drN_none kept_nil]
    conv => whnf
    refine hK28 _ _ _ ?_
    conv => whnf
    exact ⟨g9, ⟨_, e1, hg9.erase 1⟩, ⟨rfl, rfl, rfl, rfl, trivial⟩, subB_nil, rfl⟩

set_option maxRecDepth 20000 in
/-- Compared, spoilt, and compared again. -/
theorem p10_1 {A : List PutD} {du d1 d2 : Dk} {u q bM oM capM cpA cap2 nm : Nat} {bsA base2 : Option Addr} {N : Nat} (hN : N = 131074) {s9 : Value} {h h17 : Hp} {Q : Value → Hp → Prop} (hA : A.length ≤ 2 ^ 30) (hm2 : d2.med = d1.med) (hc2 : d2.cache.length = nm) (hml : d2.med.length = 1024) (hum : du.med = d1.med) (huc : du.cache = []) (hud : du.down = false) (hua : du.armed = false) (hnm : nm ≤ 2 ^ 30) (hcpM : N ≤ capM)
    (hh20 : Has [DkP u du, WnP 1 (.slice (some ⟨bM, oM, none⟩) N capM) N ((medB d1.med ++ [165, 166]).map by8), DkP q d2, RdP s9 (d1.raws A), WnP 2 (.slice bsA A.length cpA) A.length (A.flatMap putV), Is h] h17) (hq : ∀ h', SubH h h' → Q (.bool true) h') :
    codeK PR none c10_1 (retK Q [RV.t 6]) (fun _ _ _ _ => False) (retK Q [RV.t 6]) [(8, .v (.slice bsA A.length cpA)), (9, .v s9), (10, .v (.slice (some ⟨bM, oM, none⟩) N capM)), (11, .v (ptr u)), (7, .v (ptr q)), (2, .v (.slice base2 nm cap2))] [] h17 := by
  have hMl : (medB d1.med).length = 131072 := by rw [medB_len, ← hm2, hml]
  have hML2 : (medB d1.med ++ [165, 166]).length = N := by
    have : ([165, 166] : List Int).length = 2 := rfl
    rw [List.length_append, this]; omega
  refine cut_intro (σ := Hp) (fun _ => [(8, .v (.slice bsA A.length cpA)), (9, .v s9), (10, .v (.slice (some ⟨bM, oM, none⟩) N capM)), (11, .v (ptr u)), (7, .v (ptr q)), (2, .v (.slice base2 nm cap2))]) (fun _ => []) (fun x => x)
    (fun x => Has [DkP u du, WnP 1 (.slice (some ⟨bM, oM, none⟩) N capM) N ((medB d1.med ++ [165, 166]).map by8), DkP q d2, RdP s9 (d1.raws A), WnP 2 (.slice bsA A.length cpA) A.length (A.flatMap putV), Is h] x) ?_ (fun x hx => p10_2 hN hA hm2 hc2 hml hum huc hud hua hnm hcpM hx hq)
  refine seq_step fun K19 hK19 => ?_
  conv => whnf
  refine hK19 _ _ _ ?_
  refine loop_intro (σ := Nat × Hp) (fun x => [(13, .v (iv x.1)), (8, .v (.slice bsA A.length cpA)), (9, .v s9), (10, .v (.slice (some ⟨bM, oM, none⟩) N capM)), (11, .v (ptr u)), (7, .v (ptr q)), (2, .v (.slice base2 nm cap2))]) (fun _ => []) (fun x => x.2)
    (fun x => x.1 ≤ A.length ∧ Has [DkP u du, WnP 1 (.slice (some ⟨bM, oM, none⟩) N capM) N ((medB d1.med ++ [165, 166]).map by8), DkP q d2, RdP s9 (d1.raws A), WnP 2 (.slice bsA A.length cpA) A.length (A.flatMap putV), Is h] x.2) (fun x => A.length - x.1) (0, h17) ⟨Nat.zero_le _, hh20⟩
    ⟨rfl, rfl, rfl, rfl, rfl, rfl, rfl, trivial⟩ subB_nil rfl ?_
  clear hh20
  rintro ⟨k, g⟩ ⟨hkl, hg⟩
  dsimp only at hkl hg ⊢
  refine seq_step fun K20 hK20 => ?_
  refine seq_step fun K21 hK21 => ?_
  conv => whnf
  refine hK21 _ _ _ ?_
  conv => whnf
  refine cond_dec (fun hlt => ?_) (fun hlt => ?_)
  · obtain ⟨b, off, c, ty, z, cap', y, hs, hy, hb, hc0, hc1⟩ := puts_at (hg.wn 4 rfl) (i := k) (by omega)
    cases hs
    have hpy := plc_lt y.sector
    have hpe := plc_nat y.sector
    obtain ⟨s, hs⟩ : ∃ s : Nat, (plc y.sector) = (s : Int) := ⟨(plc y.sector).toNat, hpe.symm⟩
    have hst : (plc y.sector).toNat = s := by omega
    have hs1024 : s < 1024 := by omega
    conv => whnf
    refine hK20 _ _ _ (seq_step fun K22 hK22 => ?_)
    refine seq_step fun K23 hK23 => ?_
    conv => whnf
    refine opt_if ⟨by omega, by omega⟩ ?_
    conv => whnf
    refine opt_ld hb (v := iv y.sector) hc0 ?_
    conv => whnf
    refine place16 _ ?_
    conv => whnf
    refine hK23 _ _ _ (seq_step fun K24 hK24 => ?_)
    conv => whnf
    refine raw25p _ hg fun s1 g1 hg1 => ?_
    rw [hum] at hg1
    generalize hx : d1.med.getD (plc y.sector).toNat zsec = x at hg1
    obtain ⟨br, or, cr, tyr, zr, capr, vr, hsr, hbr, hcr, hlr, hvr⟩ := RdP.at hg1 4 rfl (i := k) (x := x) (by rw [Dk.raws, List.getElem?_map, hy, ← hx]; rfl)
    rw [show (d1.raws A).length = A.length from List.length_map _] at hsr
    subst hsr
    have hw1 : IntKind.i64.wrap ((s : Int) * 128) = ((s * 128 : Nat) : Int) := by rw [wrap_i64 (by omega) (by omega)]; omega
    have hw2 : IntKind.i64.wrap ((s : Int) + 1) = ((s + 1 : Nat) : Int) := by rw [wrap_i64 (by omega) (by omega)]; omega
    have hw3 : IntKind.i64.wrap (((s + 1 : Nat) : Int) * 128) = ((s * 128 + 128 : Nat) : Int) := by rw [wrap_i64 (by omega) (by omega)]; omega
    rw [hs]
    conv => whnf
    refine hK24 _ _ _ (seq_step fun K25 hK25 => ?_)
    conv => whnf
    refine opt_if ⟨by omega, by omega⟩ ?_
    conv => whnf
    refine opt_ld hbr (v := vr) (by rw [show or + (k : Int).toNat * 1 = or + k by omega]; exact hcr) ?_
    conv => whnf
    refine same26 (l := x.val) (k := x.val) (hg1.wn 0 rfl) hvr fun t ht => ?_
    obtain rfl := ht rfl
    conv => whnf
    rw [hw1, hw2, hw3]
    refine opt_some (slS_lohi (lo := s * 128) (hi := s * 128 + 128) (by omega) (by omega) (by omega)) ?_
    conv => whnf
    refine opt_if ⟨by omega, by omega⟩ ?_
    conv => whnf
    refine opt_ld hbr (v := vr) (by rw [show or + (k : Int).toNat * 1 = or + k by omega]; exact hcr) ?_
    conv => whnf
    have hpt := (hg1.wn 2 rfl).part (b := bM) (o := oM) (cap := capM) rfl (lo := s * 128) (hi := s * 128 + 128) (c2 := capM - s * 128) (o2 := oM + s * 128) (by omega) (by omega) (by omega) (.inl (by omega))
    have hxm : d1.med[s]? = some x := by
      have hl1 : s < d1.med.length := by rw [← hm2, hml]; omega
      rw [hst] at hx
      rw [← hx, List.getD_eq_getElem?_getD, List.getElem?_eq_getElem hl1]; rfl
    have ept : (((medB d1.med ++ [165, 166]).map by8).drop (s * 128 * 1)).take ((s * 128 + 128 - s * 128) * 1) = rowS x := by
      have := medB_get d1.med s hxm
      rw [Nat.mul_one, Nat.mul_one, show s * 128 + 128 - s * 128 = 128 by omega, ← List.map_drop, ← List.map_take, List.drop_append, List.take_append_of_le_length (by rw [List.length_drop, hMl]; omega), this]
      rfl
    rw [ept] at hpt
    refine same26 (l := x.val) (k := x.val) hpt hvr fun t ht => ?_
    obtain rfl := ht rfl
    conv => whnf
    refine hK25 _ _ _ ?_
    conv => whnf
    refine hK22 _ _ _ ?_
    conv => whnf
    exact ⟨(k + 1, g1), ⟨(show k + 1 ≤ A.length by omega), hg1.tail⟩, (by show A.length - (k + 1) < A.length - k; omega), ⟨int_eq (wrap_nat (by omega)) rfl, rfl, rfl, rfl, rfl, rfl, rfl, trivial⟩, subB_nil, rfl⟩
  · conv => whnf
    exact ⟨g, hg, ⟨rfl, rfl, rfl, rfl, rfl, rfl, trivial⟩, subB_nil, rfl⟩

set_option maxRecDepth 20000 in
theorem law10 {a0 a1 a2 : Value} {l0 : List OpD} {l more : List PutD} (hs0 : SlR 7 OpR h [a0] l0) (hb0 : ∀ o ∈ l0, o.data.length ≤ 2 ^ 40 ∧ o.keep.length ≤ 2 ^ 40) (hl0 : l0.length ≤ 2 ^ 30) (hs1 : SlR 2 PutR h [a1] l) (hl : l.length ≤ 2 ^ 28)
    (hs2 : SlR 2 PutR h [a2] more) (hlm : more.length ≤ 2 ^ 28) (hq : ∀ h', SubH h h' → Q (.bool true) h') : Ok PR 10 [a0, a1, a2] h Q := by
  have hv0 := hs1.puts
  obtain ⟨base, cap, hs⟩ : ∃ base cap, a1 = .slice base l.length cap := let ⟨_, x, y, z, _⟩ := hv0; ⟨x, y, z⟩
  have hv : ∀ g, SubH h g → Vw 2 g a1 l.length (l.flatMap putV) := fun g hg => hv0.sub hg
  obtain ⟨base2, cap2, hsk⟩ : ∃ base cap, a2 = .slice base more.length cap := let ⟨_, x, y, z, _⟩ := hs2.puts; ⟨x, y, z⟩
  have hv2 : ∀ g, SubH h g → Vw 2 g a2 more.length (more.flatMap putV) := fun g hg => hs2.puts.sub hg
  subst hs hsk
  refine e10 rfl ?_
  refine seq_step fun K hK => ?_
  conv => whnf
  refine hK _ _ _ (seq_step fun K1 hK1 => ?_)
  conv => whnf
  refine fresh11 (Has.start h) (fun g hg => hg.is 0 rfl) hs0 hb0 hl0 fun q d0 h1 hcl hh1 => ?_
  conv => whnf
  refine hK1 _ _ _ (seq_step fun K2 hK2 => ?_)
  refine seq_step fun K3 hK3 => ?_
  conv => whnf
  refine laid21 hh1 hcl.down hcl.armed (fun g hg => hv g (hg.is 0 rfl)) (by rw [hcl.cache]; show 0 + _ ≤ _; omega) fun h2 hh2 => ?_
  conv => whnf
  refine flush14 (d := d0.lay l) hh2 (by show (d0.cache ++ l.map putQ).length ≤ _; rw [hcl.cache]; simp; omega) fun h3 hh3 => ?_
  rw [up_flush (d := d0.lay l) hcl.down hcl.armed] at hh3 ⊢
  have hc1 : ({ d0.lay l with acts := IntKind.i64.wrap ((d0.lay l).acts + 1), med := drM (d0.lay l).med (d0.lay l).cache (fun _ => true) (d0.lay l).cache.length, cache := [] } : Dk).cache = [] := rfl
  have hd1 : ({ d0.lay l with acts := IntKind.i64.wrap ((d0.lay l).acts + 1), med := drM (d0.lay l).med (d0.lay l).cache (fun _ => true) (d0.lay l).cache.length, cache := [] } : Dk).down = false := hcl.down
  have ha1 : ({ d0.lay l with acts := IntKind.i64.wrap ((d0.lay l).acts + 1), med := drM (d0.lay l).med (d0.lay l).cache (fun _ => true) (d0.lay l).cache.length, cache := [] } : Dk).armed = false := hcl.armed
  generalize ({ d0.lay l with acts := IntKind.i64.wrap ((d0.lay l).acts + 1), med := drM (d0.lay l).med (d0.lay l).cache (fun _ => true) (d0.lay l).cache.length, cache := [] } : Dk) = d1 at hh3 hc1 hd1 ha1
  replace hh3 : Has [DkP q d1, Is h] h3 := hh3
  conv => whnf
  refine hK3 _ _ _ ?_
  conv => whnf
  refine hK2 _ _ _ (seq_step fun K4 hK4 => ?_)
  conv => whnf
  refine fresh_has hh3 fun bA h4 hbA _ _ hh4 => ?_
  conv => whnf
  have hh5 : Has [WnP 2 (.slice (some ⟨bA, 0, none⟩) 2 2) 2 ([⟨0, 0⟩, ⟨1023, 0⟩].flatMap putV), DkP q d1, Is h] h4 := by
    refine Has.mono1 hh4 fun g' hg' => ?_
    exact pt_wn (e := 2) (n := 2) (cap := 2) (cs := ([⟨0, 0⟩, ⟨1023, 0⟩] : List PutD).flatMap putV) rfl (Nat.le_refl _) rfl hg'
  clear hh4 hbA
  refine app_hasW (z := [.int .i64 0, .int .u8 0]) hh5 0 rfl (hv _ (hh5.is 2 rfl)) (putV_one _) (by omega) fun s8 h6 hh6 => ?_
  replace hh6 : Has [WnP 2 s8 (2 + l.length) ([⟨0, 0⟩, ⟨1023, 0⟩].flatMap putV ++ l.flatMap putV), DkP q d1, Is h] h6 := hh6
  conv => whnf
  refine hK4 _ _ _ (seq_step fun K5 hK5 => ?_)
  conv => whnf
  refine next31 hh6 (fun g hg => hv g (hg.is 2 rfl)) (by omega) fun s9 h7 hh7 => ?_
  conv => whnf
  have hnl : (nxt l).length = l.length := List.length_map _
  refine app_hasW (z := [.int .i64 0, .int .u8 0]) hh7 1 rfl (hh7.wn 0 rfl) (putV_one _) (by omega) fun s8 h8 hh8 => ?_
  conv => whnf
  obtain ⟨A, hAe, hAl⟩ : ∃ A : List PutD, A.flatMap putV = ([⟨0, 0⟩, ⟨1023, 0⟩] : List PutD).flatMap putV ++ l.flatMap putV ++ (nxt l).flatMap putV ∧ A.length = 2 + l.length + (nxt l).length :=
    ⟨[⟨0, 0⟩, ⟨1023, 0⟩] ++ l ++ nxt l, by simp only [List.flatMap_append], by simp only [List.length_append, List.length_cons, List.length_nil]⟩
  have hh9 : Has [WnP 2 s8 A.length (A.flatMap putV), DkP q d1, Is h] h8 := by rw [hAe, hAl]; exact hh8.tail
  clear hh8 hh7 hh6 hh5 hh3 hh2 hh1
  have hA : A.length ≤ 2 ^ 30 := by omega
  clear hAe hAl
  refine hK5 _ _ _ (seq_step fun K6 hK6 => ?_)
  conv => whnf
  refine raws30 (hh9.pull 1 rfl) (fun g hg => hg.wn 0 rfl) hA fun s9 h9 hh10 => ?_
  conv => whnf
  refine hK6 _ _ _ (seq_step fun K7 hK7 => ?_)
  refine seq_step fun K8 hK8 => ?_
  conv => whnf
  refine laid21 (hh10.pull 1 rfl) hd1 ha1 (fun g hg => hv2 g (hg.is 2 rfl)) (by rw [hc1]; show 0 + _ ≤ _; omega) fun h10 hh11 => ?_
  have hm2 : (d1.lay more).med = d1.med := rfl
  have hc2 : (d1.lay more).cache.length = more.length := by show (d1.cache ++ more.map putQ).length = _; rw [hc1]; simp
  have hd2 : (d1.lay more).down = false := hd1
  generalize d1.lay more = d2 at hh11 hm2 hc2 hd2
  conv => whnf
  refine hK8 _ _ _ ?_
  conv => whnf
  refine hK7 _ _ _ (seq_step fun K9 hK9 => ?_)
  conv => whnf
  have hml := (DkP.opn hh11).1.med
  refine medium35 hh11 fun s10 h11 hh12 => ?_
  rw [hm2] at hh12
  obtain ⟨bs10, cp10, hs10⟩ := hh12.slv 0 rfl
  subst hs10
  conv => whnf
  refine hK9 _ _ _ (seq_step fun K10 hK10 => ?_)
  refine seq_step fun K11 hK11 => ?_
  conv => whnf
  refine hK11 _ _ _ ?_
  conv => whnf
  refine hK10 _ _ _ (seq_step fun K12 hK12 => ?_)
  conv => whnf
  refine fresh_has hh12 fun bB h12 hbB _ _ hh13 => ?_
  conv => whnf
  have hvB : Vw 1 h12 (.slice (some ⟨bB, 0, none⟩) 2 2) 2 ([165, 166].map by8) := (pt_wn (e := 1) (n := 2) (cap := 2) (cs := [165, 166].map by8) rfl (Nat.le_refl _) rfl hbB).vw
  refine app_hasW (z := [.int .u8 0]) hh13 1 rfl hvB rfl (by omega) fun s10 h13 hh14 => ?_
  have hMl : (medB d1.med).length = 131072 := by rw [medB_len, ← hm2, hml]
  have hML2 : (medB d1.med ++ [165, 166]).length = 131074 := by
    have : ([165, 166] : List Int).length = 2 := rfl
    rw [List.length_append, this]; omega
  have hMf : ofM (medB d1.med) 1024 = d1.med := ofM_med (by rw [← hm2]; exact hml)
  have hh15 : Has [WnP 1 s10 131074 ((medB d1.med ++ [165, 166]).map by8), DkP q d2, RdP s9 (d1.raws A), WnP 2 s8 A.length (A.flatMap putV), Is h] h13 := by
    rw [List.map_append]
    exact Has.sel (L := [_, _, _, _, _, _]) hh14 [1, 2, 3, 4, 5, 0] rfl |>.map_tail fun g hg => Has.sel (L := [_, _, _, _, _]) hg [0, 1, 2, 3, 4] rfl |>.map_tail fun g hg => hg.map_tail fun g hg => hg.map_tail fun g hg => hg.map_tail fun g hg => trivial
  clear hh14 hh13 hh12 hh11 hh10 hh9 hbB hvB
  obtain ⟨bM, oM, cM, tyM, zM, capM, hsM, _⟩ := (hh15.wn 0 rfl).at (i := 0) (by omega)
  subst hsM
  have hcpM : 131074 ≤ capM := by
    obtain ⟨_, _, _, e1, e2, _⟩ := hh15.wn 0 rfl
    cases e1; exact e2
  conv => whnf
  refine hK12 _ _ _ (seq_step fun K13 hK13 => ?_)
  conv => whnf
  refine opt_some (slS_hi (hi := 131072) (by omega)) ?_
  conv => whnf
  have hpart : ∀ g, Has [WnP 1 (.slice (some ⟨bM, oM, none⟩) 131074 capM) 131074 ((medB d1.med ++ [165, 166]).map by8), DkP q d2, RdP s9 (d1.raws A), WnP 2 s8 A.length (A.flatMap putV), Is h] g → Vw 1 g (.slice (some ⟨bM, oM, none⟩) 131072 capM) 131072 ((medB d1.med).map by8) := fun g hg => by
    have := (hg.wn 0 rfl).part (b := bM) (o := oM) (cap := capM) rfl (lo := 0) (hi := 131072) (c2 := capM) (o2 := oM) (by omega) (by omega) (by omega) (.inl (by omega))
    have e : (((medB d1.med ++ [165, 166]).map by8).drop (0 * 1)).take ((131072 - 0) * 1) = (medB d1.med).map by8 := by
      rw [Nat.zero_mul, List.drop_zero, Nat.sub_zero, Nat.mul_one, List.map_append, List.take_append_of_le_length (by rw [List.length_map]; omega), List.take_of_length_le (by rw [List.length_map]; omega)]
    rw [e] at this
    exact this
  refine of36 hh15 hpart fun u h14 hh16 => ?_
  have hum : (ofD (medB d1.med) 1024).med = d1.med := hMf
  have huc : (ofD (medB d1.med) 1024).cache = [] := rfl
  have hud : (ofD (medB d1.med) 1024).down = false := rfl
  have hua : (ofD (medB d1.med) 1024).armed = false := rfl
  have huc2 : (ofD (medB d1.med) 1024).acts = 0 := rfl
  generalize ofD (medB d1.med) 1024 = du at hh16 hum huc hud hua huc2
  conv => whnf
  refine hK13 _ _ _ (seq_step fun K14 hK14 => ?_)
  refine seq_step fun K15 hK15 => ?_
  obtain ⟨b', o', c', ty', z', cap', hs', hbm, hszm, hcm⟩ := (hh16.wn 1 rfl).at (i := 131072) (by omega)
  cases hs'
  obtain ⟨b', o', c'', ty'', z'', cap', hs', hbm', hszm', hcm'⟩ := (hh16.wn 1 rfl).at (i := 131073) (by omega)
  cases hs'
  rw [hbm] at hbm'; cases hbm'
  have g1 : ((medB d1.med ++ [165, 166]).map by8)[131072]? = some (by8 165) := by
    rw [List.getElem?_map, List.getElem?_append_right (by omega), hMl]; rfl
  have g2 : ((medB d1.med ++ [165, 166]).map by8)[131073]? = some (by8 166) := by
    rw [List.getElem?_map, List.getElem?_append_right (by omega), hMl]; rfl
  conv => whnf
  refine opt_ld hbm (v := by8 165) (by rw [show oM + Int.toNat 131072 * 1 = oM + 131072 * 1 + 0 by omega]; exact hcm 0 _ (by rw [Nat.mul_one, Nat.add_zero]; exact g1)) ?_
  conv => whnf
  refine opt_ld hbm (v := by8 166) (by rw [show oM + Int.toNat 131073 * 1 = oM + 131073 * 1 + 0 by omega]; exact hcm' 0 _ (by rw [Nat.mul_one, Nat.add_zero]; exact g2)) ?_
  conv => whnf
  refine hK15 _ _ _ ?_
  conv => whnf
  clear hbm hszm hcm hszm' hcm' g1 g2
  refine hK14 _ _ _ ?_
  obtain ⟨bsA, cpA, hsA⟩ := hh16.slv 4 rfl
  subst hsA
  refine cut_intro (σ := Hp) (fun _ => [(8, .v (.slice bsA A.length cpA)), (9, .v s9), (10, .v (.slice (some ⟨bM, oM, none⟩) 131074 capM)), (11, .v (ptr u)), (7, .v (ptr q)), (2, .v (.slice base2 more.length cap2))]) (fun _ => []) (fun x => x)
    (fun x => Has [DkP u du, WnP 1 (.slice (some ⟨bM, oM, none⟩) 131074 capM) 131074 ((medB d1.med ++ [165, 166]).map by8), DkP q d2, RdP s9 (d1.raws A), WnP 2 (.slice bsA A.length cpA) A.length (A.flatMap putV), Is h] x) ?_ ?_
  · refine seq_step fun K17 hK17 => ?_
    conv => whnf
    refine Has.call hh16 0 rfl down18S fun _ h15 hh17 => ?_
    rw [hud]
    conv => whnf
    refine Has.call hh17 0 rfl acts13S fun _ h16 hh18 => ?_
    rw [huc2]
    conv => whnf
    refine pending23 hh18 (by rw [huc]; exact Nat.zero_le _) fun s12 h17 hh19 => ?_
    obtain ⟨bs12, cp12, hs12⟩ := hh19.slv 0 rfl
    rw [show du.cache.length = 0 by rw [huc]; rfl] at hs12
    subst hs12
    conv => whnf
    refine hK17 _ _ _ ?_
    conv => whnf
    exact ⟨h17, hh19.tail, ⟨rfl, rfl, rfl, rfl, rfl, rfl, trivial⟩, subB_nil, rfl⟩
  · intro x hx
    exact p10_1 rfl hA hm2 hc2 hml hum huc hud hua (by omega) hcpM hx hq

end
end Go.Proofs.Ytpkleblggehghaa.V
