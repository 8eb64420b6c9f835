/- Seat 04: DiskApart. -/
import Derived.Test.YtpkleblggehghaaD24
import Derived.Test.YtpkleblggehghaaD25
import Derived.Test.YtpkleblggehghaaE11
namespace Go.Proofs.Ytpkleblggehghaa.V
set_option linter.unusedVariables false
set_option linter.unusedSimpArgs false
set_option linter.unusedSectionVars false
set_option linter.unusedSectionVars false
open Go

/-- The mark of the i-th list. -/
def mkI (i : Nat) : Int := IntKind.u8.wrap (IntKind.i64.wrap (129 + (i : Int)))

section

set_option maxRecDepth 20000 in
/-- At the end: the lists have their marks, the disk tells what it told. -/
theorem p8_4 {ls : List (Value × List Int)} {x : Sec} {sector byte s : Int} {bo : Nat} {s7 s29 s31 s19 s16 : Value} {h g : Hp} {Q : Value → Hp → Prop} (hb : ∀ (i : Nat) (y : Value × List Int), ls[i]? = some y → 128 ≤ y.2.length ∧ ∀ t : Nat, t < 128 → y.2[t]? = some (mkI i))
    (hg : Has [LsP bo ls, WnP 1 s7 128 (rowS x), WnP 1 s29 128 (rowS (one1S byte)), WnP 1 s31 128 (rowS x), WnP 1 s19 1 [iv s], WnP 1 s16 2 [iv (-7), iv (-8)], Is h] g) (hq : ∀ h', SubH h h' → Q (.bool true) h') :
    codeK PR none c8_4 (retK Q [RV.t 4]) (fun _ _ _ _ => False) (retK Q [RV.t 4]) [(3, .l 3 0), (6, .v (iv s)), (7, .v s7), (11, .v (.slice (some ⟨bo, 0, none⟩) 4 4)), (16, .v s16), (19, .v s19), (29, .v s29), (30, .v (iv 0)), (31, .v s31), (32, .v (iv 0))] [(3, [iv sector, by8 byte])] g := by
  have hl := (LsP.opn hg).1
  refine seq_step fun K1 hK1 => ?_
  refine seq_step fun K2 hK2 => ?_
  conv => whnf
  refine hK2 _ _ _ ?_
  refine loop_intro (σ := Nat) (fun k => [(33, .v (iv k)), (3, .l 3 0), (6, .v (iv s)), (7, .v s7), (11, .v (.slice (some ⟨bo, 0, none⟩) 4 4)), (16, .v s16), (19, .v s19), (29, .v s29), (30, .v (iv 0)), (31, .v s31), (32, .v (iv 0))]) (fun _ => [(3, [iv sector, by8 byte])]) (fun _ => g)
    (fun k => k ≤ 4) (fun k => 4 - k) 0 (Nat.zero_le _) ⟨rfl, rfl, rfl, rfl, rfl, rfl, rfl, rfl, rfl, rfl, rfl, trivial⟩ ⟨rfl, trivial⟩ rfl ?_
  intro k hk
  refine seq_step fun K3 hK3 => ?_
  refine seq_step fun K4 hK4 => ?_
  conv => whnf
  refine hK4 _ _ _ ?_
  conv => whnf
  refine cond_dec (fun hlt => ?_) (fun hlt => ?_)
  · obtain ⟨y, hy⟩ : ∃ y, ls[k]? = some y := ⟨_, List.getElem?_eq_getElem (by omega)⟩
    obtain ⟨hy1, hy2⟩ := hb k y hy
    obtain ⟨c, ty, z, hbo, hcell⟩ := LsP.cell hg hy
    obtain ⟨b, o, c2, ty2, z2, cap2, hs, hb2, hsz2, hcc⟩ := (LsP.vw hg hy).at (i := 0) (by omega)
    conv => whnf
    refine hK3 _ _ _ (seq_step fun K5 hK5 => ?_)
    refine seq_step fun K6 hK6 => ?_
    conv => whnf
    refine hK6 _ _ _ ?_
    refine loop_intro (σ := Nat) (fun t => [(34, .v (iv t)), (33, .v (iv k)), (3, .l 3 0), (6, .v (iv s)), (7, .v s7), (11, .v (.slice (some ⟨bo, 0, none⟩) 4 4)), (16, .v s16), (19, .v s19), (29, .v s29), (30, .v (iv 0)), (31, .v s31), (32, .v (iv 0))]) (fun _ => [(3, [iv sector, by8 byte])]) (fun _ => g)
      (fun t => t ≤ 128) (fun t => 128 - t) 0 (Nat.zero_le _) ⟨rfl, rfl, rfl, rfl, rfl, rfl, rfl, rfl, rfl, rfl, rfl, rfl, trivial⟩ ⟨rfl, trivial⟩ rfl ?_
    intro t ht
    refine seq_step fun K7 hK7 => ?_
    refine seq_step fun K8 hK8 => ?_
    conv => whnf
    refine hK8 _ _ _ ?_
    conv => whnf
    refine cond_dec (fun hlt2 => ?_) (fun hlt2 => ?_)
    · conv => whnf
      refine hK7 _ _ _ (seq_step fun K9 hK9 => ?_)
      refine seq_step fun K10 hK10 => ?_
      conv => whnf
      refine opt_if ⟨by omega, by omega⟩ ?_
      conv => whnf
      refine opt_ld hbo (v := y.1) (by rw [show 0 + (k : Int).toNat * 1 = 0 + k by omega]; exact hcell) ?_
      rw [hs]
      conv => whnf
      refine opt_if ⟨by omega, by omega⟩ ?_
      conv => whnf
      refine opt_ld hb2 (v := by8 (mkI k)) ?_ ?_
      · have := hcc t (by8 (mkI k)) (by rw [Nat.zero_mul, Nat.zero_add, List.getElem?_map, hy2 t (by omega)]; rfl)
        rw [show o + (t : Int).toNat * 1 = o + 0 * 1 + t by omega]
        exact this
      conv => whnf
      rw [show (mkI k != IntKind.u8.wrap (IntKind.i64.wrap (129 + (k : Int)))) = false from bne_self_eq_false _]
      refine hK10 _ _ _ ?_
      conv => whnf
      refine hK9 _ _ _ ?_
      conv => whnf
      exact ⟨t + 1, (show t + 1 ≤ 128 by omega), (by show 128 - (t + 1) < 128 - t; omega), ⟨int_eq (wrap_nat (by omega)) rfl, rfl, rfl, rfl, rfl, rfl, rfl, rfl, rfl, rfl, rfl, rfl, trivial⟩, ⟨rfl, trivial⟩, rfl⟩
    · conv => whnf
      refine hK5 _ _ _ ?_
      conv => whnf
      exact ⟨k + 1, (show k + 1 ≤ 4 by omega), (by show 4 - (k + 1) < 4 - k; omega), ⟨int_eq (wrap_nat (by omega)) rfl, rfl, rfl, rfl, rfl, rfl, rfl, rfl, rfl, rfl, rfl, trivial⟩, ⟨rfl, trivial⟩, rfl⟩
  · conv => whnf
    refine hK1 _ _ _ ?_
    conv => whnf
    refine full17 byte hg fun s1 g1 hg1 => ?_
    conv => whnf
    refine same26 (l := (one1S byte).val) (k := (one1S byte).val) (hg1.wn 3 rfl) (hg1.wn 0 rfl) fun t ht => ?_
    obtain rfl := ht rfl
    conv => whnf
    refine same26 (l := x.val) (k := x.val) (hg1.wn 4 rfl) (hg1.wn 2 rfl) fun t ht => ?_
    obtain rfl := ht rfl
    obtain ⟨b, o, c, ty, z, cap, e1, e2, e3, e4⟩ := (hg1.wn 5 rfl).at (i := 0) (by omega)
    obtain ⟨b', o', c', ty', z', cap', e1', e2', e3', e4'⟩ := (hg1.wn 6 rfl).at (i := 0) (by omega)
    subst e1 e1'
    conv => whnf
    refine opt_ld e2 (v := iv s) (e4 0 _ rfl) ?_
    conv => whnf
    rw [beq_self_eq_true]
    conv => whnf
    refine opt_ld e2' (v := iv (-7)) (e4' 0 _ rfl) ?_
    conv => whnf
    exact hq _ (hg1.is 7 rfl)

theorem Has.rdw {L : List As} {h : Hp} (hh : Has L h) (i : Nat) {n k : Nat} {s v : Value} {vs : List Value} (hi : L[i]? = some (WnP 1 s n vs)) (hk : k < n) (hv : vs[k]? = some v) :
    ∃ b o cap c ty z, s = .slice (some ⟨b, o, none⟩) n cap ∧ h b = some (.cells c ty z) ∧ c[o + k]? = some v := by
  obtain ⟨b, o, c, ty, z, cap, e1, e2, e3, e4⟩ := (hh.wn i hi).at (i := k) hk
  refine ⟨b, o, cap, c, ty, z, e1, e2, ?_⟩
  have := e4 0 v (by rw [Nat.mul_one, Nat.add_zero]; exact hv)
  rwa [Nat.mul_one, Nat.add_zero] at this

theorem chunk_zero {l : List Int} {i : Nat} (hl : l.length = 131072) (hi : i < 1024) : (chunk l i).val[0]? = l[i * 128]? := by
  unfold chunk
  rw [dif_pos (by rw [List.length_take, List.length_drop, hl]; omega)]
  show ((l.drop (i * 128)).take 128)[0]? = _
  rw [List.getElem?_take, if_pos (by omega), List.getElem?_drop, Nat.add_zero]

theorem medium35N {N : Nat} (hN : N = 131072) {h : Hp} {Q : Value → Hp → Prop} {L : List As} {p : Nat} {d : Dk} (hh : Has (DkP p d :: L) h) (hq : ∀ s h', Has (WnP 1 s N ((medB d.med).map by8) :: DkP p d :: L) h' → Q s h') : Ok PR 35 [ptr p] h Q := by
  subst hN; exact medium35 hh hq

theorem of36N {N : Nat} (hN : N = 131072) {h : Hp} {Q : Value → Hp → Prop} {L : List As} {a : Value} {l : List Int} (hh : Has L h) (ha : ∀ g, Has L g → Vw 1 g a N (l.map by8)) (hq : ∀ q h', Has (DkP q (ofD l 1024) :: L) h' → Q (.tuple #[ptr q, iv 0]) h') : Ok PR 36 [a] h Q := by
  subst hN; exact of36 hh ha hq

set_option maxRecDepth 20000 in
/-- New memory each time. -/
theorem p8_3 {ls : List (Value × List Int)} {d : Dk} {x : Sec} {sector byte : Int} {bo q sn : Nat} {s7 : Value} {h g : Hp} {Q : Value → Hp → Prop} (hb : ∀ (i : Nat) (y : Value × List Int), ls[i]? = some y → 128 ≤ y.2.length ∧ ∀ t : Nat, t < 128 → y.2[t]? = some (mkI i))
    (hsn : sn < 1024) (hc : d.cache = [((sn : Int), one1S byte)]) (hd : d.down = false) (hx : d.med[sn]? = some x)
    (hg : Has [LsP bo ls, DkP q d, WnP 1 s7 128 (rowS x), Is h] g) (hq : ∀ h', SubH h h' → Q (.bool true) h') :
    codeK PR none c8_3 (retK Q [RV.t 4]) (fun _ _ _ _ => False) (retK Q [RV.t 4]) [(3, .l 3 0), (5, .v (ptr q)), (6, .v (iv (sn : Int))), (7, .v s7), (11, .v (.slice (some ⟨bo, 0, none⟩) 4 4))] [(3, [iv sector, by8 byte])] g := by
  obtain ⟨N, hN⟩ : ∃ N : Nat, N = 131072 := ⟨_, rfl⟩
  have hcl : d.cache.length = 1 := by rw [hc]; rfl
  have hcm : d.cache.map (fun x => iv x.1) = [iv (sn : Int)] := by rw [hc]; rfl
  have hml : d.med.length = 1024 := (DkP.opn (hg.pull 1 rfl)).1.med
  have hMl : (medB d.med).length = N := by rw [medB_len, hml, hN]
  have hMg := medB_get d.med sn hx
  obtain ⟨x0, hx0⟩ : ∃ y, x.val[0]? = some y := ⟨_, List.getElem?_eq_getElem (by rw [x.len]; omega)⟩
  have hM0 : (medB d.med)[sn * 128]? = some x0 := by
    have e : (((medB d.med).drop (sn * 128)).take 128)[0]? = x.val[0]? := by rw [hMg]
    rw [List.getElem?_take, if_pos (by omega), List.getElem?_drop, Nat.add_zero] at e
    rw [e, hx0]
  have hw : IntKind.i64.wrap ((sn : Int) * 128) = ((sn * 128 : Nat) : Int) := by rw [wrap_i64 (by omega) (by omega)]; omega
  refine seq_step fun K1 hK1 => ?_
  conv => whnf
  refine pending23 (hg.pull 1 rfl) (by omega) fun s16 g1 hg1 => ?_
  rw [hcl, hcm] at hg1
  conv => whnf
  refine hK1 _ _ _ (seq_step fun K2 hK2 => ?_)
  conv => whnf
  refine pending23 (hg1.pull 1 rfl) (by omega) fun s17 g2 hg2 => ?_
  rw [hcl, hcm] at hg2
  replace hg2 : Has [WnP 1 s17 1 [iv (sn : Int)], DkP q d, WnP 1 s16 1 [iv (sn : Int)], LsP bo ls, WnP 1 s7 128 (rowS x), Is h] g2 := hg2
  obtain ⟨b16, o16, cap16, c16, ty16, z16, e16, _⟩ := hg2.rdw 2 rfl (k := 0) (by omega) rfl
  obtain ⟨bs17, cp17, e17⟩ := hg2.slv 0 rfl
  subst e16 e17
  conv => whnf
  refine hK2 _ _ _ (seq_step fun K3 hK3 => ?_)
  refine seq_step fun K4 hK4 => ?_
  conv => whnf
  refine hK4 _ _ _ ?_
  conv => whnf
  refine hK3 _ _ _ (seq_step fun K5 hK5 => ?_)
  conv => whnf
  refine hK5 _ _ _ (seq_step fun K6 hK6 => ?_)
  conv => whnf
  refine st_hasW hg2 2 rfl (k := 0) (x := iv (-7)) (by omega) rfl rfl fun g3 hg3 => ?_
  replace hg3 : Has [WnP 1 (.slice bs17 1 cp17) 1 [iv (sn : Int)], DkP q d, WnP 1 (.slice (some ⟨b16, o16, none⟩) 1 cap16) 1 [iv (-7)], LsP bo ls, WnP 1 s7 128 (rowS x), Is h] g3 := hg3
  conv => whnf
  refine hK6 _ _ _ (seq_step fun K7 hK7 => ?_)
  conv => whnf
  refine fresh_has hg3 fun b8 g4 hb8 _ _ hg4 => ?_
  conv => whnf
  have hv8 : Vw 1 g4 (.slice (some ⟨b8, 0, none⟩) 1 1) 1 [iv (-8)] := (pt_wn (e := 1) (n := 1) (cap := 1) (cs := [iv (-8)]) rfl (Nat.le_refl _) rfl hb8).vw
  refine app_has2 (z := [.int .i64 0]) hg4 3 rfl hv8 rfl (by omega) fun s16 g5 hg5 => ?_
  replace hg5 : Has [Pt b8 (.cells #[iv (-8)] 3 (0, 0)), WnP 1 (.slice bs17 1 cp17) 1 [iv (sn : Int)], DkP q d, (fun g => WnP 1 s16 2 [iv (-7), iv (-8)] g ∧ Vw 1 g (.slice (some ⟨b16, o16, none⟩) 1 cap16) 1 [iv (-7)]), LsP bo ls, WnP 1 s7 128 (rowS x), Is h] g5 := hg5
  conv => whnf
  refine hK7 _ _ _ (seq_step fun K8 hK8 => ?_)
  conv => whnf
  refine pending23 ((hg5.erase 0).pull 1 rfl) (by omega) fun s19 g6 hg6 => ?_
  rw [hcl, hcm] at hg6
  conv => whnf
  refine hK8 _ _ _ (seq_step fun K9 hK9 => ?_)
  conv => whnf
  refine medium35N hN (hg6.pull 1 rfl) fun s20 g7 hg7 => ?_
  conv => whnf
  refine hK9 _ _ _ (seq_step fun K10 hK10 => ?_)
  conv => whnf
  refine medium35N hN (hg7.pull 1 rfl) fun s21 g8 hg8 => ?_
  conv => whnf
  refine hK10 _ _ _ (seq_step fun K11 hK11 => ?_)
  refine seq_step fun K12 hK12 => ?_
  replace hg8 : Has [WnP 1 s21 N ((medB d.med).map by8), DkP q d, WnP 1 s20 N ((medB d.med).map by8), WnP 1 s19 1 [iv (sn : Int)], WnP 1 (.slice bs17 1 cp17) 1 [iv (sn : Int)], (fun g => WnP 1 s16 2 [iv (-7), iv (-8)] g ∧ Vw 1 g (.slice (some ⟨b16, o16, none⟩) 1 cap16) 1 [iv (-7)]), LsP bo ls, WnP 1 s7 128 (rowS x), Is h] g8 := hg8
  obtain ⟨b20, o20, cap20, _, _, _, e20, _⟩ := hg8.rdw 2 rfl (k := sn * 128) (by omega) (by rw [List.getElem?_map, hM0]; rfl)
  obtain ⟨b21, o21, cap21, _, _, _, e21, _⟩ := hg8.rdw 0 rfl (k := sn * 128) (by omega) (by rw [List.getElem?_map, hM0]; rfl)
  subst e20 e21
  obtain ⟨_, _, _, c17, ty17, z17, e17, hb17, hc17⟩ := hg8.rdw 4 rfl (k := 0) (by omega) rfl
  have hold : Vw 1 g8 (.slice (some ⟨b16, o16, none⟩) 1 cap16) 1 [iv (-7)] := Has.get (A := fun g => WnP 1 s16 2 [iv (-7), iv (-8)] g ∧ Vw 1 g (.slice (some ⟨b16, o16, none⟩) 1 cap16) 1 [iv (-7)]) hg8 5 rfl (fun g g' hg hs => ⟨hg.1.sub hs, hg.2.sub hs⟩) |>.2
  obtain ⟨_, _, co, tyo, zo, capo, eo, hbo, _, hco⟩ := hold.at (i := 0) (by omega)
  cases eo
  cases e17
  conv => whnf
  rw [show ((N : Int) != 131072) = false from by rw [hN]; exact bne_self_eq_false _]
  conv => whnf
  rw [show ((N : Int) != (N : Int)) = false from bne_self_eq_false _]
  conv => whnf
  refine opt_ld hbo (v := iv (-7)) (hco 0 _ rfl) ?_
  conv => whnf
  refine opt_ld hb17 (v := iv (sn : Int)) hc17 ?_
  conv => whnf
  rw [show ((sn : Int) != (sn : Int)) = false from bne_self_eq_false _]
  refine hK12 _ _ _ ?_
  conv => whnf
  have hg9 : Has [WnP 1 (.slice (some ⟨b21, o21, none⟩) N cap21) N ((medB d.med).map by8), DkP q d, WnP 1 (.slice (some ⟨b20, o20, none⟩) N cap20) N ((medB d.med).map by8), WnP 1 s19 1 [iv (sn : Int)], WnP 1 s16 2 [iv (-7), iv (-8)], LsP bo ls, WnP 1 s7 128 (rowS x), Is h] g8 :=
    (hg8.erase 4).map_tail fun g hg => hg.map_tail fun g hg => hg.map_tail fun g hg => hg.map_tail fun g hg => hg.mono1 fun g hg => hg.1
  clear hg8 hg7 hg6 hg5 hg4 hg3 hg2 hg1 hg hold hbo hco hb17 hc17 hv8 hb8
  refine hK11 _ _ _ (seq_step fun K13 hK13 => ?_)
  conv => whnf
  rw [hw]
  refine opt_if ⟨by omega, by omega⟩ ?_
  conv => whnf
  rw [Nat.mul_one]
  refine st_hasW hg9 2 rfl (k := sn * 128) (x := by8 60) (by omega) rfl rfl fun g9 hg10 => ?_
  conv => whnf
  refine hK13 _ _ _ (seq_step fun K14 hK14 => ?_)
  conv => whnf
  refine medium35N hN (hg10.pull 1 rfl) fun s22 g10 hg11 => ?_
  conv => whnf
  refine hK14 _ _ _ (seq_step fun K15 hK15 => ?_)
  refine seq_step fun K16 hK16 => ?_
  replace hg11 : Has [WnP 1 s22 N ((medB d.med).map by8), DkP q d, WnP 1 (.slice (some ⟨b21, o21, none⟩) N cap21) N ((medB d.med).map by8), WnP 1 (.slice (some ⟨b20, o20, none⟩) N cap20) N (((medB d.med).map by8).set (sn * 128) (by8 60)), WnP 1 s19 1 [iv (sn : Int)], WnP 1 s16 2 [iv (-7), iv (-8)], LsP bo ls, WnP 1 s7 128 (rowS x), Is h] g10 := hg11
  obtain ⟨b22, o22, cap22, c22, ty22, z22, e22, hb22, hc22⟩ := hg11.rdw 0 rfl (k := sn * 128) (by omega) (by rw [List.getElem?_map, hM0]; rfl)
  subst e22
  obtain ⟨_, _, _, c21, ty21, z21, e21, hb21, hc21⟩ := hg11.rdw 2 rfl (k := sn * 128) (by omega) (by rw [List.getElem?_map, hM0]; rfl)
  cases e21
  obtain ⟨_, _, _, c20, ty20, z20, e20, hb20, hc20⟩ := hg11.rdw 3 rfl (k := sn * 128) (by omega) (by rw [List.getElem?_set_self (by rw [List.length_map, hMl]; omega)])
  cases e20
  obtain ⟨b7, o7, cap7, c7, ty7, z7, e7, hb7, hc7⟩ := hg11.rdw 7 rfl (k := 0) (by omega) (by rw [rowS, List.getElem?_map, hx0]; rfl)
  subst e7
  conv => whnf
  rw [hw]
  refine opt_if ⟨by omega, by omega⟩ ?_
  conv => whnf
  rw [Nat.mul_one]
  refine opt_ld hb20 (v := by8 60) hc20 ?_
  conv => whnf
  rw [show ((N : Int) != (N : Int)) = false from bne_self_eq_false _]
  conv => whnf
  rw [hw]
  refine opt_if ⟨by omega, by omega⟩ ?_
  conv => whnf
  rw [Nat.mul_one]
  refine opt_ld hb22 (v := by8 x0) hc22 ?_
  conv => whnf
  refine opt_ld hb7 (v := by8 x0) hc7 ?_
  conv => whnf
  rw [show (x0 != x0) = false from bne_self_eq_false _]
  conv => whnf
  rw [hw]
  refine opt_if ⟨by omega, by omega⟩ ?_
  conv => whnf
  rw [Nat.mul_one]
  refine opt_ld hb21 (v := by8 x0) hc21 ?_
  conv => whnf
  refine opt_ld hb7 (v := by8 x0) hc7 ?_
  conv => whnf
  rw [show (x0 != x0) = false from bne_self_eq_false _]
  refine hK16 _ _ _ ?_
  conv => whnf
  clear hb20 hc20 hb21 hc21 hb22 hc22 hb7 hc7
  refine hK15 _ _ _ (seq_step fun K17 hK17 => ?_)
  conv => whnf
  rw [hw]
  refine opt_if ⟨by omega, by omega⟩ ?_
  conv => whnf
  rw [Nat.mul_one]
  refine st_hasW hg11 0 rfl (k := sn * 128) (x := by8 93) (by omega) rfl rfl fun g11 hg12 => ?_
  have em1 : ((medB d.med).map by8).set (sn * 128) (by8 93) = ((medB d.med).set (sn * 128) 93).map by8 := List.map_set.symm
  rw [em1] at hg12
  have hl1 : ((medB d.med).set (sn * 128) 93).length = N := by rw [List.length_set, hMl]
  have hz1 : (chunk ((medB d.med).set (sn * 128) 93) sn).val[0]? = some 93 := by
    rw [chunk_zero (by omega) hsn, List.getElem?_set_self (by omega)]
  generalize hL1 : (medB d.med).set (sn * 128) 93 = l1 at hg12 hl1 hz1
  replace hg12 : Has [WnP 1 (.slice (some ⟨b22, o22, none⟩) N cap22) N (l1.map by8), DkP q d, WnP 1 (.slice (some ⟨b21, o21, none⟩) N cap21) N ((medB d.med).map by8), WnP 1 (.slice (some ⟨b20, o20, none⟩) N cap20) N (((medB d.med).map by8).set (sn * 128) (by8 60)), WnP 1 s19 1 [iv (sn : Int)], WnP 1 s16 2 [iv (-7), iv (-8)], LsP bo ls, WnP 1 (.slice (some ⟨b7, o7, none⟩) 128 cap7) 128 (rowS x), Is h] g11 := hg12
  conv => whnf
  refine hK17 _ _ _ (seq_step fun K18 hK18 => ?_)
  conv => whnf
  refine of36N hN hg12 (fun g hg => hg.wn 0 rfl) fun q1 g12 hg13 => ?_
  conv => whnf
  refine hK18 _ _ _ (seq_step fun K19 hK19 => ?_)
  conv => whnf
  rw [hw]
  refine opt_if ⟨by omega, by omega⟩ ?_
  conv => whnf
  rw [Nat.mul_one]
  refine st_hasW hg13 1 rfl (k := sn * 128) (x := by8 94) (by omega) rfl rfl fun g13 hg14 => ?_
  have em2 : (l1.map by8).set (sn * 128) (by8 94) = (l1.set (sn * 128) 94).map by8 := List.map_set.symm
  rw [em2] at hg14
  have hl2 : (l1.set (sn * 128) 94).length = N := by rw [List.length_set, hl1]
  have hz2 : (chunk (l1.set (sn * 128) 94) sn).val[0]? = some 94 := by
    rw [chunk_zero (by omega) hsn, List.getElem?_set_self (by omega)]
  generalize l1.set (sn * 128) 94 = l2 at hg14 hl2 hz2
  conv => whnf
  refine hK19 _ _ _ (seq_step fun K20 hK20 => ?_)
  conv => whnf
  refine of36N hN hg14 (fun g hg => hg.wn 1 rfl) fun q2 g14 hg15 => ?_
  replace hg15 : Has [DkP q2 (ofD l2 1024), DkP q1 (ofD l1 1024), WnP 1 (.slice (some ⟨b22, o22, none⟩) N cap22) N (l2.map by8), DkP q d, WnP 1 (.slice (some ⟨b21, o21, none⟩) N cap21) N ((medB d.med).map by8), WnP 1 (.slice (some ⟨b20, o20, none⟩) N cap20) N (((medB d.med).map by8).set (sn * 128) (by8 60)), WnP 1 s19 1 [iv (sn : Int)], WnP 1 s16 2 [iv (-7), iv (-8)], LsP bo ls, WnP 1 (.slice (some ⟨b7, o7, none⟩) 128 cap7) 128 (rowS x), Is h] g14 := hg15
  have hg16 : Has [DkP q2 (ofD l2 1024), DkP q1 (ofD l1 1024), DkP q d, WnP 1 s19 1 [iv (sn : Int)], WnP 1 s16 2 [iv (-7), iv (-8)], LsP bo ls, WnP 1 (.slice (some ⟨b7, o7, none⟩) 128 cap7) 128 (rowS x), Is h] g14 := ((hg15.erase 2).erase 3).erase 3
  clear hg15 hg14 hg13 hg12 hg11 hg10 hg9
  conv => whnf
  refine hK20 _ _ _ (seq_step fun K21 hK21 => ?_)
  refine seq_step fun K22 hK22 => ?_
  conv => whnf
  refine hK22 _ _ _ ?_
  conv => whnf
  have ho1 : (ofD l1 1024).med[sn]? = some (chunk l1 sn) := by
    show (ofM l1 1024)[sn]? = _
    rw [ofM_get _ _ hsn, if_pos hsn]
  have ho2 : (ofD l2 1024).med[sn]? = some (chunk l2 sn) := by
    show (ofM l2 1024)[sn]? = _
    rw [ofM_get _ _ hsn, if_pos hsn]
  refine hK21 _ _ _ (seq_step fun K23 hK23 => ?_)
  conv => whnf
  refine raw25 sn (hg16.pull 1 rfl) ho1 fun s27 g15 hg17 => ?_
  conv => whnf
  refine hK23 _ _ _ (seq_step fun K24 hK24 => ?_)
  conv => whnf
  refine raw25 sn (hg17.pull 2 rfl) ho2 fun s28 g16 hg18 => ?_
  conv => whnf
  refine hK24 _ _ _ (seq_step fun K25 hK25 => ?_)
  refine seq_step fun K26 hK26 => ?_
  replace hg18 : Has [WnP 1 s28 128 (rowS (chunk l2 sn)), DkP q2 (ofD l2 1024), WnP 1 s27 128 (rowS (chunk l1 sn)), DkP q1 (ofD l1 1024), DkP q d, WnP 1 s19 1 [iv (sn : Int)], WnP 1 s16 2 [iv (-7), iv (-8)], LsP bo ls, WnP 1 (.slice (some ⟨b7, o7, none⟩) 128 cap7) 128 (rowS x), Is h] g16 := hg18
  obtain ⟨b28, o28, cap28, c28, ty28, z28, e28, hb28, hc28⟩ := hg18.rdw 0 rfl (k := 0) (by omega) (by rw [rowS, List.getElem?_map, hz2]; rfl)
  obtain ⟨b27, o27, cap27, c27, ty27, z27, e27, hb27, hc27⟩ := hg18.rdw 2 rfl (k := 0) (by omega) (by rw [rowS, List.getElem?_map, hz1]; rfl)
  subst e28 e27
  conv => whnf
  refine opt_ld hb27 (v := by8 93) hc27 ?_
  conv => whnf
  refine opt_ld hb28 (v := by8 94) hc28 ?_
  conv => whnf
  refine hK26 _ _ _ ?_
  conv => whnf
  have hg19 : Has [DkP q d, WnP 1 s19 1 [iv (sn : Int)], WnP 1 s16 2 [iv (-7), iv (-8)], LsP bo ls, WnP 1 (.slice (some ⟨b7, o7, none⟩) 128 cap7) 128 (rowS x), Is h] g16 := (((hg18.erase 0).erase 0).erase 0).erase 0
  clear hg18 hg17 hg16 hb27 hc27 hb28 hc28 ho1 ho2
  refine hK25 _ _ _ (seq_step fun K27 hK27 => ?_)
  conv => whnf
  have hlk : d.look sn = some (one1S byte) := by
    unfold Dk.look
    rw [hc]
    have : cacheAt [((sn : Int), one1S byte)] (sn : Int) = some (one1S byte) := by unfold cacheAt; simp
    rw [this]
  refine read22 sn hd hsn hg19 hlk (by omega) fun s29 g17 hg20 => ?_
  conv => whnf
  refine hK27 _ _ _ ?_
  refine cut_intro (σ := Value × Hp) (fun y => [(3, .l 3 0), (6, .v (iv (sn : Int))), (7, .v (.slice (some ⟨b7, o7, none⟩) 128 cap7)), (11, .v (.slice (some ⟨bo, 0, none⟩) 4 4)), (16, .v s16), (19, .v s19), (29, .v s29), (30, .v (iv 0)), (31, .v y.1), (32, .v (iv 0))]) (fun _ => [(3, [iv sector, by8 byte])]) (fun y => y.2)
    (fun y => Has [LsP bo ls, WnP 1 (.slice (some ⟨b7, o7, none⟩) 128 cap7) 128 (rowS x), WnP 1 s29 128 (rowS (one1S byte)), WnP 1 y.1 128 (rowS x), WnP 1 s19 1 [iv (sn : Int)], WnP 1 s16 2 [iv (-7), iv (-8)], Is h] y.2) ?_ (fun y hy => p8_4 hb hy hq)
  conv => whnf
  refine raw25 sn (hg20.pull 1 rfl) hx fun s31 g18 hg21 => ?_
  conv => whnf
  exact ⟨(s31, g18), Has.sel (hg21.erase 1) [4, 5, 1, 0, 2, 3, 6] rfl, ⟨rfl, rfl, rfl, rfl, rfl, rfl, rfl, rfl, rfl, rfl, trivial⟩, ⟨rfl, trivial⟩, rfl⟩

set_option maxRecDepth 20000 in
/-- The lists get their marks, and more behind. -/
theorem p8_2 {ls : List (Value × List Int)} {d : Dk} {x : Sec} {sector byte : Int} {bo q sn : Nat} {s7 : Value} {h g : Hp} {Q : Value → Hp → Prop} (hb : ∀ (i : Nat) (y : Value × List Int), ls[i]? = some y → y.2.length = 128)
    (hsn : sn < 1024) (hc : d.cache = [((sn : Int), one1S byte)]) (hd : d.down = false) (hx : d.med[sn]? = some x)
    (hg : Has [LsP bo ls, DkP q d, WnP 1 s7 128 (rowS x), Is h] g) (hq : ∀ h', SubH h h' → Q (.bool true) h') :
    codeK PR none c8_2 (retK Q [RV.t 4]) (fun _ _ _ _ => False) (retK Q [RV.t 4]) [(3, .l 3 0), (5, .v (ptr q)), (6, .v (iv (sn : Int))), (7, .v s7), (11, .v (.slice (some ⟨bo, 0, none⟩) 4 4))] [(3, [iv sector, by8 byte])] g := by
  refine seq_step fun K1 hK1 => ?_
  refine seq_step fun K2 hK2 => ?_
  conv => whnf
  refine hK2 _ _ _ ?_
  refine loop_intro (σ := Nat × List (Value × List Int) × Hp) (fun k => [(13, .v (iv k.1)), (3, .l 3 0), (5, .v (ptr q)), (6, .v (iv (sn : Int))), (7, .v s7), (11, .v (.slice (some ⟨bo, 0, none⟩) 4 4))]) (fun _ => [(3, [iv sector, by8 byte])]) (fun k => k.2.2)
    (fun k => k.1 ≤ 4 ∧ (∀ (i : Nat) (y : Value × List Int), k.2.1[i]? = some y → y.2.length = 128 ∧ (i < k.1 → ∀ t : Nat, t < 128 → y.2[t]? = some (mkI i))) ∧ Has [LsP bo k.2.1, DkP q d, WnP 1 s7 128 (rowS x), Is h] k.2.2) (fun k => 4 - k.1) (0, ls, g) ⟨Nat.zero_le _, fun i y hy => ⟨hb i y hy, fun h => absurd h (Nat.not_lt_zero _)⟩, hg⟩
    ⟨rfl, rfl, rfl, rfl, rfl, rfl, trivial⟩ ⟨rfl, trivial⟩ rfl ?_
  clear hg hb
  rintro ⟨k, ls, g⟩ ⟨hk, hb, hg⟩
  dsimp only at hk hb hg ⊢
  have hl := (LsP.opn hg).1
  refine seq_step fun K3 hK3 => ?_
  refine seq_step fun K4 hK4 => ?_
  conv => whnf
  refine hK4 _ _ _ ?_
  conv => whnf
  refine cond_dec (fun hlt => ?_) (fun hlt => ?_)
  · conv => whnf
    refine hK3 _ _ _ (seq_step fun K5 hK5 => ?_)
    refine seq_step fun K6 hK6 => ?_
    conv => whnf
    refine hK6 _ _ _ ?_
    refine loop_intro (σ := Nat × List (Value × List Int) × Hp) (fun t => [(14, .v (iv t.1)), (13, .v (iv k)), (3, .l 3 0), (5, .v (ptr q)), (6, .v (iv (sn : Int))), (7, .v s7), (11, .v (.slice (some ⟨bo, 0, none⟩) 4 4))]) (fun _ => [(3, [iv sector, by8 byte])]) (fun t => t.2.2)
      (fun t => t.1 ≤ 128 ∧ t.2.1.length = 4 ∧ (∀ (i : Nat) (y : Value × List Int), t.2.1[i]? = some y → y.2.length = 128 ∧ (i < k → ∀ u : Nat, u < 128 → y.2[u]? = some (mkI i)) ∧ (i = k → ∀ u : Nat, u < t.1 → y.2[u]? = some (mkI i))) ∧ Has [LsP bo t.2.1, DkP q d, WnP 1 s7 128 (rowS x), Is h] t.2.2) (fun t => 128 - t.1) (0, ls, g) ⟨Nat.zero_le _, hl, fun i y hy => ⟨(hb i y hy).1, (hb i y hy).2, fun _ u hu => absurd hu (Nat.not_lt_zero _)⟩, hg⟩
      ⟨rfl, rfl, rfl, rfl, rfl, rfl, rfl, trivial⟩ ⟨rfl, trivial⟩ rfl ?_
    clear hg hb hl
    rintro ⟨t, ls, g⟩ ⟨ht, hl, hb, hg⟩
    dsimp only at ht hl hb hg ⊢
    refine seq_step fun K7 hK7 => ?_
    refine seq_step fun K8 hK8 => ?_
    conv => whnf
    refine hK8 _ _ _ ?_
    conv => whnf
    refine cond_dec (fun hlt2 => ?_) (fun hlt2 => ?_)
    · obtain ⟨⟨v, l⟩, hy⟩ : ∃ y, ls[k]? = some y := ⟨_, List.getElem?_eq_getElem (by omega)⟩
      obtain ⟨hy1, hy2, hy3⟩ := hb k _ hy
      dsimp only at hy1 hy2 hy3
      obtain ⟨c, ty, z, hbo, hcell⟩ := LsP.cell hg hy
      obtain ⟨b, o, c2, ty2, z2, cap2, hs, hb2, hsz2, hcc⟩ := (LsP.vw hg hy).at (i := 0) (by dsimp only; omega)
      dsimp only at hs hcell
      rw [hy1] at hs
      subst hs
      conv => whnf
      refine hK7 _ _ _ ?_
      conv => whnf
      refine opt_if ⟨by omega, by omega⟩ ?_
      conv => whnf
      refine opt_ld hbo (v := .slice (some ⟨b, o, none⟩) 128 cap2) (by rw [show 0 + (k : Int).toNat * 1 = 0 + k by omega]; exact hcell) ?_
      conv => whnf
      refine opt_if ⟨by omega, by omega⟩ ?_
      conv => whnf
      rw [show o + (t : Int).toNat * 1 = o + t by omega]
      refine LsP.wr (y := mkI k) hg hy hy1 (by omega) fun g1 hg1 => ?_
      conv => whnf
      refine ⟨(t + 1, ls.set k (.slice (some ⟨b, o, none⟩) 128 cap2, l.set t (mkI k)), g1), ⟨(show t + 1 ≤ 128 by omega), (by rw [List.length_set]; exact hl), fun i y hyi => ?_, hg1⟩, (by show 128 - (t + 1) < 128 - t; omega), ⟨int_eq (wrap_nat (by omega)) rfl, rfl, rfl, rfl, rfl, rfl, rfl, trivial⟩, ⟨rfl, trivial⟩, rfl⟩
      by_cases hik : i = k
      · subst hik
        rw [List.getElem?_set_self (by omega)] at hyi
        cases hyi
        refine ⟨by rw [List.length_set]; exact hy1, fun h => absurd h (Nat.lt_irrefl _), fun _ u hu => ?_⟩
        show (l.set t (mkI i))[u]? = _
        by_cases hut : u = t
        · subst hut
          rw [List.getElem?_set_self (by omega)]
        · rw [List.getElem?_set_ne (fun e => hut e.symm)]
          exact hy3 rfl u (by have : u < t + 1 := hu; omega)
      · rw [List.getElem?_set_ne (fun e => hik e.symm)] at hyi
        obtain ⟨q1, q2, q3⟩ := hb i y hyi
        exact ⟨q1, q2, fun e => absurd e hik⟩
    · conv => whnf
      refine hK5 _ _ _ ?_
      conv => whnf
      refine ⟨(k + 1, ls, g), ⟨(show k + 1 ≤ 4 by omega), fun i y hyi => ?_, hg⟩, (by show 4 - (k + 1) < 4 - k; omega), ⟨int_eq (wrap_nat (by omega)) rfl, rfl, rfl, rfl, rfl, rfl, trivial⟩, ⟨rfl, trivial⟩, rfl⟩
      obtain ⟨q1, q2, q3⟩ := hb i y hyi
      refine ⟨q1, fun hi u hu => ?_⟩
      by_cases hik : i = k
      · exact q3 hik u (by omega)
      · exact q2 (by have : i < k + 1 := hi; omega) u hu
  · have hk4 : k = 4 := by omega
    subst hk4
    conv => whnf
    refine hK1 _ _ _ ?_
    refine cut_intro (σ := List (Value × List Int) × Hp) (fun _ => [(3, .l 3 0), (5, .v (ptr q)), (6, .v (iv (sn : Int))), (7, .v s7), (11, .v (.slice (some ⟨bo, 0, none⟩) 4 4))]) (fun _ => [(3, [iv sector, by8 byte])]) (fun y => y.2)
      (fun y => (∀ (i : Nat) (z : Value × List Int), y.1[i]? = some z → 128 ≤ z.2.length ∧ ∀ t : Nat, t < 128 → z.2[t]? = some (mkI i)) ∧ Has [LsP bo y.1, DkP q d, WnP 1 s7 128 (rowS x), Is h] y.2) ?_ (fun y hy => p8_3 hy.1 hsn hc hd hx hy.2 hq)
    refine seq_step fun K5 hK5 => ?_
    conv => whnf
    refine hK5 _ _ _ ?_
    refine loop_intro (σ := Nat × List (Value × List Int) × Hp) (fun k => [(15, .v (iv k.1)), (3, .l 3 0), (5, .v (ptr q)), (6, .v (iv (sn : Int))), (7, .v s7), (11, .v (.slice (some ⟨bo, 0, none⟩) 4 4))]) (fun _ => [(3, [iv sector, by8 byte])]) (fun k => k.2.2)
      (fun k => k.1 ≤ 4 ∧ (∀ (i : Nat) (y : Value × List Int), k.2.1[i]? = some y → 128 ≤ y.2.length ∧ y.2.length ≤ 130 ∧ (k.1 ≤ i → y.2.length = 128) ∧ ∀ t : Nat, t < 128 → y.2[t]? = some (mkI i)) ∧ Has [LsP bo k.2.1, DkP q d, WnP 1 s7 128 (rowS x), Is h] k.2.2) (fun k => 4 - k.1) (0, ls, g) ⟨Nat.zero_le _, fun i y hy => by
        obtain ⟨q1, q2⟩ := hb i y hy
        have hi : i < ls.length := (List.getElem?_eq_some_iff.1 hy).1
        exact ⟨by omega, by omega, fun _ => q1, q2 (by omega)⟩, hg⟩
      ⟨rfl, rfl, rfl, rfl, rfl, rfl, trivial⟩ ⟨rfl, trivial⟩ rfl ?_
    clear hg hb hl hK3 hK1 hK5
    rintro ⟨k, ls, g⟩ ⟨hk, hb, hg⟩
    dsimp only at hk hb hg ⊢
    have hl := (LsP.opn hg).1
    refine seq_step fun K3 hK3 => ?_
    refine seq_step fun K4 hK4 => ?_
    conv => whnf
    refine hK4 _ _ _ ?_
    conv => whnf
    refine cond_dec (fun hlt => ?_) (fun hlt => ?_)
    · obtain ⟨⟨v, l⟩, hy⟩ : ∃ y, ls[k]? = some y := ⟨_, List.getElem?_eq_getElem (by omega)⟩
      obtain ⟨hy0, hy1, hy2, hy3⟩ := hb k _ hy
      dsimp only at hy0 hy1 hy2 hy3
      have hyL := hy2 (Nat.le_refl _)
      clear hy2
      obtain ⟨c, ty, z, hbo, hcell⟩ := LsP.cell hg hy
      dsimp only at hcell
      conv => whnf
      refine hK3 _ _ _ ?_
      conv => whnf
      refine opt_if ⟨by omega, by omega⟩ ?_
      conv => whnf
      refine opt_ld hbo (v := v) (by rw [show 0 + (k : Int).toNat * 1 = 0 + k by omega]; exact hcell) ?_
      conv => whnf
      generalize IntKind.u8.wrap (IntKind.i64.wrap (145 + (k : Int))) = m
      refine fresh_has hg fun b1 g1 hb1 _ _ hg1 => ?_
      conv => whnf
      have hv1 : Vw 1 g1 (.slice (some ⟨b1, 0, none⟩) 2 2) 2 ([m, m].map by8) := (pt_wn (e := 1) (n := 2) (cap := 2) (cs := [m, m].map by8) rfl (Nat.le_refl _) rfl hb1).vw
      refine LsP.app hg1.swap hy hv1 (by omega) fun s' g2 hg2 => ?_
      conv => whnf
      refine opt_if ⟨by omega, by omega⟩ ?_
      conv => whnf
      rw [show 0 + (k : Int).toNat * 1 = 0 + k by omega]
      refine LsP.fin (x := (s', l ++ [m, m])) hl (by omega) hg2 fun g3 hg3 => ?_
      conv => whnf
      refine ⟨(k + 1, ls.set k (s', l ++ [m, m]), g3), ⟨(show k + 1 ≤ 4 by omega), fun i y hyi => ?_, hg3.erase 1⟩, (by show 4 - (k + 1) < 4 - k; omega), ⟨int_eq (wrap_nat (by omega)) rfl, rfl, rfl, rfl, rfl, rfl, trivial⟩, ⟨rfl, trivial⟩, rfl⟩
      by_cases hik : i = k
      · subst hik
        rw [List.getElem?_set_self (by omega)] at hyi
        cases hyi
        have hll : (l ++ [m, m]).length = 130 := by rw [List.length_append, hyL]; rfl
        refine ⟨(by show 128 ≤ (l ++ [m, m]).length; omega), (by show (l ++ [m, m]).length ≤ 130; omega), fun h => absurd h (Nat.not_succ_le_self i), fun t ht => ?_⟩
        show (l ++ [m, m])[t]? = _
        rw [List.getElem?_append_left (by omega)]
        exact hy3 t ht
      · rw [List.getElem?_set_ne (fun e => hik e.symm)] at hyi
        obtain ⟨q1, q2, q3, q4⟩ := hb i y hyi
        exact ⟨q1, q2, fun h => q3 (by have : k + 1 ≤ i := h; omega), q4⟩
    · conv => whnf
      exact ⟨(ls, g), ⟨fun i z hz => ⟨(hb i z hz).1, (hb i z hz).2.2.2⟩, hg⟩, ⟨rfl, rfl, rfl, rfl, rfl, trivial⟩, ⟨rfl, trivial⟩, rfl⟩

theorem LsP.nil {L : List As} {h : Hp} {bo : Nat} {ty : TypeId} (hh : Has (Pt bo (.cells (reps 4 [.slice none 0 0]).toArray ty (0, 0)) :: L) h) : Has (LsP bo [(.slice none 0 0, []), (.slice none 0 0, []), (.slice none 0 0, []), (.slice none 0 0, [])] :: L) h := by
  refine LsP.cls rfl ?_
  refine Has.map_tail (hh.mono1 fun g hg => ?_) fun g hg => ((((hg.nilW 1).nilW 1).nilW 1).nilW 1)
  exact pt_wn (e := 1) (n := 4) (cap := 4) (cs := reps 4 [.slice none 0 0]) rfl (Nat.le_refl _) rfl hg

/-- The same, and all stays. -/
theorem full17s {h : Hp} {Q : Value → Hp → Prop} {L : List As} (n : Int) (hh : Has L h) (hq : ∀ s h', SubH h h' → Has (WnP 1 s 128 (rowS (one1S n)) :: L) h' → Q s h') : Ok PR 17 [by8 n] h Q := by
  have h0 : Ok PR 17 [by8 n] (fun _ => none) (fun v g => WnP 1 v 128 (rowS (one1S n)) g) := full17 (L := []) n trivial fun s h' hh' => Has.get (A := WnP 1 s 128 (rowS (one1S n))) hh' 0 rfl fun _ _ => WnP.sub
  have h1 := h0.frame (g := h) (fun _ _ h => by cases h)
  have e : join (fun _ => none) h = h := by funext b; simp [join]
  rw [e] at h1
  refine h1.mono fun v h' ⟨g, e, hg, hw⟩ => ?_
  subst e
  exact hq _ _ (join_sub_right hg) ⟨g, h, rfl, hg, hw, hh⟩

set_option maxRecDepth 20000 in
/-- Four lists are told. -/
theorem p8_1 {d : Dk} {x : Sec} {sector byte : Int} {q sn : Nat} {s7 : Value} {h g : Hp} {Q : Value → Hp → Prop}
    (hsn : sn < 1024) (hc : d.cache = [((sn : Int), one1S byte)]) (hd : d.down = false) (hx : d.med[sn]? = some x)
    (hg : Has [DkP q d, WnP 1 s7 128 (rowS x), Is h] g) (hq : ∀ h', SubH h h' → Q (.bool true) h') :
    codeK PR none c8_1 (retK Q [RV.t 4]) (fun _ _ _ _ => False) (retK Q [RV.t 4]) [(3, .l 3 0), (5, .v (ptr q)), (6, .v (iv (sn : Int))), (7, .v s7)] [(3, [iv sector, by8 byte])] g := by
  have hcl : d.cache.length = 1 := by rw [hc]; rfl
  have hlk : d.look sn = some (one1S byte) := by
    unfold Dk.look
    rw [hc]
    have : cacheAt [((sn : Int), one1S byte)] (sn : Int) = some (one1S byte) := by unfold cacheAt; simp
    rw [this]
  refine seq_step fun K1 hK1 => ?_
  conv => whnf
  refine ⟨by omega, by omega, by omega, by omega, fresh_has hg fun bo g1 hbo _ _ hg1 => ?_⟩
  have hg2 := LsP.nil hg1
  clear hg1 hbo hg
  conv => whnf
  refine hK1 _ _ _ (seq_step fun K2 hK2 => ?_)
  refine seq_step fun K3 hK3 => ?_
  conv => whnf
  refine hK3 _ _ _ ?_
  refine loop_intro (σ := Nat × List (Value × List Int) × Hp) (fun k => [(12, .v (iv k.1)), (3, .l 3 0), (5, .v (ptr q)), (6, .v (iv (sn : Int))), (7, .v s7), (11, .v (.slice (some ⟨bo, 0, none⟩) 4 4))]) (fun _ => [(3, [iv sector, by8 byte])]) (fun k => k.2.2)
    (fun k => k.1 ≤ 4 ∧ (∀ (i : Nat) (y : Value × List Int), k.2.1[i]? = some y → i < k.1 → y.2 = if i % 2 = 0 then (one1S byte).val else x.val) ∧ Has [LsP bo k.2.1, DkP q d, WnP 1 s7 128 (rowS x), Is h] k.2.2) (fun k => 4 - k.1) (0, _, g1) ⟨Nat.zero_le _, fun i y hy hi => absurd hi (Nat.not_lt_zero _), hg2⟩
    ⟨rfl, rfl, rfl, rfl, rfl, rfl, trivial⟩ ⟨rfl, trivial⟩ rfl ?_
  clear hg2 hK1 hK3
  rintro ⟨k, ls, g⟩ ⟨hk, hb, hg⟩
  dsimp only at hk hb hg ⊢
  have hl := (LsP.opn hg).1
  refine seq_step fun K4 hK4 => ?_
  refine seq_step fun K5 hK5 => ?_
  conv => whnf
  refine hK5 _ _ _ ?_
  conv => whnf
  refine cond_dec (fun hlt => ?_) (fun hlt => ?_)
  · conv => whnf
    refine hK4 _ _ _ (seq_step fun K6 hK6 => ?_)
    refine seq_step fun K7 hK7 => ?_
    refine seq_step fun K8 hK8 => ?_
    conv => whnf
    refine hK8 _ _ _ ?_
    conv => whnf
    have fin : ∀ (s1 : Value) (l : List Int) (g3 : Hp), l.length = 128 → (l = if k % 2 = 0 then (one1S byte).val else x.val) → Has [LsP bo (ls.set k (s1, l)), DkP q d, WnP 1 s7 128 (rowS x), Is h] g3 →
        ∃ s' : Nat × List (Value × List Int) × Hp, (s'.1 ≤ 4 ∧ (∀ (i : Nat) (y : Value × List Int), s'.2.1[i]? = some y → i < s'.1 → y.2 = if i % 2 = 0 then (one1S byte).val else x.val) ∧ Has [LsP bo s'.2.1, DkP q d, WnP 1 s7 128 (rowS x), Is h] s'.2.2) ∧ 4 - s'.1 < 4 - k ∧ s'.1 = k + 1 ∧ g3 = s'.2.2 := fun s1 l g3 hll he h3 => by
      refine ⟨(k + 1, ls.set k (s1, l), g3), ⟨(show k + 1 ≤ 4 by omega), fun i y hyi hi => ?_, h3⟩, (by show 4 - (k + 1) < 4 - k; omega), rfl, rfl⟩
      by_cases hik : i = k
      · subst hik
        rw [List.getElem?_set_self (by omega)] at hyi
        cases hyi
        exact he
      · rw [List.getElem?_set_ne (fun e => hik e.symm)] at hyi
        exact hb i y hyi (by have : i < k + 1 := hi; omega)
    have htm : ((k : Int).tmod 2) = ((k % 2 : Nat) : Int) := by
      rw [Int.tmod_eq_emod_of_nonneg (by omega)]; omega
    refine cond_beq (fun he => ?_) (fun he => ?_)
    · have hek : k % 2 = 0 := by rw [htm] at he; omega
      conv => whnf
      refine read22 sn hd hsn (hg.pull 1 rfl) hlk (by omega) fun s1 g2 hg2 => ?_
      conv => whnf
      refine opt_if ⟨by omega, by omega⟩ ?_
      conv => whnf
      rw [show 0 + (k : Int).toNat * 1 = 0 + k by omega]
      have hg3 : Has [WnP 1 s1 (one1S byte).val.length ((one1S byte).val.map by8), LsP bo ls, DkP q d, WnP 1 s7 128 (rowS x), Is h] g2 := by
        rw [(one1S byte).len]; exact (hg2.pull 2 rfl).swap
      refine LsP.put hg3 (by omega) fun g3 hg4 => ?_
      conv => whnf
      refine hK7 _ _ _ (seq_step fun K9 hK9 => ?_)
      have hy : (ls.set k (s1, (one1S byte).val))[k]? = some (s1, (one1S byte).val) := List.getElem?_set_self (by omega)
      obtain ⟨c, ty, z, hbo, hcell⟩ := LsP.cell hg4 hy
      obtain ⟨bs1, cp1, hs1⟩ := hg2.slv 0 rfl
      subst hs1
      conv => whnf
      refine opt_if ⟨by omega, by omega⟩ ?_
      conv => whnf
      refine opt_ld hbo (v := .slice bs1 128 cp1) (by rw [show 0 + (k : Int).toNat * 1 = 0 + k by omega]; exact hcell) ?_
      conv => whnf
      refine hK9 _ _ _ ?_
      conv => whnf
      refine hK6 _ _ _ ?_
      conv => whnf
      obtain ⟨s', q1, q2, q3, q4⟩ := fin _ _ g3 (one1S byte).len (by rw [if_pos hek]) hg4
      exact ⟨s', q1, q2, ⟨int_eq (by rw [wrap_nat (by omega), q3]) rfl, rfl, rfl, rfl, rfl, rfl, trivial⟩, ⟨rfl, trivial⟩, q4⟩
    · have hek : ¬ k % 2 = 0 := by rw [htm] at he; omega
      conv => whnf
      refine raw25 sn (hg.pull 1 rfl) hx fun s1 g2 hg2 => ?_
      conv => whnf
      refine opt_if ⟨by omega, by omega⟩ ?_
      conv => whnf
      rw [show 0 + (k : Int).toNat * 1 = 0 + k by omega]
      have hg3 : Has [WnP 1 s1 x.val.length (x.val.map by8), LsP bo ls, DkP q d, WnP 1 s7 128 (rowS x), Is h] g2 := by
        rw [x.len]; exact (hg2.pull 2 rfl).swap
      refine LsP.put hg3 (by omega) fun g3 hg4 => ?_
      conv => whnf
      refine hK7 _ _ _ (seq_step fun K9 hK9 => ?_)
      have hy : (ls.set k (s1, x.val))[k]? = some (s1, x.val) := List.getElem?_set_self (by omega)
      obtain ⟨c, ty, z, hbo, hcell⟩ := LsP.cell hg4 hy
      obtain ⟨bs1, cp1, hs1⟩ := hg2.slv 0 rfl
      subst hs1
      conv => whnf
      refine opt_if ⟨by omega, by omega⟩ ?_
      conv => whnf
      refine opt_ld hbo (v := .slice bs1 128 cp1) (by rw [show 0 + (k : Int).toNat * 1 = 0 + k by omega]; exact hcell) ?_
      conv => whnf
      refine hK9 _ _ _ ?_
      conv => whnf
      refine hK6 _ _ _ ?_
      conv => whnf
      obtain ⟨s', q1, q2, q3, q4⟩ := fin _ _ g3 x.len (by rw [if_neg hek]) hg4
      exact ⟨s', q1, q2, ⟨int_eq (by rw [wrap_nat (by omega), q3]) rfl, rfl, rfl, rfl, rfl, rfl, trivial⟩, ⟨rfl, trivial⟩, q4⟩
  · have hk4 : k = 4 := by omega
    subst hk4
    conv => whnf
    refine hK2 _ _ _ ?_
    have hbl : ∀ (i : Nat) (y : Value × List Int), ls[i]? = some y → y.2.length = 128 := fun i y hy => by
      have hi : i < ls.length := (List.getElem?_eq_some_iff.1 hy).1
      rw [hb i y hy (by omega)]
      split
      · exact (one1S byte).len
      · exact x.len
    refine cut_intro (σ := Hp) (fun _ => [(3, .l 3 0), (5, .v (ptr q)), (6, .v (iv (sn : Int))), (7, .v s7), (11, .v (.slice (some ⟨bo, 0, none⟩) 4 4))]) (fun _ => [(3, [iv sector, by8 byte])]) (fun y => y)
      (fun y => Has [LsP bo ls, DkP q d, WnP 1 s7 128 (rowS x), Is h] y) ?_ (fun y hy => p8_2 hbl hsn hc hd hx hy hq)
    obtain ⟨⟨v0, l0⟩, hy0⟩ : ∃ y, ls[0]? = some y := ⟨_, List.getElem?_eq_getElem (by omega)⟩
    obtain ⟨⟨v1, l1⟩, hy1⟩ : ∃ y, ls[1]? = some y := ⟨_, List.getElem?_eq_getElem (by omega)⟩
    have e0 := hb 0 _ hy0 (by omega)
    have e1 := hb 1 _ hy1 (by omega)
    dsimp only at e0 e1
    rw [if_pos rfl] at e0
    rw [if_neg (by omega)] at e1
    subst e0 e1
    refine seq_step fun K5 hK5 => ?_
    obtain ⟨c, ty, z, hbo, hcell⟩ := LsP.cell hg hy0
    conv => whnf
    refine ⟨_, _, SubH.refl _, SubB.refl _, ?_⟩
    conv => whnf
    refine opt_ld hbo (v := v0) hcell ?_
    conv => whnf
    refine full17s byte hg fun s1 g1 hs1 hg1 => ?_
    conv => whnf
    refine ⟨⟨hs1, SubB.refl _⟩, ?_⟩
    conv => whnf
    refine same26 (l := (one1S byte).val) (k := (one1S byte).val) (n := 128) (m := 128) (by have := LsP.vw (hg1.pull 1 rfl) hy0; rw [(one1S byte).len] at this; exact this) (hg1.wn 0 rfl) fun t ht => ?_
    obtain rfl := ht rfl
    conv => whnf
    refine opt_ld (hs1 _ _ hbo) (v := v1) ?_ ?_
    · obtain ⟨c', ty', z', hbo', hcell'⟩ := LsP.cell hg hy1
      rw [hbo] at hbo'; cases hbo'
      exact hcell'
    conv => whnf
    refine same26 (l := x.val) (k := x.val) (n := 128) (m := 128) (by have := LsP.vw (hg1.pull 1 rfl) hy1; rw [x.len] at this; exact this) (hg1.wn 3 rfl) fun t ht => ?_
    obtain rfl := ht rfl
    conv => whnf
    refine hK5 _ _ _ ?_
    conv => whnf
    exact ⟨g1, hg1.tail, ⟨rfl, rfl, rfl, rfl, rfl, trivial⟩, ⟨rfl, trivial⟩, rfl⟩

set_option maxRecDepth 20000 in
/-- DiskApart: true for all that comes in. -/
theorem law8 {a0 : Value} {c1 : Array Value} {l0 : List OpD} {o : PutD} {h : Hp} {Q : Value → Hp → Prop} (hs0 : SlR 7 OpR h [a0] l0) (hb0 : ∀ o ∈ l0, o.data.length ≤ 2 ^ 40 ∧ o.keep.length ≤ 2 ^ 40) (hl0 : l0.length ≤ 2 ^ 30) (hs1 : PutR h c1.toList o)
    (hq : ∀ h', SubH h h' → Q (.bool true) h') : Ok PR 8 [a0, .agg c1] h Q := by
  obtain ⟨sector, byte⟩ := o
  obtain rfl : c1 = #[iv sector, by8 byte] := by rw [← Array.toArray_toList (xs := c1), hs1.cells]; rfl
  have hp := plc_lt sector
  have hpn := plc_nat sector
  refine e8 rfl ?_
  refine seq_step fun K hK => ?_
  conv => whnf
  refine hK _ _ _ (seq_step fun K1 hK1 => ?_)
  conv => whnf
  refine fresh11 (Has.start h) (fun g hg => hg.is 0 rfl) hs0 hb0 hl0 fun q d0 h1 hcl hh1 => ?_
  conv => whnf
  refine hK1 _ _ _ (seq_step fun K2 hK2 => ?_)
  refine seq_step fun K3 hK3 => ?_
  conv => whnf
  refine hK3 _ _ _ ?_
  conv => whnf
  refine hK2 _ _ _ (seq_step fun K4 hK4 => ?_)
  conv => whnf
  refine place16 _ ?_
  conv => whnf
  refine hK4 _ _ _ (seq_step fun K5 hK5 => ?_)
  conv => whnf
  refine raw25p _ hh1 fun s7 h2 hh2 => ?_
  have hmx := (DkP.opn hh1).1.get sector
  generalize d0.med.getD (plc sector).toNat zsec = x at hh2 hmx
  conv => whnf
  refine hK5 _ _ _ (seq_step fun K6 hK6 => ?_)
  conv => whnf
  refine full17 byte hh2 fun s9 h3 hh3 => ?_
  conv => whnf
  refine hK6 _ _ _ (seq_step fun K7 hK7 => ?_)
  conv => whnf
  refine fresh_has hh3 fun b9 h4 hb9 _ _ hh4 => ?_
  conv => whnf
  have hv9 : Vw 1 h4 (.slice (some ⟨b9, 0, none⟩) 1 1) 1 ([119].map by8) := (pt_wn (e := 1) (n := 1) (cap := 1) (cs := [119].map by8) rfl (Nat.le_refl _) rfl hb9).vw
  refine app_hasW (z := [.int .u8 0]) hh4 1 rfl hv9 rfl (by omega) fun s9 h5 hh5 => ?_
  have hh6 : Has [WnP 1 s9 129 (((one1S byte).val ++ [119]).map by8), WnP 1 s7 128 (rowS x), DkP q d0, Is h] h5 := by
    rw [List.map_append]; exact hh5.tail
  clear hh5 hh4 hv9 hb9 hh3
  obtain ⟨b, o, cap, c, ty, z, e9, hb, hc⟩ := hh6.rdw 0 rfl (k := 128) (v := by8 119) (by omega) (by rw [List.getElem?_map, List.getElem?_append_right (by rw [(one1S byte).len]; omega), (one1S byte).len]; rfl)
  subst e9
  have hcap : 129 ≤ cap := by
    obtain ⟨_, _, _, e1, e2, _⟩ := hh6.wn 0 rfl
    cases e1; exact e2
  have hpart : ∀ g, Vw 1 g (.slice (some ⟨b, o, none⟩) 129 cap) 129 (((one1S byte).val ++ [119]).map by8) → Vw 1 g (.slice (some ⟨b, o, none⟩) 128 cap) 128 (rowS (one1S byte)) := fun g hg => by
    have := hg.part (b := b) (o := o) (cap := cap) rfl (lo := 0) (hi := 128) (c2 := cap) (o2 := o) (by omega) (by omega) (by omega) (.inl (by omega))
    have e : ((((one1S byte).val ++ [119]).map by8).drop (0 * 1)).take ((128 - 0) * 1) = rowS (one1S byte) := by
      rw [Nat.zero_mul, List.drop_zero, Nat.sub_zero, Nat.mul_one, List.map_append, List.take_append_of_le_length (by rw [List.length_map, (one1S byte).len]; omega), List.take_of_length_le (by rw [List.length_map, (one1S byte).len]; omega)]
      rfl
    rw [e] at this
    exact this
  conv => whnf
  refine hK7 _ _ _ (seq_step fun K8 hK8 => ?_)
  refine seq_step fun K9 hK9 => ?_
  conv => whnf
  refine opt_some (slS_hi (hi := 128) (by omega)) ?_
  conv => whnf
  refine write15 _ (x := one1S byte) hp (hh6.pull 2 rfl) (by rw [hcl.cache]; exact Nat.zero_le _) (fun g' hg' => hpart g' (hg'.wn 0 rfl)) fun h6 hh7 => ?_
  rw [hcl.write] at hh7 ⊢
  obtain ⟨_, _, _, c', ty', z', e9, hb', hc'⟩ := hh7.rdw 1 rfl (k := 128) (v := by8 119) (by omega) (by rw [List.getElem?_map, List.getElem?_append_right (by rw [(one1S byte).len]; omega), (one1S byte).len]; rfl)
  cases e9
  conv => whnf
  refine opt_ld hb' (v := by8 119) hc' ?_
  conv => whnf
  refine opt_some (slS_hi (hi := 128) (by omega)) ?_
  conv => whnf
  refine full17 byte hh7 fun s10 h7 hh8 => ?_
  conv => whnf
  refine same26 (l := (one1S byte).val) (k := (one1S byte).val) (hpart _ (hh8.wn 2 rfl)) (hh8.wn 0 rfl) fun t ht => ?_
  obtain rfl := ht rfl
  conv => whnf
  refine hK9 _ _ _ ?_
  conv => whnf
  have hh9 : Has [WnP 1 (.slice (some ⟨b, o, none⟩) 129 cap) 129 (((one1S byte).val ++ [119]).map by8), DkP q { d0 with acts := IntKind.i64.wrap (d0.acts + 1), cache := [(plc sector, one1S byte)] }, WnP 1 s7 128 (rowS x), Is h] h7 := hh8.tail.swap
  have hl9 : ((one1S byte).val ++ [119]).length = 129 := by rw [List.length_append, (one1S byte).len]; rfl
  have hc2 : ({ d0 with acts := IntKind.i64.wrap (d0.acts + 1), cache := [(plc sector, one1S byte)] } : Dk).cache = [(((plc sector).toNat : Int), one1S byte)] := by rw [hpn]
  have hd2 : ({ d0 with acts := IntKind.i64.wrap (d0.acts + 1), cache := [(plc sector, one1S byte)] } : Dk).down = false := hcl.down
  have hm2 : ({ d0 with acts := IntKind.i64.wrap (d0.acts + 1), cache := [(plc sector, one1S byte)] } : Dk).med[(plc sector).toNat]? = some x := hmx
  generalize ({ d0 with acts := IntKind.i64.wrap (d0.acts + 1), cache := [(plc sector, one1S byte)] } : Dk) = d2 at hh9 hc2 hd2 hm2
  generalize (one1S byte).val ++ [119] = l9 at hh9 hl9
  clear hh8 hh7 hh6 hh2 hh1 hb' hc' hb hc
  refine hK8 _ _ _ ?_
  refine cut_intro (σ := Hp) (fun _ => [(3, .l 3 0), (5, .v (ptr q)), (6, .v (iv (((plc sector).toNat : Nat) : Int))), (7, .v s7)]) (fun _ => [(3, [iv sector, by8 byte])]) (fun y => y)
    (fun y => Has [DkP q d2, WnP 1 s7 128 (rowS x), Is h] y) ?_ (fun y hy => p8_1 (by omega) hc2 hd2 hm2 hy hq)
  refine seq_step fun K9 hK9 => ?_
  conv => whnf
  refine hK9 _ _ _ ?_
  refine loop_intro (σ := Nat × List Int × Hp) (fun k => [(10, .v (iv k.1)), (9, .v (.slice (some ⟨b, o, none⟩) 129 cap)), (3, .l 3 0), (5, .v (ptr q)), (6, .v (iv (plc sector))), (7, .v s7)]) (fun _ => [(3, [iv sector, by8 byte])]) (fun k => k.2.2)
    (fun k => k.1 ≤ 129 ∧ k.2.1.length = 129 ∧ Has [WnP 1 (.slice (some ⟨b, o, none⟩) 129 cap) 129 (k.2.1.map by8), DkP q d2, WnP 1 s7 128 (rowS x), Is h] k.2.2) (fun k => 129 - k.1) (0, l9, h7) ⟨Nat.zero_le _, hl9, hh9⟩
    ⟨rfl, rfl, rfl, rfl, rfl, rfl, trivial⟩ ⟨rfl, trivial⟩ rfl ?_
  clear hh9
  rintro ⟨k, lm, g⟩ ⟨hk, hl, hg⟩
  dsimp only at hk hl hg ⊢
  refine seq_step fun K10 hK10 => ?_
  refine seq_step fun K11 hK11 => ?_
  conv => whnf
  refine hK11 _ _ _ ?_
  conv => whnf
  refine cond_dec (fun hlt => ?_) (fun hlt => ?_)
  · obtain ⟨y, hy⟩ : ∃ y, lm[k]? = some y := ⟨_, List.getElem?_eq_getElem (by omega)⟩
    obtain ⟨_, _, _, c, ty, z, e9, hb, hc⟩ := hg.rdw 0 rfl (k := k) (v := by8 y) (by omega) (by rw [List.getElem?_map, hy]; rfl)
    cases e9
    conv => whnf
    refine hK10 _ _ _ ?_
    conv => whnf
    refine opt_if ⟨by omega, by omega⟩ ?_
    conv => whnf
    refine opt_ld hb (v := by8 y) (by rw [show (k : Int).toNat * 1 = k by omega]; exact hc) ?_
    conv => whnf
    refine opt_if ⟨by omega, by omega⟩ ?_
    conv => whnf
    rw [show (k : Int).toNat * 1 = k by omega]
    refine st_hasW hg 0 rfl (k := k) (by omega) rfl rfl fun g1 hg1 => ?_
    conv => whnf
    refine ⟨(k + 1, lm.set k (IntKind.u8.wrap ↑(BitVec.ofInt IntKind.u8.bits (if IntKind.u8.signed = true then -1 else IntKind.u8.max) ^^^ BitVec.ofInt IntKind.u8.bits y).toNat), g1), ⟨(show k + 1 ≤ 129 by omega), (by rw [List.length_set]; exact hl), ?_⟩, (by show 129 - (k + 1) < 129 - k; omega), ⟨int_eq (wrap_nat (by omega)) rfl, rfl, rfl, rfl, rfl, rfl, trivial⟩, ⟨rfl, trivial⟩, rfl⟩
    show Has [WnP 1 _ 129 ((lm.set k _).map by8), _, _, _] g1
    rw [List.map_set]
    exact hg1
  · conv => whnf
    exact ⟨g, hg.tail, ⟨rfl, rfl, int_eq hpn.symm rfl, rfl, trivial⟩, ⟨rfl, trivial⟩, rfl⟩

end
end Go.Proofs.Ytpkleblggehghaa.V
