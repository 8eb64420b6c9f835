/- Seat 04: the document's disk: what waits; lists of ints compared. -/
import Derived.Test.YtpkleblggehghaaD29
namespace Go.Proofs.Ytpkleblggehghaa.V
set_option linter.unusedVariables false
set_option linter.unusedSimpArgs false
set_option linter.unusedSectionVars false
set_option linter.unusedSectionVars false
open Go

section
variable {h : Hp} {Q : Value → Hp → Prop} {L : List As} {p : Nat} {r : Rd}

theorem rowR_cell {xs : List VR} {k : Nat} {x : VR} (hx : xs[k]? = some x) {c : Array Value} {o : Nat} (hcc : ∀ j v, (xs.flatMap rowR)[k * 3 + j]? = some v → c[o + j]? = some v) (j : Nat) (v : Value) (hv : (rowR x)[j]? = some v) : c[o + j]? = some v := by
  have hj : j < 3 := by rw [← rowR_len x]; exact (List.getElem?_eq_some_iff.1 hv).1
  exact hcc j v (by rw [flat_get rowR_len _ _ _ _ hx hj]; exact hv)

set_option maxRecDepth 20000 in
theorem pending63 (hh : Has (RfP p r :: L) h) (hc : r.waiting.length ≤ 2 ^ 40) (hq : ∀ s h', Has (WnP 1 s r.waiting.length (r.waiting.map fun x => iv x.sec) :: RfP p r :: L) h' → Q s h') : Ok PR 63 [ptr p] h Q := by
  obtain ⟨hok, lv, wv, s1, s2, e1, e2, hh⟩ := RfP.opn hh
  have hwl : wv.length = r.waiting.length := by rw [← List.length_map (f := fun x : VR => x.2), e2]
  obtain ⟨bw, cpw, hsw⟩ := hh.slv 2 rfl
  subst hsw
  refine e63 rfl ?_
  refine seq_step fun K hK => ?_
  conv => whnf
  refine hK _ _ _ (seq_step fun K1 hK1 => ?_)
  conv => whnf
  refine hK1 _ _ _ (seq_step fun K2 hK2 => ?_)
  refine seq_step fun K3 hK3 => ?_
  conv => whnf
  refine hK3 _ _ _ ?_
  refine loop_intro (σ := Nat × Value × Hp) (fun x => [(4, .v (iv x.1)), (0, .v (ptr p)), (3, .v x.2.1)]) (fun _ => []) (fun x => x.2.2)
    (fun x => x.1 ≤ wv.length ∧ Has (WnP 1 x.2.1 x.1 ((wv.take x.1).map fun x => iv x.2.sec) :: Pt p (.cells (rfT r s1 (.slice bw wv.length cpw)).toArray 92 (0, 0)) :: WnP 3 s1 lv.length (lv.flatMap rowR) :: WnP 3 (.slice bw wv.length cpw) wv.length (wv.flatMap rowR) :: DatP (lv ++ wv) :: L) x.2.2) (fun x => wv.length - x.1) (0, .slice none 0 0, h) ⟨Nat.zero_le _, hh.nilW 1⟩
    ⟨rfl, rfl, rfl, trivial⟩ subB_nil rfl ?_
  clear hh
  rintro ⟨k, s3, g⟩ ⟨hk, hg⟩
  dsimp only at hk hg ⊢
  refine seq_step fun K4 hK4 => ?_
  refine seq_step fun K5 hK5 => ?_
  conv => whnf
  refine opt_ld (hg.pt 1 rfl) (v := .slice bw wv.length cpw) rfl ?_
  conv => whnf
  refine hK5 _ _ _ ?_
  conv => whnf
  refine cond_dec (fun hlt => ?_) (fun hlt => ?_)
  · obtain ⟨x, hx⟩ : ∃ x, wv[k]? = some x := ⟨_, List.getElem?_eq_getElem (by omega)⟩
    obtain ⟨bwb, bwo, c3, ty3, z3, _, ew, hb3, hsz3, hc3⟩ := (hg.wn 3 rfl).at (i := k) (by omega)
    cases ew
    have hcell := rowR_cell hx hc3
    have hkk : k * 3 + 3 ≤ wv.length * 3 := by omega
    conv => whnf
    refine hK4 _ _ _ (seq_step fun K6 hK6 => ?_)
    conv => whnf
    refine opt_ld (hg.pt 1 rfl) (v := .slice (some ⟨bwb, bwo, none⟩) wv.length cpw) rfl ?_
    conv => whnf
    refine opt_if ⟨by omega, by omega⟩ ?_
    conv => whnf
    refine opt_ld hb3 (v := iv x.2.sec) (hcell 0 _ rfl) ?_
    conv => whnf
    refine fresh_has hg fun b1 g1 hb1 _ hs1 hh1 => ?_
    conv => whnf
    have hv : Vw 1 g1 (.slice (some ⟨b1, 0, none⟩) 1 1) 1 [iv x.2.sec] := (pt_wn (e := 1) (n := 1) (cap := 1) (vs := [iv x.2.sec]) (cs := [iv x.2.sec]) rfl (Nat.le_refl _) rfl (hh1.pt 0 rfl)).vw
    refine app_hasW (z := [.int .i64 0]) hh1 1 rfl hv rfl (by omega) fun s4 g2 hh2 => ?_
    replace hh2 := Has.tail hh2
    conv => whnf
    refine hK6 _ _ _ ?_
    conv => whnf
    refine ⟨(k + 1, s4, g2), ⟨(show k + 1 ≤ wv.length by omega), ?_⟩, (by show wv.length - (k + 1) < wv.length - k; omega), ⟨int_eq (wrap_nat (by omega)) rfl, rfl, rfl, trivial⟩, subB_nil, rfl⟩
    have etk : (wv.take (k + 1)).map (fun x => iv x.2.sec) = (wv.take k).map (fun x => iv x.2.sec) ++ [iv x.2.sec] := by rw [List.take_add_one, hx, List.map_append]; rfl
    show Has (WnP 1 s4 (k + 1) ((wv.take (k + 1)).map (fun x => iv x.2.sec)) :: _) g2
    rw [etk]
    exact hh2
  · have hkl : k = wv.length := by omega
    subst hkl
    rw [List.take_of_length_le (Nat.le_refl _)] at hg
    conv => whnf
    refine hK2 _ _ _ ?_
    conv => whnf
    refine hq _ _ ?_
    have e : wv.map (fun x => iv x.2.sec) = r.waiting.map fun x => iv x.sec := by rw [← e2, List.map_map]; rfl
    rw [e, hwl] at hg
    rw [← hwl] at hg
    rw [← hwl]
    exact hg.map_tail fun g hg => RfP.cls hok e1 e2 hg

theorem sameInts64 {a b : Value} {xs : List Int} (ha : Vw 1 h a xs.length (xs.map iv)) (hb : Vw 1 h b xs.length (xs.map iv)) (hlen : xs.length ≤ 2 ^ 40) (hq : Q (.bool true) h) : Ok PR 64 [a, b] h Q := by
  obtain ⟨ba, ca, hsa⟩ : ∃ base cap, a = .slice base xs.length cap := let ⟨_, x, y, z, _⟩ := ha; ⟨x, y, z⟩
  obtain ⟨bb, cb, hsb⟩ : ∃ base cap, b = .slice base xs.length cap := let ⟨_, x, y, z, _⟩ := hb; ⟨x, y, z⟩
  subst hsa
  subst hsb
  refine e64 rfl ?_
  refine seq_step fun K hK => ?_
  conv => whnf
  refine hK _ _ _ (seq_step fun K1 hK1 => ?_)
  refine seq_step fun K2 hK2 => ?_
  conv => whnf
  refine hK2 _ _ _ ?_
  conv => whnf
  refine cond_bne (fun hne => absurd rfl hne) (fun _ => ?_)
  conv => whnf
  refine hK1 _ _ _ (seq_step fun K3 hK3 => ?_)
  refine seq_step fun K4 hK4 => ?_
  conv => whnf
  refine hK4 _ _ _ ?_
  refine loop_intro (σ := Nat) (fun x => [(5, .v (iv x)), (0, .v (.slice ba xs.length ca)), (1, .v (.slice bb xs.length cb))]) (fun _ => []) (fun _ => h)
    (fun x => x ≤ xs.length) (fun x => xs.length - x) 0 (Nat.zero_le _) ⟨rfl, rfl, rfl, trivial⟩ subB_nil rfl ?_
  intro k hk
  dsimp only at hk ⊢
  refine seq_step fun K5 hK5 => ?_
  refine seq_step fun K6 hK6 => ?_
  conv => whnf
  refine hK6 _ _ _ ?_
  conv => whnf
  refine cond_dec (fun hlt => ?_) (fun hlt => ?_)
  · obtain ⟨x, hx⟩ : ∃ x, xs[k]? = some x := ⟨_, List.getElem?_eq_getElem (by omega)⟩
    obtain ⟨b1, o1, c1, t1, z1, _, ew1, hb1, hsz1, hc1⟩ := ha.at (i := k) (by omega)
    cases ew1
    obtain ⟨b2, o2, c2, t2, z2, _, ew2, hb2, hsz2, hc2⟩ := hb.at (i := k) (by omega)
    cases ew2
    conv => whnf
    refine hK5 _ _ _ (seq_step fun K7 hK7 => ?_)
    refine seq_step fun K8 hK8 => ?_
    conv => whnf
    refine opt_if ⟨by omega, by omega⟩ ?_
    conv => whnf
    refine opt_ld hb1 (v := iv x) (hc1 0 _ (by rw [Nat.mul_one, Nat.add_zero, List.getElem?_map, hx]; rfl)) ?_
    conv => whnf
    refine opt_if ⟨by omega, by omega⟩ ?_
    conv => whnf
    refine opt_ld hb2 (v := iv x) (hc2 0 _ (by rw [Nat.mul_one, Nat.add_zero, List.getElem?_map, hx]; rfl)) ?_
    conv => whnf
    refine hK8 _ _ _ ?_
    conv => whnf
    refine cond_bne (fun hne => absurd rfl hne) (fun _ => ?_)
    conv => whnf
    refine hK7 _ _ _ ?_
    conv => whnf
    exact ⟨k + 1, (show k + 1 ≤ xs.length by omega), (by show xs.length - (k + 1) < xs.length - k; omega), ⟨int_eq (wrap_nat (by omega)) rfl, rfl, rfl, trivial⟩, subB_nil, rfl⟩
  · conv => whnf
    refine hK3 _ _ _ ?_
    conv => whnf
    exact hq

end
end Go.Proofs.Ytpkleblggehghaa.V

/- Seat 04: the document's disk: all its bytes. -/
namespace Go.Proofs.Ytpkleblggehghaa.V
set_option linter.unusedVariables false
set_option linter.unusedSectionVars false
open Go

def flatS (b : List Int) (r : Rc) : List Int := layB b (r.sec.toNat * 128 + r.at_.toNat) r.dat
def flatP (b : List Int) (l : List Rc) : List Int := l.foldl flatS b

theorem flatS_len {N : Nat} (hN : N = 131072) {b : List Int} {r : Rc} (hr : r.ok) (hb : b.length = N) : (flatS b r).length = N := by
  obtain ⟨h1, h2, h3, h4⟩ := hr
  unfold flatS
  rw [layB_len (by omega), hb]

theorem flatP_len {N : Nat} (hN : N = 131072) : ∀ {l : List Rc} {b : List Int}, (∀ x ∈ l, x.ok) → b.length = N → (flatP b l).length = N
  | [], b, _, hb => hb
  | r :: l, b, h, hb => flatP_len hN (l := l) (fun x hx => h x (List.mem_cons_of_mem _ hx)) (flatS_len hN (h r (List.mem_cons_self ..)) hb)

theorem flatP_app (b : List Int) (l k : List Rc) : flatP b (l ++ k) = flatP (flatP b l) k := by simp [flatP]

theorem flatP_take {b : List Int} {l : List Rc} {k : Nat} {r : Rc} (hr : l[k]? = some r) : flatP b (l.take (k + 1)) = flatS (flatP b (l.take k)) r := by
  have hk := (List.getElem?_eq_some_iff.1 hr).1
  have := (List.getElem?_eq_some_iff.1 hr).2
  rw [List.take_succ_eq_append_getElem hk, this, flatP_app]; rfl

section
variable {h : Hp} {Q : Value → Hp → Prop} {L : List As} {p : Nat} {r : Rd}

set_option maxRecDepth 20000 in
theorem medium40 {N : Nat} (hN : N = 131072) (hh : Has (RfP p r :: L) h) (hc : r.landed.length ≤ 2 ^ 40) (hq : ∀ s h', Has (WnP 1 s N ((flatP (List.replicate N 0) r.landed).map by8) :: RfP p r :: L) h' → Q s h') : Ok PR 40 [ptr p] h Q := by
  obtain ⟨hok, lv, wv, s1, s2, e1, e2, hh⟩ := RfP.opn hh
  have hll : lv.length = r.landed.length := by rw [← List.length_map (f := fun x : VR => x.2), e1]
  have hokm : ∀ x ∈ lv, x.2.ok := fun x hx => hok.l _ (by rw [← e1]; exact List.mem_map_of_mem hx)
  obtain ⟨bl, cpl, hsl⟩ := hh.slv 1 rfl
  subst hsl
  refine e40 rfl ?_
  refine seq_step fun K hK => ?_
  conv => whnf
  refine hK _ _ _ (seq_step fun K1 hK1 => ?_)
  conv => whnf
  refine ⟨by omega, by omega, by omega, by omega, fresh_has hh fun b h1 hb _ _ hh1 => ?_⟩
  rw [show Int.toNat 131072 = N from hN.symm] at hh1 ⊢
  have hh2 : Has (WnP 1 (.slice (some ⟨b, 0, none⟩) N N) N ((flatP (List.replicate N 0) (r.landed.take 0)).map by8) :: Pt p (.cells (rfT r (.slice bl lv.length cpl) s2).toArray 92 (0, 0)) :: WnP 3 (.slice bl lv.length cpl) lv.length (lv.flatMap rowR) :: WnP 3 s2 wv.length (wv.flatMap rowR) :: DatP (lv ++ wv) :: L) h1 := by
    refine Has.mono1 hh1 fun g' hg' => ?_
    rw [reps_z] at hg'
    rw [List.take_zero]
    have eN : ((List.replicate N (0 : Int)).map by8).length = N := by rw [List.length_map, List.length_replicate]
    exact pt_wn (e := 1) (n := N) (cap := N) (by rw [eN, Nat.mul_one]) (Nat.le_refl _) (by rw [Nat.mul_one, List.take_of_length_le (Nat.le_of_eq eN)]; rfl) hg'
  clear hh1 hb hh
  conv => whnf
  refine hK1 _ _ _ (seq_step fun K2 hK2 => ?_)
  refine seq_step fun K3 hK3 => ?_
  conv => whnf
  refine hK3 _ _ _ ?_
  refine loop_intro (σ := Nat × Hp) (fun x => [(4, .v (iv x.1)), (3, .v (.slice (some ⟨b, 0, none⟩) N N)), (0, .v (ptr p))]) (fun _ => []) (fun x => x.2)
    (fun x => x.1 ≤ lv.length ∧ Has (WnP 1 (.slice (some ⟨b, 0, none⟩) N N) N ((flatP (List.replicate N 0) (r.landed.take x.1)).map by8) :: Pt p (.cells (rfT r (.slice bl lv.length cpl) s2).toArray 92 (0, 0)) :: WnP 3 (.slice bl lv.length cpl) lv.length (lv.flatMap rowR) :: WnP 3 s2 wv.length (wv.flatMap rowR) :: DatP (lv ++ wv) :: L) x.2) (fun x => lv.length - x.1) (0, h1) ⟨Nat.zero_le _, hh2⟩
    ⟨rfl, rfl, rfl, trivial⟩ subB_nil rfl ?_
  clear hh2
  rintro ⟨k, g⟩ ⟨hkl, hg⟩
  dsimp only at hkl hg ⊢
  refine seq_step fun K6 hK6 => ?_
  refine seq_step fun K7 hK7 => ?_
  conv => whnf
  refine opt_ld (hg.pt 1 rfl) (v := .slice bl lv.length cpl) rfl ?_
  conv => whnf
  refine hK7 _ _ _ ?_
  conv => whnf
  refine cond_dec (fun hlt => ?_) (fun hlt => ?_)
  · obtain ⟨x, hx⟩ : ∃ x, lv[k]? = some x := ⟨_, List.getElem?_eq_getElem (by omega)⟩
    have hxm := List.mem_of_getElem? hx
    have hxr : r.landed[k]? = some x.2 := by rw [← e1, List.getElem?_map, hx]; rfl
    obtain ⟨x1, x2, x3, x4⟩ := hokm x hxm
    obtain ⟨b2, o2, c2, ty2, z2, cap3, ex, hb2, hsz2, hc2⟩ := (hg.wn 2 rfl).at (i := k) (by omega)
    cases ex
    have hcell := rowR_cell hx hc2
    have hdat : DatP (lv ++ wv) g := Has.get (A := DatP (lv ++ wv)) hg 4 rfl fun _ _ => DatP.sub
    obtain ⟨xb, xc, hxv, hxle⟩ : ∃ base cap, x.1 = .slice base x.2.dat.length cap ∧ x.2.dat.length ≤ cap := let ⟨_, a, b, c, d, _⟩ := hdat x (List.mem_append_left _ hxm); ⟨a, b, c, d⟩
    have hpl : (flatP (List.replicate N 0) (r.landed.take k)).length = N := flatP_len hN (fun x hx => hok.l x (List.mem_of_mem_take hx)) (List.length_replicate ..)
    have hkk : k * 3 + 3 ≤ lv.length * 3 := by omega
    conv => whnf
    refine hK6 _ _ _ (seq_step fun K8 hK8 => ?_)
    refine seq_step fun K9 hK9 => ?_
    conv => whnf
    refine opt_ld (hg.pt 1 rfl) (v := .slice (some ⟨b2, o2, none⟩) lv.length cpl) rfl ?_
    conv => whnf
    refine opt_if ⟨by omega, by omega⟩ ?_
    conv => whnf
    refine opt_ld hb2 (v := .agg [iv x.2.sec, iv x.2.at_, .slice xb x.2.dat.length xc].toArray) (agg_rd rfl (by omega) fun j v hj => ?_) ?_
    · rw [show o2 + (k : Int).toNat * 3 + j = o2 + k * 3 + j by omega]; exact hcell j v (by rw [rowR, hxv]; exact hj)
    conv => whnf
    refine hK9 _ _ _ (seq_step fun K10 hK10 => ?_)
    conv => whnf
    refine hK10 _ _ _ ?_
    generalize hB : flatP (List.replicate N 0) (r.landed.take k) = B at hg hpl
    refine loop_intro (σ := Nat × Hp) (fun y => [(6, .v (iv y.1)), (5, .l 5 0), (4, .v (iv k)), (3, .v (.slice (some ⟨b, 0, none⟩) N N)), (0, .v (ptr p))]) (fun _ => [(5, [iv x.2.sec, iv x.2.at_, .slice xb x.2.dat.length xc])]) (fun y => y.2)
      (fun y => y.1 ≤ x.2.dat.length ∧ Has (WnP 1 (.slice (some ⟨b, 0, none⟩) N N) N ((layK B (x.2.sec.toNat * 128 + x.2.at_.toNat) x.2.dat y.1).map by8) :: Pt p (.cells (rfT r (.slice (some ⟨b2, o2, none⟩) lv.length cpl) s2).toArray 92 (0, 0)) :: WnP 3 (.slice (some ⟨b2, o2, none⟩) lv.length cpl) lv.length (lv.flatMap rowR) :: WnP 3 s2 wv.length (wv.flatMap rowR) :: DatP (lv ++ wv) :: L) y.2) (fun y => x.2.dat.length - y.1) (0, g) ⟨Nat.zero_le _, by
        show Has (WnP 1 _ N ((layK B (x.2.sec.toNat * 128 + x.2.at_.toNat) x.2.dat 0).map by8) :: _) g; rw [layK_zero]; exact hg⟩
      ⟨rfl, rfl, rfl, rfl, rfl, trivial⟩ ⟨rfl, trivial⟩ rfl ?_
    clear hg hdat hc2 hb2 hcell hsz2
    rintro ⟨j, g⟩ ⟨hjl, hg⟩
    dsimp only at hjl hg ⊢
    refine seq_step fun K11 hK11 => ?_
    refine seq_step fun K12 hK12 => ?_
    conv => whnf
    refine hK12 _ _ _ ?_
    conv => whnf
    refine cond_dec (fun hlt2 => ?_) (fun hlt2 => ?_)
    · obtain ⟨y, hy⟩ : ∃ y, x.2.dat[j]? = some y := ⟨_, List.getElem?_eq_getElem (by omega)⟩
      have hdat : DatP (lv ++ wv) g := Has.get (A := DatP (lv ++ wv)) hg 4 rfl fun _ _ => DatP.sub
      have hdv := hdat x (List.mem_append_left _ hxm)
      obtain ⟨b3, o3, c3, ty3, z3, cap4, e3, hb3, hsz3, hc3⟩ := hdv.at (i := j) (by omega)
      rw [hxv] at e3
      cases e3
      have hw1 : IntKind.i64.wrap (x.2.sec * 128) = x.2.sec * 128 := wrap_i64 (by omega) (by omega)
      have hw2 : IntKind.i64.wrap (x.2.sec * 128 + x.2.at_) = x.2.sec * 128 + x.2.at_ := wrap_i64 (by omega) (by omega)
      have hw3 : IntKind.i64.wrap (x.2.sec * 128 + x.2.at_ + (j : Int)) = ((x.2.sec.toNat * 128 + x.2.at_.toNat + j : Nat) : Int) := by rw [wrap_i64 (by omega) (by omega)]; omega
      conv => whnf
      refine hK11 _ _ _ (seq_step fun K13 hK13 => ?_)
      conv => whnf
      refine opt_if ⟨by omega, by omega⟩ ?_
      conv => whnf
      refine opt_ld hb3 (v := by8 y) (by have := hc3 0 (by8 y) (by rw [Nat.mul_one, Nat.add_zero, List.getElem?_map, hy]; rfl); exact this) ?_
      conv => whnf
      rw [hw1, hw2, hw3]
      refine opt_if ⟨by omega, by omega⟩ ?_
      conv => whnf
      rw [show 0 + ((x.2.sec.toNat * 128 + x.2.at_.toNat + j : Nat) : Int).toNat * 1 = 0 + (x.2.sec.toNat * 128 + x.2.at_.toNat + j) by omega]
      refine st_hasW hg 0 rfl (k := x.2.sec.toNat * 128 + x.2.at_.toNat + j) (x := by8 y) (by omega) rfl rfl fun g1 hg1 => ?_
      conv => whnf
      refine hK13 _ _ _ ?_
      conv => whnf
      refine ⟨(j + 1, g1), ⟨(show j + 1 ≤ x.2.dat.length by omega), ?_⟩, (by show x.2.dat.length - (j + 1) < x.2.dat.length - j; omega), ⟨int_eq (wrap_nat (by omega)) rfl, rfl, rfl, rfl, rfl, trivial⟩, ⟨rfl, trivial⟩, rfl⟩
      show Has (WnP 1 _ N ((layK B (x.2.sec.toNat * 128 + x.2.at_.toNat) x.2.dat (j + 1)).map by8) :: _) g1
      rw [← layK_set hy (by omega), List.map_set]
      exact hg1
    · have hjl : j = x.2.dat.length := by omega
      subst hjl
      rw [layK_all] at hg
      conv => whnf
      refine hK8 _ _ _ ?_
      conv => whnf
      refine ⟨(k + 1, g), ⟨(show k + 1 ≤ lv.length by omega), ?_⟩, (by show lv.length - (k + 1) < lv.length - k; omega), ⟨int_eq (wrap_nat (by omega)) rfl, rfl, rfl, trivial⟩, subB_nil, rfl⟩
      show Has (WnP 1 _ N ((flatP (List.replicate N 0) (r.landed.take (k + 1))).map by8) :: _) g
      rw [flatP_take hxr, hB]
      exact hg
  · have hkl : k = lv.length := by omega
    subst hkl
    rw [hll, List.take_length] at hg
    rw [← hll] at hg
    conv => whnf
    refine hK2 _ _ _ ?_
    conv => whnf
    exact hq _ _ (hg.map_tail fun g hg => RfP.cls hok e1 e2 hg)

end
end Go.Proofs.Ytpkleblggehghaa.V

/- Seat 04: the document's disk, of bytes. -/
namespace Go.Proofs.Ytpkleblggehghaa.V
set_option linter.unusedVariables false
set_option linter.unusedSectionVars false
open Go

def R8 (l : List Int) : Prop := ∀ y ∈ l, 0 ≤ y ∧ y < 256

theorem strB_inj {a b : List Int} (ha : R8 a) (hb : R8 b) (h : (a.map fun n => UInt8.ofNat n.toNat) = b.map fun n => UInt8.ofNat n.toNat) : a = b := by
  apply List.ext_getElem?
  intro i
  have hi := congrArg (fun x : List UInt8 => x[i]?) h
  simp only [List.getElem?_map] at hi
  cases ea : a[i]? with
  | none => cases eb : b[i]? with
    | none => rfl
    | some y => rw [ea, eb] at hi; cases hi
  | some x => cases eb : b[i]? with
    | none => rw [ea, eb] at hi; cases hi
    | some y =>
      rw [ea, eb] at hi
      simp only [Option.map_some, Option.some.injEq] at hi
      have h1 := ha x (List.mem_of_getElem? ea)
      have h2 := hb y (List.mem_of_getElem? eb)
      have h3 := congrArg UInt8.toNat hi
      simp only [UInt8.toNat_ofNat'] at h3
      rw [show x = y by omega]

def ofL (l : List Int) : Nat → List Rc
  | 0 => []
  | k + 1 => if (chunk l k).val = zeroB then ofL l k else ofL l k ++ [⟨k, 0, (chunk l k).val⟩]

theorem ofL_len (l : List Int) : ∀ k, (ofL l k).length ≤ k
  | 0 => Nat.le_refl _
  | k + 1 => by
    have := ofL_len l k
    simp only [ofL]
    split
    · omega
    · rw [List.length_append]; simp; omega

def ofR (l : List Int) (k : Nat) : Rd := { rd0 with landed := ofL l k }

section
variable {h : Hp} {Q : Value → Hp → Prop} {L : List As} {p : Nat} {r : Rd}

theorem of39z {base : Option Addr} {len cap : Nat} (hl : len ≠ 131072) (hq : Q (.tuple #[.pointer none, iv 41]) h) : Ok PR 39 [.slice base len cap] h Q := by
  refine e39 rfl ?_
  refine seq_step fun K hK => ?_
  conv => whnf
  refine hK _ _ _ (seq_step fun K1 hK1 => ?_)
  refine seq_step fun K2 hK2 => ?_
  conv => whnf
  refine hK2 _ _ _ ?_
  conv => whnf
  refine cond_bne (fun _ => ?_) (fun e => absurd e (by omega))
  conv => whnf
  exact hq

set_option maxRecDepth 20000 in
theorem of39 {N : Nat} (hN : N = 131072) {a : Value} {l : List Int} (hr8 : R8 l) (hh : Has L h) (ha : ∀ g, Has L g → Vw 1 g a N (l.map by8)) (hq : ∀ q h', Has (RfP q (ofR l 1024) :: L) h' → Q (.tuple #[ptr q, iv 0]) h') : Ok PR 39 [a] h Q := by
  have hll : l.length = N := by have := (ha h hh).1; simpa using this
  obtain ⟨base, cap, hs⟩ : ∃ base cap, a = .slice base N cap := let ⟨_, x, y, z, _⟩ := ha h hh; ⟨x, y, z⟩
  obtain ⟨b, o, c, ty, z, cap', hs', hb, hsz, hcc⟩ := (ha h hh).at (i := 0) (by omega)
  rw [hs] at hs'
  cases hs'
  subst hs
  have hcap : N ≤ cap := by
    obtain ⟨_, base', cap'', e1, e2, _⟩ := ha h hh
    cases e1; exact e2
  refine e39 rfl ?_
  refine seq_step fun K hK => ?_
  conv => whnf
  refine hK _ _ _ (seq_step fun K1 hK1 => ?_)
  refine seq_step fun K2 hK2 => ?_
  conv => whnf
  rw [show ((N : Int) != 131072) = false from by rw [hN]; exact bne_self_eq_false _]
  conv => whnf
  refine hK2 _ _ _ ?_
  conv => whnf
  refine hK1 _ _ _ (seq_step fun K3 hK3 => ?_)
  conv => whnf
  refine new38 hh fun q h1 hh1 => ?_
  conv => whnf
  refine hK3 _ _ _ (seq_step fun K4 hK4 => ?_)
  refine seq_step fun K5 hK5 => ?_
  conv => whnf
  refine hK5 _ _ _ ?_
  refine loop_intro (σ := Nat × Hp) (fun x => [(5, .v (iv x.1)), (4, .v (ptr q)), (0, .v (.slice (some ⟨b, o, none⟩) N cap))]) (fun _ => []) (fun x => x.2)
    (fun x => x.1 ≤ 1024 ∧ Has (RfP q (ofR l x.1) :: L) x.2) (fun x => 1024 - x.1) (0, h1) ⟨Nat.zero_le _, hh1⟩
    ⟨rfl, rfl, rfl, trivial⟩ subB_nil rfl ?_
  clear hh1 hh hb hsz hcc
  rintro ⟨k, g⟩ ⟨hkl, hg⟩
  dsimp only at hkl hg ⊢
  refine seq_step fun K6 hK6 => ?_
  refine seq_step fun K7 hK7 => ?_
  conv => whnf
  refine hK7 _ _ _ ?_
  refine cond_dec (fun hlt => ?_) (fun hlt => ?_)
  · have hw1 : IntKind.i64.wrap ((k : Int) * 128) = ((k * 128 : Nat) : Int) := by rw [wrap_i64 (by omega) (by omega)]; omega
    have hw2 : IntKind.i64.wrap ((k : Int) + 1) = ((k + 1 : Nat) : Int) := wrap_nat (by omega)
    have hw3 : IntKind.i64.wrap (((k + 1 : Nat) : Int) * 128) = ((k * 128 + 128 : Nat) : Int) := by rw [wrap_i64 (by omega) (by omega)]; omega
    have hv := ha g hg.tail
    have hp := hv.part (b := b) (o := o) (cap := cap) rfl (lo := k * 128) (hi := k * 128 + 128) (c2 := cap - k * 128) (o2 := o + k * 128) (by omega) (by omega) (by omega) (.inl (by omega))
    have hcl : ((l.drop (k * 128)).take 128).length = 128 := by rw [List.length_take, List.length_drop, hll]; omega
    have ecv : (chunk l k).val = (l.drop (k * 128)).take 128 := by unfold chunk; rw [dif_pos hcl]
    have e2 : (((l.map by8).drop (k * 128 * 1)).take ((k * 128 + 128 - k * 128) * 1)) = (chunk l k).val.map by8 := by
      rw [ecv, Nat.mul_one, Nat.mul_one, ← List.map_drop, ← List.map_take, show k * 128 + 128 - k * 128 = 128 by omega]
    have hr : R8 (chunk l k).val := by
      rw [ecv]
      exact fun y hy => hr8 y (List.mem_of_mem_drop (List.mem_of_mem_take hy))
    rw [e2, show k * 128 + 128 - k * 128 = 128 by omega] at hp
    conv => whnf
    refine hK6 _ _ _ (seq_step fun K8 hK8 => ?_)
    refine seq_step fun K9 hK9 => ?_
    conv => whnf
    rw [hw1, hw2, hw3]
    refine opt_some (slS_lohi (lo := k * 128) (hi := k * 128 + 128) (by omega) (by omega) (by omega)) ?_
    rw [show k * 128 + 128 - k * 128 = 128 by omega]
    conv => whnf
    refine copied51 hg hp (by8_one _) (by omega) fun s3 h3 hh3 => ?_
    obtain ⟨bs3, cp3, hs3⟩ := hh3.slv 0 rfl
    subst hs3
    conv => whnf
    refine hK9 _ _ _ (seq_step fun K10 hK10 => ?_)
    conv => whnf
    refine ⟨_, _, SubH.refl _, SubB.refl _, ?_⟩
    conv => whnf
    refine opt_some (vw_str (hh3.wn 0 rfl)) ?_
    conv => whnf
    refine ⟨by omega, by omega, by omega, by omega, fresh_has hh3 fun b4 h4 hb4 _ hs4 hh4 => ?_⟩
    have hz4 := zero_wn hh4
    conv => whnf
    refine ⟨⟨hs4, SubB.refl _⟩, ?_⟩
    conv => whnf
    refine opt_some (vw_str (hz4.wn 0 rfl)) ?_
    conv => whnf
    refine hK10 _ _ _ ?_
    conv => whnf
    refine cond_split (fun hne => ?_) (fun heq => ?_)
    · have he : ¬ (chunk l k).val = zeroB := fun e => by
        rw [e, byteArray_beq] at hne
        cases hne
      clear hne
      obtain ⟨hok, lv, wv, s1, s2, e1, e3, hh5⟩ := RfP.opn (r := ofR l k) (hh4.tail.pull 1 rfl)
      have hlv : lv.length ≤ k := by rw [← List.length_map (f := fun x : VR => x.2), e1]; exact ofL_len l k
      conv => whnf
      refine opt_ld (hh5.pt 0 rfl) (v := s1) rfl ?_
      conv => whnf
      refine fresh_has hh5 fun b6 h6 hb6 _ _ hh6 => ?_
      conv => whnf
      have hv6 : Vw 3 h6 (.slice (some ⟨b6, 0, none⟩) 1 1) 1 (rowR (.slice bs3 128 cp3, ⟨k, 0, (chunk l k).val⟩)) := (pt_wn (e := 3) (n := 1) (cap := 1) (cs := rowR (.slice bs3 128 cp3, ⟨k, 0, (chunk l k).val⟩)) rfl (Nat.le_refl _) rfl (hh6.pt 0 rfl)).vw
      refine app_hasW (z := [.int .i64 0, .int .i64 0, .slice none 0 0]) hh6 2 rfl hv6 rfl (by omega) fun s7 h7 hh7 => ?_
      replace hh7 : Has (Pt b6 (.cells (rowR (.slice bs3 128 cp3, ⟨k, 0, (chunk l k).val⟩)).toArray 94 (0, 0)) :: Pt q (.cells (rfT (ofR l k) s1 s2).toArray 92 (0, 0)) :: WnP 3 s7 (lv.length + 1) (lv.flatMap rowR ++ rowR (.slice bs3 128 cp3, ⟨k, 0, (chunk l k).val⟩)) :: WnP 3 s2 wv.length (wv.flatMap rowR) :: DatP (lv ++ wv) :: WnP 1 (.slice bs3 128 cp3) 128 ((chunk l k).val.map by8) :: L) h7 := hh7
      obtain ⟨bs7, cp7, hs7⟩ := hh7.slv 2 rfl
      subst hs7
      conv => whnf
      refine rf_st (hh7.erase 0) 0 (.slice bs7 (lv.length + 1) cp7) rfl (by omega) (ofR l (k + 1)) (.slice bs7 (lv.length + 1) cp7) s2 rfl rfl rfl fun h8 hh8 => ?_
      have hh9 : Has (WnP 1 (.slice bs3 128 cp3) (chunk l k).val.length ((chunk l k).val.map by8) :: DatP (lv ++ wv) :: Pt q (.cells (rfT (ofR l (k + 1)) (.slice bs7 (lv.length + 1) cp7) s2).toArray 92 (0, 0)) :: WnP 3 (.slice bs7 (lv.length + 1) cp7) (lv.length + 1) (lv.flatMap rowR ++ rowR (.slice bs3 128 cp3, ⟨k, 0, (chunk l k).val⟩)) :: WnP 3 s2 wv.length (wv.flatMap rowR) :: L) h8 := by
        rw [(chunk l k).len]
        exact (hh8.pull 3 rfl).pull 4 rfl
      have hh10 := DatP.weak (ys := lv ++ [((.slice bs3 128 cp3 : Value), (⟨k, 0, (chunk l k).val⟩ : Rc))] ++ wv) (fun x hx => by
        simp only [List.mem_append] at hx ⊢
        rcases hx with (hx | hx) | hx
        · exact .inl (.inl hx)
        · exact .inr hx
        · exact .inl (.inr hx)) (DatP.add (x := ⟨k, 0, (chunk l k).val⟩) hh9)
      have hh11 := hh10.swap.map_tail fun g hg => hg.swap.map_tail fun g hg => hg.swap
      conv => whnf
      refine hK8 _ _ _ ?_
      conv => whnf
      refine ⟨(k + 1, h8), ⟨(show k + 1 ≤ 1024 by omega), ?_⟩, (by show 1024 - (k + 1) < 1024 - k; omega), ⟨int_eq (wrap_nat (by omega)) rfl, rfl, rfl, trivial⟩, subB_nil, rfl⟩
      have eL : ofL l (k + 1) = ofL l k ++ [⟨k, 0, (chunk l k).val⟩] := by rw [ofL, if_neg he]
      refine RfP.cls (s1 := .slice bs7 (lv.length + 1) cp7) (s2 := s2) (r := ofR l (k + 1)) (lv := lv ++ [(.slice bs3 128 cp3, ⟨k, 0, (chunk l k).val⟩)]) (wv := wv) ⟨fun x hx => ?_, hok.w, hok.armed⟩ (by rw [List.map_append, e1]; show _ = ofL l (k + 1); rw [eL]; rfl) e3 ?_
      · replace hx : x ∈ ofL l (k + 1) := hx
        rw [eL] at hx
        rcases List.mem_append.1 hx with hx | hx
        · exact hok.l x hx
        · obtain rfl := List.mem_singleton.1 hx
          exact ⟨by show (0 : Int) ≤ k; omega, by show (k : Int) < 1024; omega, Int.le_refl _, by show (0 : Int) + ((chunk l k).val.length : Int) ≤ 128; rw [(chunk l k).len]; decide⟩
      · have e : (lv ++ [((.slice bs3 128 cp3 : Value), (⟨k, 0, (chunk l k).val⟩ : Rc))]).flatMap rowR = lv.flatMap rowR ++ rowR (.slice bs3 128 cp3, ⟨k, 0, (chunk l k).val⟩) := by rw [List.flatMap_append]; simp
        rw [e, List.length_append]
        exact hh11
    · have he : (chunk l k).val = zeroB := by
        rw [Bool.not_eq_false'] at heq
        have h5 : ((List.map (fun n => UInt8.ofNat n.toNat) (chunk l k).val).toArray == (List.map (fun n => UInt8.ofNat n.toNat) zeroB).toArray) = true := heq
        have h6 := congrArg Array.toList (eq_of_beq h5)
        exact strB_inj hr (fun y hy => by rw [zeroB] at hy; rw [List.eq_of_mem_replicate hy]; decide) h6
      conv => whnf
      refine hK8 _ _ _ ?_
      conv => whnf
      refine ⟨(k + 1, h4), ⟨(show k + 1 ≤ 1024 by omega), ?_⟩, (by show 1024 - (k + 1) < 1024 - k; omega), ⟨int_eq (wrap_nat (by omega)) rfl, rfl, rfl, trivial⟩, subB_nil, rfl⟩
      show Has (RfP q (ofR l (k + 1)) :: L) h4
      rw [ofR, ofL, if_pos he]
      exact hz4.tail.tail
  · have hkl : k = 1024 := by omega
    subst hkl
    conv => whnf
    refine hK4 _ _ _ ?_
    conv => whnf
    exact hq _ _ hg

end
end Go.Proofs.Ytpkleblggehghaa.V
