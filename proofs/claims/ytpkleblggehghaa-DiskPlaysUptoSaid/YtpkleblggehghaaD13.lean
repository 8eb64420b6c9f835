/- Seat 04: what comes in as windows; handed, begun. -/
import Derived.Test.YtpkleblggehghaaD12
import Derived.Test.YtpkleblggehghaaU3
namespace Go.Proofs.Ytpkleblggehghaa.V
set_option linter.unusedVariables false
set_option linter.unusedSimpArgs false
set_option linter.unusedSectionVars false
set_option linter.unusedSectionVars false
open Go

theorem SlR.vw1 {α : Type} {R : Hp → List Value → α → Prop} {f : α → Value} (hR : ∀ h cs a, R h cs a → cs = [f a]) {h : Hp} {v : Value} {l : List α} (hs : SlR 1 R h [v] l) : Vw 1 h v l.length (l.map f) := by
  obtain ⟨a, cap, h1, h2, h3, h4⟩ := hs
  cases h1
  refine ⟨by simp, a, cap, rfl, h2, ?_⟩
  by_cases h0 : l.length = 0
  · exact .inl h0
  · obtain ⟨b, off, c, ty, z, vs, rfl, g2, _, _, g5, _⟩ := h4 0 l[0] (List.getElem?_eq_getElem (by omega))
    refine .inr ⟨b, off, c, ty, z, rfl, g2, g5, fun j v hj => ?_⟩
    rw [List.getElem?_map] at hj
    cases hl : l[j]? with
    | none => rw [hl] at hj; cases hj
    | some y =>
      rw [hl] at hj; cases hj
      obtain ⟨b', off', c', ty', z', vs', e1, k2, k3, k4, k5, k6⟩ := h4 j y hl
      cases e1
      rw [g2] at k2; cases k2
      have := hR _ _ _ k3
      subst this
      have := k6 0 _ rfl
      rwa [Nat.mul_one, Nat.add_zero] at this

theorem SlR.by8 {h : Hp} {v : Value} {l : List Int} (hs : SlR 1 byR h [v] l) : Vw 1 h v l.length (l.map by8) := hs.vw1 fun _ _ _ hr => hr.1
theorem SlR.bo {h : Hp} {v : Value} {l : List Bool} (hs : SlR 1 boR h [v] l) : Vw 1 h v l.length (l.map fun t => Value.bool t) := hs.vw1 fun _ _ _ hr => hr

def opV (o : OpD) (vd vk : Value) : List Value := [iv o.kind, .bool o.two, iv o.sector, iv o.at_, vd, .bool o.fill, vk]

theorem OpR.cells {h : Hp} {cs : List Value} {o : OpD} (hr : OpR h cs o) : i64 o.kind ∧ i64 o.sector ∧ i64 o.at_ ∧ ∃ vd vk, SlR 1 byR h [vd] o.data ∧ SlR 1 boR h [vk] o.keep ∧ cs = opV o vd vk := by
  obtain ⟨hl, h1, h2, h3, vd, vk, h4, h5, e0, e1, e2, e3, e4, e5, e6⟩ := hr
  refine ⟨h1, h2, h3, vd, vk, h4, h5, ?_⟩
  match cs, hl with
  | [x0, x1, x2, x3, x4, x5, x6], _ =>
    cases e0; cases e1; cases e2; cases e3; cases e4; cases e5; cases e6
    rfl

section
variable {h : Hp} {Q : Value → Hp → Prop} {L : List As} {p : Nat} {d : Dk}

/-- A write, whatever it is handed. -/
def Dk.writeL (d : Dk) (n : Int) (l : List Int) : Int × Dk := if 0 ≤ n ∧ n < 1024 then (if hl : l.length = 128 then d.write n ⟨l, hl⟩ else (41, d)) else (40, d)

theorem write15i (n : Int) (l : List Int) {a : Value} (hh : Has (DkP p d :: L) h) (hc : d.cache.length ≤ 2 ^ 38) (ha : ∀ g, Has L g → Vw 1 g a l.length (l.map by8)) (hq : ∀ h', Has (DkP p (d.writeL n l).2 :: L) h' → Q (iv (d.writeL n l).1) h') : Ok PR 15 [ptr p, iv n, a] h Q := by
  unfold Dk.writeL at hq
  by_cases hin : 0 ≤ n ∧ n < 1024
  · rw [if_pos hin] at hq
    by_cases hl : l.length = 128
    · rw [dif_pos hl] at hq
      exact write15 (x := ⟨l, hl⟩) n hin hh hc (fun g hg => by have := ha g hg; rw [hl] at this; exact this) hq
    · rw [dif_neg hl] at hq
      obtain ⟨base, cap, hs⟩ : ∃ base cap, a = .slice base l.length cap := let ⟨_, x, y, z, _⟩ := ha h (Has.tail hh); ⟨x, y, z⟩
      subst hs
      exact write15z n hin hl (hq _ hh)
  · rw [if_neg hin] at hq
    exact write15o n _ hin (hq _ hh)

def Sec.lay (x : Sec) (a : Nat) (l : List Int) : Sec := if h : a + l.length ≤ 128 then x.edit a l h else x

/-- An edit, whatever it is handed. -/
def Dk.edit (d : Dk) (n a : Int) (l : List Int) : Int × Dk := if 0 ≤ n ∧ n < 1024 then (if a < 0 ∨ 128 - (l.length : Int) < a then (1, d) else (0, { d with med := d.med.set n.toNat ((d.med.getD n.toNat zsec).lay a.toNat l) })) else (40, d)

theorem edit28i (n a : Int) (l : List Int) {v : Value} (hl : l.length < 2 ^ 60) (hh : Has (DkP p d :: L) h) (hv : ∀ g, Has L g → Vw 1 g v l.length (l.map by8)) (hq : ∀ h', Has (DkP p (d.edit n a l).2 :: L) h' → Q (iv (d.edit n a l).1) h') : Ok PR 28 [ptr p, iv n, iv a, v] h Q := by
  unfold Dk.edit at hq
  by_cases hin : 0 ≤ n ∧ n < 1024
  · rw [if_pos hin] at hq
    by_cases hat : a < 0 ∨ 128 - (l.length : Int) < a
    · rw [if_pos hat] at hq
      obtain ⟨base, cap, hs⟩ : ∃ base cap, v = .slice base l.length cap := let ⟨_, x, y, z, _⟩ := hv h (Has.tail hh); ⟨x, y, z⟩
      subst hs
      exact edit28z n a hin hl hat (hq _ hh)
    · rw [if_neg hat] at hq
      have hml := (DkP.opn hh).1.med
      have hmx : d.med[n.toNat]? = some (d.med.getD n.toNat zsec) := by
        rw [List.getD_eq_getElem?_getD, List.getElem?_eq_getElem (by omega)]; rfl
      have hla : a.toNat + l.length ≤ 128 := by omega
      have := edit28 (Q := Q) (h := h) (L := L) (p := p) n.toNat a.toNat hmx (v := v) (l := l) hla hh hv fun h' hh' => hq h' (by rw [Sec.lay, dif_pos hla]; exact hh')
      rwa [show ((n.toNat : Nat) : Int) = n by omega, show ((a.toNat : Nat) : Int) = a by omega] at this
  · rw [if_neg hin] at hq
    exact edit28o n a _ hin (hq _ hh)

/-- What a write is handed. -/
def OpD.given (o : OpD) : List Int := if o.fill then fillB o.data else o.data

theorem handed52 {o : OpD} {vd vk : Value} (hh : Has L h) (hd : Vw 1 h vd o.data.length (o.data.map by8)) (hn : o.data.length ≤ 2 ^ 40) (hq : ∀ s h', Has (WnP 1 s o.given.length (o.given.map by8) :: L) h' → Q s h') : Ok PR 52 [.agg (opV o vd vk).toArray] h Q := by
  refine e52 rfl ?_
  refine seq_step fun K hK => ?_
  conv => whnf
  refine hK _ _ _ (seq_step fun K1 hK1 => ?_)
  refine seq_step fun K2 hK2 => ?_
  conv => whnf
  refine hK2 _ _ _ ?_
  unfold OpD.given at hq
  conv => whnf
  refine cond_split (fun hf => ?_) (fun hf => ?_)
  · rw [if_pos hf, fillB_len] at hq
    conv => whnf
    refine filled48 hh hd hn fun s h1 hh1 => ?_
    conv => whnf
    exact hq _ _ hh1
  · rw [if_neg (by rw [hf]; decide)] at hq
    conv => whnf
    refine hK1 _ _ _ ?_
    conv => whnf
    refine copied27 hh hd (by8_one _) hn fun s h1 hh1 => ?_
    conv => whnf
    exact hq _ _ hh1

theorem agg_rd {c : Array Value} {o n : Nat} {row : List Value} (hl : row.length = n) (hsz : o + n ≤ c.size) (hc : ∀ j v, row[j]? = some v → c[o + j]? = some v) : rd c o n true = some (.agg row.toArray) := by
  unfold rd
  rw [if_pos rfl, if_pos hsz]
  congr 2
  unfold sub
  congr 1
  apply List.ext_getElem?
  intro j
  rw [List.getElem?_take, List.getElem?_drop]
  by_cases hj : j < n
  · have hv : row[j]? = some row[j] := List.getElem?_eq_getElem (by omega)
    rw [if_pos hj, Array.getElem?_toList, hc j _ hv, hv]
  · rw [if_neg (by omega), List.getElem?_eq_none (by omega)]

theorem opV_one {o : OpD} {vd vk : Value} {h : Hp} (h1 : SlR 1 byR h [vd] o.data) (h2 : SlR 1 boR h [vk] o.keep) : (opV o vd vk).all one = true := by
  obtain ⟨_, _, e1, _⟩ := h1
  obtain ⟨_, _, e2, _⟩ := h2
  cases e1; cases e2
  rfl

theorem i64_lt {n : Int} (h : i64 n) : n < 2 ^ 63 := by
  unfold i64 at h
  simp only [Lit.wf, Bool.and_eq_true, decide_eq_true_eq] at h
  have : IntKind.i64.max = 9223372036854775807 := by decide
  omega

theorem i64_ge {n : Int} (h : i64 n) : -2 ^ 63 ≤ n := by
  unfold i64 at h
  simp only [Lit.wf, Bool.and_eq_true, decide_eq_true_eq] at h
  have : IntKind.i64.min = -9223372036854775808 := by decide
  omega

theorem bo_one (l : List Bool) : (l.map fun t => Value.bool t).all one = true := by
  rw [List.all_eq_true]; intro x hx; obtain ⟨n, _, rfl⟩ := List.mem_map.1 hx; rfl

theorem write_cache (d : Dk) (n : Int) (x : Sec) : (d.write n x).2.cache.length ≤ d.cache.length + 1 := by
  unfold Dk.write
  have := act_cache d
  split
  · simp [this]
  · show d.act.2.cache.length ≤ _; rw [this]; omega

theorem writeL_cache (d : Dk) (n : Int) (l : List Int) : (d.writeL n l).2.cache.length ≤ d.cache.length + 1 := by
  unfold Dk.writeL
  split
  · split
    · exact write_cache _ _ _
    · exact Nat.le_succ _
  · exact Nat.le_succ _

theorem edit_cache (d : Dk) (n a : Int) (l : List Int) : (d.edit n a l).2.cache = d.cache := by
  unfold Dk.edit
  repeat' split
  all_goals rfl

theorem flush_cache (d : Dk) : d.flush.2.cache.length ≤ d.cache.length := by
  unfold Dk.flush
  have := act_cache d
  split
  · exact Nat.zero_le _
  · show d.act.2.cache.length ≤ _; rw [this]; omega

theorem arm_cache (d : Dk) (n : Int) : (d.arm n).2.cache = d.cache := by
  unfold Dk.arm
  repeat' split
  all_goals rfl

/-- The disk after calls that are told. -/
theorem begun43 {h0 : Hp} {a : Value} {l : List OpD} (hh : Has L h) (hL : ∀ g, Has L g → SubH h0 g) (hs : SlR 7 OpR h0 [a] l) (hb : ∀ o ∈ l, o.data.length ≤ 2 ^ 40 ∧ o.keep.length ≤ 2 ^ 40) (hl : l.length ≤ 2 ^ 30)
    (hq : ∀ q d h', d.cache.length ≤ l.length → Has (DkP q d :: L) h' → Q (ptr q) h') : Ok PR 43 [a] h Q := by
  obtain ⟨base, cap, hcs, hlc, hbn, hat⟩ := hs
  cases hcs
  refine e43 rfl ?_
  refine seq_step fun K hK => ?_
  conv => whnf
  refine hK _ _ _ (seq_step fun K1 hK1 => ?_)
  conv => whnf
  refine new37 hh fun q h1 hh1 => ?_
  conv => whnf
  refine hK1 _ _ _ (seq_step fun K2 hK2 => ?_)
  refine seq_step fun K3 hK3 => ?_
  conv => whnf
  refine hK3 _ _ _ ?_
  conv => whnf
  refine hK2 _ _ _ (seq_step fun K4 hK4 => ?_)
  refine seq_step fun K5 hK5 => ?_
  conv => whnf
  refine hK5 _ _ _ ?_
  refine loop_intro (σ := Nat × Dk × Hp) (fun x => [(4, .v (iv x.1)), (3, .v (ptr q)), (0, .v (.slice base l.length cap))]) (fun _ => []) (fun x => x.2.2)
    (fun x => x.1 ≤ l.length ∧ x.2.1.cache.length ≤ x.1 ∧ Has (DkP q x.2.1 :: L) x.2.2) (fun x => l.length - x.1) (0, dk0, h1) ⟨Nat.zero_le _, Nat.le_refl _, hh1⟩
    ⟨rfl, rfl, rfl, trivial⟩ subB_nil rfl ?_
  rintro ⟨k, d, g⟩ ⟨hkl, hcl, hg⟩
  dsimp only at hkl hcl hg ⊢
  refine seq_step fun K6 hK6 => ?_
  refine seq_step fun K7 hK7 => ?_
  conv => whnf
  refine hK7 _ _ _ ?_
  conv => whnf
  refine cond_dec (fun hlt => ?_) (fun hlt => ?_)
  · obtain ⟨b, off, c, ty, z, vs, hbe, hb0, hR, hvl, hsz, hcc⟩ := hat k l[k] (List.getElem?_eq_getElem (by omega))
    cases hbe
    have hbo := hb l[k] (List.getElem_mem ..)
    generalize l[k] = o at hR hbo
    obtain ⟨_, _, hi, vd, vk, hvd, hvk, rfl⟩ := hR.cells
    have hgb : g b = some (.cells c ty z) := hL g (Has.tail hg) _ _ hb0
    have hkk : k * 7 + 7 ≤ l.length * 7 := by omega
    conv => whnf
    refine hK6 _ _ _ (seq_step fun K8 hK8 => ?_)
    refine seq_step fun K9 hK9 => ?_
    conv => whnf
    refine opt_if ⟨by omega, by omega⟩ ?_
    conv => whnf
    refine opt_ld hgb (v := .agg (opV o vd vk).toArray) (agg_rd rfl (by omega) fun j v hj => ?_) ?_
    · have := hcc j v hj
      rwa [show off + (k : Int).toNat * 7 + j = off + k * 7 + j by omega]
    conv => whnf
    refine opt_stL rfl rfl rfl (opV_one hvd hvk) ?_
    conv => whnf
    refine hK9 _ _ _ (seq_step fun K10 hK10 => ?_)
    conv => whnf
    refine hK10 _ _ _ ?_
    have fin : ∀ ρ β g' d', look ρ 4 = some (.v (iv k)) → look ρ 3 = some (.v (ptr q)) → look ρ 0 = some (.v (.slice (some ⟨b, off, none⟩) l.length cap)) → d'.cache.length ≤ k + 1 → Has (DkP q d' :: L) g' → K8 ρ β g' := by
      intro ρ β g' d' l4 l3 l0 hc' hg'
      refine hK8 _ _ _ ?_
      conv => whnf
      refine opt_some (x := [.v (iv k)]) (by show oxs ρ [X.t 4] = _; simp only [oxs, ox, l4]) ?_
      conv => whnf
      exact ⟨(k + 1, d', g'), ⟨(show k + 1 ≤ l.length by omega), hc', hg'⟩, (by show l.length - (k + 1) < l.length - k; omega), ⟨int_eq (wrap_nat (by omega)) rfl, l3, l0, trivial⟩, subB_nil, rfl⟩
    refine seq_step fun K11 hK11 => ?_
    conv => whnf
    refine hK11 _ _ _ ?_
    conv => whnf
    refine cond_beq (fun hk2 => ?_) (fun hk2 => ?_)
    · conv => whnf
      refine ⟨fun _ => none, _, (fun _ _ h => by cases h), SubB.refl _, ?_⟩
      conv => whnf
      refine handed52 hg (hvd.by8.sub (hL _ (Has.tail hg))) hbo.1 fun s g1 hg1 => ?_
      conv => whnf
      refine ⟨⟨(fun _ _ h => by cases h), SubB.refl _⟩, ?_⟩
      conv => whnf
      refine write15i o.sector o.given hg1.swap (by omega) (fun g' hg' => (Has.get (L := WnP 1 s o.given.length (o.given.map by8) :: L) hg' 0 rfl fun _ _ => WnP.sub).vw) fun g2 hg2 => ?_
      conv => whnf
      exact fin _ _ _ _ rfl rfl rfl (by have := writeL_cache d o.sector o.given; omega) (Has.tail hg2.swap)
    · refine seq_step fun K12 hK12 => ?_
      conv => whnf
      refine hK12 _ _ _ ?_
      conv => whnf
      refine cond_beq (fun hk3 => ?_) (fun hk3 => ?_)
      · conv => whnf
        refine flush14 hg (by omega) fun g2 hg2 => ?_
        conv => whnf
        exact fin _ _ _ _ rfl rfl rfl (by have := flush_cache d; omega) hg2
      · refine seq_step fun K13 hK13 => ?_
        conv => whnf
        refine hK13 _ _ _ ?_
        conv => whnf
        refine cond_beq (fun hk5 => ?_) (fun hk5 => ?_)
        · conv => whnf
          refine Has.call hg 0 rfl (arm12S o.at_ (i64_lt hi)) fun _ g2 hg2 => ?_
          conv => whnf
          exact fin _ _ _ _ rfl rfl rfl (by rw [arm_cache]; omega) hg2
        · refine seq_step fun K14 hK14 => ?_
          conv => whnf
          refine hK14 _ _ _ ?_
          conv => whnf
          refine cond_beq (fun hk7 => ?_) (fun hk7 => ?_)
          · conv => whnf
            refine flags24 hg (hvk.bo.sub (hL _ (Has.tail hg))) (bo_one _) hbo.2 fun s g1 hg1 => ?_
            conv => whnf
            refine crash20 hg1.swap (by omega) (fun g' hg' => (Has.get (L := WnP 1 s o.keep.length (o.keep.map fun t => Value.bool t) :: L) hg' 0 rfl fun _ _ => WnP.sub).vw) fun g2 hg2 => ?_
            conv => whnf
            exact fin _ _ _ _ rfl rfl rfl (Nat.zero_le _) (Has.tail hg2.swap)
          · refine seq_step fun K15 hK15 => ?_
            conv => whnf
            refine hK15 _ _ _ ?_
            conv => whnf
            refine cond_beq (fun hk8 => ?_) (fun hk8 => ?_)
            · conv => whnf
              refine ⟨fun _ => none, _, (fun _ _ h => by cases h), SubB.refl _, ?_⟩
              conv => whnf
              refine copied27 hg (hvd.by8.sub (hL _ (Has.tail hg))) (by8_one _) hbo.1 fun s g1 hg1 => ?_
              conv => whnf
              refine ⟨⟨(fun _ _ h => by cases h), SubB.refl _⟩, ?_⟩
              conv => whnf
              refine edit28i o.sector o.at_ o.data (by omega) hg1.swap (fun g' hg' => (Has.get (L := WnP 1 s o.data.length (o.data.map by8) :: L) hg' 0 rfl fun _ _ => WnP.sub).vw) fun g2 hg2 => ?_
              conv => whnf
              exact fin _ _ _ _ rfl rfl rfl (by rw [edit_cache]; omega) (Has.tail hg2.swap)
            · conv => whnf
              exact fin _ _ _ _ rfl rfl rfl (by omega) hg
  · have hkl : k = l.length := by omega
    subst hkl
    conv => whnf
    refine hK4 _ _ _ ?_
    conv => whnf
    exact hq _ _ _ hcl hg

end
end Go.Proofs.Ytpkleblggehghaa.V
