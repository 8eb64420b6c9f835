/- Seat 04: both disks at the end. -/
import Derived.Test.YtpkleblggehghaaD36
import Derived.Test.YtpkleblggehghaaE12
namespace Go.Proofs.Ytpkleblggehghaa.V
set_option linter.unusedVariables false
set_option linter.unusedSimpArgs false
set_option linter.unusedSectionVars false
set_option linter.unusedSectionVars false
open Go

def opZ (k n : Int) : OpD := ⟨k, false, n, 0, [], false, []⟩
def nilS : Value := .slice none 0 0

section
variable {h : Hp} {Q : Value → Hp → Prop} {L : List As} {p q : Nat} {d : Dk} {r : Rd}

theorem askedZ (k n : Int) (hh : Has (DkP p d :: RfP q r :: L) h) (hrel : Rel d r) (hc1 : d.cache.length ≤ 2 ^ 38) (hc2 : r.landed.length ≤ 2 ^ 38) (hq : ∀ h', Has (DkP p d :: RfP q r :: L) h' → Q (.bool true) h') : Ok PR 58 [ptr p, ptr q, .agg #[iv k, .bool false, iv n, iv 0, .slice none 0 0, .bool false, .slice none 0 0]] h Q :=
  asked58 (o := opZ k n) (vd := .slice none 0 0) (vk := .slice none 0 0) hh hrel (fun y hy => by cases hy) (Nat.zero_le _) (fun g _ => vw_nil 1 g) hc1 hc2 hq

set_option maxRecDepth 20000 in
theorem ends42 {h0 : Hp} {a : Value} {l : List OpD} (hh : Has (DkP p d :: RfP q r :: L) h) (hL : ∀ g, Has L g → SubH h0 g) (hs : SlR 7 OpR h0 [a] l) (hl : l.length ≤ 2 ^ 30) (hrel : Rel d r) (hc1 : d.cache.length ≤ 2 ^ 38) (hc2 : r.landed.length ≤ 2 ^ 38)
    (hq : ∀ h', Has (DkP p d :: RfP q r :: L) h' → Q (.bool true) h') : Ok PR 42 [ptr p, ptr q, a] h Q := by
  obtain ⟨base, cap, hcs, hlc, hbn, hat⟩ := hs
  cases hcs
  refine e42 rfl ?_
  refine seq_step fun K hK => ?_
  conv => whnf
  refine hK _ _ _ (seq_step fun K1 hK1 => ?_)
  refine seq_step fun K2 hK2 => ?_
  conv => whnf
  refine askedZ 4 0 hh hrel hc1 hc2 fun h1 hh1 => ?_
  conv => whnf
  refine askedZ 6 0 hh1 hrel hc1 hc2 fun h2 hh2 => ?_
  conv => whnf
  refine askedZ 10 0 hh2 hrel hc1 hc2 fun h3 hh3 => ?_
  conv => whnf
  refine hK2 _ _ _ ?_
  conv => whnf
  refine hK1 _ _ _ (seq_step fun K3 hK3 => ?_)
  refine seq_step fun K4 hK4 => ?_
  conv => whnf
  refine hK4 _ _ _ ?_
  refine loop_intro (σ := Nat × Hp) (fun x => [(7, .v (iv x.1)), (0, .v (ptr p)), (1, .v (ptr q)), (2, .v (.slice base l.length cap))]) (fun _ => []) (fun x => x.2)
    (fun x => x.1 ≤ l.length + 2 ∧ Has (DkP p d :: RfP q r :: L) x.2) (fun x => l.length + 2 - x.1) (0, h3) ⟨Nat.zero_le _, hh3⟩
    ⟨rfl, rfl, rfl, rfl, trivial⟩ subB_nil rfl ?_
  clear hh hh1 hh2 hh3
  rintro ⟨k, g⟩ ⟨hkl, hg⟩
  dsimp only at hkl hg ⊢
  refine seq_step fun K5 hK5 => ?_
  refine seq_step fun K6 hK6 => ?_
  conv => whnf
  rw [show IntKind.i64.wrap ((l.length : Int) + 2) = ((l.length + 2 : Nat) : Int) by rw [wrap_i64 (by omega) (by omega)]; omega]
  refine hK6 _ _ _ ?_
  conv => whnf
  refine cond_dec (fun hlt => ?_) (fun hlt => ?_)
  · conv => whnf
    refine hK5 _ _ _ (seq_step fun K7 hK7 => ?_)
    refine cut_intro (σ := Int) (fun x => [(8, .v (iv x)), (7, .v (iv k)), (0, .v (ptr p)), (1, .v (ptr q)), (2, .v (.slice base l.length cap))]) (fun _ => []) (fun _ => g) (fun _ => True) ?_ ?_
    · refine seq_step fun K8 hK8 => ?_
      conv => whnf
      refine hK8 _ _ _ ?_
      conv => whnf
      refine cond_dec (fun hlt2 => ?_) (fun hlt2 => ?_)
      · obtain ⟨b, off, c, ty, z, vs, hbe, hb0, hR, hvl, hsz, hcc⟩ := hat k l[k] (List.getElem?_eq_getElem (by omega))
        cases hbe
        generalize l[k] = o at hR
        obtain ⟨_, _, hi, vd, vk, hvd, hvk, rfl⟩ := hR.cells
        have hgb : g b = some (.cells c ty z) := hL g hg.tail.tail _ _ hb0
        conv => whnf
        refine opt_if ⟨by omega, by omega⟩ ?_
        conv => whnf
        refine opt_ld hgb (v := iv o.sector) (by have := hcc 2 (iv o.sector) rfl; rw [show off + (k : Int).toNat * 7 + 2 = off + k * 7 + 2 by omega]; exact this) ?_
        conv => whnf
        exact ⟨o.sector, trivial, ⟨rfl, rfl, rfl, rfl, rfl, trivial⟩, subB_nil, rfl⟩
      · conv => whnf
        exact ⟨_, trivial, ⟨rfl, rfl, rfl, rfl, rfl, trivial⟩, subB_nil, rfl⟩
    · intro n _
      refine seq_step fun K8 hK8 => ?_
      conv => whnf
      refine askedZ 1 n hg hrel hc1 hc2 fun g1 hg1 => ?_
      conv => whnf
      refine askedZ 9 n hg1 hrel hc1 hc2 fun g2 hg2 => ?_
      conv => whnf
      refine hK8 _ _ _ ?_
      conv => whnf
      refine hK7 _ _ _ ?_
      conv => whnf
      exact ⟨(k + 1, g2), ⟨(show k + 1 ≤ l.length + 2 by omega), hg2⟩, (by show l.length + 2 - (k + 1) < l.length + 2 - k; omega), ⟨int_eq (wrap_nat (by omega)) rfl, rfl, rfl, rfl, trivial⟩, subB_nil, rfl⟩
  · conv => whnf
    refine hK3 _ _ _ ?_
    conv => whnf
    exact hq _ hg

end
end Go.Proofs.Ytpkleblggehghaa.V

/- Seat 04: DiskPlays: two disks side by side. -/
namespace Go.Proofs.Ytpkleblggehghaa.V
set_option linter.unusedVariables false
set_option linter.unusedSectionVars false
open Go

theorem SlR.r8 {h : Hp} {v : Value} {l : List Int} (hs : SlR 1 byR h [v] l) : R8 l := by
  obtain ⟨a, cap, h1, h2, h3, h4⟩ := hs
  intro y hy
  obtain ⟨i, hi⟩ := List.getElem?_of_mem hy
  obtain ⟨b, off, c, ty, z, vs, _, _, k3, _⟩ := h4 i y hi
  have := k3.2
  simp only [Lit.wf, Bool.and_eq_true, decide_eq_true_eq] at this
  have e1 : IntKind.u8.min = 0 := by decide
  have e2 : IntKind.u8.max = 255 := by decide
  omega

theorem script_ok2 (l : List OpD) (h : sumB (fun o => o.data.length + o.keep.length + 1) l + 1 ≤ 1048576) : ∀ o ∈ l, o.data.length ≤ 2 ^ 30 ∧ o.keep.length ≤ 2 ^ 30 := fun o ho => by
  have := sumB_mem (B := fun o : OpD => o.data.length + o.keep.length + 1) ho
  omega

structure Two where
  k : Nat
  p1 : Nat
  q1 : Nat
  p2 : Nat
  q2 : Nat
  d1 : Dk
  d2 : Dk
  r1 : Rd
  r2 : Rd
  h : Hp

structure Two.inv (h0 : Hp) (n : Nat) (s : Two) : Prop where
  le : s.k ≤ n
  rel1 : Rel s.d1 s.r1
  rel2 : Rel s.d2 s.r2
  n1 : s.r1.landed.length + s.r1.waiting.length ≤ s.k + 1024
  n2 : s.r2.landed.length + s.r2.waiting.length ≤ s.k + 1024
  has : Has [DkP s.p1 s.d1, RfP s.q1 s.r1, DkP s.p2 s.d2, RfP s.q2 s.r2, Is h0] s.h

section
variable {h : Hp} {Q : Value → Hp → Prop}

set_option maxRecDepth 20000 in
theorem law9 {a0 : Value} {l : List OpD} (hs0 : SlR 7 OpR h [a0] l) (hb : ∀ o ∈ l, o.data.length ≤ 2 ^ 30 ∧ o.keep.length ≤ 2 ^ 30) (hl : l.length ≤ 2 ^ 30)
    (hq : ∀ h', SubH h h' → Q (.bool true) h') : Ok PR 9 [a0] h Q := by
  obtain ⟨N, hN⟩ : ∃ N : Nat, N = 131072 := ⟨_, rfl⟩
  obtain ⟨base, cap, hcs, hlc, hbn, hat⟩ := id hs0
  cases hcs
  refine e9 rfl ?_
  refine seq_step fun K hK => ?_
  conv => whnf
  refine hK _ _ _ (seq_step fun K1 hK1 => ?_)
  conv => whnf
  refine new37 (Has.start h) fun p1 h1 hh1 => ?_
  conv => whnf
  refine hK1 _ _ _ (seq_step fun K2 hK2 => ?_)
  conv => whnf
  refine new37 hh1 fun p2 h2 hh2 => ?_
  conv => whnf
  refine hK2 _ _ _ (seq_step fun K3 hK3 => ?_)
  refine seq_step fun K4 hK4 => ?_
  conv => whnf
  refine hK4 _ _ _ ?_
  conv => whnf
  refine hK3 _ _ _ (seq_step fun K5 hK5 => ?_)
  conv => whnf
  refine new38 hh2 fun q1 h3 hh3 => ?_
  conv => whnf
  refine hK5 _ _ _ (seq_step fun K6 hK6 => ?_)
  conv => whnf
  refine new38 hh3 fun q2 h4 hh4 => ?_
  conv => whnf
  refine hK6 _ _ _ (seq_step fun K7 hK7 => ?_)
  refine seq_step fun K8 hK8 => ?_
  conv => whnf
  refine hK8 _ _ _ ?_
  have hh5 : Has [DkP p1 dk0, RfP q1 rd0, DkP p2 dk0, RfP q2 rd0, Is h] h4 := ((hh4.pull 2 rfl).pull 2 rfl).pull 3 rfl
  refine loop_intro (σ := Two) (fun s => [(7, .v (iv s.k)), (3, .v (ptr s.p1)), (4, .v (ptr s.p2)), (5, .v (ptr s.q1)), (6, .v (ptr s.q2)), (0, .v (.slice base l.length cap))]) (fun _ => []) (fun s => s.h)
    (Two.inv h l.length) (fun s => l.length - s.k) ⟨0, p1, q1, p2, q2, dk0, dk0, rd0, rd0, h4⟩ ⟨Nat.zero_le _, rel0, rel0, Nat.zero_le _, Nat.zero_le _, hh5⟩
    ⟨rfl, rfl, rfl, rfl, rfl, rfl, trivial⟩ subB_nil rfl ?_
  clear hh1 hh2 hh3 hh4 hh5
  rintro ⟨k, p1, q1, p2, q2, d1, d2, r1, r2, g⟩ ⟨hkl, hr1, hr2, hn1, hn2, hg⟩
  dsimp only at hkl hr1 hr2 hn1 hn2 hg ⊢
  refine seq_step fun K9 hK9 => ?_
  refine seq_step fun K10 hK10 => ?_
  conv => whnf
  refine hK10 _ _ _ ?_
  conv => whnf
  refine cond_dec (fun hlt => ?_) (fun hlt => ?_)
  · obtain ⟨b, off, c, ty, z, vs, hbe, hb0, hR, hvl, hsz, hcc⟩ := hat k l[k] (List.getElem?_eq_getElem (by omega))
    cases hbe
    have hbo := hb l[k] (List.getElem_mem ..)
    generalize l[k] = o at hR hbo
    obtain ⟨_, _, hi, vd, vk, hvd, hvk, rfl⟩ := hR.cells
    have hgb : g b = some (.cells c ty z) := hg.is 4 rfl _ _ hb0
    have hok1 := (DkP.opn hg).1
    have hrk1 := (RfP.opn (hg.pull 1 rfl)).1
    have hok2 := (DkP.opn (hg.pull 2 rfl)).1
    have hrk2 := (RfP.opn (hg.pull 3 rfl)).1
    have hkk : k * 7 + 7 ≤ l.length * 7 := by omega
    conv => whnf
    refine hK9 _ _ _ (seq_step fun K11 hK11 => ?_)
    refine seq_step fun K12 hK12 => ?_
    conv => whnf
    refine opt_if ⟨by omega, by omega⟩ ?_
    conv => whnf
    refine opt_ld hgb (v := .agg (opV o vd vk).toArray) (agg_rd rfl (by omega) fun j v hj => ?_) ?_
    · have := hcc j v hj
      rwa [show off + (k : Int).toNat * 7 + j = off + k * 7 + j by omega]
    conv => whnf
    refine opt_stL rfl rfl rfl (opV_one hvd hvk) ?_
    conv => whnf
    refine hK12 _ _ _ (seq_step fun K13 hK13 => ?_)
    refine seq_step fun K14 hK14 => ?_
    conv => whnf
    refine hK14 _ _ _ ?_
    refine cond_beq (fun hk => ?_) (fun hk => ?_)
    · -- a new disk
      refine seq_step fun K15 hK15 => ?_
      conv => whnf
      refine new37 hg fun p3 g1 hg1 => ?_
      conv => whnf
      refine hK15 _ _ _ (seq_step fun K16 hK16 => ?_)
      conv => whnf
      refine hK16 _ _ _ ?_
      refine seq_step fun K17 hK17 => ?_
      refine seq_step fun K18 hK18 => ?_
      conv => whnf
      refine hK18 _ _ _ ?_
      refine cond_split (fun ht => ?_) (fun ht => ?_)
      · refine seq_step fun K19 hK19 => ?_
        conv => whnf
        refine hK19 _ _ _ ?_
        conv => whnf
        refine new38 hg1 fun q3 g2 hg2 => ?_
        conv => whnf
        refine hK17 _ _ _ ?_
        conv => whnf
        refine hK11 _ _ _ ?_
        conv => whnf
        exact ⟨⟨k + 1, p1, q1, p3, q3, d1, dk0, r1, rd0, g2⟩, ⟨(show k + 1 ≤ l.length by omega), hr1, rel0, by show r1.landed.length + r1.waiting.length ≤ k + 1 + 1024; omega, Nat.zero_le _, ((((hg2.erase 4).erase 4).pull 1 rfl).pull 3 rfl).pull 3 rfl⟩, (by show l.length - (k + 1) < l.length - k; omega), ⟨int_eq (wrap_nat (by omega)) rfl, rfl, rfl, rfl, rfl, rfl, trivial⟩, subB_nil, rfl⟩
      · refine seq_step fun K19 hK19 => ?_
        conv => whnf
        refine hK19 _ _ _ ?_
        conv => whnf
        refine new38 hg1 fun q3 g2 hg2 => ?_
        conv => whnf
        refine hK17 _ _ _ ?_
        conv => whnf
        refine hK11 _ _ _ ?_
        conv => whnf
        exact ⟨⟨k + 1, p3, q3, p2, q2, dk0, d2, rd0, r2, g2⟩, ⟨(show k + 1 ≤ l.length by omega), rel0, hr2, Nat.zero_le _, by show r2.landed.length + r2.waiting.length ≤ k + 1 + 1024; omega, ((hg2.erase 2).erase 2).swap⟩, (by show l.length - (k + 1) < l.length - k; omega), ⟨int_eq (wrap_nat (by omega)) rfl, rfl, rfl, rfl, rfl, rfl, trivial⟩, subB_nil, rfl⟩
    conv => whnf
    refine hK13 _ _ _ (seq_step fun K15 hK15 => ?_)
    refine seq_step fun K16 hK16 => ?_
    conv => whnf
    refine hK16 _ _ _ ?_
    refine cond_beq (fun hk => ?_) (fun hk => ?_)
    · -- carried
      refine seq_step fun K17 hK17 => ?_
      refine seq_step fun K18 hK18 => ?_
      conv => whnf
      refine hK18 _ _ _ ?_
      refine cond_split (fun ht => ?_) (fun ht => ?_)
      · refine seq_step fun K19 hK19 => ?_
        conv => whnf
        refine medium35N hN hg fun s1 g1 hg1 => ?_
        conv => whnf
        refine of36N hN hg1 (fun g hg => hg.wn 0 rfl) fun p3 g2 hg2 => ?_
        conv => whnf
        refine hK19 _ _ _ (seq_step fun K20 hK20 => ?_)
        refine seq_step fun K21 hK21 => ?_
        conv => whnf
        refine hK21 _ _ _ ?_
        conv => whnf
        refine hK20 _ _ _ (seq_step fun K22 hK22 => ?_)
        conv => whnf
        refine hK22 _ _ _ ?_
        conv => whnf
        have e1 := medR hN hok1.med hrk1 hr1
        have hr8 : R8 (medB d1.med) := by rw [e1]; exact R8.flatP hr1.r8l (r8_zero _)
        refine medium40 hN (hg2.pull 3 rfl) (by omega) fun s2 g3 hg3 => ?_
        rw [← e1] at hg3
        conv => whnf
        refine of39 hN hr8 hg3 (fun g hg => hg.wn 0 rfl) fun q3 g4 hg4 => ?_
        conv => whnf
        refine hK17 _ _ _ ?_
        conv => whnf
        refine hK11 _ _ _ ?_
        conv => whnf
        have hro := relOf hr8
        have hon : (ofR (medB d1.med) 1024).landed.length + (ofR (medB d1.med) 1024).waiting.length ≤ 1024 := ofL_len _ 1024
        refine ⟨⟨k + 1, p1, q1, p3, q3, d1, ofD (medB d1.med) 1024, r1, ofR (medB d1.med) 1024, g4⟩, ⟨(show k + 1 ≤ l.length by omega), hr1, hro, by show r1.landed.length + r1.waiting.length ≤ k + 1 + 1024; omega, Nat.le_trans hon (Nat.le_add_left _ _), ((((((hg4.erase 1).erase 3).erase 4).erase 4).pull 2 rfl).pull 2 rfl).pull 3 rfl⟩, (by show l.length - (k + 1) < l.length - k; omega), ⟨int_eq (wrap_nat (by omega)) rfl, rfl, rfl, rfl, rfl, rfl, trivial⟩, subB_nil, rfl⟩
      · refine seq_step fun K19 hK19 => ?_
        conv => whnf
        refine medium35N hN (hg.pull 2 rfl) fun s1 g1 hg1 => ?_
        conv => whnf
        refine of36N hN hg1 (fun g hg => hg.wn 0 rfl) fun p3 g2 hg2 => ?_
        conv => whnf
        refine hK19 _ _ _ (seq_step fun K20 hK20 => ?_)
        refine seq_step fun K21 hK21 => ?_
        conv => whnf
        refine hK21 _ _ _ ?_
        conv => whnf
        refine hK20 _ _ _ (seq_step fun K22 hK22 => ?_)
        conv => whnf
        refine hK22 _ _ _ ?_
        conv => whnf
        have e1 := medR hN hok2.med hrk2 hr2
        have hr8 : R8 (medB d2.med) := by rw [e1]; exact R8.flatP hr2.r8l (r8_zero _)
        refine medium40 hN (hg2.pull 5 rfl) (by omega) fun s2 g3 hg3 => ?_
        rw [← e1] at hg3
        conv => whnf
        refine of39 hN hr8 hg3 (fun g hg => hg.wn 0 rfl) fun q3 g4 hg4 => ?_
        conv => whnf
        refine hK17 _ _ _ ?_
        conv => whnf
        refine hK11 _ _ _ ?_
        conv => whnf
        have hro := relOf hr8
        have hon : (ofR (medB d2.med) 1024).landed.length + (ofR (medB d2.med) 1024).waiting.length ≤ 1024 := ofL_len _ 1024
        refine ⟨⟨k + 1, p3, q3, p2, q2, ofD (medB d2.med) 1024, d2, ofR (medB d2.med) 1024, r2, g4⟩, ⟨(show k + 1 ≤ l.length by omega), hro, hr2, Nat.le_trans hon (Nat.le_add_left _ _), by show r2.landed.length + r2.waiting.length ≤ k + 1 + 1024; omega, (((((((hg4.erase 1).erase 3).erase 4).erase 4).pull 1 rfl).pull 3 rfl).pull 2 rfl).pull 3 rfl⟩, (by show l.length - (k + 1) < l.length - k; omega), ⟨int_eq (wrap_nat (by omega)) rfl, rfl, rfl, rfl, rfl, rfl, trivial⟩, subB_nil, rfl⟩
    conv => whnf
    refine hK15 _ _ _ (seq_step fun K17 hK17 => ?_)
    conv => whnf
    refine hK17 _ _ _ ?_
    refine cut_intro (σ := Bool) (fun t => [(14, .v (ptr (if t then p2 else p1))), (15, .v (ptr (if t then q2 else q1))), (7, .v (iv k)), (8, .l 8 0), (3, .v (ptr p1)), (4, .v (ptr p2)), (5, .v (ptr q1)), (6, .v (ptr q2)), (0, .v (.slice (some ⟨b, off, none⟩) l.length cap))]) (fun _ => [(8, opV o vd vk)]) (fun _ => g) (fun _ => True) ?_ ?_
    · refine seq_step fun K18 hK18 => ?_
      conv => whnf
      refine hK18 _ _ _ ?_
      refine cond_split (fun ht => ?_) (fun ht => ?_)
      · conv => whnf
        exact ⟨true, trivial, ⟨rfl, rfl, rfl, rfl, rfl, rfl, rfl, rfl, rfl, trivial⟩, ⟨rfl, trivial⟩, rfl⟩
      · conv => whnf
        exact ⟨false, trivial, ⟨rfl, rfl, rfl, rfl, rfl, rfl, rfl, rfl, rfl, trivial⟩, ⟨rfl, trivial⟩, rfl⟩
    · rintro (_ | _) _
      · refine seq_step fun K18 hK18 => ?_
        conv => whnf
        show Ok PR 41 [ptr p1, ptr q1, .agg (opV o vd vk).toArray] g _
        refine played41 (B := k + 1024) hg hr1 hvd.r8 hbo.1 hbo.2 (by assumption) (fun g hg => hvd.by8.sub (hg.is 2 rfl)) (fun g hg => hvk.bo.sub (hg.is 2 rfl)) (by omega) hn1 fun d3 r3 g1 hr3 hn3 hg1 => ?_
        conv => whnf
        refine hK18 _ _ _ ?_
        conv => whnf
        refine hK11 _ _ _ ?_
        conv => whnf
        refine ⟨⟨k + 1, p1, q1, p2, q2, d3, d2, r3, r2, g1⟩, ⟨(show k + 1 ≤ l.length by omega), hr3, hr2, by show r3.landed.length + r3.waiting.length ≤ k + 1 + 1024; omega, by show r2.landed.length + r2.waiting.length ≤ k + 1 + 1024; omega, hg1⟩, (by show l.length - (k + 1) < l.length - k; omega), ⟨int_eq (wrap_nat (by omega)) rfl, rfl, rfl, rfl, rfl, rfl, trivial⟩, subB_nil, rfl⟩
      · refine seq_step fun K18 hK18 => ?_
        conv => whnf
        show Ok PR 41 [ptr p2, ptr q2, .agg (opV o vd vk).toArray] g _
        refine played41 (B := k + 1024) (((hg.pull 2 rfl).pull 3 rfl).swap) hr2 hvd.r8 hbo.1 hbo.2 (by assumption) (fun g hg => hvd.by8.sub (hg.is 2 rfl)) (fun g hg => hvk.bo.sub (hg.is 2 rfl)) (by omega) hn2 fun d3 r3 g1 hr3 hn3 hg1 => ?_
        conv => whnf
        refine hK18 _ _ _ ?_
        conv => whnf
        refine hK11 _ _ _ ?_
        conv => whnf
        refine ⟨⟨k + 1, p1, q1, p2, q2, d1, d3, r1, r3, g1⟩, ⟨(show k + 1 ≤ l.length by omega), hr1, hr3, by show r1.landed.length + r1.waiting.length ≤ k + 1 + 1024; omega, by show r3.landed.length + r3.waiting.length ≤ k + 1 + 1024; omega, ((hg1.pull 2 rfl).pull 3 rfl).swap⟩, (by show l.length - (k + 1) < l.length - k; omega), ⟨int_eq (wrap_nat (by omega)) rfl, rfl, rfl, rfl, rfl, rfl, trivial⟩, subB_nil, rfl⟩
  · have hkl : k = l.length := by omega
    subst hkl
    conv => whnf
    refine hK7 _ _ _ (seq_step fun K11 hK11 => ?_)
    conv => whnf
    refine ends42 hg (fun g hg => hg.is 2 rfl) hs0 hl hr1 (by have := hr1.len; omega) (by omega) fun g1 hg1 => ?_
    conv => whnf
    refine ends42 (((hg1.pull 2 rfl).pull 3 rfl).swap) (fun g hg => hg.is 2 rfl) hs0 hl hr2 (by have := hr2.len; omega) (by omega) fun g2 hg2 => ?_
    conv => whnf
    refine hK11 _ _ _ ?_
    conv => whnf
    exact hq _ (hg2.is 4 rfl)

end
end Go.Proofs.Ytpkleblggehghaa.V
