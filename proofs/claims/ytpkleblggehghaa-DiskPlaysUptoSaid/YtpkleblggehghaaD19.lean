/- Seat 04: DiskEdits. -/
import Derived.Test.YtpkleblggehghaaD18
import Derived.Test.YtpkleblggehghaaE5
import Derived.Test.YtpkleblggehghaaD16
namespace Go.Proofs.Ytpkleblggehghaa.V
set_option linter.unusedVariables false
set_option linter.unusedSimpArgs false
set_option linter.unusedSectionVars false
set_option linter.unusedSectionVars false
open Go

/-- What a touch is: calls ahead, a write, a place, bytes. -/
structure TouchD where
  ahead : List OpD
  put : PutD
  at_ : Int
  data : List Int

def TouchR (h : Hp) (cs : List Value) (o : TouchD) : Prop := ∃ va vd, SlR 7 OpR h [va] o.ahead ∧ SlR 1 byR h [vd] o.data ∧ cs = [va, iv o.put.sector, by8 o.put.byte, iv o.at_, vd]

theorem SubB.push {β β' : Bx} {r : Nat} {x : List Value} (h : lookB β r = none) (hs : SubB β β') : SubB β ((r, x) :: β') := fun t cs ht => by
  have : r ≠ t := fun e => by subst e; rw [h] at ht; cases ht
  show (if r = t then some x else lookB β' t) = some cs
  rw [if_neg this]; exact hs t cs ht

/-- The sector, of which the first k bytes of the list are laid. -/
def part (x : Sec) (n : Nat) (l : List Int) (k : Nat) : List Int := x.val.take n ++ l.take k ++ x.val.drop (n + k)

theorem part_len {x : Sec} {n : Nat} {l : List Int} {k : Nat} (hk : k ≤ l.length) (hn : n + l.length ≤ 128) : (part x n l k).length = 128 := by
  have := x.len
  simp only [part, List.length_append, List.length_take, List.length_drop]
  omega

theorem part_set {x : Sec} {n : Nat} {l : List Int} {k : Nat} {y : Int} (hy : l[k]? = some y) (hn : n + l.length ≤ 128) : (part x n l k).set (n + k) y = part x n l (k + 1) := by
  have hk := (List.getElem?_eq_some_iff.1 hy).1
  have hyk := (List.getElem?_eq_some_iff.1 hy).2
  have hx := x.len
  unfold part
  have e1 : (x.val.take n ++ l.take k).length = n + k := by simp only [List.length_append, List.length_take]; omega
  rw [List.set_append_right _ _ (by omega), e1, Nat.sub_self]
  have e2 : x.val.drop (n + k) = x.val[n + k] :: x.val.drop (n + k + 1) := (List.drop_eq_getElem_cons (by omega))
  have e3 : l.take (k + 1) = l.take k ++ [y] := by rw [List.take_succ_eq_append_getElem hk, hyk]
  rw [e2, e3, List.set_cons_zero]
  simp only [List.append_assoc, List.singleton_append, List.cons_append, List.nil_append, Nat.add_assoc]

theorem part_all {x : Sec} {n : Nat} {l : List Int} (hn : n + l.length ≤ 128) : part x n l l.length = (x.lay n l).val := by
  unfold Sec.lay part
  rw [dif_pos hn, List.take_length]
  rfl

theorem drM_none {m : List Sec} {l : List (Int × Sec)} {keep : Nat → Bool} (hk : ∀ i, keep i = false) : ∀ k, drM m l keep k = m
  | 0 => rfl
  | k + 1 => by
    simp only [drM, hk]
    split
    · exact drM_none hk k
    · exact drM_none hk k

theorem lk_nil {d : Dk} (h : d.cache = []) (n : Int) : d.lk n = d.med.getD (plc n).toNat zsec := by
  unfold Dk.lk Dk.look
  rw [h, List.getD_eq_getElem?_getD]
  rfl

theorem arm0 {d : Dk} (h : d.down = false) : d.arm 0 = (0, { d with armed := true, left := 0 }) := by
  unfold Dk.arm
  rw [if_neg (by omega), if_neg (by rw [h]; decide)]

theorem spent_flush {d : Dk} (h : d.down = false) (ha : d.armed = true) (hl : d.left = 0) : d.flush = (42, { d with down := true }) := by
  unfold Dk.flush Dk.act
  simp only [h, ha, hl, if_true, Bool.false_eq_true, if_false]

theorem rem_lt (n m : Int) (h0 : 0 < m) (h1 : m < 2 ^ 62) : 0 ≤ IntKind.i64.wrap ((IntKind.u64.wrap n).tmod m) ∧ IntKind.i64.wrap ((IntKind.u64.wrap n).tmod m) ≤ m - 1 := by
  have e64 : (2 : Int) ^ IntKind.u64.bits = 18446744073709551616 := by decide
  have h1' : 0 ≤ n % 18446744073709551616 := Int.emod_nonneg _ (by decide)
  have hu : IntKind.u64.wrap n = n % 18446744073709551616 := by
    unfold IntKind.wrap
    simp only [e64]
    rw [if_neg]
    simp [IntKind.signed]
  have g1 := Int.emod_nonneg (n % 18446744073709551616) (show m ≠ 0 by omega)
  have g2 := Int.emod_lt_of_pos (n % 18446744073709551616) h0
  rw [hu, Int.tmod_eq_emod_of_nonneg h1', wrap_i64 (by omega) (by omega)]
  omega

section
variable {h : Hp} {Q : Value → Hp → Prop} {L : List As} {p : Nat} {d : Dk}

theorem same2_29 (n : Int) {x : Sec} {w : Value} (hd : d.down = false) (hc : d.cache.length ≤ 2 ^ 40) (hh : Has (DkP p d :: L) h) (h1 : d.med.getD (plc n).toNat zsec = x) (h2 : d.lk n = x) (hw : ∀ g, Has L g → Vw 1 g w 128 (rowS x))
    (hq : ∀ h', Has (DkP p d :: L) h' → Q (.bool true) h') : Ok PR 29 [ptr p, iv (plc n), w] h Q := by
  refine e29 rfl ?_
  refine seq_step fun K hK => ?_
  conv => whnf
  refine hK _ _ _ (seq_step fun K1 hK1 => ?_)
  conv => whnf
  refine raw25p n hh fun s1 g1 hg1 => ?_
  rw [h1] at hg1
  conv => whnf
  refine hK1 _ _ _ (seq_step fun K2 hK2 => ?_)
  conv => whnf
  refine read22p n hd hc (hg1.pull 1 rfl) fun s2 g2 hg2 => ?_
  rw [h2] at hg2
  conv => whnf
  refine hK2 _ _ _ ?_
  conv => whnf
  refine same26 (l := x.val) (k := x.val) (hg2.wn 2 rfl) (hw _ hg2.tail.tail.tail) fun t ht => ?_
  obtain rfl := ht rfl
  conv => whnf
  refine same26 (l := x.val) (k := x.val) (hg2.wn 0 rfl) (hw _ hg2.tail.tail.tail) fun t ht => ?_
  obtain rfl := ht rfl
  conv => whnf
  exact hq _ ((hg2.erase 0).erase 1)

set_option maxRecDepth 20000 in
theorem law5 {c0 : Array Value} {t : TouchD} (ht : TouchR h c0.toList t) (hb0 : ∀ o ∈ t.ahead, o.data.length ≤ 2 ^ 40 ∧ o.keep.length ≤ 2 ^ 40) (hl0 : t.ahead.length ≤ 2 ^ 30) (hld : t.data.length ≤ 2 ^ 30)
    (hq : ∀ h', SubH h h' → Q (.bool true) h') : Ok PR 5 [.agg c0] h Q := by
  obtain ⟨va, vd, hs0, hsd, hcs⟩ := ht
  obtain ⟨ahead, ⟨sector, byte⟩, at_, data⟩ := t
  dsimp only at hs0 hsd hcs hb0 hl0 hld
  obtain rfl : c0 = #[va, iv sector, by8 byte, iv at_, vd] := by rw [← Array.toArray_toList (xs := c0), hcs]
  clear hcs
  have hvd : ∀ g, SubH h g → Vw 1 g vd data.length (data.map by8) := fun g hg => hsd.by8.sub hg
  refine e5 rfl ?_
  refine seq_step fun K hK => ?_
  conv => whnf
  refine hK _ _ _ (seq_step fun K1 hK1 => ?_)
  conv => whnf
  refine fresh11 (Has.start h) (fun g hg => hg.is 0 rfl) hs0 hb0 hl0 fun q d0 h1 hcl hh1 => ?_
  conv => whnf
  refine hK1 _ _ _ (seq_step fun K2 hK2 => ?_)
  conv => whnf
  refine ⟨fun _ => none, _, (fun _ _ h => by cases h), SubB.refl _, ?_⟩
  conv => whnf
  refine ⟨rfl, ?_⟩
  conv => whnf
  refine ⟨fun _ => none, _, ⟨(fun _ _ h => by cases h), SubB.refl _⟩, (fun _ _ h => by cases h), SubB.push rfl (SubB.refl _), ?_⟩
  conv => whnf
  refine ⟨⟨(fun _ _ h => by cases h), SubB.push rfl (SubB.push rfl (SubB.refl _))⟩, ?_⟩
  conv => whnf
  refine hK2 _ _ _ (seq_step fun K3 hK3 => ?_)
  refine seq_step fun K4 hK4 => ?_
  conv => whnf
  refine hK4 _ _ _ ?_
  conv => whnf
  refine hK3 _ _ _ (seq_step fun K5 hK5 => ?_)
  conv => whnf
  refine place16 _ ?_
  conv => whnf
  refine hK5 _ _ _ (seq_step fun K6 hK6 => ?_)
  conv => whnf
  have haw : 0 ≤ IntKind.i64.wrap ((IntKind.u64.wrap at_).tmod 129) ∧ IntKind.i64.wrap ((IntKind.u64.wrap at_).tmod 129) ≤ 128 := rem_lt at_ 129 (by omega) (by omega)
  generalize IntKind.i64.wrap ((IntKind.u64.wrap at_).tmod 129) = aw at haw
  refine hK6 _ _ _ (seq_step fun K7 hK7 => ?_)
  conv => whnf
  refine copied27 hh1 (hvd _ (hh1.is 1 rfl)) (by8_one _) (by omega) fun s2 h2 hh2 => ?_
  obtain ⟨bs2, cp2, hs2⟩ := hh2.slv 0 rfl
  subst hs2
  conv => whnf
  refine hK7 _ _ _ ?_
  obtain ⟨m, hm⟩ : ∃ m : Nat, (128 - aw) = (m : Int) := ⟨(128 - aw).toNat, by omega⟩
  have hlm : (data.take m).length = min m data.length := List.length_take ..
  refine cut_intro (σ := Value × Hp) (fun s => [(3, .v (ptr q)), (4, .l 4 0), (7, .v (iv (plc sector))), (5, .v (iv aw)), (6, .v s.1)]) (fun _ => [(4, [iv sector, by8 byte])]) (fun s => s.2)
    (fun s => Has [WnP 1 s.1 (data.take m).length ((data.take m).map by8), DkP q d0, Is h] s.2) ?_ ?_
  · have hW : WnP 1 (.slice bs2 data.length cp2) data.length (data.map by8) h2 := Has.get (L := [_, DkP q d0, Is h]) hh2 0 rfl fun _ _ => WnP.sub
    refine seq_step fun K8 hK8 => ?_
    have hwr : IntKind.i64.wrap (128 - aw) = (m : Int) := by rw [hm, wrap_i64 (by omega) (by omega)]
    conv => whnf
    rw [hwr]
    refine hK8 _ _ _ ?_
    conv => whnf
    refine cond_dec (fun hgt => ?_) (fun hgt => ?_)
    · obtain ⟨base', cap', e1, e2, e3⟩ := hW.val
      cases e1
      cases hbs : bs2 with
      | none => have := e3 hbs; omega
      | some ad =>
        obtain ⟨b, o, sp⟩ := ad
        subst hbs
        obtain ⟨b', o', c, ty, z, cap'', e4, _⟩ := hW.vw.at (i := 0) (by omega)
        cases e4
        conv => whnf
        rw [hwr]
        refine opt_some (slS_hi (hi := m) (by omega)) ?_
        conv => whnf
        refine ⟨(.slice (some ⟨b, o, none⟩) m cp2, h2), ?_, ⟨rfl, rfl, rfl, int_eq (by omega) rfl, rfl, trivial⟩, ⟨rfl, trivial⟩, rfl⟩
        have hmm : (data.take m).length = m := by rw [List.length_take]; omega
        show Has [WnP 1 (.slice (some ⟨b, o, none⟩) m cp2) (data.take m).length ((data.take m).map by8), DkP q d0, Is h] h2
        refine Has.mono1 hh2 fun g' hg' => ?_
        have hp := hg'.part (lo := 0) (hi := m) (o2 := o) (c2 := cp2) (by omega) (by omega) (by omega) (by omega) (by omega)
        rw [hmm, List.map_take]
        simpa using hp
    · conv => whnf
      refine ⟨(.slice bs2 data.length cp2, h2), ?_, ⟨rfl, rfl, rfl, rfl, rfl, trivial⟩, ⟨rfl, trivial⟩, rfl⟩
      show Has [WnP 1 (.slice bs2 data.length cp2) (data.take m).length ((data.take m).map by8), DkP q d0, Is h] h2
      rw [List.take_of_length_le (by omega)]
      exact hh2
  · have hle : aw.toNat + (data.take m).length ≤ 128 := by omega
    generalize data.take m = dl at hle
    clear hlm hh2 hh1 hsd hvd
    rintro ⟨s, g⟩ hg
    dsimp only at hg ⊢
    clear hm
    obtain ⟨n, rfl⟩ : ∃ n : Nat, aw = (n : Int) := ⟨aw.toNat, by omega⟩
    have hle2 : n + dl.length ≤ 128 := by omega
    clear hle haw
    refine seq_step fun K8 hK8 => ?_
    conv => whnf
    refine raw25p _ (hg.pull 1 rfl) fun s1 g1 hg1 => ?_
    generalize hx : d0.med.getD (plc sector).toNat zsec = x at hg1
    obtain ⟨bs1, cp1, hs1⟩ := hg1.slv 0 rfl
    obtain ⟨b1, o1, c1, ty1, z1, cap1, he1, _⟩ := (hg1.wn 0 rfl).at (i := 0) (by omega)
    subst he1
    cases hs1
    conv => whnf
    refine hK8 _ _ _ (seq_step fun K9 hK9 => ?_)
    conv => whnf
    refine place16 _ ?_
    have hp1 := plc_lt sector
    have hw1 : IntKind.i64.wrap (plc sector + 1) = plc sector + 1 := wrap_i64 (by omega) (by omega)
    have hne : (plc (plc sector + 1)).toNat ≠ (plc sector).toNat := by
      have := plc_lt (plc sector + 1)
      unfold plc at *
      omega
    generalize hn1 : plc sector + 1 = n1 at hne hw1
    rw [hw1]
    conv => whnf
    refine raw25p _ (hg1.pull 1 rfl) fun s2 g2 hg2 => ?_
    generalize hx2 : d0.med.getD (plc n1).toNat zsec = x2 at hg2
    conv => whnf
    refine hK9 _ _ _ (seq_step fun K10 hK10 => ?_)
    refine seq_step fun K11 hK11 => ?_
    conv => whnf
    refine full17 _ hg2 fun s3 g3 hg3 => ?_
    conv => whnf
    refine write15 _ (x := one1S byte) (plc_lt _) (hg3.pull 2 rfl) (by rw [hcl.cache]; exact Nat.zero_le _) (fun g' hg' => hg'.wn 0 rfl) fun g4 hg4 => ?_
    rw [hcl.write] at hg4 ⊢
    conv => whnf
    refine hK11 _ _ _ ?_
    conv => whnf
    refine hK10 _ _ _ ?_
    clear hK hK1 hK2 hK3 hK4 hK5 hK6 hK7 hK8 hK9 hK10 hK11
    have hg5 : Has [DkP q { d0 with acts := IntKind.i64.wrap (d0.acts + 1), cache := [(plc sector, one1S byte)] }, WnP 1 s2 128 (rowS x2), WnP 1 (.slice (some ⟨b1, o1, none⟩) 128 cp1) 128 (rowS x), WnP 1 s dl.length (dl.map by8), Is h] g4 := hg4.erase 1
    clear hg4 hg3 hg2 hg1 hg
    have hd1 : ({ d0 with acts := IntKind.i64.wrap (d0.acts + 1), cache := [(plc sector, one1S byte)] } : Dk).down = false := hcl.down
    have ha1 : ({ d0 with acts := IntKind.i64.wrap (d0.acts + 1), cache := [(plc sector, one1S byte)] } : Dk).armed = false := hcl.armed
    have hc1 : ({ d0 with acts := IntKind.i64.wrap (d0.acts + 1), cache := [(plc sector, one1S byte)] } : Dk).cache = [(plc sector, one1S byte)] := rfl
    have hm1 : ({ d0 with acts := IntKind.i64.wrap (d0.acts + 1), cache := [(plc sector, one1S byte)] } : Dk).med = d0.med := rfl
    generalize ({ d0 with acts := IntKind.i64.wrap (d0.acts + 1), cache := [(plc sector, one1S byte)] } : Dk) = d1 at hg5 hd1 ha1 hc1 hm1
    refine cut_intro (σ := Dk × Hp) (fun s' => [(3, .v (ptr q)), (4, .l 4 0), (7, .v (iv (plc sector))), (5, .v (iv n)), (6, .v s), (8, .v (.slice (some ⟨b1, o1, none⟩) 128 cp1)), (10, .v s2)]) (fun _ => [(4, [iv sector, by8 byte])]) (fun s => s.2)
      (fun s' => s'.1.cache = [(plc sector, one1S byte)] ∧ s'.1.med = d0.med ∧ s'.1.down = (byte.tmod 2 == 1) ∧ (s'.1.down = false → s'.1.armed = false) ∧ Has [DkP q s'.1, WnP 1 s2 128 (rowS x2), WnP 1 (.slice (some ⟨b1, o1, none⟩) 128 cp1) 128 (rowS x), WnP 1 s dl.length (dl.map by8), Is h] s'.2) ?_ ?_
    · refine seq_step fun K1 hK1 => ?_
      conv => whnf
      generalize htb : (byte.tmod 2 == 1) = tb
      cases tb with
      | false =>
        conv => whnf
        refine hK1 _ _ _ ?_
        conv => whnf
        exact ⟨(d1, g4), ⟨hc1, hm1, hd1.trans htb.symm, fun _ => ha1, hg5⟩, ⟨rfl, rfl, rfl, rfl, rfl, rfl, rfl, trivial⟩, ⟨rfl, trivial⟩, rfl⟩
      | true =>
        conv => whnf
        refine Has.call hg5 0 rfl (arm12S 0 (by decide)) fun _ g5 hg6 => ?_
        rw [arm0 hd1] at hg6 ⊢
        conv => whnf
        refine flush14 (d := { d1 with armed := true, left := 0 }) hg6 (by show d1.cache.length ≤ _; rw [hc1]; show 1 ≤ _; omega) fun g7 hg7 => ?_
        rw [spent_flush (d := { d1 with armed := true, left := 0 }) hd1 rfl rfl] at hg7 ⊢
        conv => whnf
        refine hK1 _ _ _ ?_
        conv => whnf
        exact ⟨({ d1 with armed := true, left := 0, down := true }, g7), ⟨hc1, hm1, htb.symm, (fun h => by cases h), hg7⟩, ⟨rfl, rfl, rfl, rfl, rfl, rfl, rfl, trivial⟩, ⟨rfl, trivial⟩, rfl⟩
    · rintro ⟨d2, g5⟩ ⟨hc2, hm2, hd2, ha2, hg6⟩
      dsimp only at hc2 hm2 hd2 ha2 hg6 ⊢
      clear hg5
      refine seq_step fun K1 hK1 => ?_
      refine seq_step fun K2 hK2 => ?_
      conv => whnf
      refine edit28i (plc sector) n dl (by omega) hg6 (fun g' hg' => hg'.wn 2 rfl) fun g7 hg7 => ?_
      have hed : d2.edit (plc sector) n dl = (0, { d2 with med := d2.med.set (plc sector).toNat (x.lay n dl) }) := by
        unfold Dk.edit
        rw [if_pos (plc_lt sector), if_neg (by omega), hm2, hx]
        rfl
      rw [hed] at hg7 ⊢
      have hok2 := (DkP.opn hg6).1
      have hm3 : ({ d2 with med := d2.med.set (plc sector).toNat (x.lay n dl) } : Dk).med.getD (plc sector).toNat zsec = x.lay n dl := by
        show (d2.med.set _ _).getD _ _ = _
        rw [List.getD_eq_getElem?_getD, List.getElem?_set_self (by have := hok2.med; omega)]; rfl
      have hm4 : ({ d2 with med := d2.med.set (plc sector).toNat (x.lay n dl) } : Dk).med.getD (plc n1).toNat zsec = x2 := by
        show (d2.med.set _ _).getD _ _ = _
        rw [List.getD_eq_getElem?_getD, List.getElem?_set_ne (fun e => hne e.symm), ← List.getD_eq_getElem?_getD, hm2, hx2]
      replace hg7 : Has [DkP q { d2 with med := d2.med.set (plc sector).toNat (x.lay n dl) }, WnP 1 s2 128 (rowS x2), WnP 1 (.slice (some ⟨b1, o1, none⟩) 128 cp1) 128 (rowS x), WnP 1 s dl.length (dl.map by8), Is h] g7 := hg7
      have hd3 : ({ d2 with med := d2.med.set (plc sector).toNat (x.lay n dl) } : Dk).down = (byte.tmod 2 == 1) := hd2
      have ha3 : ({ d2 with med := d2.med.set (plc sector).toNat (x.lay n dl) } : Dk).down = false → ({ d2 with med := d2.med.set (plc sector).toNat (x.lay n dl) } : Dk).armed = false := ha2
      have hc3 : ({ d2 with med := d2.med.set (plc sector).toNat (x.lay n dl) } : Dk).cache = [(plc sector, one1S byte)] := hc2
      clear hg6 hed
      generalize ({ d2 with med := d2.med.set (plc sector).toNat (x.lay n dl) } : Dk) = d3 at hg7 hm3 hm4 hd3 ha3 hc3
      conv => whnf
      refine hK2 _ _ _ ?_
      conv => whnf
      refine hK1 _ _ _ (seq_step fun K3 hK3 => ?_)
      refine seq_step fun K4 hK4 => ?_
      conv => whnf
      refine hK4 _ _ _ ?_
      refine loop_intro (σ := Nat × Hp) (fun s' => [(12, .v (iv s'.1)), (3, .v (ptr q)), (4, .l 4 0), (7, .v (iv (plc sector))), (5, .v (iv n)), (6, .v s), (8, .v (.slice (some ⟨b1, o1, none⟩) 128 cp1)), (10, .v s2)]) (fun _ => [(4, [iv sector, by8 byte])]) (fun s => s.2)
        (fun s' => s'.1 ≤ dl.length ∧ Has [DkP q d3, WnP 1 s2 128 (rowS x2), WnP 1 (.slice (some ⟨b1, o1, none⟩) 128 cp1) 128 ((part x n dl s'.1).map by8), WnP 1 s dl.length (dl.map by8), Is h] s'.2) (fun s' => dl.length - s'.1) (0, g7) ⟨Nat.zero_le _, by
          have e : part x n dl 0 = x.val := by unfold part; simp
          show Has [_, _, WnP 1 _ 128 ((part x n dl 0).map by8), _, _] g7
          rw [e]; exact hg7⟩
        ⟨rfl, rfl, rfl, rfl, rfl, rfl, rfl, rfl, trivial⟩ ⟨rfl, trivial⟩ rfl ?_
      clear hg7 hK1 hK2
      rintro ⟨k, g⟩ ⟨hkl, hg⟩
      dsimp only at hkl hg ⊢
      obtain ⟨bs, cps, hss⟩ := hg.slv 3 rfl
      subst hss
      refine seq_step fun K5 hK5 => ?_
      refine seq_step fun K6 hK6 => ?_
      conv => whnf
      refine hK6 _ _ _ ?_
      conv => whnf
      refine cond_dec (fun hlt => ?_) (fun hlt => ?_)
      · obtain ⟨b3, o3, c3, ty3, z3, cap3, he3, hb3, hz3, hc3'⟩ := (hg.wn 3 rfl).at (i := k) (by omega)
        cases he3
        obtain ⟨y, hy⟩ : ∃ y, dl[k]? = some y := ⟨_, List.getElem?_eq_getElem (by omega)⟩
        have hw2 : IntKind.i64.wrap ((n : Int) + (k : Int)) = ((n + k : Nat) : Int) := by rw [wrap_i64 (by omega) (by omega)]; omega
        conv => whnf
        refine hK5 _ _ _ ?_
        conv => whnf
        refine opt_if ⟨by omega, by omega⟩ ?_
        conv => whnf
        refine opt_ld hb3 (v := by8 y) ?_ ?_
        · have := hc3' 0 (by8 y) (by rw [Nat.mul_one, Nat.add_zero, List.getElem?_map, hy]; rfl)
          exact this
        conv => whnf
        rw [hw2]
        refine opt_if ⟨by omega, by omega⟩ ?_
        conv => whnf
        rw [Nat.mul_one]
        refine st_hasW hg 2 rfl (k := n + k) (x := by8 y) (by omega) rfl rfl fun g1 hg1 => ?_
        conv => whnf
        refine ⟨(k + 1, g1), ⟨(show k + 1 ≤ dl.length by omega), ?_⟩, (by show dl.length - (k + 1) < dl.length - k; omega), ⟨int_eq (wrap_nat (by omega)) rfl, rfl, rfl, rfl, rfl, rfl, rfl, rfl, trivial⟩, ⟨rfl, trivial⟩, rfl⟩
        show Has [_, _, WnP 1 _ 128 ((part x n dl (k + 1)).map by8), _, _] g1
        rw [← part_set hy hle2, List.map_set]
        exact hg1
      · have hkl : k = dl.length := by omega
        subst hkl
        rw [part_all hle2] at hg
        generalize x.lay n dl = x3 at hg hm3
        replace hg : Has [DkP q d3, WnP 1 s2 128 (rowS x2), WnP 1 (.slice (some ⟨b1, o1, none⟩) 128 cp1) 128 (rowS x3), WnP 1 (.slice bs dl.length cps) dl.length (dl.map by8), Is h] g := hg
        conv => whnf
        refine hK3 _ _ _ (seq_step fun K7 hK7 => ?_)
        conv => whnf
        refine raw25p _ hg fun s5 g5 hg5 => ?_
        rw [hm3] at hg5
        conv => whnf
        refine hK7 _ _ _ (seq_step fun K8 hK8 => ?_)
        conv => whnf
        refine place16 _ ?_
        rw [hn1, hw1]
        conv => whnf
        refine raw25p _ (hg5.pull 1 rfl) fun s6 g6 hg6 => ?_
        rw [hm4] at hg6
        conv => whnf
        refine hK8 _ _ _ (seq_step fun K9 hK9 => ?_)
        refine seq_step fun K10 hK10 => ?_
        conv => whnf
        refine same26 (l := x3.val) (k := x3.val) (hg6.wn 2 rfl) (hg6.wn 4 rfl) fun t ht => ?_
        obtain rfl := ht rfl
        conv => whnf
        refine same26 (l := x2.val) (k := x2.val) (hg6.wn 0 rfl) (hg6.wn 3 rfl) fun t ht => ?_
        obtain rfl := ht rfl
        conv => whnf
        have hcl3 : d3.cache.length = 1 := by rw [hc3]; rfl
        refine pending23 (hg6.pull 1 rfl) (by omega) fun s7 g7 hg7 => ?_
        obtain ⟨bs7, cp7, hs7⟩ := hg7.slv 0 rfl
        rw [hcl3] at hs7
        subst hs7
        conv => whnf
        refine hK10 _ _ _ ?_
        conv => whnf
        have hg8 : Has [DkP q d3, WnP 1 (.slice (some ⟨b1, o1, none⟩) 128 cp1) 128 (rowS x3), Is h] g7 := ((((hg7.erase 0).erase 1).erase 1).erase 1).erase 2
        clear hg7 hg6 hg5
        refine hK9 _ _ _ (seq_step fun K11 hK11 => ?_)
        refine seq_step fun K12 hK12 => ?_
        conv => whnf
        refine hK12 _ _ _ ?_
        generalize htb : (byte.tmod 2 == 1) = tb at hd3
        cases tb with
        | true =>
          conv => whnf
          refine crash20 (l := []) hg8 (by omega) (fun g _ => vw_nil 1 g) fun g8 hg9 => ?_
          rw [hcl3, show drN (kept []) 1 = 0 from rfl]
          have e1 : (d3.crash (kept [])).med = d3.med := drM_none (fun i => by unfold kept; simp) _
          have e2 : (d3.crash (kept [])).med.getD (plc sector).toNat zsec = x3 := by rw [e1]; exact hm3
          have e3 : (d3.crash (kept [])).lk sector = x3 := (lk_nil rfl sector).trans e2
          conv => whnf
          refine same2_29 sector (x := x3) rfl (Nat.zero_le _) hg9 e2 e3 (fun g' hg' => hg'.wn 0 rfl) fun g9 hg10 => ?_
          conv => whnf
          exact hq _ (hg10.is 2 rfl)
        | false =>
          conv => whnf
          refine hK11 _ _ _ (seq_step fun K13 hK13 => ?_)
          conv => whnf
          refine read22p _ hd3 (by omega) hg8 fun s8 g8 hg9 => ?_
          have hlk : d3.lk sector = one1S byte := by
            unfold Dk.lk Dk.look
            rw [hc3]
            have : cacheAt [(plc sector, one1S byte)] ((plc sector).toNat : Int) = some (one1S byte) := by
              rw [plc_nat]
              unfold cacheAt
              simp
            rw [this]; rfl
          rw [hlk] at hg9
          conv => whnf
          refine hK13 _ _ _ (seq_step fun K14 hK14 => ?_)
          refine seq_step fun K15 hK15 => ?_
          conv => whnf
          refine full17 byte hg9 fun s9 g9 hg10 => ?_
          conv => whnf
          refine same26 (l := (one1S byte).val) (k := (one1S byte).val) (hg10.wn 1 rfl) (hg10.wn 0 rfl) fun t ht => ?_
          obtain rfl := ht rfl
          conv => whnf
          refine flush14 (hg10.pull 2 rfl) (by omega) fun g10 hg11 => ?_
          have hfl : d3.flush = (0, { d3 with acts := IntKind.i64.wrap (d3.acts + 1), med := d3.med.set (plc sector).toNat (one1S byte), cache := [] }) := by
            unfold Dk.flush
            rw [up_act hd3 (ha3 hd3)]
            show (0, Dk.drain _ _) = _
            unfold Dk.drain
            show (0, _) = _
            congr 1
            simp only [hc3, List.length_singleton, drM, List.getElem?_cons_zero, if_true]
          rw [hfl] at hg11 ⊢
          have hlm := (DkP.opn hg8).1.med
          have e2 : ({ d3 with acts := IntKind.i64.wrap (d3.acts + 1), med := d3.med.set (plc sector).toNat (one1S byte), cache := [] } : Dk).med.getD (plc sector).toNat zsec = one1S byte := by
            show (d3.med.set _ _).getD _ _ = _
            rw [List.getD_eq_getElem?_getD, List.getElem?_set_self (by omega)]; rfl
          have e3 := (lk_nil (d := { d3 with acts := IntKind.i64.wrap (d3.acts + 1), med := d3.med.set (plc sector).toNat (one1S byte), cache := [] }) rfl sector).trans e2
          conv => whnf
          refine hK15 _ _ _ ?_
          conv => whnf
          refine hK14 _ _ _ ?_
          conv => whnf
          refine full17 byte hg11 fun s10 g11 hg12 => ?_
          conv => whnf
          refine same2_29 (d := { d3 with acts := IntKind.i64.wrap (d3.acts + 1), med := d3.med.set (plc sector).toNat (one1S byte), cache := [] }) sector (x := one1S byte) hd3 (Nat.zero_le _) hg12.swap e2 e3 (fun g' hg' => hg'.wn 0 rfl) fun g12 hg13 => ?_
          conv => whnf
          exact hq _ (hg13.is 5 rfl)

end
end Go.Proofs.Ytpkleblggehghaa.V
