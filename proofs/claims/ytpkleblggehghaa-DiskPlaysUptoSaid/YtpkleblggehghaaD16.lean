/- Seat 04: DiskArmed. -/
import Derived.Test.YtpkleblggehghaaD15
import Derived.Test.YtpkleblggehghaaE4
namespace Go.Proofs.Ytpkleblggehghaa.V
set_option linter.unusedVariables false
set_option linter.unusedSimpArgs false
set_option linter.unusedSectionVars false
set_option linter.unusedSectionVars false
open Go

theorem down_act {d : Dk} (h1 : d.down = true) : d.act = (false, d) := by
  unfold Dk.act
  rw [if_pos h1]
theorem down_write {d : Dk} (h1 : d.down = true) (n : Int) (x : Sec) : d.write n x = (42, d) := by
  unfold Dk.write
  rw [down_act h1]; rfl
theorem down_flush {d : Dk} (h1 : d.down = true) : d.flush = (42, d) := by
  unfold Dk.flush
  rw [down_act h1]; rfl
theorem down_arm {d : Dk} (h1 : d.down = true) {n : Int} (hn : 0 ≤ n) : d.arm n = (42, d) := by
  unfold Dk.arm
  rw [if_neg (by omega), if_pos h1]
theorem neg_arm {d : Dk} {n : Int} (hn : n < 0) : d.arm n = (1, d) := by
  unfold Dk.arm
  rw [if_pos hn]

/-- Armed with n acts, k calls ago; a acts were counted then. -/
structure Arms (n : Nat) (a : Int) (k : Nat) (d : Dk) : Prop where
  armed : d.armed = true
  early : k ≤ n → d.down = false ∧ d.left = (n : Int) - k ∧ d.acts = IntKind.i64.wrap (a + k)
  late : n < k → d.down = true ∧ d.acts = IntKind.i64.wrap (a + n)

theorem Arms.act {n : Nat} {a : Int} {k : Nat} {d : Dk} (ha : Arms n a k d) : d.act.1 = decide (k < n) ∧ Arms n a (k + 1) d.act.2 := by
  unfold Dk.act
  rcases Nat.lt_trichotomy k n with hk | hk | hk
  · obtain ⟨e1, e2, e3⟩ := ha.early (by omega)
    rw [if_neg (by rw [e1]; decide), if_pos ha.armed, if_neg (by omega)]
    refine ⟨(decide_eq_true hk).symm, ⟨ha.armed, fun h => ⟨e1, ?_, ?_⟩, fun h => by omega⟩⟩
    · show d.left - 1 = _; omega
    · show IntKind.i64.wrap (d.acts + 1) = _; rw [e3, wrap_wrap]; congr 1; omega
  · obtain ⟨e1, e2, e3⟩ := ha.early (by omega)
    rw [if_neg (by rw [e1]; decide), if_pos ha.armed, if_pos (by omega)]
    refine ⟨(decide_eq_false (by omega)).symm, ⟨ha.armed, fun h => by omega, fun h => ⟨rfl, ?_⟩⟩⟩
    subst hk; exact e3
  · obtain ⟨e1, e2⟩ := ha.late hk
    rw [if_pos e1]
    exact ⟨(decide_eq_false (by omega)).symm, ⟨ha.armed, fun h => by omega, fun h => ⟨e1, e2⟩⟩⟩

section
variable {h : Hp} {Q : Value → Hp → Prop} {L : List As} {p : Nat} {d : Dk}

theorem downed19 (n : Nat) (hn : n < 1024) (hh : Has (DkP p d :: L) h) (hd : d.down = true) (hc : d.cache.length ≤ 2 ^ 38) (hq : ∀ h', Has (DkP p d :: L) h' → Q (.bool true) h') : Ok PR 19 [ptr p, iv n] h Q := by
  have hok := (DkP.opn hh).1
  obtain ⟨x, hm⟩ : ∃ x, d.med[n]? = some x := ⟨_, List.getElem?_eq_getElem (by rw [hok.med]; exact hn)⟩
  refine e19 rfl ?_
  refine seq_step fun K hK => ?_
  conv => whnf
  refine hK _ _ _ (seq_step fun K1 hK1 => ?_)
  conv => whnf
  refine read22d n (by omega) hd hh ?_
  conv => whnf
  refine hK1 _ _ _ (seq_step fun K2 hK2 => ?_)
  refine seq_step fun K3 hK3 => ?_
  conv => whnf
  refine Has.call hh 0 rfl down18S fun _ h1 hh1 => ?_
  rw [hd]
  conv => whnf
  refine hK3 _ _ _ ?_
  conv => whnf
  refine hK2 _ _ _ (seq_step fun K4 hK4 => ?_)
  refine seq_step fun K5 hK5 => ?_
  conv => whnf
  replace hh1 : Has (DkP p d :: L) h1 := hh1
  refine full17 1 hh1 fun s h2 hh2 => ?_
  conv => whnf
  refine write15 n (x := one1S 1) (by omega) hh2.swap hc (fun g hg => hg.wn 0 rfl) fun h3 hh3 => ?_
  rw [down_write hd] at hh3 ⊢
  conv => whnf
  refine flush14 hh3 (by show d.cache.length ≤ _; omega) fun h4 hh4 => ?_
  rw [show (42, d).2 = d from rfl, down_flush hd] at hh4 ⊢
  conv => whnf
  refine Has.call hh4 0 rfl (arm12S 3 (by decide)) fun _ h5 hh5 => ?_
  rw [show (42, d).2 = d from rfl, down_arm hd (by decide)] at hh5 ⊢
  conv => whnf
  refine hK5 _ _ _ ?_
  conv => whnf
  refine hK4 _ _ _ (seq_step fun K6 hK6 => ?_)
  conv => whnf
  replace hh5 : Has (DkP p d :: WnP 1 s 128 (rowS (one1S 1)) :: L) h5 := hh5
  refine raw25 n hh5 hm fun s2 h6 hh6 => ?_
  conv => whnf
  obtain ⟨base, cap, hs⟩ := hh6.slv 0 rfl
  subst hs
  refine hK6 _ _ _ ?_
  conv => whnf
  refine Has.call hh6 1 rfl (arm12S (-1) (by decide)) fun _ h7 hh7 => ?_
  rw [neg_arm (by decide)] at hh7 ⊢
  conv => whnf
  refine write15z n (by omega) (by decide) ?_
  conv => whnf
  refine write15o (-1) _ (by decide) ?_
  conv => whnf
  exact hq _ (((hh7.pull 1 rfl).erase 1).erase 1)

/-- DiskArmed: true for all that comes in. -/
theorem law3 {a0 a1 : Value} {l0 : List OpD} {l : List PutD} (less : Int) (hs0 : SlR 7 OpR h [a0] l0) (hb0 : ∀ o ∈ l0, o.data.length ≤ 2 ^ 40 ∧ o.keep.length ≤ 2 ^ 40) (hl0 : l0.length ≤ 2 ^ 30) (hs1 : SlR 2 PutR h [a1] l) (hl : l.length ≤ 2 ^ 30)
    (hq : ∀ h', SubH h h' → Q (.bool true) h') : Ok PR 3 [a0, a1, iv less] h Q := by
  have hv0 := hs1.puts
  obtain ⟨base, cap, hs⟩ : ∃ base cap, a1 = .slice base l.length cap := let ⟨_, x, y, z, _⟩ := hv0; ⟨x, y, z⟩
  have hv : ∀ g, SubH h g → Vw 2 g a1 l.length (l.flatMap putV) := fun g hg => hv0.sub hg
  refine e3 rfl ?_
  refine seq_step fun K hK => ?_
  conv => whnf
  refine hK _ _ _ (seq_step fun K1 hK1 => ?_)
  conv => whnf
  refine fresh11 (Has.start h) (fun g hg => hg.is 0 rfl) hs0 hb0 hl0 fun q d h1 hcl hh1 => ?_
  conv => whnf
  refine hK1 _ _ _ (seq_step fun K2 hK2 => ?_)
  refine seq_step fun K3 hK3 => ?_
  conv => whnf
  refine hK3 _ _ _ ?_
  conv => whnf
  refine hK2 _ _ _ ?_
  obtain ⟨n, hn, hln⟩ : ∃ n : Nat, n ≤ l.length ∧ ((less < 0 ∨ less > l.length) ∧ n = l.length ∨ ¬ (less < 0 ∨ less > l.length) ∧ (n : Int) = l.length - less) := by
    by_cases hc : less < 0 ∨ less > l.length
    · exact ⟨l.length, Nat.le_refl _, .inl ⟨hc, rfl⟩⟩
    · exact ⟨(l.length - less).toNat, by omega, .inr ⟨hc, by omega⟩⟩
  subst hs
  refine cut_intro (σ := Unit) (fun _ => [(7, .v (ptr q)), (1, .v (.slice base l.length cap)), (2, .v (iv ((l.length : Int) - n)))]) (fun _ => []) (fun _ => h1) (fun _ => True) ?_ ?_
  · refine seq_step fun K4 hK4 => ?_
    conv => whnf
    by_cases c0 : less < 0
    · rw [show decide (less < 0) = true from decide_eq_true c0]
      conv => whnf
      refine hK4 _ _ _ ?_
      conv => whnf
      exact ⟨(), trivial, ⟨rfl, rfl, int_eq (by omega) rfl, trivial⟩, subB_nil, rfl⟩
    · rw [show decide (less < 0) = false from decide_eq_false c0]
      conv => whnf
      refine hK4 _ _ _ ?_
      conv => whnf
      refine cond_dec (fun c1 => ?_) (fun c1 => ?_)
      · conv => whnf
        exact ⟨(), trivial, ⟨rfl, rfl, int_eq (by omega) rfl, trivial⟩, subB_nil, rfl⟩
      · conv => whnf
        exact ⟨(), trivial, ⟨rfl, rfl, int_eq (by omega) rfl, trivial⟩, subB_nil, rfl⟩
  · rintro ⟨⟩ _
    refine seq_step fun K4 hK4 => ?_
    conv => whnf
    have hnn : IntKind.i64.wrap ((l.length : Int) - ((l.length : Int) - (n : Int))) = (n : Int) := by rw [wrap_i64 (by omega) (by omega)]; omega
    rw [hnn]
    refine hK4 _ _ _ (seq_step fun K5 hK5 => ?_)
    refine seq_step fun K6 hK6 => ?_
    conv => whnf
    refine Has.call hh1 0 rfl (arm12S n (by omega)) fun _ h2 hh2 => ?_
    have harm : d.arm n = (0, { d with armed := true, left := (n : Int) }) := by
      unfold Dk.arm
      rw [if_neg (by omega), if_neg (by rw [hcl.down]; decide)]
    rw [harm] at hh2 ⊢
    have harc : d.acts = IntKind.i64.wrap (d.acts + ((0 : Nat) : Int)) := by
      have := (DkP.opn hh1).1.acts
      rw [show d.acts + ((0 : Nat) : Int) = d.acts by omega, wrap_i64 this.1 this.2]
    conv => whnf
    refine hK6 _ _ _ ?_
    conv => whnf
    refine hK5 _ _ _ (seq_step fun K7 hK7 => ?_)
    conv => whnf
    replace hh2 : Has (DkP q { d with armed := true, left := (n : Int) } :: [Is h]) h2 := hh2
    refine Has.call hh2 0 rfl acts13S fun _ h3 hh3 => ?_
    conv => whnf
    refine hK7 _ _ _ (seq_step fun K8 hK8 => ?_)
    refine seq_step fun K9 hK9 => ?_
    conv => whnf
    refine hK9 _ _ _ ?_
    refine loop_intro (σ := Nat × Dk × Hp) (fun x => [(10, .v (iv x.1)), (7, .v (ptr q)), (1, .v (.slice base l.length cap)), (2, .v (iv ((l.length : Int) - n))), (8, .v (iv n)), (9, .v (iv d.acts))]) (fun _ => []) (fun x => x.2.2)
      (fun x => x.1 ≤ l.length ∧ x.2.1.cache.length ≤ x.1 ∧ Arms n d.acts x.1 x.2.1 ∧ Has (DkP q x.2.1 :: [Is h]) x.2.2) (fun x => l.length - x.1) (0, { d with armed := true, left := (n : Int) }, h3) ⟨Nat.zero_le _, (by show d.cache.length ≤ 0; rw [hcl.cache]; exact Nat.le_refl _), ⟨rfl, fun _ => ⟨hcl.down, (by show (n : Int) = (n : Int) - ((0 : Nat) : Int); omega), harc⟩, fun h => by omega⟩, hh3⟩
      ⟨rfl, rfl, rfl, rfl, rfl, rfl, trivial⟩ subB_nil rfl ?_
    rintro ⟨k, dk, g⟩ ⟨hkl, hkc, hka, hg⟩
    dsimp only at hkl hkc hka hg ⊢
    refine seq_step fun K10 hK10 => ?_
    refine seq_step fun K11 hK11 => ?_
    conv => whnf
    refine hK11 _ _ _ ?_
    conv => whnf
    refine cond_dec (fun hlt => ?_) (fun hlt => ?_)
    · obtain ⟨b, off, c, ty, z, cap', hs, hb, hsz, hcc⟩ := (hv g (hg.is 1 rfl)).at (i := k) (by omega)
      cases hs
      obtain ⟨y, hml⟩ : ∃ y, l[k]? = some y := ⟨_, List.getElem?_eq_getElem (by omega)⟩
      have hcell : ∀ j v, (putV y)[j]? = some v → c[off + k * 2 + j]? = some v := fun j v hv => by
        have hj : j < 2 := (List.getElem?_eq_some_iff.1 hv).1
        exact hcc j v (by rw [flat_get putV_len _ _ _ _ hml hj]; exact hv)
      conv => whnf
      refine hK10 _ _ _ (seq_step fun K12 hK12 => ?_)
      refine seq_step fun K13 hK13 => ?_
      conv => whnf
      refine hK13 _ _ _ ?_
      refine cut_intro (σ := Dk × Hp) (fun s => [(10, .v (iv k)), (7, .v (ptr q)), (1, .v (.slice (some ⟨b, off, none⟩) l.length cap)), (2, .v (iv ((l.length : Int) - n))), (8, .v (iv n)), (9, .v (iv d.acts)), (11, .v (iv (if k < n then 0 else 42)))]) (fun _ => []) (fun s => s.2)
        (fun s => s.1.cache.length ≤ k + 1 ∧ Arms n d.acts (k + 1) s.1 ∧ Has (DkP q s.1 :: [Is h]) s.2) ?_ ?_
      · refine seq_step fun K14 hK14 => ?_
        conv => whnf
        refine opt_if ⟨by omega, by omega⟩ ?_
        conv => whnf
        refine opt_ld hb (v := by8 y.byte) (hcell 1 _ rfl) ?_
        conv => whnf
        refine hK14 _ _ _ ?_
        conv => whnf
        obtain ⟨ha1, ha2⟩ := hka.act
        have hcac := act_cache dk
        refine cond_beq (fun hby => ?_) (fun hby => ?_)
        · conv => whnf
          refine flush14 hg (by omega) fun g1 hg1 => ?_
          have hfc := flush_cache dk
          have hfa : dk.flush.1 = if k < n then 0 else 42 := by
            unfold Dk.flush
            rw [ha1]
            by_cases hkn : k < n
            · rw [if_pos (decide_eq_true hkn), if_pos hkn]
            · rw [if_neg (by rw [decide_eq_false hkn]; decide), if_neg hkn]
          have hfb : Arms n d.acts (k + 1) dk.flush.2 := by
            unfold Dk.flush
            split
            · exact ⟨ha2.armed, ha2.early, ha2.late⟩
            · exact ha2
          conv => whnf
          exact ⟨(dk.flush.2, g1), ⟨(by show dk.flush.2.cache.length ≤ k + 1; omega), hfb, hg1⟩, ⟨rfl, rfl, rfl, rfl, rfl, rfl, int_eq hfa rfl, trivial⟩, subB_nil, rfl⟩
        · conv => whnf
          refine ⟨_, _, SubH.refl _, SubB.refl _, ?_⟩
          conv => whnf
          refine opt_if ⟨by omega, by omega⟩ ?_
          conv => whnf
          refine opt_ld hb (v := iv y.sector) (hcell 0 _ rfl) ?_
          conv => whnf
          refine opt_if ⟨by omega, by omega⟩ ?_
          conv => whnf
          refine opt_ld hb (v := by8 y.byte) (hcell 1 _ rfl) ?_
          conv => whnf
          refine place16 _ ?_
          conv => whnf
          refine ⟨⟨SubH.refl _, SubB.refl _⟩, ?_⟩
          conv => whnf
          refine full17 _ hg fun s g1 hg1 => ?_
          conv => whnf
          refine write15 _ (x := one1S y.byte) (plc_lt _) hg1.swap (by omega) (fun g' hg' => hg'.wn 0 rfl) fun g2 hg2 => ?_
          have hfc := write_cache dk (plc y.sector) (one1S y.byte)
          have hfa : (dk.write (plc y.sector) (one1S y.byte)).1 = if k < n then 0 else 42 := by
            unfold Dk.write
            rw [ha1]
            by_cases hkn : k < n
            · rw [if_pos (decide_eq_true hkn), if_pos hkn]
            · rw [if_neg (by rw [decide_eq_false hkn]; decide), if_neg hkn]
          have hfb : Arms n d.acts (k + 1) (dk.write (plc y.sector) (one1S y.byte)).2 := by
            unfold Dk.write
            split
            · exact ⟨ha2.armed, ha2.early, ha2.late⟩
            · exact ha2
          conv => whnf
          exact ⟨((dk.write (plc y.sector) (one1S y.byte)).2, g2), ⟨(by show (dk.write (plc y.sector) (one1S y.byte)).2.cache.length ≤ k + 1; omega), hfb, hg2.erase 1⟩, ⟨rfl, rfl, rfl, rfl, rfl, rfl, int_eq hfa rfl, trivial⟩, subB_nil, rfl⟩
      · rintro ⟨d2, g1⟩ ⟨hkc2, hka2, hg1⟩
        dsimp only at hkc2 hka2 hg1 ⊢
        refine seq_step fun K14 hK14 => ?_
        by_cases hkn : k < n
        · rw [if_pos hkn]
          obtain ⟨e1, e2, e3⟩ := hka2.early (by omega)
          conv => whnf
          rw [show decide ((k : Int) < (n : Int)) = true from decide_eq_true (by omega)]
          conv => whnf
          rw [show decide ((k : Int) ≥ (n : Int)) = false from decide_eq_false (by omega)]
          conv => whnf
          refine Has.call hg1 0 rfl down18S fun _ g3 hg3 => ?_
          rw [e1]
          conv => whnf
          rw [show decide ((k : Int) ≥ (n : Int)) = false from decide_eq_false ( by omega)]
          refine hK14 _ _ _ ?_
          conv => whnf
          refine hK12 _ _ _ ?_
          conv => whnf
          exact ⟨(k + 1, d2, g3), ⟨(by show k + 1 ≤ l.length; omega), hkc2, hka2, hg3⟩, (by show l.length - (k + 1) < l.length - k; omega), ⟨int_eq (wrap_nat (by omega)) rfl, rfl, rfl, rfl, rfl, rfl, trivial⟩, subB_nil, rfl⟩
        · rw [if_neg hkn]
          obtain ⟨e1, e2⟩ := hka2.late (by omega)
          conv => whnf
          rw [show decide ((k : Int) < (n : Int)) = false from decide_eq_false (by omega)]
          conv => whnf
          rw [show decide ((k : Int) ≥ (n : Int)) = true from decide_eq_true (by omega)]
          conv => whnf
          refine Has.call hg1 0 rfl down18S fun _ g3 hg3 => ?_
          rw [e1]
          conv => whnf
          rw [show decide ((k : Int) ≥ (n : Int)) = true from decide_eq_true ( by omega)]
          refine hK14 _ _ _ ?_
          conv => whnf
          refine hK12 _ _ _ ?_
          conv => whnf
          exact ⟨(k + 1, d2, g3), ⟨(by show k + 1 ≤ l.length; omega), hkc2, hka2, hg3⟩, (by show l.length - (k + 1) < l.length - k; omega), ⟨int_eq (wrap_nat (by omega)) rfl, rfl, rfl, rfl, rfl, rfl, trivial⟩, subB_nil, rfl⟩
    · have hkl : k = l.length := by omega
      subst hkl
      conv => whnf
      refine hK8 _ _ _ ?_
      refine cut_intro (σ := Dk × Hp) (fun s => [(7, .v (ptr q)), (1, .v (.slice base l.length cap)), (8, .v (iv n)), (9, .v (iv d.acts))]) (fun _ => []) (fun s => s.2)
        (fun s => s.1.cache.length ≤ l.length + 1 ∧ s.1.down = true ∧ s.1.acts = IntKind.i64.wrap (d.acts + n) ∧ Has (DkP q s.1 :: [Is h]) s.2) ?_ ?_
      · refine seq_step fun K13 hK13 => ?_
        conv => whnf
        refine hK13 _ _ _ ?_
        conv => whnf
        refine cond_beq (fun hln0 => ?_) (fun hln0 => ?_)
        · have hnl : n = l.length := by omega
          subst hnl
          obtain ⟨e1, e2, e3⟩ := hka.early (Nat.le_refl _)
          obtain ⟨ha1, ha2⟩ := hka.act
          have hfc := flush_cache dk
          have hfa : dk.flush = (42, dk.act.2) := by
            unfold Dk.flush
            rw [ha1, if_neg (by rw [decide_eq_false (by omega)]; decide)]
          refine seq_step fun K14 hK14 => ?_
          conv => whnf
          refine Has.call hg 0 rfl down18S fun _ g1 hg1 => ?_
          rw [e1]
          conv => whnf
          refine flush14 (d := dk) hg1 (by omega) fun g2 hg2 => ?_
          rw [hfa] at hg2 hfc ⊢
          conv => whnf
          refine hK14 _ _ _ ?_
          conv => whnf
          exact ⟨(dk.act.2, g2), ⟨(by show dk.act.2.cache.length ≤ _; have : dk.act.2.cache.length ≤ dk.cache.length := hfc; omega), (ha2.late (by omega)).1, (ha2.late (by omega)).2, hg2⟩, ⟨rfl, rfl, rfl, rfl, trivial⟩, subB_nil, rfl⟩
        · conv => whnf
          obtain ⟨e1, e2⟩ := hka.late (by omega)
          exact ⟨(dk, g), ⟨(by show dk.cache.length ≤ _; omega), e1, e2, hg⟩, ⟨rfl, rfl, rfl, rfl, trivial⟩, subB_nil, rfl⟩
      · rintro ⟨d2, g1⟩ ⟨hc2, hd2, ha2, hg1⟩
        dsimp only at hc2 hd2 ha2 hg1 ⊢
        refine seq_step fun K13 hK13 => ?_
        refine seq_step fun K14 hK14 => ?_
        conv => whnf
        refine Has.call hg1 0 rfl acts13S fun _ g2 hg2 => ?_
        rw [ha2]
        conv => whnf
        rw [bne_self_eq_false]
        conv => whnf
        refine downed19 5 (by omega) hg2 hd2 (by omega) fun g3 hg3 => ?_
        conv => whnf
        refine Has.call hg3 0 rfl acts13S fun _ g4 hg4 => ?_
        rw [ha2]
        conv => whnf
        rw [bne_self_eq_false]
        refine hK14 _ _ _ ?_
        conv => whnf
        refine hK13 _ _ _ (seq_step fun K15 hK15 => ?_)
        conv => whnf
        refine crash20 (d := d2) (l := []) hg4 (by omega) (fun g _ => vw_nil 1 g) fun g5 hg5 => ?_
        conv => whnf
        have hcc := Clean.crash d2 (kept [])
        have hac : (d2.crash (kept [])).acts = IntKind.i64.wrap (d.acts + n) := ha2
        generalize d2.crash (kept []) = d3 at hcc hac hg5
        refine hK15 _ _ _ (seq_step fun K16 hK16 => ?_)
        refine seq_step fun K17 hK17 => ?_
        conv => whnf
        refine Has.call hg5 0 rfl down18S fun _ g6 hg6 => ?_
        rw [hcc.down]
        conv => whnf
        refine laid21 (d := d3) hg6 hcc.down hcc.armed (fun g hg => hv g (hg.is 0 rfl)) (by rw [hcc.cache]; show 0 + _ ≤ _; omega) fun g7 hg7 => ?_
        conv => whnf
        refine flush14 hg7 (by show (d3.cache ++ l.map putQ).length ≤ _; rw [hcc.cache]; simp; omega) fun g8 hg8 => ?_
        have hfl : (d3.lay l).flush.1 = 0 ∧ (d3.lay l).flush.2.acts = IntKind.i64.wrap (d.acts + n + l.length + 1) := by
          unfold Dk.flush
          rw [up_act (d := d3.lay l) hcc.down hcc.armed]
          refine ⟨rfl, ?_⟩
          show IntKind.i64.wrap (IntKind.i64.wrap (d3.acts + l.length) + 1) = _
          rw [hac, wrap_wrap, Int.add_assoc (IntKind.i64.wrap _), wrap_wrap]
          congr 1; omega
        generalize (d3.lay l).flush = r at hfl hg8
        obtain ⟨r1, d4⟩ := r
        obtain ⟨hr, hd4⟩ := hfl
        dsimp only at hr hd4 hg8
        subst hr
        conv => whnf
        refine hK17 _ _ _ ?_
        conv => whnf
        refine hK16 _ _ _ ?_
        conv => whnf
        refine Has.call hg8 0 rfl acts13S fun _ g9 hg9 => ?_
        rw [hd4]
        conv => whnf
        rw [wrap_wrap (d.acts + n), wrap_wrap (d.acts + n + l.length), beq_self_eq_true]
        exact hq _ (hg9.is 1 rfl)

end
end Go.Proofs.Ytpkleblggehghaa.V
