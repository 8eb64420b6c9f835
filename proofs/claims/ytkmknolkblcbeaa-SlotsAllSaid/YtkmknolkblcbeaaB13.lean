/- The law on turning. -/
import Derived.Test.YtkmknolkblcbeaaB12
import Derived.Test.YtkmknolkblcbeaaB9
import Derived.Test.YtkmknolkblcbeaaB6
namespace Go.Proofs.Ytkmknolkblcbeaa.V
set_option linter.unusedVariables false
set_option linter.unusedSimpArgs false
set_option linter.unusedSectionVars false
open Go

section
variable {h : Hp} {Q : Value → Hp → Prop} {p m1 m2 : Nat} {L R : List (Int × Int)}

theorem tie27B (hB : BiAt iv ce h p m1 m2 L R) (hb : Bi L R) (a b : Int) (hq : ∀ v L' R' h', BiAt iv ce h' p m1 m2 L' R' → Bi L' R' → (∀ x, x ≠ m1 → x ≠ m2 → h' x = h x) → Q v h') : Ok PR 27 [ptr p, iv a, ce b] h Q :=
  tie27 hB a b (fun h1 h2 h' hB' hs => hq _ _ _ h' hB' (hb.tie h1 h2) hs) (fun x hx => hq _ _ _ h hB hb fun _ _ _ => rfl) (fun _ x hx => hq _ _ _ h hB hb fun _ _ _ => rfl)

theorem cut29B (hB : BiAt iv ce h p m1 m2 L R) (hb : Bi L R) (a : Int) (hq : ∀ v L' R' h', BiAt iv ce h' p m1 m2 L' R' → Bi L' R' → (∀ x, x ≠ m1 → x ≠ m2 → h' x = h x) → Q v h') : Ok PR 29 [ptr p, iv a] h Q :=
  cut29 hB a (fun b hb1 h' hB' hs => hq _ _ _ h' hB' (hb.cut hb1) hs) (fun _ => hq _ _ _ h hB hb fun _ _ _ => rfl)

theorem BiAt.sub {α β : Type} {ea : α → Value} {eb : β → Value} {h h' : Hp} {p m1 m2 : Nat} {L : List (α × β)} {R : List (β × α)} (hB : BiAt ea eb h p m1 m2 L R) (hs : SubH h h') : BiAt ea eb h' p m1 m2 L R := by
  obtain ⟨_, o1⟩ := hB.cell
  obtain ⟨_, _, o2, _⟩ := hB.left
  obtain ⟨_, _, o3, _⟩ := hB.right
  exact hB.same (by rw [o1]; exact hs _ _ o1) (by rw [o2]; exact hs _ _ o2) (by rw [o3]; exact hs _ _ o3)

/-- None of a table's blocks is x. -/
theorem BiAt.apart {α β : Type} {ea : α → Value} {eb : β → Value} {h : Hp} {p m1 m2 x : Nat} {L : List (α × β)} {R : List (β × α)} (hB : BiAt ea eb h p m1 m2 L R) (hx : h x = none) : p ≠ x ∧ m1 ≠ x ∧ m2 ≠ x := by
  obtain ⟨_, o1⟩ := hB.cell
  obtain ⟨_, _, o2, _⟩ := hB.left
  obtain ⟨_, _, o3, _⟩ := hB.right
  exact ⟨fun e => (by rw [← e, o1] at hx; cases hx), fun e => (by rw [← e, o2] at hx; cases hx), fun e => (by rw [← e, o3] at hx; cases hx)⟩

variable {a0 a1 : Option Addr} {len0 cap0 len1 cap1 : Nat} {f0 f1 : Nat → Nat → Int}

theorem turn5 (hR0 : RowsN 4 h a0 len0 f0) (hR1 : RowsN 4 h a1 len1 f1) (hl0 : len0 < 2 ^ 63) (hl1 : len1 < 2 ^ 63) (hq : ∀ h', SubH h h' → Q (.bool true) h') : Ok PR 5 [.slice a0 len0 cap0, .slice a1 len1 cap1] h Q := by
  refine e5 rfl ?_
  conv => whnf
  refine tied12 fun h1 hs1 => ?_
  conv => whnf
  refine new20 fun p m1 m2 h2 hB hs np n1 n2 => ?_
  have hp0 : h p = none := by cases hh : h p with | none => rfl | some o => rw [hs1 _ _ hh] at np; cases np
  have hm1 : h m1 = none := by cases hh : h m1 with | none => rfl | some o => rw [hs1 _ _ hh] at n1; cases n1
  have hm2 : h m2 = none := by cases hh : h m2 with | none => rfl | some o => rw [hs1 _ _ hh] at n2; cases n2
  have hsub : SubH h h2 := fun x o hx => by
    rw [hs x (fun e => by subst e; rw [hp0] at hx; cases hx) (fun e => by subst e; rw [hm1] at hx; cases hx) (fun e => by subst e; rw [hm2] at hx; cases hx)]; exact hs1 x o hx
  conv => whnf
  refine cell28 2 ?_
  conv => whnf
  refine tie27B hB Bi.nil 1 2 fun v L R h3 hB3 hb3 hs3 => ?_
  have hsub3 : SubH h h3 := fun x o hx => by
    rw [hs3 x (fun e => by subst e; rw [hm1] at hx; cases hx) (fun e => by subst e; rw [hm2] at hx; cases hx)]; exact hsub x o hx
  conv => whnf
  refine loop_intro (σ := Nat × List (Int × Int) × List (Int × Int) × Hp) (fun s => [(6, .v (iv s.1)), (5, .v (ptr p)), (0, .v (.slice a0 len0 cap0)), (1, .v (.slice a1 len1 cap1))]) (fun _ => []) (fun s => s.2.2.2)
    (fun s => s.1 ≤ len0 ∧ BiAt iv ce s.2.2.2 p m1 m2 s.2.1 s.2.2.1 ∧ Bi s.2.1 s.2.2.1 ∧ SubH h s.2.2.2) (fun s => len0 - s.1) (0, L, R, h3) ⟨Nat.zero_le _, hB3, hb3, hsub3⟩
    (subE_cons rfl (subE_cons rfl (subE_cons rfl (subE_cons rfl subE_nil)))) subB_nil rfl ?_
  clear hB hB3 hb3 hs3 hsub3 L R h3
  rintro ⟨i, L, R, g⟩ ⟨hi, hB, hb, hsg⟩
  dsimp only at hi hB hb hsg ⊢
  conv => whnf
  refine cond_dec (fun hc => ?_) (fun hc => ?_)
  · have hki : i < len0 := by omega
    obtain ⟨b, off, c, ty, z, rfl, hb', hcc⟩ := (hR0.sub hsg) i hki
    conv => whnf
    refine opt_if ⟨by omega, by omega⟩ ?_
    conv => whnf
    refine opt_ld hb' (v := .agg #[iv (f0 i 0), iv (f0 i 1), iv (f0 i 2), iv (f0 i 3)]) (rd_list [iv (f0 i 0), iv (f0 i 1), iv (f0 i 2), iv (f0 i 3)] rfl (by simp) fun j v hj => ?_) ?_
    · rcases j with _ | _ | _ | _ | j <;> cases hj <;> exact hcc _ (by omega)
    have fin : ∀ {ρ : Env} {β : Bx} (L' R' : List (Int × Int)) (g' : Hp), BiAt iv ce g' p m1 m2 L' R' → Bi L' R' → (∀ x, x ≠ m1 → x ≠ m2 → g' x = g x) → look ρ 6 = some (.v (.int .i64 (IntKind.i64.wrap ((i : Int) + 1)))) → look ρ 5 = some (.v (ptr p)) → look ρ 0 = some (.v (.slice (some ⟨b, off, none⟩) len0 cap0)) → look ρ 1 = some (.v (.slice a1 len1 cap1)) →
        ∃ s : Nat × List (Int × Int) × List (Int × Int) × Hp, (s.1 ≤ len0 ∧ BiAt iv ce s.2.2.2 p m1 m2 s.2.1 s.2.2.1 ∧ Bi s.2.1 s.2.2.1 ∧ SubH h s.2.2.2) ∧ len0 - s.1 < len0 - i ∧ subE [(6, .v (iv s.1)), (5, .v (ptr p)), (0, .v (.slice (some ⟨b, off, none⟩) len0 cap0)), (1, .v (.slice a1 len1 cap1))] ρ ∧ subB [] β ∧ g' = s.2.2.2 :=
      fun {ρ β} L' R' g' hB' hb' hs' e1 e2 e3 e4 => ⟨(i + 1, L', R', g'), ⟨by omega, hB', hb', fun x o hx => by
        show g' x = some o
        rw [hs' x (fun e => by subst e; rw [hm1] at hx; cases hx) (fun e => by subst e; rw [hm2] at hx; cases hx)]; exact hsg x o hx⟩, by simp only; omega, subE_cons (int_eq (wrap_nat (by omega)) e1) (subE_cons e2 (subE_cons e3 (subE_cons e4 subE_nil))), subB_nil, rfl⟩
    conv => whnf
    refine cond_beq (fun hk => ?_) (fun hk => ?_)
    · conv => whnf
      refine ⟨g, _, SubH.refl _, SubB.refl _, ?_⟩
      conv => whnf
      refine cell28 (f0 i 3) ?_
      conv => whnf
      refine ⟨⟨SubH.refl _, SubB.refl _⟩, ?_⟩
      conv => whnf
      refine tie27B hB hb (f0 i 2) (f0 i 3) fun v L' R' g' hB' hb' hs' => ?_
      conv => whnf
      exact fin L' R' g' hB' hb' hs' rfl rfl rfl rfl
    · conv => whnf
      refine cond_beq (fun hk => ?_) (fun hk => ?_)
      · conv => whnf
        refine cut29B hB hb (f0 i 2) fun v L' R' g' hB' hb' hs' => ?_
        conv => whnf
        exact fin L' R' g' hB' hb' hs' rfl rfl rfl rfl
      · conv => whnf
        exact fin L R g hB hb (fun _ _ _ => rfl) rfl rfl rfl rfl
  · conv => whnf
    refine turn30 hB hb fun q n1' n2' L1 R1 h4 hT hbT hRL hlen1 hs4 hq0 hq1 hq2 => ?_
    have hj4 := hB.sub hs4
    conv => whnf
    refine len31 hT ?_
    conv => whnf
    refine len32 hj4 ?_
    rw [hlen1]
    conv => whnf
    rw [show ((L.length : Int) != (L.length : Int)) = false from by simp]
    conv => whnf
    refine turn33 hT hbT fun u o1 o2 L2 R2 h5 hU hbU hRL2 hlen2 hs5 hu0 hu1 hu2 => ?_
    have hj5 := hj4.sub hs5
    have ht5 := hT.sub hs5
    conv => whnf
    refine len32 hU ?_
    conv => whnf
    refine len32 hj5 ?_
    rw [hlen2, hlen1]
    conv => whnf
    rw [show ((L.length : Int) != (L.length : Int)) = false from by simp]
    conv => whnf
    refine len32 hj5 ?_
    conv => whnf
    have hsame : ∀ a, aget L2 a = aget L a := fun a => by
      have key : ∀ b, aget L2 a = some b ↔ aget L a = some b := fun b => by
        rw [hbU.inv, hRL2, hbT.inv, hRL]
      cases h1 : aget L a with
      | none => cases h2 : aget L2 a with
        | none => rfl
        | some b => rw [(key b).1 h2] at h1; cases h1
      | some b => exact (key b).2 h1
    have hs05 : SubH h h5 := (hsg.trans hs4).trans hs5
    have hs04 : SubH h h4 := hsg.trans hs4
    have hj4' := hj4
    have hT' := hT
    clear hsg hs4 hs5 hB hj4 hT hi hc
    refine loop_intro (σ := Nat) (fun k => [(11, .v (iv k)), (10, .v (iv L.length)), (9, .v (ptr u)), (8, .v (ptr q)), (5, .v (ptr p)), (0, .v (.slice a0 len0 cap0)), (1, .v (.slice a1 len1 cap1))]) (fun _ => []) (fun _ => h5)
      (fun k => k ≤ len0) (fun k => len0 - k) 0 (Nat.zero_le _) (subE_cons rfl (subE_cons rfl (subE_cons rfl (subE_cons rfl (subE_cons rfl (subE_cons rfl (subE_cons rfl subE_nil))))))) subB_nil rfl ?_
    intro k hk
    conv => whnf
    refine cond_dec (fun hc => ?_) (fun hc => ?_)
    · have hki : k < len0 := by omega
      obtain ⟨b, off, c, ty, z, rfl, hb', hcc⟩ := (hR0.sub hs05) k hki
      conv => whnf
      refine opt_if ⟨by omega, by omega⟩ ?_
      conv => whnf
      refine opt_ld hb' (v := iv (f0 k 2)) (hcc 2 (by omega)) ?_
      conv => whnf
      have nxt : ∀ {ρ : Env} {β : Bx}, look ρ 11 = some (.v (.int .i64 (IntKind.i64.wrap ((k : Int) + 1)))) → look ρ 10 = some (.v (iv L.length)) → look ρ 9 = some (.v (ptr u)) → look ρ 8 = some (.v (ptr q)) → look ρ 5 = some (.v (ptr p)) → look ρ 0 = some (.v (.slice (some ⟨b, off, none⟩) len0 cap0)) → look ρ 1 = some (.v (.slice a1 len1 cap1)) →
          ∃ s : Nat, s ≤ len0 ∧ len0 - s < len0 - k ∧ subE [(11, .v (iv s)), (10, .v (iv L.length)), (9, .v (ptr u)), (8, .v (ptr q)), (5, .v (ptr p)), (0, .v (.slice (some ⟨b, off, none⟩) len0 cap0)), (1, .v (.slice a1 len1 cap1))] ρ ∧ subB [] β ∧ h5 = h5 :=
        fun {ρ β} e1 e2 e3 e4 e5 e6 e7 => ⟨k + 1, hki, by omega, subE_cons (int_eq (wrap_nat (by omega)) e1) (subE_cons e2 (subE_cons e3 (subE_cons e4 (subE_cons e5 (subE_cons e6 (subE_cons e7 subE_nil)))))), subB_nil, rfl⟩
      refine to34 hj5 (f0 k 2) (fun b2 hb2 => ?_) (fun hn => ?_)
      · conv => whnf
        refine opt_if ⟨by omega, by omega⟩ ?_
        conv => whnf
        refine opt_ld hb' (v := iv (f0 k 2)) (hcc 2 (by omega)) ?_
        conv => whnf
        refine to34 hU (f0 k 2) (fun b3 hb3 => ?_) (fun hn => by rw [hsame, hb2] at hn; cases hn)
        rw [hsame, hb2] at hb3
        cases hb3
        conv => whnf
        rw [ce_self b2]
        conv => whnf
        exact nxt rfl rfl rfl rfl rfl rfl rfl
      · conv => whnf
        refine opt_if ⟨by omega, by omega⟩ ?_
        conv => whnf
        refine opt_ld hb' (v := iv (f0 k 2)) (hcc 2 (by omega)) ?_
        conv => whnf
        refine to34 hU (f0 k 2) (fun b3 hb3 => by rw [hsame, hn] at hb3; cases hb3) (fun _ => ?_)
        conv => whnf
        exact nxt rfl rfl rfl rfl rfl rfl rfl
    · conv => whnf
      have aj : (p ≠ o1 ∧ m1 ≠ o1 ∧ m2 ≠ o1) ∧ (p ≠ o2 ∧ m1 ≠ o2 ∧ m2 ≠ o2) := ⟨hj4'.apart hu1, hj4'.apart hu2⟩
      have at' : (q ≠ o1 ∧ n1' ≠ o1 ∧ n2' ≠ o1) ∧ (q ≠ o2 ∧ n1' ≠ o2 ∧ n2' ≠ o2) := ⟨hT'.apart hu1, hT'.apart hu2⟩
      have h01 : h o1 = none := by cases hh : h o1 with | none => rfl | some o => rw [hs04 _ _ hh] at hu1; cases hu1
      have h02 : h o2 = none := by cases hh : h o2 with | none => rfl | some o => rw [hs04 _ _ hh] at hu2; cases hu2
      refine loop_intro (σ := Nat × List (Int × Int) × List (Int × Int) × Hp) (fun s => [(16, .v (iv s.1)), (10, .v (iv L.length)), (9, .v (ptr u)), (8, .v (ptr q)), (5, .v (ptr p)), (0, .v (.slice a0 len0 cap0)), (1, .v (.slice a1 len1 cap1))]) (fun _ => []) (fun s => s.2.2.2)
        (fun s => s.1 ≤ len1 ∧ BiAt iv ce s.2.2.2 u o1 o2 s.2.1 s.2.2.1 ∧ Bi s.2.1 s.2.2.1 ∧ BiAt iv ce s.2.2.2 p m1 m2 L R ∧ BiAt ce iv s.2.2.2 q n1' n2' L1 R1 ∧ SubH h s.2.2.2) (fun s => len1 - s.1) (0, L2, R2, h5) ⟨Nat.zero_le _, hU, hbU, hj5, ht5, hs05⟩
        (subE_cons rfl (subE_cons rfl (subE_cons rfl (subE_cons rfl (subE_cons rfl (subE_cons rfl (subE_cons rfl subE_nil))))))) subB_nil rfl ?_
      clear hk hc k hj5 ht5 hs05 hU hbU hsame hRL2 hlen2
      rintro ⟨k, LU, RU, g2⟩ ⟨hk, hU, hbU, hj5, ht5, hs05⟩
      dsimp only at hk hU hbU hj5 ht5 hs05 ⊢
      conv => whnf
      refine cond_dec (fun hc => ?_) (fun hc => ?_)
      · have hki : k < len1 := by omega
        obtain ⟨b, off, c, ty, z, rfl, hb', hcc⟩ := (hR1.sub hs05) k hki
        conv => whnf
        refine opt_if ⟨by omega, by omega⟩ ?_
        conv => whnf
        refine opt_ld hb' (v := .agg #[iv (f1 k 0), iv (f1 k 1), iv (f1 k 2), iv (f1 k 3)]) (rd_list [iv (f1 k 0), iv (f1 k 1), iv (f1 k 2), iv (f1 k 3)] rfl (by simp) fun j v hj => ?_) ?_
        · rcases j with _ | _ | _ | _ | j <;> cases hj <;> exact hcc _ (by omega)
        have fin : ∀ {ρ : Env} {β : Bx} (L' R' : List (Int × Int)) (g' : Hp), BiAt iv ce g' u o1 o2 L' R' → Bi L' R' → (∀ x, x ≠ o1 → x ≠ o2 → g' x = g2 x) → look ρ 16 = some (.v (.int .i64 (IntKind.i64.wrap ((k : Int) + 1)))) → look ρ 10 = some (.v (iv L.length)) → look ρ 9 = some (.v (ptr u)) → look ρ 8 = some (.v (ptr q)) → look ρ 5 = some (.v (ptr p)) → look ρ 0 = some (.v (.slice a0 len0 cap0)) → look ρ 1 = some (.v (.slice (some ⟨b, off, none⟩) len1 cap1)) →
            ∃ s : Nat × List (Int × Int) × List (Int × Int) × Hp, (s.1 ≤ len1 ∧ BiAt iv ce s.2.2.2 u o1 o2 s.2.1 s.2.2.1 ∧ Bi s.2.1 s.2.2.1 ∧ BiAt iv ce s.2.2.2 p m1 m2 L R ∧ BiAt ce iv s.2.2.2 q n1' n2' L1 R1 ∧ SubH h s.2.2.2) ∧ len1 - s.1 < len1 - k ∧ subE [(16, .v (iv s.1)), (10, .v (iv L.length)), (9, .v (ptr u)), (8, .v (ptr q)), (5, .v (ptr p)), (0, .v (.slice a0 len0 cap0)), (1, .v (.slice (some ⟨b, off, none⟩) len1 cap1))] ρ ∧ subB [] β ∧ g' = s.2.2.2 :=
          fun {ρ β} L' R' g' hB' hb' hs' e1 e2 e3 e4 e5 e6 e7 => ⟨(k + 1, L', R', g'), ⟨hki, hB', hb', hj5.same (hs' _ aj.1.1 aj.2.1) (hs' _ aj.1.2.1 aj.2.2.1) (hs' _ aj.1.2.2 aj.2.2.2), ht5.same (hs' _ at'.1.1 at'.2.1) (hs' _ at'.1.2.1 at'.2.2.1) (hs' _ at'.1.2.2 at'.2.2.2), fun x o hx => by
            show g' x = some o
            rw [hs' x (fun e => by rw [e, h01] at hx; cases hx) (fun e => by rw [e, h02] at hx; cases hx)]; exact hs05 x o hx⟩, by simp only; omega, subE_cons (int_eq (wrap_nat (by omega)) e1) (subE_cons e2 (subE_cons e3 (subE_cons e4 (subE_cons e5 (subE_cons e6 (subE_cons e7 subE_nil)))))), subB_nil, rfl⟩
        conv => whnf
        refine cond_beq (fun hk => ?_) (fun hk => ?_)
        · conv => whnf
          refine ⟨g2, _, SubH.refl _, SubB.refl _, ?_⟩
          conv => whnf
          refine cell28 (f1 k 3) ?_
          conv => whnf
          refine ⟨⟨SubH.refl _, SubB.refl _⟩, ?_⟩
          conv => whnf
          refine tie27B hU hbU (f1 k 2) (f1 k 3) fun v L' R' g' hB' hb' hs' => ?_
          conv => whnf
          exact fin L' R' g' hB' hb' hs' rfl rfl rfl rfl rfl rfl rfl
        · conv => whnf
          refine cond_beq (fun hk => ?_) (fun hk => ?_)
          · conv => whnf
            refine cut29B hU hbU (f1 k 2) fun v L' R' g' hB' hb' hs' => ?_
            conv => whnf
            exact fin L' R' g' hB' hb' hs' rfl rfl rfl rfl rfl rfl rfl
          · conv => whnf
            exact fin LU RU g2 hU hbU (fun _ _ _ => rfl) rfl rfl rfl rfl rfl rfl rfl
      · conv => whnf
        refine len32 hj5 ?_
        conv => whnf
        rw [show ((L.length : Int) != (L.length : Int)) = false from by simp]
        conv => whnf
        refine len31 ht5 ?_
        rw [hlen1]
        conv => whnf
        rw [show ((L.length : Int) != (L.length : Int)) = false from by simp]
        conv => whnf
        refine loop_intro (σ := Nat) (fun j => [(18, .v (iv j)), (8, .v (ptr q)), (5, .v (ptr p)), (0, .v (.slice a0 len0 cap0))]) (fun _ => []) (fun _ => g2)
          (fun j => j ≤ len0) (fun j => len0 - j) 0 (Nat.zero_le _) (subE_cons rfl (subE_cons rfl (subE_cons rfl (subE_cons rfl subE_nil)))) subB_nil rfl ?_
        intro j hj
        conv => whnf
        refine cond_dec (fun hc => ?_) (fun hc => ?_)
        · have hji : j < len0 := by omega
          obtain ⟨b, off, c, ty, z, rfl, hb', hcc⟩ := (hR0.sub hs05) j hji
          have nxt : ∀ {ρ : Env} {β : Bx}, look ρ 18 = some (.v (.int .i64 (IntKind.i64.wrap ((j : Int) + 1)))) → look ρ 8 = some (.v (ptr q)) → look ρ 5 = some (.v (ptr p)) → look ρ 0 = some (.v (.slice (some ⟨b, off, none⟩) len0 cap0)) →
              ∃ s : Nat, s ≤ len0 ∧ len0 - s < len0 - j ∧ subE [(18, .v (iv s)), (8, .v (ptr q)), (5, .v (ptr p)), (0, .v (.slice (some ⟨b, off, none⟩) len0 cap0))] ρ ∧ subB [] β ∧ g2 = g2 :=
            fun {ρ β} e1 e2 e3 e4 => ⟨j + 1, hji, by omega, subE_cons (int_eq (wrap_nat (by omega)) e1) (subE_cons e2 (subE_cons e3 (subE_cons e4 subE_nil))), subB_nil, rfl⟩
          conv => whnf
          refine opt_if ⟨by omega, by omega⟩ ?_
          conv => whnf
          refine opt_ld hb' (v := iv (f0 j 2)) (hcc 2 (by omega)) ?_
          conv => whnf
          refine to34 hj5 (f0 j 2) (fun b2 hb2 => ?_) (fun hn => ?_)
          · have hr : aget R1 (f0 j 2) = some b2 := (hRL _ _).2 hb2
            have hl : aget L1 b2 = some (f0 j 2) := (hbT.inv _ _).2 hr
            conv => whnf
            refine to35 ht5 b2 (fun a2 ha2 => ?_) (fun hn => by rw [hl] at hn; cases hn)
            rw [hl] at ha2
            cases ha2
            conv => whnf
            refine opt_if ⟨by omega, by omega⟩ ?_
            conv => whnf
            refine opt_ld hb' (v := iv (f0 j 2)) (hcc 2 (by omega)) ?_
            conv => whnf
            refine back36 ht5 (f0 j 2) (fun b3 hb3 => ?_) (fun hn => by rw [hr] at hn; cases hn)
            rw [hr] at hb3
            cases hb3
            conv => whnf
            refine opt_if ⟨by omega, by omega⟩ ?_
            conv => whnf
            refine opt_ld hb' (v := iv (f0 j 2)) (hcc 2 (by omega)) ?_
            conv => whnf
            rw [show (f0 j 2 != f0 j 2) = false from by simp]
            conv => whnf
            rw [ce_self b2]
            conv => whnf
            exact nxt rfl rfl rfl rfl
          · conv => whnf
            exact nxt rfl rfl rfl rfl
        · conv => whnf
          exact hq _ hs05

end
end Go.Proofs.Ytkmknolkblcbeaa.V
