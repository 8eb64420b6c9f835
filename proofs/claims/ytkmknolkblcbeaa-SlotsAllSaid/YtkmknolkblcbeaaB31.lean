/- The law on walks. -/
import Derived.Test.YtkmknolkblcbeaaB30
import Derived.Test.YtkmknolkblcbeaaC13
namespace Go.Proofs.Ytkmknolkblcbeaa.V
set_option linter.unusedVariables false
set_option linter.unusedSimpArgs false
set_option linter.unusedSectionVars false
open Go

/-- The parts in another order (fast where they are many). -/
theorem Has.sl {L : List As} {h : Hp} (hh : Has L h) (is : List Nat) (hp : is.isPerm (List.range is.length) = true) (hn : L.length = is.length) : Has (is.map fun i => L.getD i (fun _ => True)) h :=
  hh.sel is (by rw [hn]; exact hp)

/-- Just these blocks. -/
def kp : List (Nat × Obj) → Hp
  | [] => fun _ => none
  | x :: l => upd (kp l) x.1 x.2

theorem kp_sub {h : Hp} : ∀ {l : List (Nat × Obj)}, (∀ x ∈ l, h x.1 = some x.2) → SubH (kp l) h
  | [], _ => fun _ _ h => (by cases h)
  | x :: l, hx => fun b o hb => by
    simp only [kp] at hb
    by_cases e : b = x.1
    · subst e; rw [upd_same] at hb; cases hb; exact hx x (List.mem_cons_self ..)
    · rw [upd_other e] at hb; exact kp_sub (fun y hy => hx y (List.mem_cons_of_mem _ hy)) b o hb

theorem kp_get {h : Hp} : ∀ {l : List (Nat × Obj)}, (∀ x ∈ l, h x.1 = some x.2) → ∀ {b : Nat} {o : Obj}, (b, o) ∈ l → kp l b = some o
  | [], _, _, _, hm => by cases hm
  | x :: l, hx, b, o, hm => by
    simp only [kp]
    by_cases e : b = x.1
    · subst e
      rw [upd_same]
      have h1 := hx x (List.mem_cons_self ..)
      have h2 := hx _ hm
      rw [h1] at h2; exact h2
    · rw [upd_other e]
      rcases List.mem_cons.1 hm with rfl | hm
      · exact absurd rfl e
      · exact kp_get (fun y hy => hx y (List.mem_cons_of_mem _ hy)) hm

theorem kp2 {h : Hp} {b c : Nat} {o q : Obj} (h1 : h b = some o) (h2 : h c = some q) : SubH (kp [(b, o), (c, q)]) h := kp_sub fun x hx => by
  simp only [List.mem_cons, List.not_mem_nil, or_false] at hx
  rcases hx with rfl | rfl
  · exact h1
  · exact h2

section
variable {h : Hp} {Q : Value → Hp → Prop} {a1 a2 : Option Addr} {len1 cap1 len2 cap2 : Nat} {f1 f2 : Nat → Nat → Int}

set_option maxHeartbeats 1600000 in
theorem law8 (n0 : Int) (hR1 : RowsN 4 h a1 len1 f1) (hlen1 : len1 < 2 ^ 62) (hR2 : RowsN 4 h a2 len2 f2) (hlen2 : len2 < 2 ^ 62) (hq : ∀ h', SubH h h' → Q (.bool true) h') : Ok PR 8 [iv n0, .slice a1 len1 cap1, .slice a2 len2 cap2] h Q := by
  refine e8 rfl ?_
  conv => whnf
  refine fresh_has (Has.start h) fun b5 h1 hb5 _ _ hh1 => ?_
  conv => whnf
  refine fixed39 fun h2 hs2 => ?_
  have hh2 := (hh1.sub hs2).swap
  conv => whnf
  refine (Has.group (L1 := [_]) hh2).call1 (filled49S n0 hR1 hlen1) fun x h3 hh3 => ?_
  obtain ⟨p, r, l0⟩ := x
  have hh3' : Has [TabP rowI p l0, RtP r l0, Is h, Pt b5 (.cells #[.slice a2 len2 cap2] 72 (0, 0))] h3 := hh3.flat
  clear hh3
  conv => whnf
  refine fresh_has hh3' fun b7 h4 hb7 _ _ hh4 => ?_
  conv => whnf
  refine fresh_has hh4 fun b8 h5 hb8 _ _ hh5 => ?_
  conv => whnf
  refine st_has hh5 1 rfl rfl (Nat.le_refl _) rfl fun h6 _ _ hh6 => ?_
  conv => whnf
  refine st_has hh6 0 rfl rfl (Nat.le_refl _) rfl fun h7 _ _ hh7 => ?_
  replace hh7 : Has [Pt b8 (.cells #[ptr r] 74 (0, 0)), Pt b7 (.cells #[ptr p] 73 (0, 0)), TabP rowI p l0, RtP r l0, Is h, Pt b5 (.cells #[.slice a2 len2 cap2] 72 (0, 0))] h7 := hh7
  have e7 := hh7.pt 1 rfl
  conv => whnf
  repeat (first | (refine opt_if ⟨by omega, by omega⟩ ?_; conv => whnf) | (refine opt_ld (by assumption) (by first | rfl | assumption) ?_; conv => whnf))
  refine all50H hh7 fun bw h8 hh8 _ _ => ?_
  conv => whnf
  refine fresh_has hh8 fun b9 h9 hb9 _ _ hh9 => ?_
  conv => whnf
  refine st_has hh9 0 rfl rfl (Nat.le_refl _) rfl fun h10 _ _ hh10 => ?_
  have hh11 : Has [TabP rowI p l0, RtP r l0, Is h, Pt b5 (.cells #[.slice a2 len2 cap2] 72 (0, 0)), Pt b7 (.cells #[ptr p] 73 (0, 0)), Pt b8 (.cells #[ptr r] 74 (0, 0)), Pt b9 (.cells #[.func (.func 95) #[] #[ptr bw]] 78 (0, 0)), Pt bw (.cells #[ptr p] 73 (0, 0))] h10 := hh10.sl [4, 5, 6, 7, 3, 2, 0, 1] (by decide) rfl
  have e9 := hh11.pt 6 rfl
  conv => whnf
  repeat (first | (refine opt_if ⟨by omega, by omega⟩ ?_; conv => whnf) | (refine opt_ld (by assumption) (by first | rfl | assumption) ?_; conv => whnf))
  refine loop_intro (σ := Nat × Tb × Hp) (fun s => [(10, .v (iv s.1)), (5, .v (ptr b5)), (7, .v (ptr b7)), (8, .v (ptr b8)), (9, .v (ptr b9))]) (fun _ => []) (fun s => s.2.2)
    (fun s => s.1 ≤ 2 ∧ Has [TabP rowI p s.2.1, RtP r s.2.1, Is h, Pt b5 (.cells #[.slice a2 len2 cap2] 72 (0, 0)), Pt b7 (.cells #[ptr p] 73 (0, 0)), Pt b8 (.cells #[ptr r] 74 (0, 0)), Pt b9 (.cells #[.func (.func 95) #[] #[ptr bw]] 78 (0, 0)), Pt bw (.cells #[ptr p] 73 (0, 0))] s.2.2) (fun s => 2 - s.1) (0, l0, h10) ⟨by omega, hh11⟩
    (by repeat (first | exact trivial | refine ⟨rfl, ?_⟩ | refine ⟨int_eq (wrap_nat (by omega)) rfl, ?_⟩)) subB_nil rfl ?_
  clear hh2 hh1 hs2 hh3' hh4 hh5 hh6 hh7 hh8 hh9 hh10 hh11 e7 e9 hb5 hb7 hb8 hb9
  rintro ⟨i, l, g⟩ ⟨hi, hh⟩
  dsimp only at hi hh ⊢
  conv => whnf
  refine cond_dec (fun hc => ?_) (fun hc => ?_)
  · have e5 := hh.pt 3 rfl
    have e8 := hh.pt 5 rfl
    have kg : ∀ x ∈ [(b5, Obj.cells #[.slice a2 len2 cap2] 72 (0, 0)), (b8, .cells #[ptr r] 74 (0, 0))], g x.1 = some x.2 := fun x hx => by
      simp only [List.mem_cons, List.not_mem_nil, or_false] at hx
      rcases hx with rfl | rfl
      · exact e5
      · exact e8
    have k5 := kp_get kg (List.mem_cons_self ..)
    have k8 := kp_get kg (List.mem_cons_of_mem _ (List.mem_cons_self ..))
    conv => whnf
    refine cut_intro (σ := Nat × Value × List (Int × Int) × Hp) (fun s => [(10, .v (iv i)), (5, .v (ptr b5)), (7, .v (ptr b7)), (8, .v (ptr b8)), (9, .v (ptr b9)), (11, .v (ptr s.1))]) (fun _ => []) (fun s => s.2.2.2)
      (fun s => (∃ l', Rng f2 len2 l 0 0 s.2.2.1 l') ∧ Has [Pt s.1 (.cells #[s.2.1] 80 (0, 0)), SlP rowP zP s.2.1 s.2.2.1, TabP rowI p l, RtP r l, Is h, Pt b5 (.cells #[.slice a2 len2 cap2] 72 (0, 0)), Pt b7 (.cells #[ptr p] 73 (0, 0)), Pt b8 (.cells #[ptr r] 74 (0, 0)), Pt b9 (.cells #[.func (.func 95) #[] #[ptr bw]] 78 (0, 0)), Pt bw (.cells #[ptr p] 73 (0, 0))] s.2.2.2) ?_ ?_
    rotate_left
    · clear e5 e8 kg k5 k8 hh
      rintro ⟨b11, s, want, g⟩ ⟨⟨lf, hrg⟩, hh⟩
      dsimp only at hrg hh ⊢
      obtain ⟨sb, sc, rfl, _⟩ := SlP.look rowP_len (hh.get 1 rfl fun _ _ => SlP.sub)
      conv => whnf
      refine fresh_has hh fun b12 g1 hb12 _ _ hh1 => ?_
      conv => whnf
      refine st_has hh1 0 rfl rfl (Nat.le_refl _) rfl fun g2 _ _ hh2 => ?_
      conv => whnf
      refine fresh_has hh2 fun b13 g3 hb13 _ _ hh3 => ?_
      conv => whnf
      refine st_has hh3 0 rfl rfl (Nat.le_refl _) rfl fun g4 _ _ hh4 => ?_
      replace hh4 : Has [Pt b13 (.cells #[.bool true] 4 (0, 0)), Pt b12 (.cells #[iv 0] 3 (0, 0)), Pt b11 (.cells #[.slice sb want.length sc] 80 (0, 0)), SlP rowP zP (.slice sb want.length sc) want, TabP rowI p l, RtP r l, Is h, Pt b5 (.cells #[.slice a2 len2 cap2] 72 (0, 0)), Pt b7 (.cells #[ptr p] 73 (0, 0)), Pt b8 (.cells #[ptr r] 74 (0, 0)), Pt b9 (.cells #[.func (.func 95) #[] #[ptr bw]] 78 (0, 0)), Pt bw (.cells #[ptr p] 73 (0, 0))] g4 := hh4
      have e9 := hh4.pt 10 rfl
      conv => whnf
      repeat (first | (refine opt_if ⟨by omega, by omega⟩ ?_; conv => whnf) | (refine opt_ld (by assumption) (by first | rfl | assumption) ?_; conv => whnf))
      refine rf_intro trivial callable95 fun rr R hr hR hY => ?_
      have hh5 := hh4.new hr (o := R .ready)
      refine Ok.mono (walk95 (Qd := fun g => ∃ (lf : Tb) (st : LS), Has [Pt rr (R st), Pt b13 (.cells #[.bool true] 4 (0, 0)), Pt b12 (.cells #[iv want.length] 3 (0, 0)), Pt b11 (.cells #[.slice sb want.length sc] 80 (0, 0)), SlP rowP zP (.slice sb want.length sc) want, TabP rowI p lf, RtP r lf, Is h, Pt b5 (.cells #[.slice a2 len2 cap2] 72 (0, 0)), Pt b7 (.cells #[ptr p] 73 (0, 0)), Pt b8 (.cells #[ptr r] 74 (0, 0)), Pt b9 (.cells #[.func (.func 95) #[] #[ptr bw]] 78 (0, 0)), Pt bw (.cells #[ptr p] 73 (0, 0))] g ∧ (st = .ready ∨ st = .done (.exit 2)))
        (fun c g => ∃ (l2 lf : Tb) (n : Nat), 0 ≤ c ∧ (n : Int) ≤ c ∧ n ≤ want.length ∧ Rng f2 len2 l2 c n (want.drop n) lf ∧ Has [Pt rr (R .ready), Pt b13 (.cells #[.bool true] 4 (0, 0)), Pt b12 (.cells #[iv n] 3 (0, 0)), Pt b11 (.cells #[.slice sb want.length sc] 80 (0, 0)), SlP rowP zP (.slice sb want.length sc) want, TabP rowI p l2, RtP r l2, Is h, Pt b5 (.cells #[.slice a2 len2 cap2] 72 (0, 0)), Pt b7 (.cells #[ptr p] 73 (0, 0)), Pt b8 (.cells #[ptr r] 74 (0, 0)), Pt b9 (.cells #[.func (.func 95) #[] #[ptr bw]] 78 (0, 0)), Pt bw (.cells #[ptr p] 73 (0, 0))] g)
        (fun c g ⟨l2, lf, n, hc, hnc, hnl, hrg, hh⟩ => ⟨hc, hh.pt 12 rfl, l2, hh.get 5 rfl fun _ _ => TabP.sub, fun hn => ?_, fun k w hk hw => ?_⟩)
        ⟨l, lf, 0, Int.le_refl _, Int.le_refl _, Nat.zero_le _, hrg, hh5⟩) ?_
      · rcases hrg.inv with ⟨_, hx, rfl⟩ | ⟨k, _, _, h1, _⟩
        · have hnw : n = want.length := by have := congrArg List.length hx; simp only [List.length_drop, List.length_nil] at this; omega
          subst hnw
          exact ⟨_, _, hh, .inl rfl⟩
        · rw [hn] at h1; omega
      · refine hY _ g _ rfl (hh.pt 0 rfl) ?_
        conv => whnf
        refine ⟨hh.pt 0 rfl, ?_⟩
        have hh6 := hh.st 0 rfl (R .busy)
        obtain ⟨ys, hdr, hrest⟩ : ∃ ys, want.drop n = ((k : Int), w) :: ys ∧ (((actsN f2 n l2 len2).2.1 = true ∧ ys = [] ∧ lf = (actsN f2 n l2 len2).1) ∨ ((actsN f2 n l2 len2).2.1 = false ∧ Rng f2 len2 (actsN f2 n l2 len2).1 (k + 1) (n + 1) ys lf)) := by
          rcases hrg.inv with ⟨h1, _⟩ | ⟨k2, v2, ys, h1, h2, h3, h4⟩
          · rw [hk] at h1; omega
          · rw [hk] at h1
            have : k = k2 := by omega
            subst this
            rw [hw] at h2
            cases h2
            exact ⟨ys, h3, h4⟩
        have hnw : n < want.length := by have := congrArg List.length hdr; simp only [List.length_drop, List.length_cons] at this; omega
        have hwn : want[n]? = some ((k : Int), w) := by have := congrArg (fun x => x[0]?) hdr; simpa using this
        have hys : ys = want.drop (n + 1) := by rw [← List.drop_drop, hdr]; rfl
        generalize upd g rr (R .busy) = g5 at hh6 ⊢
        obtain ⟨base, cap, hsv, hel⟩ := SlP.look rowP_len (hh6.get 4 rfl fun _ _ => SlP.sub)
        obtain ⟨d, c4, ty4, hb, hd, hcell⟩ := hel n _ hwn
        cases hsv
        subst hb
        have q12 := hh6.pt 2 rfl
        have q11 := hh6.pt 3 rfl
        conv => whnf
        repeat (first | (refine opt_if ⟨by omega, by omega⟩ ?_; conv => whnf) | (refine opt_ld (by assumption) (by first | rfl | assumption) ?_; conv => whnf))
        rw [show decide ((n : Int) ≥ (want.length : Int)) = false from decide_eq_false (by omega)]
        conv => whnf
        repeat (first | (refine opt_if ⟨by omega, by omega⟩ ?_; conv => whnf) | (refine opt_ld (by assumption) (by first | rfl | assumption) ?_; conv => whnf))
        refine opt_ld hd (v := iv k) (hcell 0 _ rfl) ?_
        conv => whnf
        rw [show ((k : Int) != (k : Int)) = false from by simp]
        conv => whnf
        repeat (first | (refine opt_if ⟨by omega, by omega⟩ ?_; conv => whnf) | (refine opt_ld (by assumption) (by first | rfl | assumption) ?_; conv => whnf))
        refine opt_ld hd (v := iv w) (hcell 1 _ rfl) ?_
        conv => whnf
        rw [show (w != w) = false from by simp]
        conv => whnf
        have q7 := hh6.pt 9 rfl
        have q5 := hh6.pt 8 rfl
        conv => whnf
        repeat (first | (refine opt_if ⟨by omega, by omega⟩ ?_; conv => whnf) | (refine opt_ld (by assumption) (by first | rfl | assumption) ?_; conv => whnf))
        have hTb : l2.length ≤ 4096 := (hh6.get 5 rfl fun _ _ => TabP.sub).bound
        have hkl2 : k < l2.length := (List.getElem?_eq_some_iff.1 hw).1
        have hck : c ≤ k := by
          rcases nextR_spec l2 c with ⟨e, _⟩ | ⟨k2, _, e, h1, _⟩
          · rw [hk] at e; omega
          · rw [hk] at e; omega
        have G6 : Has [TabP rowI p l2, Is h, Pt rr (R .busy), Pt b13 (.cells #[.bool true] 4 (0, 0)), Pt b12 (.cells #[iv n] 3 (0, 0)), Pt b11 (.cells #[.slice (some ⟨d, 0, none⟩) want.length sc] 80 (0, 0)), SlP rowP zP (.slice (some ⟨d, 0, none⟩) want.length sc) want, RtP r l2, Pt b5 (.cells #[.slice a2 len2 cap2] 72 (0, 0)), Pt b7 (.cells #[ptr p] 73 (0, 0)), Pt b8 (.cells #[ptr r] 74 (0, 0)), Pt b9 (.cells #[.func (.func 95) #[] #[ptr bw]] 78 (0, 0)), Pt bw (.cells #[ptr p] 73 (0, 0))] g5 := hh6.sl [5, 7, 0, 1, 2, 3, 4, 6, 8, 9, 10, 11, 12] (by decide) rfl
        refine (Has.group (L1 := [_, _]) G6).call1 (told53S n hR2 hlen2) fun _ g6 hh7 => ?_
        have G7 : Has [RtP r l2, Is h, Pt rr (R .busy), Pt b13 (.cells #[.bool true] 4 (0, 0)), Pt b12 (.cells #[iv n] 3 (0, 0)), Pt b11 (.cells #[.slice (some ⟨d, 0, none⟩) want.length sc] 80 (0, 0)), SlP rowP zP (.slice (some ⟨d, 0, none⟩) want.length sc) want, TabP rowI p (actsN f2 n l2 len2).1, Pt b5 (.cells #[.slice a2 len2 cap2] 72 (0, 0)), Pt b7 (.cells #[ptr p] 73 (0, 0)), Pt b8 (.cells #[ptr r] 74 (0, 0)), Pt b9 (.cells #[.func (.func 95) #[] #[ptr bw]] 78 (0, 0)), Pt bw (.cells #[ptr p] 73 (0, 0))] g6 := (hh7.flat : Has [TabP rowI p (actsN f2 n l2 len2).1, Is h, Pt rr (R .busy), Pt b13 (.cells #[.bool true] 4 (0, 0)), Pt b12 (.cells #[iv n] 3 (0, 0)), Pt b11 (.cells #[.slice (some ⟨d, 0, none⟩) want.length sc] 80 (0, 0)), SlP rowP zP (.slice (some ⟨d, 0, none⟩) want.length sc) want, RtP r l2, Pt b5 (.cells #[.slice a2 len2 cap2] 72 (0, 0)), Pt b7 (.cells #[ptr p] 73 (0, 0)), Pt b8 (.cells #[ptr r] 74 (0, 0)), Pt b9 (.cells #[.func (.func 95) #[] #[ptr bw]] 78 (0, 0)), Pt bw (.cells #[ptr p] 73 (0, 0))] g6).sl [7, 1, 2, 3, 4, 5, 6, 0, 8, 9, 10, 11, 12] (by decide) rfl
        clear hh7 G6
        have q8 := G7.pt 10 rfl
        have q5 := G7.pt 8 rfl
        have q12 := G7.pt 4 rfl
        clear q7 q11
        conv => whnf
        repeat (first | (refine opt_if ⟨by omega, by omega⟩ ?_; conv => whnf) | (refine opt_ld (by assumption) (by first | rfl | assumption) ?_; conv => whnf))
        refine (Has.group (L1 := [_, _]) G7).call1 (acted54S n hR2 hlen2) fun _ g7 hh8 => ?_
        have G8 : Has [Pt rr (R .busy), Pt b13 (.cells #[.bool true] 4 (0, 0)), Pt b12 (.cells #[iv n] 3 (0, 0)), Pt b11 (.cells #[.slice (some ⟨d, 0, none⟩) want.length sc] 80 (0, 0)), SlP rowP zP (.slice (some ⟨d, 0, none⟩) want.length sc) want, TabP rowI p (actsN f2 n l2 len2).1, RtP r (actsN f2 n l2 len2).1, Is h, Pt b5 (.cells #[.slice a2 len2 cap2] 72 (0, 0)), Pt b7 (.cells #[ptr p] 73 (0, 0)), Pt b8 (.cells #[ptr r] 74 (0, 0)), Pt b9 (.cells #[.func (.func 95) #[] #[ptr bw]] 78 (0, 0)), Pt bw (.cells #[ptr p] 73 (0, 0))] g7 := (hh8.flat : Has [RtP r (actsN f2 n l2 len2).1, Is h, Pt rr (R .busy), Pt b13 (.cells #[.bool true] 4 (0, 0)), Pt b12 (.cells #[iv n] 3 (0, 0)), Pt b11 (.cells #[.slice (some ⟨d, 0, none⟩) want.length sc] 80 (0, 0)), SlP rowP zP (.slice (some ⟨d, 0, none⟩) want.length sc) want, TabP rowI p (actsN f2 n l2 len2).1, Pt b5 (.cells #[.slice a2 len2 cap2] 72 (0, 0)), Pt b7 (.cells #[ptr p] 73 (0, 0)), Pt b8 (.cells #[ptr r] 74 (0, 0)), Pt b9 (.cells #[.func (.func 95) #[] #[ptr bw]] 78 (0, 0)), Pt bw (.cells #[ptr p] 73 (0, 0))] g7).sl [2, 3, 4, 5, 6, 7, 0, 1, 8, 9, 10, 11, 12] (by decide) rfl
        clear hh8 G7 q8 q5 q12 hh6
        generalize (actsN f2 n l2 len2).1 = l3 at *
        generalize (actsN f2 n l2 len2).2.1 = leave at *
        generalize (actsN f2 n l2 len2).2.2 = nests at *
        have q12 := G8.pt 2 rfl
        conv => whnf
        repeat (first | (refine opt_if ⟨by omega, by omega⟩ ?_; conv => whnf) | (refine opt_ld (by assumption) (by first | rfl | assumption) ?_; conv => whnf))
        refine st_has G8 2 rfl rfl (Nat.le_refl _) rfl fun g8 _ _ hh9 => ?_
        have G9 : Has [Pt rr (R .busy), Pt b13 (.cells #[.bool true] 4 (0, 0)), Pt b12 (.cells #[iv (n + 1 : Nat)] 3 (0, 0)), Pt b11 (.cells #[.slice (some ⟨d, 0, none⟩) want.length sc] 80 (0, 0)), SlP rowP zP (.slice (some ⟨d, 0, none⟩) want.length sc) want, TabP rowI p l3, RtP r l3, Is h, Pt b5 (.cells #[.slice a2 len2 cap2] 72 (0, 0)), Pt b7 (.cells #[ptr p] 73 (0, 0)), Pt b8 (.cells #[ptr r] 74 (0, 0)), Pt b9 (.cells #[.func (.func 95) #[] #[ptr bw]] 78 (0, 0)), Pt bw (.cells #[ptr p] 73 (0, 0))] g8 := by
          have e1 : IntKind.i64.wrap ((n : Int) + 1) = ((n + 1 : Nat) : Int) := wrap_nat (by omega)
          rw [← e1]; exact hh9
        clear hh9 G8 q12
        conv => whnf
        refine cond_dec (fun hpos => ?_) (fun hpos => ?_)
        · have q8 := G9.pt 10 rfl
          conv => whnf
          repeat (first | (refine opt_if ⟨by omega, by omega⟩ ?_; conv => whnf) | (refine opt_ld (by assumption) (by first | rfl | assumption) ?_; conv => whnf))
          refine G9.call 6 rfl copy52S fun r2 ga hha => ?_
          have Ga : Has [RtP r2 l3, Is h, Pt rr (R .busy), Pt b13 (.cells #[.bool true] 4 (0, 0)), Pt b12 (.cells #[iv (n + 1 : Nat)] 3 (0, 0)), Pt b11 (.cells #[.slice (some ⟨d, 0, none⟩) want.length sc] 80 (0, 0)), SlP rowP zP (.slice (some ⟨d, 0, none⟩) want.length sc) want, TabP rowI p l3, RtP r l3, Pt b5 (.cells #[.slice a2 len2 cap2] 72 (0, 0)), Pt b7 (.cells #[ptr p] 73 (0, 0)), Pt b8 (.cells #[ptr r] 74 (0, 0)), Pt b9 (.cells #[.func (.func 95) #[] #[ptr bw]] 78 (0, 0)), Pt bw (.cells #[ptr p] 73 (0, 0))] ga := (Has.spread (i := 6) rfl hha : Has [RtP r2 l3, Pt rr (R .busy), Pt b13 (.cells #[.bool true] 4 (0, 0)), Pt b12 (.cells #[iv (n + 1 : Nat)] 3 (0, 0)), Pt b11 (.cells #[.slice (some ⟨d, 0, none⟩) want.length sc] 80 (0, 0)), SlP rowP zP (.slice (some ⟨d, 0, none⟩) want.length sc) want, TabP rowI p l3, RtP r l3, Is h, Pt b5 (.cells #[.slice a2 len2 cap2] 72 (0, 0)), Pt b7 (.cells #[ptr p] 73 (0, 0)), Pt b8 (.cells #[ptr r] 74 (0, 0)), Pt b9 (.cells #[.func (.func 95) #[] #[ptr bw]] 78 (0, 0)), Pt bw (.cells #[ptr p] 73 (0, 0))] ga).sl [0, 8, 1, 2, 3, 4, 5, 6, 7, 9, 10, 11, 12, 13] (by decide) rfl
          clear hha q8
          conv => whnf
          refine (Has.group (L1 := [_, _]) Ga).call1 (ranged51S (a := none) (len := 0) (cap := 0) (f := fun _ _ => 0) (fun i hi => absurd hi (Nat.not_lt_zero _)) (by omega)) fun x gb hhb => ?_
          obtain ⟨s2, want2⟩ := x
          obtain ⟨⟨lf2, hrg2⟩, hhb⟩ := hhb.pure
          have Gb : Has [SlP rowP zP s2 want2, Is h, Pt rr (R .busy), Pt b13 (.cells #[.bool true] 4 (0, 0)), Pt b12 (.cells #[iv (n + 1 : Nat)] 3 (0, 0)), Pt b11 (.cells #[.slice (some ⟨d, 0, none⟩) want.length sc] 80 (0, 0)), SlP rowP zP (.slice (some ⟨d, 0, none⟩) want.length sc) want, TabP rowI p l3, RtP r l3, Pt b5 (.cells #[.slice a2 len2 cap2] 72 (0, 0)), Pt b7 (.cells #[ptr p] 73 (0, 0)), Pt b8 (.cells #[ptr r] 74 (0, 0)), Pt b9 (.cells #[.func (.func 95) #[] #[ptr bw]] 78 (0, 0)), Pt bw (.cells #[ptr p] 73 (0, 0))] gb := hhb.flat
          obtain ⟨sb2, sc2, hsv2, _⟩ := SlP.look rowP_len (Gb.get 0 rfl fun _ _ => SlP.sub)
          subst hsv2
          clear hhb Ga
          conv => whnf
          refine fresh_has Gb fun b18 gc hb18 _ _ hhc => ?_
          conv => whnf
          refine st_has hhc 0 rfl rfl (Nat.le_refl _) rfl fun gd _ _ hhd => ?_
          conv => whnf
          refine fresh_has hhd fun b19 ge hb19 _ _ hhe => ?_
          conv => whnf
          refine st_has hhe 0 rfl rfl (Nat.le_refl _) rfl fun gf _ _ hhf => ?_
          replace hhf : Has [Pt b19 (.cells #[iv 0] 3 (0, 0)), Pt b18 (.cells #[.slice sb2 want2.length sc2] 80 (0, 0)), SlP rowP zP (.slice sb2 want2.length sc2) want2, Is h, Pt rr (R .busy), Pt b13 (.cells #[.bool true] 4 (0, 0)), Pt b12 (.cells #[iv (n + 1 : Nat)] 3 (0, 0)), Pt b11 (.cells #[.slice (some ⟨d, 0, none⟩) want.length sc] 80 (0, 0)), SlP rowP zP (.slice (some ⟨d, 0, none⟩) want.length sc) want, TabP rowI p l3, RtP r l3, Pt b5 (.cells #[.slice a2 len2 cap2] 72 (0, 0)), Pt b7 (.cells #[ptr p] 73 (0, 0)), Pt b8 (.cells #[ptr r] 74 (0, 0)), Pt b9 (.cells #[.func (.func 95) #[] #[ptr bw]] 78 (0, 0)), Pt bw (.cells #[ptr p] 73 (0, 0))] gf := hhf
          clear hhc hhd hhe Gb
          have q9 := hhf.pt 14 rfl
          have qrr := hhf.pt 4 rfl
          conv => whnf
          repeat (first | (refine opt_if ⟨by omega, by omega⟩ ?_; conv => whnf) | (refine opt_ld (by assumption) (by first | rfl | assumption) ?_; conv => whnf))
          refine rf_intro (by obtain ⟨rv, hrv⟩ := hR .busy; exact ⟨rv, by rw [qrr, hrv]⟩) callable95 fun rr2 R2 hr2 hR2' hY2 => ?_
          have hhg := hhf.new hr2 (o := R2 .ready)
          refine Ok.mono (walk95 (Qd := fun g => Has [Pt rr2 (R2 .ready), Pt b19 (.cells #[iv want2.length] 3 (0, 0)), Pt b18 (.cells #[.slice sb2 want2.length sc2] 80 (0, 0)), SlP rowP zP (.slice sb2 want2.length sc2) want2, Is h, Pt rr (R .busy), Pt b13 (.cells #[.bool true] 4 (0, 0)), Pt b12 (.cells #[iv (n + 1 : Nat)] 3 (0, 0)), Pt b11 (.cells #[.slice (some ⟨d, 0, none⟩) want.length sc] 80 (0, 0)), SlP rowP zP (.slice (some ⟨d, 0, none⟩) want.length sc) want, TabP rowI p l3, RtP r l3, Pt b5 (.cells #[.slice a2 len2 cap2] 72 (0, 0)), Pt b7 (.cells #[ptr p] 73 (0, 0)), Pt b8 (.cells #[ptr r] 74 (0, 0)), Pt b9 (.cells #[.func (.func 95) #[] #[ptr bw]] 78 (0, 0)), Pt bw (.cells #[ptr p] 73 (0, 0))] g)
            (fun c g => ∃ n2 : Nat, 0 ≤ c ∧ (n2 : Int) ≤ c ∧ n2 ≤ want2.length ∧ Rng (fun _ _ => 0) 0 l3 c n2 (want2.drop n2) lf2 ∧ Has [Pt rr2 (R2 .ready), Pt b19 (.cells #[iv n2] 3 (0, 0)), Pt b18 (.cells #[.slice sb2 want2.length sc2] 80 (0, 0)), SlP rowP zP (.slice sb2 want2.length sc2) want2, Is h, Pt rr (R .busy), Pt b13 (.cells #[.bool true] 4 (0, 0)), Pt b12 (.cells #[iv (n + 1 : Nat)] 3 (0, 0)), Pt b11 (.cells #[.slice (some ⟨d, 0, none⟩) want.length sc] 80 (0, 0)), SlP rowP zP (.slice (some ⟨d, 0, none⟩) want.length sc) want, TabP rowI p l3, RtP r l3, Pt b5 (.cells #[.slice a2 len2 cap2] 72 (0, 0)), Pt b7 (.cells #[ptr p] 73 (0, 0)), Pt b8 (.cells #[ptr r] 74 (0, 0)), Pt b9 (.cells #[.func (.func 95) #[] #[ptr bw]] 78 (0, 0)), Pt bw (.cells #[ptr p] 73 (0, 0))] g)
            (fun c g ⟨n2, hc, hnc, hnl, hrg, hh⟩ => ⟨hc, hh.pt 16 rfl, l3, hh.get 10 rfl fun _ _ => TabP.sub, fun hn => ?_, fun k w hk hw => ?_⟩)
            ⟨0, Int.le_refl _, Int.le_refl _, Nat.zero_le _, hrg2, hhg⟩) ?_
          · rcases hrg.inv with ⟨_, hx, rfl⟩ | ⟨k, _, _, h1, _⟩
            · have hnw : n2 = want2.length := by have := congrArg List.length hx; simp only [List.length_drop, List.length_nil] at this; omega
              subst hnw
              exact hh
            · rw [hn] at h1; omega
          · refine hY2 _ g _ rfl (hh.pt 0 rfl) ?_
            conv => whnf
            refine ⟨hh.pt 0 rfl, ?_⟩
            have hj := hh.st 0 rfl (R2 .busy)
            obtain ⟨ys2, hdr, hrest2⟩ : ∃ ys, want2.drop n2 = ((k : Int), w) :: ys ∧ Rng (fun _ _ => 0) 0 l3 (k + 1) (n2 + 1) ys lf2 := by
              rcases hrg.inv with ⟨h1, _⟩ | ⟨k2, v2, ys, h1, h2, h3, h4⟩
              · rw [hk] at h1; omega
              · rw [hk] at h1
                have : k = k2 := by omega
                subst this
                rw [hw] at h2
                cases h2
                rcases h4 with ⟨h4, _⟩ | ⟨_, h4⟩
                · cases h4
                · exact ⟨ys, h3, h4⟩
            have hnw : n2 < want2.length := by have := congrArg List.length hdr; simp only [List.length_drop, List.length_cons] at this; omega
            have hwn : want2[n2]? = some ((k : Int), w) := by have := congrArg (fun x => x[0]?) hdr; simpa using this
            have hys2 : ys2 = want2.drop (n2 + 1) := by rw [← List.drop_drop, hdr]; rfl
            generalize upd g rr2 (R2 .busy) = gj at hj ⊢
            obtain ⟨base, cap, hsv, hel⟩ := SlP.look rowP_len (hj.get 3 rfl fun _ _ => SlP.sub)
            obtain ⟨d2, c5, ty5, hb, hd, hcell⟩ := hel n2 _ hwn
            cases hsv
            subst hb
            have hTb3 : l3.length ≤ 4096 := (hj.get 10 rfl fun _ _ => TabP.sub).bound
            have hkl3 : k < l3.length := (List.getElem?_eq_some_iff.1 hw).1
            have hck : c ≤ k := by
              rcases nextR_spec l3 c with ⟨e, _⟩ | ⟨k2, _, e, h1, _⟩
              · rw [hk] at e; omega
              · rw [hk] at e; omega
            have q19 := hj.pt 1 rfl
            have q18 := hj.pt 2 rfl
            conv => whnf
            repeat (first | (refine opt_if ⟨by omega, by omega⟩ ?_; conv => whnf) | (refine opt_ld (by assumption) (by first | rfl | assumption) ?_; conv => whnf))
            rw [show decide ((n2 : Int) ≥ (want2.length : Int)) = false from decide_eq_false (by omega)]
            conv => whnf
            repeat (first | (refine opt_if ⟨by omega, by omega⟩ ?_; conv => whnf) | (refine opt_ld (by assumption) (by first | rfl | assumption) ?_; conv => whnf))
            refine opt_ld hd (v := iv k) (hcell 0 _ rfl) ?_
            conv => whnf
            rw [show ((k : Int) != (k : Int)) = false from by simp]
            conv => whnf
            repeat (first | (refine opt_if ⟨by omega, by omega⟩ ?_; conv => whnf) | (refine opt_ld (by assumption) (by first | rfl | assumption) ?_; conv => whnf))
            refine opt_ld hd (v := iv w) (hcell 1 _ rfl) ?_
            conv => whnf
            rw [show (w != w) = false from by simp]
            conv => whnf
            repeat (first | (refine opt_if ⟨by omega, by omega⟩ ?_; conv => whnf) | (refine opt_ld (by assumption) (by first | rfl | assumption) ?_; conv => whnf))
            refine st_has hj 1 rfl rfl (Nat.le_refl _) rfl fun gk _ _ hk2 => ?_
            conv => whnf
            have e1 : IntKind.i64.wrap ((n2 : Int) + 1) = ((n2 + 1 : Nat) : Int) := wrap_nat (by omega)
            rw [hys2] at hrest2
            refine ⟨hk2.pt 0 rfl, .inl ⟨rfl, n2 + 1, by omega, by omega, by omega, hrest2, ?_⟩⟩
            rw [← e1]
            exact hk2.st 0 rfl (R2 .ready)
          · intro v' gl hhl
            refine ⟨.ready, hhl.pt 0 rfl, fun o => ?_⟩
            have hm := hhl.st 0 rfl o
            have q13 := hm.pt 6 rfl
            have q19 := hm.pt 1 rfl
            have q18 := hm.pt 2 rfl
            conv => whnf
            repeat (first | (refine opt_if ⟨by omega, by omega⟩ ?_; conv => whnf) | (refine opt_ld (by assumption) (by first | rfl | assumption) ?_; conv => whnf))
            rw [show ((want2.length : Int) == (want2.length : Int)) = true from by simp]
            conv => whnf
            refine st_has hm 6 rfl rfl (Nat.le_refl _) rfl fun gn _ _ hn => ?_
            have Gn : Has [Pt rr (R .busy), Pt b13 (.cells #[.bool true] 4 (0, 0)), Pt b12 (.cells #[iv (n + 1 : Nat)] 3 (0, 0)), Pt b11 (.cells #[.slice (some ⟨d, 0, none⟩) want.length sc] 80 (0, 0)), SlP rowP zP (.slice (some ⟨d, 0, none⟩) want.length sc) want, TabP rowI p l3, RtP r l3, Is h, Pt b5 (.cells #[.slice a2 len2 cap2] 72 (0, 0)), Pt b7 (.cells #[ptr p] 73 (0, 0)), Pt b8 (.cells #[ptr r] 74 (0, 0)), Pt b9 (.cells #[.func (.func 95) #[] #[ptr bw]] 78 (0, 0)), Pt bw (.cells #[ptr p] 73 (0, 0))] gn := (hn : Has [Pt rr2 o, Pt b19 (.cells #[iv want2.length] 3 (0, 0)), Pt b18 (.cells #[.slice sb2 want2.length sc2] 80 (0, 0)), SlP rowP zP (.slice sb2 want2.length sc2) want2, Is h, Pt rr (R .busy), Pt b13 (.cells #[.bool true] 4 (0, 0)), Pt b12 (.cells #[iv (n + 1 : Nat)] 3 (0, 0)), Pt b11 (.cells #[.slice (some ⟨d, 0, none⟩) want.length sc] 80 (0, 0)), SlP rowP zP (.slice (some ⟨d, 0, none⟩) want.length sc) want, TabP rowI p l3, RtP r l3, Pt b5 (.cells #[.slice a2 len2 cap2] 72 (0, 0)), Pt b7 (.cells #[ptr p] 73 (0, 0)), Pt b8 (.cells #[ptr r] 74 (0, 0)), Pt b9 (.cells #[.func (.func 95) #[] #[ptr bw]] 78 (0, 0)), Pt bw (.cells #[ptr p] 73 (0, 0))] gn).tail.tail.tail.tail.sl [1, 2, 3, 4, 5, 6, 7, 0, 8, 9, 10, 11, 12] (by decide) rfl
            clear hm hn
            conv => whnf
            have HF := Gn
            cases leave with
            | true =>
              conv => whnf
              rcases hrest with ⟨_, hy0, hlf⟩ | ⟨hf, _⟩
              · have hnl2 : n + 1 = want.length := by have := congrArg List.length (hys.symm.trans hy0); simp only [List.length_drop, List.length_nil] at this; omega
                rw [hnl2] at HF
                refine ⟨HF.pt 0 rfl, .inr ⟨rfl, l3, _, HF.st 0 rfl (R (.done (.exit 2))), .inr rfl⟩⟩
              · cases hf
            | false =>
              have q13' := HF.pt 1 rfl
              conv => whnf
              repeat (first | (refine opt_if ⟨by omega, by omega⟩ ?_; conv => whnf) | (refine opt_ld (by assumption) (by first | rfl | assumption) ?_; conv => whnf))
              rcases hrest with ⟨hf, _⟩ | ⟨_, hrg2⟩
              · cases hf
              · rw [hys] at hrg2
                exact ⟨HF.pt 0 rfl, .inl ⟨rfl, l3, lf, n + 1, by omega, by omega, by omega, hrg2, HF.st 0 rfl (R .ready)⟩⟩
        · conv => whnf
          have HF := G9
          cases leave with
          | true =>
            conv => whnf
            rcases hrest with ⟨_, hy0, hlf⟩ | ⟨hf, _⟩
            · have hnl2 : n + 1 = want.length := by have := congrArg List.length (hys.symm.trans hy0); simp only [List.length_drop, List.length_nil] at this; omega
              rw [hnl2] at HF
              refine ⟨HF.pt 0 rfl, .inr ⟨rfl, l3, _, HF.st 0 rfl (R (.done (.exit 2))), .inr rfl⟩⟩
            · cases hf
          | false =>
            have q13' := HF.pt 1 rfl
            conv => whnf
            repeat (first | (refine opt_if ⟨by omega, by omega⟩ ?_; conv => whnf) | (refine opt_ld (by assumption) (by first | rfl | assumption) ?_; conv => whnf))
            rcases hrest with ⟨hf, _⟩ | ⟨_, hrg2⟩
            · cases hf
            · rw [hys] at hrg2
              exact ⟨HF.pt 0 rfl, .inl ⟨rfl, l3, lf, n + 1, by omega, by omega, by omega, hrg2, HF.st 0 rfl (R .ready)⟩⟩
      · rintro v' g ⟨lf', st, hh, hst⟩
        refine ⟨st, hh.pt 0 rfl, fun o => ?_⟩
        have hm := hh.st 0 rfl o
        have q13 := hm.pt 1 rfl
        have q12 := hm.pt 2 rfl
        have q11 := hm.pt 3 rfl
        have q7 := hm.pt 9 rfl
        have q8 := hm.pt 10 rfl
        rcases hst with rfl | rfl
        all_goals
          conv => whnf
          repeat (first | (refine opt_if ⟨by omega, by omega⟩ ?_; conv => whnf) | (refine opt_ld (by assumption) (by first | rfl | assumption) ?_; conv => whnf))
          rw [show ((want.length : Int) == (want.length : Int)) = true from by simp]
          conv => whnf
          repeat (first | (refine opt_if ⟨by omega, by omega⟩ ?_; conv => whnf) | (refine opt_ld (by assumption) (by first | rfl | assumption) ?_; conv => whnf))
          refine alike55 (hm.get 5 rfl fun _ _ => TabP.sub) (hm.get 6 rfl fun _ _ => RtP.sub) ?_
          conv => whnf
          refine ⟨(i + 1, lf', upd g rr o), ⟨by omega, hm.tail.tail.tail.tail.tail⟩, (by show 2 - (i + 1) < 2 - i; omega), (by repeat (first | exact trivial | refine ⟨rfl, ?_⟩ | refine ⟨int_eq (wrap_nat (by omega)) rfl, ?_⟩)), subB_nil, rfl⟩
    refine ⟨kp _, _, kp_sub kg, SubB.refl _, ?_⟩
    conv => whnf
    repeat (first | (refine opt_if ⟨by omega, by omega⟩ ?_; conv => whnf) | (refine opt_ld (by assumption) (by first | rfl | assumption) ?_; conv => whnf))
    refine ⟨?_, ?_⟩
    · refine hh.call 1 rfl copy52S fun r2 g1 hh => ?_
      have H1 : Has [RtP r2 l, TabP rowI p l, RtP r l, Is h, Pt b5 (.cells #[.slice a2 len2 cap2] 72 (0, 0)), Pt b7 (.cells #[ptr p] 73 (0, 0)), Pt b8 (.cells #[ptr r] 74 (0, 0)), Pt b9 (.cells #[.func (.func 95) #[] #[ptr bw]] 78 (0, 0)), Pt bw (.cells #[ptr p] 73 (0, 0))] g1 := (Has.spread (i := 1) rfl hh)
      conv => whnf
      refine ⟨_, _, ⟨SubH.refl _, SubB.refl _⟩, (kp2 (H1.pt 4 rfl) (H1.pt 6 rfl)), SubB.refl _, ?_⟩
      conv => whnf
      refine ⟨?_, ?_⟩
      · refine (Has.group (L1 := [_, _]) ((H1.sl [0, 3, 1, 2, 4, 5, 6, 7, 8] (by decide) rfl : Has [RtP r2 l, Is h, TabP rowI p l, RtP r l, Pt b5 (.cells #[.slice a2 len2 cap2] 72 (0, 0)), Pt b7 (.cells #[ptr p] 73 (0, 0)), Pt b8 (.cells #[ptr r] 74 (0, 0)), Pt b9 (.cells #[.func (.func 95) #[] #[ptr bw]] 78 (0, 0)), Pt bw (.cells #[ptr p] 73 (0, 0))] g1))).call1 (ranged51S hR2 hlen2) fun x g2 hh => ?_
        obtain ⟨s, want⟩ := x
        obtain ⟨hrg, hh⟩ := hh.pure
        have H2 : Has [SlP rowP zP s want, TabP rowI p l, RtP r l, Is h, Pt b5 (.cells #[.slice a2 len2 cap2] 72 (0, 0)), Pt b7 (.cells #[ptr p] 73 (0, 0)), Pt b8 (.cells #[ptr r] 74 (0, 0)), Pt b9 (.cells #[.func (.func 95) #[] #[ptr bw]] 78 (0, 0)), Pt bw (.cells #[ptr p] 73 (0, 0))] g2 := (hh.flat : Has [SlP rowP zP s want, Is h, TabP rowI p l, RtP r l, Pt b5 (.cells #[.slice a2 len2 cap2] 72 (0, 0)), Pt b7 (.cells #[ptr p] 73 (0, 0)), Pt b8 (.cells #[ptr r] 74 (0, 0)), Pt b9 (.cells #[.func (.func 95) #[] #[ptr bw]] 78 (0, 0)), Pt bw (.cells #[ptr p] 73 (0, 0))] g2).sl [0, 2, 3, 1, 4, 5, 6, 7, 8] (by decide) rfl
        conv => whnf
        refine ⟨_, _, (kp2 (H2.pt 4 rfl) (H2.pt 6 rfl)), SubB.refl _, ?_⟩
        conv => whnf
        refine fresh_has H2 fun b11 g3 hb11 _ _ H3 => ?_
        conv => whnf
        refine ⟨⟨(kp2 (H3.pt 5 rfl) (H3.pt 7 rfl)), SubB.refl _⟩, ?_⟩
        conv => whnf
        obtain ⟨sb, sc, hsv, _⟩ := SlP.look rowP_len (H3.get 1 rfl fun _ _ => SlP.sub)
        replace hsv : s = .slice sb want.length sc := hsv
        subst hsv
        refine st_has H3 0 rfl rfl (Nat.le_refl _) rfl fun g4 _ _ H4 => ?_
        conv => whnf
        exact ⟨(b11, _, want, g4), ⟨hrg, H4⟩, (by repeat (first | exact trivial | refine ⟨rfl, ?_⟩ | refine ⟨int_eq (wrap_nat (by omega)) rfl, ?_⟩)), subB_nil, rfl⟩
      · refine fresh_has H1 fun b11 g2 hb11 _ _ H2 => ?_
        conv => whnf
        refine ⟨⟨(kp2 (H2.pt 5 rfl) (H2.pt 7 rfl)), SubB.refl _⟩, ?_⟩
        conv => whnf
        refine (Has.group (L1 := [_, _]) ((H2.sl [1, 4, 0, 2, 3, 5, 6, 7, 8, 9] (by decide) rfl : Has [RtP r2 l, Is h, Pt b11 (.cells #[.slice none 0 0] 80 (0, 0)), TabP rowI p l, RtP r l, Pt b5 (.cells #[.slice a2 len2 cap2] 72 (0, 0)), Pt b7 (.cells #[ptr p] 73 (0, 0)), Pt b8 (.cells #[ptr r] 74 (0, 0)), Pt b9 (.cells #[.func (.func 95) #[] #[ptr bw]] 78 (0, 0)), Pt bw (.cells #[ptr p] 73 (0, 0))] g2))).call1 (ranged51S hR2 hlen2) fun x g3 hh => ?_
        obtain ⟨s, want⟩ := x
        obtain ⟨hrg, hh⟩ := hh.pure
        have H3 : Has [Pt b11 (.cells #[.slice none 0 0] 80 (0, 0)), SlP rowP zP s want, TabP rowI p l, RtP r l, Is h, Pt b5 (.cells #[.slice a2 len2 cap2] 72 (0, 0)), Pt b7 (.cells #[ptr p] 73 (0, 0)), Pt b8 (.cells #[ptr r] 74 (0, 0)), Pt b9 (.cells #[.func (.func 95) #[] #[ptr bw]] 78 (0, 0)), Pt bw (.cells #[ptr p] 73 (0, 0))] g3 := (hh.flat : Has [SlP rowP zP s want, Is h, Pt b11 (.cells #[.slice none 0 0] 80 (0, 0)), TabP rowI p l, RtP r l, Pt b5 (.cells #[.slice a2 len2 cap2] 72 (0, 0)), Pt b7 (.cells #[ptr p] 73 (0, 0)), Pt b8 (.cells #[ptr r] 74 (0, 0)), Pt b9 (.cells #[.func (.func 95) #[] #[ptr bw]] 78 (0, 0)), Pt bw (.cells #[ptr p] 73 (0, 0))] g3).sl [2, 0, 3, 4, 1, 5, 6, 7, 8, 9] (by decide) rfl
        conv => whnf
        obtain ⟨sb, sc, hsv, _⟩ := SlP.look rowP_len (H3.get 1 rfl fun _ _ => SlP.sub)
        replace hsv : s = .slice sb want.length sc := hsv
        subst hsv
        refine st_has H3 0 rfl rfl (Nat.le_refl _) rfl fun g4 _ _ H4 => ?_
        conv => whnf
        exact ⟨(b11, _, want, g4), ⟨hrg, H4⟩, (by repeat (first | exact trivial | refine ⟨rfl, ?_⟩ | refine ⟨int_eq (wrap_nat (by omega)) rfl, ?_⟩)), subB_nil, rfl⟩
    · refine fresh_has hh fun b11 g1 hb11 _ _ H1 => ?_
      conv => whnf
      refine ⟨_, _, ⟨SubH.refl _, SubB.refl _⟩, (kp2 (H1.pt 4 rfl) (H1.pt 6 rfl)), SubB.refl _, ?_⟩
      conv => whnf
      refine H1.call 2 rfl copy52S fun r2 g2 hh => ?_
      have H2 : Has [Pt b11 (.cells #[.slice none 0 0] 80 (0, 0)), RtP r2 l, TabP rowI p l, RtP r l, Is h, Pt b5 (.cells #[.slice a2 len2 cap2] 72 (0, 0)), Pt b7 (.cells #[ptr p] 73 (0, 0)), Pt b8 (.cells #[ptr r] 74 (0, 0)), Pt b9 (.cells #[.func (.func 95) #[] #[ptr bw]] 78 (0, 0)), Pt bw (.cells #[ptr p] 73 (0, 0))] g2 := (Has.spread (i := 2) rfl hh).swap
      conv => whnf
      refine ⟨⟨(kp2 (H2.pt 5 rfl) (H2.pt 7 rfl)), SubB.refl _⟩, ?_⟩
      conv => whnf
      refine (Has.group (L1 := [_, _]) ((H2.sl [1, 4, 0, 2, 3, 5, 6, 7, 8, 9] (by decide) rfl : Has [RtP r2 l, Is h, Pt b11 (.cells #[.slice none 0 0] 80 (0, 0)), TabP rowI p l, RtP r l, Pt b5 (.cells #[.slice a2 len2 cap2] 72 (0, 0)), Pt b7 (.cells #[ptr p] 73 (0, 0)), Pt b8 (.cells #[ptr r] 74 (0, 0)), Pt b9 (.cells #[.func (.func 95) #[] #[ptr bw]] 78 (0, 0)), Pt bw (.cells #[ptr p] 73 (0, 0))] g2))).call1 (ranged51S hR2 hlen2) fun x g3 hh => ?_
      obtain ⟨s, want⟩ := x
      obtain ⟨hrg, hh⟩ := hh.pure
      have H3 : Has [Pt b11 (.cells #[.slice none 0 0] 80 (0, 0)), SlP rowP zP s want, TabP rowI p l, RtP r l, Is h, Pt b5 (.cells #[.slice a2 len2 cap2] 72 (0, 0)), Pt b7 (.cells #[ptr p] 73 (0, 0)), Pt b8 (.cells #[ptr r] 74 (0, 0)), Pt b9 (.cells #[.func (.func 95) #[] #[ptr bw]] 78 (0, 0)), Pt bw (.cells #[ptr p] 73 (0, 0))] g3 := (hh.flat : Has [SlP rowP zP s want, Is h, Pt b11 (.cells #[.slice none 0 0] 80 (0, 0)), TabP rowI p l, RtP r l, Pt b5 (.cells #[.slice a2 len2 cap2] 72 (0, 0)), Pt b7 (.cells #[ptr p] 73 (0, 0)), Pt b8 (.cells #[ptr r] 74 (0, 0)), Pt b9 (.cells #[.func (.func 95) #[] #[ptr bw]] 78 (0, 0)), Pt bw (.cells #[ptr p] 73 (0, 0))] g3).sl [2, 0, 3, 4, 1, 5, 6, 7, 8, 9] (by decide) rfl
      conv => whnf
      obtain ⟨sb, sc, hsv, _⟩ := SlP.look rowP_len (H3.get 1 rfl fun _ _ => SlP.sub)
      replace hsv : s = .slice sb want.length sc := hsv
      subst hsv
      refine st_has H3 0 rfl rfl (Nat.le_refl _) rfl fun g4 _ _ H4 => ?_
      conv => whnf
      exact ⟨(b11, _, want, g4), ⟨hrg, H4⟩, (by repeat (first | exact trivial | refine ⟨rfl, ?_⟩ | refine ⟨int_eq (wrap_nat (by omega)) rfl, ?_⟩)), subB_nil, rfl⟩
  · conv => whnf
    exact hq _ (hh.is 2 rfl)

end
end Go.Proofs.Ytkmknolkblcbeaa.V
