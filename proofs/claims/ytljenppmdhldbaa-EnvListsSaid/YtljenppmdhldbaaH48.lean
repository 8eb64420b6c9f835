/- Seat 09: who lives. -/
import Derived.Test.YtljenppmdhldbaaH30
namespace Go.Proofs.Ytljenppmdhldbaa.V
set_option linter.unusedVariables false
set_option linter.unusedSimpArgs false
set_option linter.unusedSectionVars false
set_option linter.unusedSectionVars false
open Go

theorem callable97 : callable PR 97 = true := by kernel_rfl

section
variable {h : Hp} {Q : Value → Hp → Prop} {p d : Nat} {l : List (Option Nat)}

theorem next98Q (hT : TabP rowP p l h) (i : Int) (hq : Q (iv (nextR l i)) h) : Ok PR 98 [ptr p, iv i] h Q := by
  obtain ⟨d, hT⟩ := hT
  refine next98 hT i (fun k v h1 h2 h3 => ?_) (fun h1 => ?_)
  · rw [nextR_some h1 h2 h3] at hq; exact hq
  · rw [nextR_none h1] at hq; exact hq

theorem all70H {L : List As} (hh : Has L h) (hq : ∀ b h', Has (Pt b (.cells #[ptr p] 94 (0, 0)) :: L) h' → SubH h h' → h b = none → Q (.func (.func 97) #[] #[ptr b]) h') : Ok PR 70 [ptr p] h Q := by
  refine e70 rfl ?_
  conv => whnf
  refine fresh_has hh fun b h' hb hn hs hh' => ?_
  conv => whnf
  exact hq b h' hh' hs hn

theorem walk97 {l : Nat} {b p : Nat} {Qd : Hp → Prop} (Inv : Int → Hp → Prop)
    (hstep : ∀ c h, Inv c h → 0 ≤ c ∧ h b = some (.cells #[ptr p] 94 (0, 0)) ∧ ∃ L, TabP rowP p L h ∧
      ((nextR L c = -1 → Qd h) ∧ ∀ (k : Nat) v, nextR L c = k → L[k]? = some (some v) → OkY PR l [iv k, ptr v] h (fun r h' => (r = .bool true ∧ Inv (k + 1) h') ∨ (r = .bool false ∧ Qd h'))))
    {h : Hp} (h0 : Inv 0 h) : Ok PR 97 [.func (.yield l) #[] #[], ptr b] h (fun v h' => Qd h') := by
  obtain ⟨_, hb, L, hT, hd, hs⟩ := hstep 0 h h0
  refine e97 rfl ?_
  conv => whnf
  refine opt_ld hb rfl ?_
  conv => whnf
  refine next98Q hT 0 ?_
  conv => whnf
  refine loop_intro (σ := Int × Hp) (fun s => [(3, .v (iv s.1)), (0, .v (.func (.yield l) #[] #[])), (1, .v (ptr b))]) (fun _ => []) (fun s => s.2)
    (fun s => ∃ c L, Inv c s.2 ∧ TabP rowP p L s.2 ∧ s.1 = nextR L c ∧ (s.1 = -1 → Qd s.2) ∧ ∀ (k : Nat) v, nextR L c = k → L[k]? = some (some v) → OkY PR l [iv k, ptr v] s.2 (fun r h' => (r = .bool true ∧ Inv (k + 1) h') ∨ (r = .bool false ∧ Qd h')))
    (fun s => if s.1 < 0 then 0 else (4097 - s.1).toNat) (nextR L 0, h) ⟨0, L, h0, hT, rfl, hd, hs⟩
    (by repeat (first | exact trivial | refine ⟨rfl, ?_⟩ | refine ⟨int_eq (wrap_nat (by omega)) rfl, ?_⟩)) subB_nil rfl ?_
  rintro ⟨m, g⟩ ⟨c, L, hI, hT, hm, hd, hs⟩
  dsimp only at hI hT hm hd hs ⊢
  have hc0 := (hstep c g hI).1
  have hb := (hstep c g hI).2.1
  clear h0
  rcases nextR_spec L c with ⟨hn, _⟩ | ⟨k, v, hn, hck, _, hk⟩
  · rw [hn] at hm
    subst hm
    conv => whnf
    exact hd rfl
  · rw [hn] at hm
    subst hm
    have hkl : k < L.length := (List.getElem?_eq_some_iff.1 hk).1
    have hbd := hT.bound
    obtain ⟨d, low, hT'⟩ := hT
    obtain ⟨ty, hc⟩ := hT'.cell
    obtain ⟨ty2, hdd⟩ := hT'.data
    conv => whnf
    refine opt_ld hb rfl ?_
    conv => whnf
    refine opt_ld hc rfl ?_
    conv => whnf
    refine opt_if ⟨by omega, by omega⟩ ?_
    conv => whnf
    refine opt_ld hdd (v := ptr v) (rowP_val hk) ?_
    conv => whnf
    refine (hs k v hn hk).mono fun r h' hr => ?_
    rcases hr with ⟨rfl, hI'⟩ | ⟨rfl, hQ⟩
    · obtain ⟨_, hb', L', hT2, hd2, hs2⟩ := hstep _ _ hI'
      conv => whnf
      refine opt_ld hb' rfl ?_
      conv => whnf
      refine next98Q hT2 _ ?_
      rw [wrap_nat (by omega)]
      conv => whnf
      have hlt : nextR L' ((k : Int) + 1) = -1 ∨ (k : Int) < nextR L' ((k : Int) + 1) ∧ nextR L' ((k : Int) + 1) < 4097 := by
        rcases nextR_spec L' ((k : Int) + 1) with ⟨e, _⟩ | ⟨k2, v2, e, h1, _, h2⟩
        · exact .inl e
        · have := (List.getElem?_eq_some_iff.1 h2).1
          have := hT2.bound
          exact .inr (by omega)
      refine ⟨(nextR L' ((k : Int) + 1), h'), ⟨_, L', hI', hT2, rfl, hd2, hs2⟩, ?_, (by repeat (first | exact trivial | refine ⟨rfl, ?_⟩ | refine ⟨int_eq (wrap_nat (by omega)) rfl, ?_⟩)), subB_nil, rfl⟩
      dsimp only
      rcases hlt with e | ⟨e1, e2⟩
      · rw [e, if_pos (show (-1 : Int) < 0 by decide), if_neg (show ¬ (k : Int) < 0 by omega)]; omega
      · rw [if_neg (show ¬ nextR L' ((k : Int) + 1) < 0 by omega), if_neg (show ¬ (k : Int) < 0 by omega)]; omega
    · conv => whnf
      exact hQ

end

/-- What is taken below c. -/
def tkI (l : List (Option Nat)) (c : Int) : List Int := ((List.range c.toNat).filter fun k : Nat => (got l (k : Int)).isSome).map fun k : Nat => (k : Int)

theorem range_split {c k : Nat} (h : c ≤ k) : List.range k = List.range c ++ (List.range (k - c)).map (c + ·) := by
  rw [← List.range_add, show c + (k - c) = k by omega]

theorem tkI_gap {l : List (Option Nat)} {c k : Nat} (hc : c ≤ k) (h1 : ∀ j : Nat, c ≤ j → j < k → got l (j : Int) = none) : tkI l (k : Int) = tkI l (c : Int) := by
  unfold tkI
  rw [Int.toNat_natCast, Int.toNat_natCast, range_split hc, List.filter_append]
  have : ((List.range (k - c)).map (c + ·)).filter (fun k : Nat => (got l (k : Int)).isSome) = [] := by
    rw [List.filter_eq_nil_iff]
    intro x hx
    obtain ⟨y, hy, rfl⟩ := List.mem_map.1 hx
    have := List.mem_range.1 hy
    rw [h1 (c + y) (by omega) (by omega)]; simp
  rw [this, List.append_nil]

theorem tkI_step {l : List (Option Nat)} {c : Int} {k v : Nat} (h0 : 0 ≤ c) (hc : c ≤ k) (h1 : ∀ j : Nat, c ≤ j → j < k → l[j]? = some none) (h2 : l[k]? = some (some v)) : tkI l ((k : Int) + 1) = tkI l c ++ [(k : Int)] := by
  obtain ⟨c', rfl⟩ := Int.eq_ofNat_of_zero_le h0
  rw [← tkI_gap (l := l) (c := c') (k := k) (by omega) fun j hj hk => by rw [got_nat, h1 j (by omega) hk]]
  unfold tkI
  rw [show ((k : Int) + 1).toNat = k + 1 by omega, Int.toNat_natCast, List.range_succ, List.filter_append, List.map_append, List.filter_cons_of_pos (by rw [got_nat, h2]; rfl)]
  rfl

theorem tkI_end {l : List (Option Nat)} {c : Int} (h0 : 0 ≤ c) (h1 : ∀ j : Nat, c ≤ j → j < l.length → l[j]? = some none) (hl : l.length ≤ 16) : tkI l 16 = tkI l (min c 16) := by
  obtain ⟨c', rfl⟩ := Int.eq_ofNat_of_zero_le h0
  by_cases h : c' ≤ 16
  · rw [show min (c' : Int) 16 = c' by omega]
    exact tkI_gap (c := c') (k := 16) h fun j hj hk => by
      by_cases hj2 : j < l.length
      · rw [got_nat, h1 j (by omega) hj2]
      · exact got_big (by omega)
  · rw [show min (c' : Int) 16 = 16 by omega]

def liveL (A : Rs) : List Int := ((List.range 16).filter fun k : Nat => (fnd A (k : Int)).isSome).map fun k : Nat => (k : Int)

theorem tkI_len (l : List (Option Nat)) (c : Int) : (tkI l c).length ≤ c.toNat := by
  unfold tkI; rw [List.length_map]
  have := List.length_filter_le (fun k : Nat => (got l (k : Int)).isSome) (List.range c.toNat)
  rwa [List.length_range] at this

section
variable {h : Hp} {Q : Value → Hp → Prop} {L : List As} {t : Nat} {A : Rs} {last : Int}

theorem live38A (hw : WF A last) (hh : Has (EnvA t A last :: L) h) (hq : ∀ s h', Has (IntsP s (liveL A) :: EnvA t A last :: L) h' → Q s h') : Ok PR 38 [ptr t] h Q := by
  obtain ⟨tb, xs, a1, a2, hh⟩ := EnvP.opn hh
  have hbl : (blk xs).length = 16 := by unfold blk; rw [List.length_map]; exact a1
  have hlv : tkI (blk xs) 16 = liveL A := by
    unfold tkI liveL
    congr 1
    refine List.filter_congr fun k hk => ?_
    have hk : k < 16 := List.mem_range.1 hk
    have h1 := xlook (xs := xs) hw a2 (k : Int)
    rcases h1 with ⟨h1, h2⟩ | ⟨n, b, r, s, e, _, h1, h2, _⟩
    · rw [h1, h2]; rfl
    · rw [h1, h2]; rfl
  refine e38 rfl (seq_step fun K hK => ?_)
  repeat (first | ((with_reducible refine hK _ _ _ ?_); clear hK) | (with_reducible refine seq_step fun K hK => ?_) | (with_reducible refine block_step ?_) | ((with_reducible refine cond_t ?_ ?_); focus rfl) | ((with_reducible refine cond_f ?_ ?_); focus rfl) | ((with_reducible refine code_id ?_); conv => whnf) | (clear hK; (with_reducible refine hK _ _ _ ?_); clear hK) | (clear hK; clear hK; (with_reducible refine hK _ _ _ ?_); clear hK) | (clear hK; clear hK; clear hK; (with_reducible refine hK _ _ _ ?_); clear hK) | (clear hK; clear hK; clear hK; clear hK; (with_reducible refine hK _ _ _ ?_); clear hK) | (clear hK; clear hK; clear hK; clear hK; clear hK; (with_reducible refine hK _ _ _ ?_); clear hK) | (clear hK; clear hK; clear hK; clear hK; clear hK; clear hK; (with_reducible refine hK _ _ _ ?_); clear hK) | (clear hK; clear hK; clear hK; clear hK; clear hK; clear hK; clear hK; (with_reducible refine hK _ _ _ ?_); clear hK))
  refine fresh_has hh fun b2 h2 hb2 _ hs2 hh2 => ?_
  conv => whnf
  repeat (first | ((with_reducible refine hK _ _ _ ?_); clear hK) | (with_reducible refine seq_step fun K hK => ?_) | (with_reducible refine block_step ?_) | ((with_reducible refine cond_t ?_ ?_); focus rfl) | ((with_reducible refine cond_f ?_ ?_); focus rfl) | ((with_reducible refine code_id ?_); conv => whnf) | (clear hK; (with_reducible refine hK _ _ _ ?_); clear hK) | (clear hK; clear hK; (with_reducible refine hK _ _ _ ?_); clear hK) | (clear hK; clear hK; clear hK; (with_reducible refine hK _ _ _ ?_); clear hK) | (clear hK; clear hK; clear hK; clear hK; (with_reducible refine hK _ _ _ ?_); clear hK) | (clear hK; clear hK; clear hK; clear hK; clear hK; (with_reducible refine hK _ _ _ ?_); clear hK) | (clear hK; clear hK; clear hK; clear hK; clear hK; clear hK; (with_reducible refine hK _ _ _ ?_); clear hK) | (clear hK; clear hK; clear hK; clear hK; clear hK; clear hK; clear hK; (with_reducible refine hK _ _ _ ?_); clear hK))
  refine opt_ld (hh2.pt 1 rfl) (v := ptr tb) rfl ?_
  conv => whnf
  refine all70H hh2 fun b3 h3 hh3 _ _ => ?_
  conv => whnf
  repeat (first | ((with_reducible refine hK _ _ _ ?_); clear hK) | (with_reducible refine seq_step fun K hK => ?_) | (with_reducible refine block_step ?_) | ((with_reducible refine cond_t ?_ ?_); focus rfl) | ((with_reducible refine cond_f ?_ ?_); focus rfl) | ((with_reducible refine code_id ?_); conv => whnf) | (clear hK; (with_reducible refine hK _ _ _ ?_); clear hK) | (clear hK; clear hK; (with_reducible refine hK _ _ _ ?_); clear hK) | (clear hK; clear hK; clear hK; (with_reducible refine hK _ _ _ ?_); clear hK) | (clear hK; clear hK; clear hK; clear hK; (with_reducible refine hK _ _ _ ?_); clear hK) | (clear hK; clear hK; clear hK; clear hK; clear hK; (with_reducible refine hK _ _ _ ?_); clear hK) | (clear hK; clear hK; clear hK; clear hK; clear hK; clear hK; (with_reducible refine hK _ _ _ ?_); clear hK) | (clear hK; clear hK; clear hK; clear hK; clear hK; clear hK; clear hK; (with_reducible refine hK _ _ _ ?_); clear hK))
  refine rf_intro trivial callable97 fun r R hr hR hY => ?_
  have hh4 := hh3.new hr (o := R .ready)
  have hlen : ∀ c : Int, (tkI (blk xs) c).length ≤ c.toNat := tkI_len (blk xs)
  refine Ok.mono (walk97 (p := tb) (Qd := fun h' => ∃ s, Has (Pt r (R .ready) :: Pt b3 (.cells #[ptr tb] 94 (0, 0)) :: Pt b2 (.cells #[s] 22 (0, 0)) :: IntsP s (liveL A) :: Pt t (.cells #[ptr tb, iv last] 98 (0, 0)) :: TabP rowP tb (blk xs) :: RecsP xs :: L) h')
    (fun c h' => 0 ≤ c ∧ c ≤ 16 ∧ ∃ s, Has (Pt r (R .ready) :: Pt b3 (.cells #[ptr tb] 94 (0, 0)) :: Pt b2 (.cells #[s] 22 (0, 0)) :: IntsP s (tkI (blk xs) c) :: Pt t (.cells #[ptr tb, iv last] 98 (0, 0)) :: TabP rowP tb (blk xs) :: RecsP xs :: L) h')
    (fun c g ⟨hc, hc16, s, hg⟩ => ⟨hc, hg.pt 1 rfl, blk xs, Has.get hg 5 rfl fun _ _ => TabP.sub, fun hn => ?_, fun k w hk hw' => ?_⟩)
    ⟨Int.le_refl _, by decide, .slice none 0 0, ?_⟩) ?_
  · rcases nextR_spec (blk xs) c with ⟨_, h1⟩ | ⟨k, w, e, _⟩
    · refine ⟨s, ?_⟩
      rw [← hlv, tkI_end hc h1 (by omega), show min c 16 = c by omega]; exact hg
    · rw [hn] at e; omega
  · obtain ⟨hck, hno⟩ : c ≤ (k : Int) ∧ ∀ j : Nat, c ≤ j → j < k → (blk xs)[j]? = some none := by
      rcases nextR_spec (blk xs) c with ⟨e, _⟩ | ⟨k2, w2, e, h1, h2, h3⟩
      · rw [hk] at e; omega
      · rw [hk] at e
        have : k2 = k := by omega
        subst this
        exact ⟨h1, h2⟩
    have etk := tkI_step hc hck hno hw'
    have hk16 : k < 16 := by have := (List.getElem?_eq_some_iff.1 hw').1; omega
    refine hY _ g _ rfl (hg.pt 0 rfl) ?_
    conv => whnf
    refine ⟨hg.pt 0 rfl, ?_⟩
    have hg3 := hg.st 0 rfl (R .busy)
    conv => whnf
    refine opt_ld (hg3.pt 2 rfl) (v := s) rfl ?_
    conv => whnf
    refine fresh_has hg3 fun b6 g3 hb6 _ _ hg4 => ?_
    conv => whnf
    have hg4' : Has (Pt b6 (.cells #[iv k] 3 (0, 0)) :: IntsP s (tkI (blk xs) c) :: Pt r (R .busy) :: Pt b3 (.cells #[ptr tb] 94 (0, 0)) :: Pt b2 (.cells #[s] 22 (0, 0)) :: Pt t (.cells #[ptr tb, iv last] 98 (0, 0)) :: TabP rowP tb (blk xs) :: RecsP xs :: L) g3 := (hg4.pull 4 rfl).pull 1 rfl
    refine app1 (x := (k : Int)) hg4' (by have := hlen c; omega) fun s7 g5 hg5 => ?_
    rw [← etk] at hg5
    obtain ⟨bs7, cp7, hs7⟩ := hg5.slv 0 rfl
    subst hs7
    conv => whnf
    refine st_has hg5 3 rfl rfl (Nat.le_refl _) rfl fun g6 _ _ hg6 => ?_
    have hg6 : Has (IntsP (.slice bs7 (tkI (blk xs) ((k : Int) + 1)).length cp7) (tkI (blk xs) ((k : Int) + 1)) :: Pt r (R .busy) :: Pt b3 (.cells #[ptr tb] 94 (0, 0)) :: Pt b2 (.cells #[.slice bs7 (tkI (blk xs) ((k : Int) + 1)).length cp7] 22 (0, 0)) :: Pt t (.cells #[ptr tb, iv last] 98 (0, 0)) :: TabP rowP tb (blk xs) :: RecsP xs :: L) g6 := hg6
    conv => whnf
    refine ⟨hg6.pt 1 rfl, .inl ⟨rfl, by omega, by omega, .slice bs7 (tkI (blk xs) ((k : Int) + 1)).length cp7, ?_⟩⟩
    exact (((hg6.st 1 rfl (R .ready)).pull 3 rfl).pull 3 rfl).pull 3 rfl
  · exact hh4.map_tail fun g hg => hg.map_tail fun g hg => hg.map_tail fun g hg => hg.nilW 1
  · rintro v' h' ⟨s, hg⟩
    refine ⟨.ready, hg.pt 0 rfl, fun o => ?_⟩
    have hg' := hg.st 0 rfl o
    repeat (first | ((with_reducible refine hK _ _ _ ?_); clear hK) | (with_reducible refine seq_step fun K hK => ?_) | (with_reducible refine block_step ?_) | ((with_reducible refine cond_t ?_ ?_); focus rfl) | ((with_reducible refine cond_f ?_ ?_); focus rfl) | ((with_reducible refine code_id ?_); conv => whnf) | (clear hK; (with_reducible refine hK _ _ _ ?_); clear hK) | (clear hK; clear hK; (with_reducible refine hK _ _ _ ?_); clear hK) | (clear hK; clear hK; clear hK; (with_reducible refine hK _ _ _ ?_); clear hK) | (clear hK; clear hK; clear hK; clear hK; (with_reducible refine hK _ _ _ ?_); clear hK) | (clear hK; clear hK; clear hK; clear hK; clear hK; (with_reducible refine hK _ _ _ ?_); clear hK) | (clear hK; clear hK; clear hK; clear hK; clear hK; clear hK; (with_reducible refine hK _ _ _ ?_); clear hK) | (clear hK; clear hK; clear hK; clear hK; clear hK; clear hK; clear hK; (with_reducible refine hK _ _ _ ?_); clear hK))
    refine opt_ld (hg'.pt 2 rfl) (v := s) rfl ?_
    conv => whnf
    repeat (first | ((with_reducible refine hK _ _ _ ?_); clear hK) | (with_reducible refine seq_step fun K hK => ?_) | (with_reducible refine block_step ?_) | ((with_reducible refine cond_t ?_ ?_); focus rfl) | ((with_reducible refine cond_f ?_ ?_); focus rfl) | ((with_reducible refine code_id ?_); conv => whnf) | (clear hK; (with_reducible refine hK _ _ _ ?_); clear hK) | (clear hK; clear hK; (with_reducible refine hK _ _ _ ?_); clear hK) | (clear hK; clear hK; clear hK; (with_reducible refine hK _ _ _ ?_); clear hK) | (clear hK; clear hK; clear hK; clear hK; (with_reducible refine hK _ _ _ ?_); clear hK) | (clear hK; clear hK; clear hK; clear hK; clear hK; (with_reducible refine hK _ _ _ ?_); clear hK) | (clear hK; clear hK; clear hK; clear hK; clear hK; clear hK; (with_reducible refine hK _ _ _ ?_); clear hK) | (clear hK; clear hK; clear hK; clear hK; clear hK; clear hK; clear hK; (with_reducible refine hK _ _ _ ?_); clear hK))
    exact hq s _ ((((hg'.erase 0).erase 0).erase 0).map_tail fun g hg => EnvP.cls a1 a2 hg)

end
end Go.Proofs.Ytljenppmdhldbaa.V
