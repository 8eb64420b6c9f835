/- Find and Copy of tables of numbers. -/
import Derived.Test.YtkmknolkblcbeaaB19
namespace Go.Proofs.Ytkmknolkblcbeaa.V
set_option linter.unusedVariables false
set_option linter.unusedSimpArgs false
set_option linter.unusedSectionVars false
open Go

theorem callable95 : callable PR 95 = true := by kernel_rfl

section
variable {h : Hp} {Q : Value → Hp → Prop} {p : Nat} {l : Tb}

theorem find69Q (hT : TabP rowI p l h) (v : Int) (hq : ∀ h', SubH h h' → Q (iv (findR l v)) h') : Ok PR 69 [ptr p, iv v] h Q := by
  refine e69 rfl ?_
  conv => whnf
  refine fresh_has (Has.start h) fun b1 h1 hb1 _ _ hh1 => ?_
  conv => whnf
  refine fresh_has hh1 fun b2 h2 hb2 _ hs2 hh2 => ?_
  conv => whnf
  refine all50H hh2 fun b3 h3 hh3 _ _ => ?_
  conv => whnf
  refine rf_intro trivial callable95 fun r R hr hR hY => ?_
  have hh4 := hh3.new hr (o := R .ready)
  refine Ok.mono (walk95 (Qd := fun h' => (Has [Pt r (R .ready), Pt b3 (.cells #[ptr p] 73 (0, 0)), Pt b2 (.cells #[iv 0] 3 (0, 0)), Pt b1 (.cells (iv v).cells 3 (0, 0)), Is h] h' ∧ findR l v = -1) ∨
      Has [Pt r (R (.done .ret)), Pt b3 (.cells #[ptr p] 73 (0, 0)), Pt b2 (.cells #[iv (findR l v)] 3 (0, 0)), Pt b1 (.cells (iv v).cells 3 (0, 0)), Is h] h')
    (fun c h' => 0 ≤ c ∧ Has [Pt r (R .ready), Pt b3 (.cells #[ptr p] 73 (0, 0)), Pt b2 (.cells #[iv 0] 3 (0, 0)), Pt b1 (.cells (iv v).cells 3 (0, 0)), Is h] h' ∧ ∀ j : Nat, (j : Int) < c → l[j]? ≠ some (some v))
    (fun c g ⟨hc, hh, hj⟩ => ⟨hc, hh.pt 1 rfl, l, hT.sub (hh.is 4 rfl), fun hn => .inl ⟨hh, ?_⟩, fun k w hk hw => ?_⟩)
    ⟨Int.le_refl _, hh4, fun j hj => by omega⟩) ?_
  · refine findR_none fun j hjv => ?_
    rcases nextR_spec l c with ⟨_, h1⟩ | ⟨k, w, e, _⟩
    · by_cases hcj : c ≤ j
      · rw [h1 j hcj (List.getElem?_eq_some_iff.1 hjv).1] at hjv; cases hjv
      · exact hj j (by omega) hjv
    · rw [hn] at e; omega
  · have hck : ∀ j : Nat, (j : Int) < k → l[j]? ≠ some (some v) := fun j hjk hjv => by
      rcases nextR_spec l c with ⟨e, _⟩ | ⟨k2, w2, e, h1, h2, h3⟩
      · rw [hk] at e; omega
      · rw [hk] at e
        have : k2 = k := by omega
        subst this
        by_cases hcj : c ≤ j
        · rw [h2 j hcj (by omega)] at hjv; cases hjv
        · exact hj j (by omega) hjv
    refine hY _ g _ rfl (hh.pt 0 rfl) ?_
    conv => whnf
    refine ⟨hh.pt 0 rfl, ?_⟩
    have hh5 := hh.st 0 rfl (R .busy)
    conv => whnf
    have hv := hh5.pt 3 rfl
    refine opt_ld hv rfl ?_
    conv => whnf
    refine cond_beq (fun he => ?_) (fun he => ?_)
    · conv => whnf
      refine st_has hh5 2 rfl rfl (Nat.le_refl _) rfl fun g2 _ _ hh6 => ?_
      conv => whnf
      refine ⟨hh6.pt 0 rfl, .inr ⟨rfl, .inr ?_⟩⟩
      rw [findR_some (k := k) (by rw [hw, he]) (fun j hjk => hck j (by omega))]
      exact hh6.st 0 rfl (R (.done .ret))
    · conv => whnf
      refine ⟨hh5.pt 0 rfl, .inl ⟨rfl, by omega, by have := hh5.st 0 rfl (R .ready); exact this, fun j hjk => ?_⟩⟩
      by_cases hjk2 : j = k
      · subst hjk2; rw [hw]; simpa using he
      · exact hck j (by omega)
  · rintro v' h' (⟨hh, hf⟩ | hh)
    · refine ⟨.ready, hh.pt 0 rfl, fun o => ?_⟩
      have hh' := hh.st 0 rfl o
      conv => whnf
      refine st_has hh' 2 rfl rfl (Nat.le_refl _) rfl fun g2 hg2 _ hh6 => ?_
      conv => whnf
      refine ret_c rfl hg2 (v := iv (-1)) rfl ?_
      rw [← hf]
      exact hq _ (hh6.is 4 rfl)
    · refine ⟨.done .ret, hh.pt 0 rfl, fun o => ?_⟩
      have hh' := hh.st 0 rfl o
      conv => whnf
      refine ret_c rfl (hh'.pt 2 rfl) (v := iv (findR l v)) rfl ?_
      exact hq _ (hh'.is 4 rfl)

theorem copy62S : Sp PR 62 [ptr p] (TabP rowI p l) (X := Nat) (fun q => ptr q) (fun q => Has [TabP rowI p l, TabP rowI q l]) := by
  intro h hT
  have hbd := hT.bound
  refine e62 rfl ?_
  conv => whnf
  refine bound63Q hT ?_
  conv => whnf
  refine (Has.one hT).make (new56S l.length) fun q h1 hh1 => ?_
  have hrep : List.replicate (min (max (l.length : Int) 0) 4096).toNat (none : Option Int) = cpy l 0 := by
    rw [cpy_zero]; congr 1; omega
  rw [hrep] at hh1
  conv => whnf
  refine fresh_has hh1 fun b1 h2 hb1 _ _ hh2 => ?_
  conv => whnf
  refine st_has hh2 0 rfl rfl (Nat.le_refl _) rfl fun h3 hb1' _ hh3 => ?_
  conv => whnf
  refine all50H hh3 fun b3 h4 hh4 _ _ => ?_
  conv => whnf
  refine rf_intro trivial callable95 fun r R hr hR hY => ?_
  have hh5 := hh4.new hr (o := R .ready)
  refine Ok.mono (walk95 (Qd := fun g => Has [Pt r (R .ready), Pt b3 (.cells #[ptr p] 73 (0, 0)), Pt b1 (.cells #[ptr q] 73 (0, 0)), TabP rowI q l, TabP rowI p l] g)
    (fun c g => 0 ≤ c ∧ Has [Pt r (R .ready), Pt b3 (.cells #[ptr p] 73 (0, 0)), Pt b1 (.cells #[ptr q] 73 (0, 0)), TabP rowI q (cpy l c.toNat), TabP rowI p l] g)
    (fun c g ⟨hc, hh⟩ => ⟨hc, hh.pt 1 rfl, l, (let ⟨g', h1, h2⟩ := hh.at 4 rfl; TabP.sub h1 h2), fun hn => ?_, fun k w hk hw => ?_⟩)
    ⟨Int.le_refl _, hh5⟩) ?_
  · rcases nextR_spec l c with ⟨_, h1⟩ | ⟨k, w, e, _⟩
    · have : cpy l c.toNat = l := cpy_done fun j h2 h3 => h1 j (by omega) h3
      rw [this] at hh; exact hh
    · rw [hn] at e; omega
  · have hcp : cpy l c.toNat = cpy l k := by
      rcases nextR_spec l c with ⟨e, _⟩ | ⟨k2, w2, e, h1, h2, h3⟩
      · rw [hk] at e; omega
      · rw [hk] at e
        have : k2 = k := by omega
        subst this
        exact cpy_skip (by omega) fun j h4 h5 => h2 j (by omega) h5
    have hkl : k < l.length := (List.getElem?_eq_some_iff.1 hw).1
    rw [hcp] at hh
    refine hY _ g _ rfl (hh.pt 0 rfl) ?_
    conv => whnf
    refine ⟨hh.pt 0 rfl, ?_⟩
    have hh6 := hh.st 0 rfl (R .busy)
    conv => whnf
    refine opt_ld (hh6.pt 2 rfl) (v := ptr q) rfl ?_
    conv => whnf
    refine hh6.call 3 rfl (lay101S w (by rw [cpy_get, if_neg (Nat.lt_irrefl _), if_pos hkl])) fun _ g3 hh7 => ?_
    rw [cpy_set hw] at hh7
    conv => whnf
    refine ⟨hh7.pt 0 rfl, .inl ⟨rfl, by omega, ?_⟩⟩
    exact hh7.st 0 rfl (R .ready)
  · intro v' g hh
    refine ⟨.ready, hh.pt 0 rfl, fun o => ?_⟩
    have hh' := hh.st 0 rfl o
    conv => whnf
    refine opt_ld (hh'.pt 2 rfl) (v := ptr q) rfl ?_
    conv => whnf
    exact ⟨q, rfl, (hh'.tail.tail.tail : Has [TabP rowI q l, TabP rowI p l] _).swap⟩

end
end Go.Proofs.Ytkmknolkblcbeaa.V
