/- Seat 08: going through all cells: All, fits, each, On; Room. -/
import Derived.Test.YthpkgkoojhgedaaDoorK17
import Derived.Test.YthpkgkoojhgedaaDoorK2
namespace Go.Proofs.YthpkgkoojhgedaaDoor.V
set_option linter.unusedVariables false
set_option linter.unusedSimpArgs false
set_option linter.unusedSectionVars false
set_option linter.unusedSectionVars false
open Go

theorem callableAll : callable PR 77 = true := by kernel_rfl

section
variable {h : Hp} {Q : Value → Hp → Prop} {p d : Nat} {l : List (Option Nat)}

theorem tnextQ (hT : TabP rowP p l h) (i : Int) (hq : Q (iv (nextR l i)) h) : Ok PR 78 [ptr p, iv i] h Q := by
  obtain ⟨d, hT⟩ := hT
  refine tnext hT i (fun k v h1 h2 h3 => ?_) (fun h1 => ?_)
  · rw [nextR_some h1 h2 h3] at hq; exact hq
  · rw [nextR_none h1] at hq; exact hq

theorem tallH {L : List As} (hh : Has L h) (hq : ∀ b h', Has (Pt b (.cells #[ptr p] 77 (0, 0)) :: L) h' → SubH h h' → h b = none → Q (.func (.func 77) #[] #[ptr b]) h') : Ok PR 49 [ptr p] h Q := by
  refine e49 rfl ?_
  conv => whnf
  refine fresh_has hh fun b h' hb hn hs hh' => ?_
  conv => whnf
  exact hq b h' hh' hs hn

theorem twalk {l : Nat} {b p : Nat} {ty : TypeId} {Qd : Hp → Prop} (Inv : Int → Hp → Prop)
    (hstep : ∀ c h, Inv c h → 0 ≤ c ∧ h b = some (.cells #[ptr p] ty (0, 0)) ∧ ∃ L, TabP rowP p L h ∧
      ((nextR L c = -1 → Qd h) ∧ ∀ (k : Nat) v, nextR L c = k → L[k]? = some (some v) → OkY PR l [iv k, ptr v] h (fun r h' => (r = .bool true ∧ Inv (k + 1) h') ∨ (r = .bool false ∧ Qd h'))))
    {h : Hp} (h0 : Inv 0 h) : Ok PR 77 [.func (.yield l) #[] #[], ptr b] h (fun v h' => Qd h') := by
  obtain ⟨_, hb, L, hT, hd, hs⟩ := hstep 0 h h0
  refine e77 rfl ?_
  conv => whnf
  refine opt_ld hb rfl ?_
  conv => whnf
  refine tnextQ hT 0 ?_
  conv => whnf
  refine loop_intro (σ := Int × Hp) (fun s => [(3, .v (iv s.1)), (0, .v (.func (.yield l) #[] #[])), (1, .v (ptr b))]) (fun _ => []) (fun s => s.2)
    (fun s => ∃ c L, Inv c s.2 ∧ TabP rowP p L s.2 ∧ s.1 = nextR L c ∧ (s.1 = -1 → Qd s.2) ∧ ∀ (k : Nat) v, nextR L c = k → L[k]? = some (some v) → OkY PR l [iv k, ptr v] s.2 (fun r h' => (r = .bool true ∧ Inv (k + 1) h') ∨ (r = .bool false ∧ Qd h')))
    (fun s => if s.1 < 0 then 0 else (4097 - s.1).toNat) (nextR L 0, h) ⟨0, L, h0, hT, rfl, hd, hs⟩
    (by repeat (first | exact trivial | refine ⟨rfl, ?_⟩ | refine ⟨int_eq (wrap_nat (by omega)) rfl, ?_⟩)) subB_nil rfl ?_
  rintro ⟨m, g⟩ ⟨c, L, hI, hT, hm, hd, hs⟩
  dsimp only at hI hT hm hd hs ⊢
  have hc0 := (hstep c g hI).1
  have hb := (hstep c g hI).2.1
  clear h0
  rcases nextR_spec L c with ⟨hn, _⟩ | ⟨k, v, hn, hck, _, hk⟩
  · rw [hn] at hm
    subst hm
    conv => whnf
    exact hd rfl
  · rw [hn] at hm
    subst hm
    have hkl : k < L.length := (List.getElem?_eq_some_iff.1 hk).1
    have hbd := hT.bound
    obtain ⟨d, low, hT'⟩ := hT
    obtain ⟨ty, hc⟩ := hT'.cell
    obtain ⟨ty2, hdd⟩ := hT'.data
    conv => whnf
    refine opt_ld hb rfl ?_
    conv => whnf
    refine opt_ld hc rfl ?_
    conv => whnf
    refine opt_if ⟨by omega, by omega⟩ ?_
    conv => whnf
    refine opt_ld hdd (v := ptr v) (rowP_val hk) ?_
    conv => whnf
    refine (hs k v hn hk).mono fun r h' hr => ?_
    rcases hr with ⟨rfl, hI'⟩ | ⟨rfl, hQ⟩
    · obtain ⟨_, hb', L', hT2, hd2, hs2⟩ := hstep _ _ hI'
      conv => whnf
      refine opt_ld hb' rfl ?_
      conv => whnf
      refine tnextQ hT2 _ ?_
      rw [wrap_nat (by omega)]
      conv => whnf
      have hlt : nextR L' ((k : Int) + 1) = -1 ∨ (k : Int) < nextR L' ((k : Int) + 1) ∧ nextR L' ((k : Int) + 1) < 4097 := by
        rcases nextR_spec L' ((k : Int) + 1) with ⟨e, _⟩ | ⟨k2, v2, e, h1, _, h2⟩
        · exact .inl e
        · have := (List.getElem?_eq_some_iff.1 h2).1
          have := hT2.bound
          exact .inr (by omega)
      refine ⟨(nextR L' ((k : Int) + 1), h'), ⟨_, L', hI', hT2, rfl, hd2, hs2⟩, ?_, (by repeat (first | exact trivial | refine ⟨rfl, ?_⟩ | refine ⟨int_eq (wrap_nat (by omega)) rfl, ?_⟩)), subB_nil, rfl⟩
      dsimp only
      rcases hlt with e | ⟨e1, e2⟩
      · rw [e, if_pos (show (-1 : Int) < 0 by decide), if_neg (show ¬ (k : Int) < 0 by omega)]; omega
      · rw [if_neg (show ¬ nextR L' ((k : Int) + 1) < 0 by omega), if_neg (show ¬ (k : Int) < 0 by omega)]; omega
    · conv => whnf
      exact hQ
end

/-! ### Positions -/

def posC (c : Ce) : Nat := c.env * 48 + c.slot

/-- Going through all cells while something changes: the book and the rest by position. -/
structure Swp (b : Nat) (Sp : Nat → Bs) (X : Nat → As) : Prop where
  wf : ∀ p, WF (Sp p)
  shape : ∀ p, (Sp p).tb.map (·.map (·.1)) = (Sp 0).tb.map (·.map (·.1))
  gap : ∀ p, p < 768 → (∀ c ∈ (Sp p).cs, posC c ≠ p) → Sp (p + 1) = Sp p ∧ X (p + 1) = X p

section
variable {h : Hp} {Q : Value → Hp → Prop} {L : List As} {b : Nat} {Sp : Nat → Bs} {X : Nat → As}

theorem Swp.skip (hs : Swp b Sp X) {p q : Nat} (hpq : p ≤ q) (hq : q ≤ 768) (hno : ∀ c ∈ (Sp p).cs, ¬ (p ≤ posC c ∧ posC c < q)) : Sp q = Sp p ∧ X q = X p := by
  obtain ⟨d, rfl⟩ := Nat.exists_eq_add_of_le hpq
  induction d with
  | zero => exact ⟨rfl, rfl⟩
  | succ d ih =>
    obtain ⟨e1, e2⟩ := ih (by omega) (by omega) fun c hc h => hno c hc ⟨h.1, by omega⟩
    obtain ⟨g1, g2⟩ := hs.gap (p + d) (by omega) fun c hc h => hno c (by rw [← e1]; exact hc) ⟨by omega, by omega⟩
    exact ⟨g1.trans e1, g2.trans e2⟩

theorem Swp.tab (hs : Swp b Sp X) (p : Nat) {e : Nat} (he : e < 16) : (got (Sp p).tb (e : Int)).map (·.1) = (got (Sp 0).tb (e : Int)).map (·.1) := by
  have h1 : ((Sp p).tb.map (·.map (·.1)))[e]? = ((Sp 0).tb.map (·.map (·.1)))[e]? := by rw [hs.shape p]
  rw [List.getElem?_map, List.getElem?_map] at h1
  rw [got_nat, got_nat]
  have l1 := (hs.wf p).len
  have l2 := (hs.wf 0).len
  rw [List.getElem?_eq_getElem (by omega), List.getElem?_eq_getElem (by omega)] at h1 ⊢
  simpa using h1

theorem pos_lt {S : Bs} (hw : WF S) {c : Ce} (hc : c ∈ S.cs) : c.env < 16 ∧ c.slot < 48 := by
  obtain ⟨t, l, a1, a2⟩ := hw.t2 c hc
  have := (List.getElem?_eq_some_iff.1 a1).1
  have := hw.len
  have := hw.tl a1
  have := (List.getElem?_eq_some_iff.1 a2).1
  omega
end
end Go.Proofs.YthpkgkoojhgedaaDoor.V
