/- The bounded table of Cells, by parts of a heap. -/
import Derived.Test.YtkmknolkblcbeaaB7
import Derived.Test.YtkmknolkblcbeaaC8
import Derived.Test.YtkmknolkblcbeaaB18
import Derived.Test.YtkmknolkblcbeaaB19
namespace Go.Proofs.Ytkmknolkblcbeaa.V
set_option linter.unusedVariables false
open Go

section
variable {h : Hp} {Q : Value → Hp → Prop} {p d : Nat} {l : Tb}

theorem new37S (a : Int) : Sp PR 37 [iv a] (fun _ => True) (X := Nat) (fun p => ptr p) (fun p => TabP rowC p (List.replicate (min (max a 0) 4096).toNat none)) := fun h _ =>
  new37 a fun p d h' hT _ _ _ => ⟨p, rfl, d, hT⟩

theorem put40S (v : Int) : Sp PR 40 [ptr p, ce v] (TabP rowC p l) (X := Unit) (fun _ => .tuple #[iv (putR l v).1, iv (putR l v).2.1]) (fun _ => TabP rowC p (putR l v).2.2) := by
  rintro h ⟨d, hT⟩
  refine put40 hT v (fun k h1 h2 h' hT' _ => ?_) (fun h1 h' hT' _ => ?_)
  · rw [putR_free h1 h2]; exact ⟨(), rfl, d, hT'⟩
  · rw [putR_full h1]; exact ⟨(), rfl, d, hT'⟩

theorem putat90S (i v : Int) : Sp PR 90 [ptr p, iv i, ce v] (TabP rowC p l) (X := Unit) (fun _ => iv (putAtR l i v).1) (fun _ => TabP rowC p (putAtR l i v).2) := by
  rintro h ⟨d, hT⟩
  refine putat90 hT i v (fun h1 => ?_) (fun w hw => ?_) (fun k hk hl h' hT' _ => ?_)
  · have : putAtR l i v = (30, l) := by simp [putAtR, h1]
    rw [this]; exact ⟨(), rfl, d, hT⟩
  · obtain ⟨k, rfl, hkl, hk⟩ := got_some hw
    have : putAtR l (k : Int) v = (31, l) := by simp [putAtR, hw]; omega
    rw [this]; exact ⟨(), rfl, d, hT⟩
  · subst hk
    have hkl : k < l.length := (List.getElem?_eq_some_iff.1 hl).1
    have hg : got l (k : Int) = none := by rw [got_nat, hl]
    have : putAtR l (k : Int) v = (0, l.set k (some v)) := by simp [putAtR, hg]; omega
    rw [this]; exact ⟨(), rfl, d, hT'⟩

theorem get89Q (hT : TabP rowC p l h) (i : Int) (hq : Q (.tuple #[((got l i).map ce).getD ze, .bool (got l i).isSome]) h) : Ok PR 89 [ptr p, iv i] h Q := by
  obtain ⟨d, hT⟩ := hT
  refine get89 hT i (fun v hv => ?_) (fun hv => ?_)
  · rw [hv] at hq; exact hq
  · rw [hv] at hq; exact hq

theorem drop42S (i : Int) : Sp PR 42 [ptr p, iv i] (TabP rowC p l) (X := Unit) (fun _ => .tuple #[((dropR l i).1.map ce).getD ze, .bool (dropR l i).1.isSome]) (fun _ => TabP rowC p (dropR l i).2) := by
  rintro h ⟨d, hT⟩
  refine drop42 hT i (fun k v hk hl h' hT' _ => ?_) (fun hg => ?_)
  · subst hk
    have : dropR l (k : Int) = (some v, l.set k none) := by simp [dropR, got_nat, hl]
    rw [this]; exact ⟨(), rfl, d, hT'⟩
  · have : dropR l i = (none, l) := by simp [dropR, hg]
    rw [this]; exact ⟨(), rfl, d, hT⟩

theorem next43Q (hT : TabP rowC p l h) (i : Int) (hq : Q (iv (nextR l i)) h) : Ok PR 43 [ptr p, iv i] h Q := by
  obtain ⟨d, hT⟩ := hT
  refine next43 hT i (fun k v h1 h2 h3 => ?_) (fun h1 => ?_)
  · rw [nextR_some h1 h2 h3] at hq; exact hq
  · rw [nextR_none h1] at hq; exact hq

theorem len41Q (hT : TabP rowC p l h) (hq : Q (iv (cnt l)) h) : Ok PR 41 [ptr p] h Q := by
  obtain ⟨d, hT⟩ := hT
  exact len41 hT hq

theorem bound44Q (hT : TabP rowC p l h) (hq : Q (iv l.length) h) : Ok PR 44 [ptr p] h Q := by
  obtain ⟨d, hT⟩ := hT
  exact bound44 hT hq

theorem clear48S : Sp PR 48 [ptr p] (TabP rowC p l) (X := Unit) (fun _ => .tuple #[]) (fun _ => TabP rowC p (clearR l)) := by
  rintro h ⟨d, hT⟩
  exact clear48 hT fun h' hT' _ => ⟨(), rfl, d, hT'⟩

theorem lay87S {k : Nat} (v : Int) (hk : l[k]? = some none) : Sp PR 87 [ptr p, iv k, ce v] (TabP rowC p l) (X := Unit) (fun _ => .tuple #[]) (fun _ => TabP rowC p (l.set k (some v))) := by
  rintro h ⟨d, low, hT⟩
  exact lay87 hT v hk fun h' hT' _ => ⟨(), rfl, d, low, hT'⟩

theorem set103S (i v : Int) : Sp PR 103 [ptr p, iv i, ce v] (TabP rowC p l) (X := Unit) (fun _ => .bool (setR l i v).1) (fun _ => TabP rowC p (setR l i v).2) := by
  rintro h ⟨d, low, hT⟩
  obtain ⟨ty, hc⟩ := hT.cell
  obtain ⟨ty2, hd⟩ := hT.data
  refine e103 rfl ?_
  conv => whnf
  refine has88 ⟨low, hT⟩ i ?_
  cases hg : got l i with
  | none =>
    conv => whnf
    have : setR l i v = (false, l) := by simp [setR, hg]
    exact ⟨(), by rw [this]; rfl, d, by rw [this]; exact ⟨low, hT⟩⟩
  | some w =>
    obtain ⟨k, rfl, hkl, hk⟩ := got_some hg
    have : setR l (k : Int) v = (true, l.set k (some v)) := by simp [setR, hg]
    conv => whnf
    repeat (first | (refine opt_if ⟨by omega, by omega⟩ ?_; conv => whnf) | (refine opt_ld (by assumption) (by first | rfl | assumption) ?_; conv => whnf))
    refine opt_st (x := ce v) hd rfl ?_ (.inl (Nat.zero_le _)) rfl ?_
    · simp only [List.size_toArray, flat_len rowC_len]
      have : k * 4 + 4 ≤ l.length * 4 := by rw [← Nat.succ_mul]; exact Nat.mul_le_mul_right _ hkl
      show 0 + k * 4 + 1 + 3 ≤ _
      omega
    rw [show (wr (l.flatMap rowC).toArray (0 + (k : Int).toNat * 4 + 1) (ce v).cells.toList) = ((l.set k (some v)).flatMap rowC).toArray from by
      have := wr_part rowC_len (x := some v) hk 1 (ce v).cells.toList rfl (Nat.le_refl _)
      rwa [show 0 + (k : Int).toNat * 4 + 1 = k * 4 + 1 from by simp]]
    conv => whnf
    refine ⟨(), by rw [this]; rfl, d, ?_⟩
    rw [this]
    refine ⟨low, ⟨ty, ?_⟩, ⟨ty2, upd_same _ _ _⟩, by rw [List.length_set]; exact hT.lo, fun j hj => ?_, by rw [List.length_set]; exact hT.bound, hT.ne⟩
    · rw [upd_other hT.ne, cnt_set_same hk, List.length_set]; exact hc
    · rw [List.getElem?_set]
      split
      · simp
      · exact hT.full j hj

/-- All: a walk that knows where the table lies. -/
theorem all107H {L : List As} (hh : Has L h) (hq : ∀ b h', Has (Pt b (.cells #[ptr p] 59 (0, 0)) :: L) h' → SubH h h' → h b = none → Q (.func (.func 112) #[] #[ptr b]) h') : Ok PR 107 [ptr p] h Q := by
  refine e107 rfl ?_
  conv => whnf
  refine fresh_has hh fun b h' hb hn hs hh' => ?_
  conv => whnf
  exact hq b h' hh' hs hn

/-- The walk: Inv says what holds ahead of a look at c; each round is asked of yield. -/
theorem walk112 {l : Nat} {b p : Nat} {Qd : Hp → Prop} (Inv : Int → Hp → Prop)
    (hstep : ∀ c h, Inv c h → 0 ≤ c ∧ h b = some (.cells #[ptr p] 59 (0, 0)) ∧ ∃ L, TabP rowC p L h ∧
      ((nextR L c = -1 → Qd h) ∧ ∀ (k : Nat) v, nextR L c = k → L[k]? = some (some v) → OkY PR l [iv k, ce v] h (fun r h' => (r = .bool true ∧ Inv (k + 1) h') ∨ (r = .bool false ∧ Qd h'))))
    {h : Hp} (h0 : Inv 0 h) : Ok PR 112 [.func (.yield l) #[] #[], ptr b] h (fun v h' => Qd h') := by
  obtain ⟨_, hb, L, hT, hd, hs⟩ := hstep 0 h h0
  refine e112 rfl ?_
  conv => whnf
  refine opt_ld hb rfl ?_
  conv => whnf
  refine next43Q hT 0 ?_
  conv => whnf
  refine loop_intro (σ := Int × Hp) (fun s => [(3, .v (iv s.1)), (0, .v (.func (.yield l) #[] #[])), (1, .v (ptr b))]) (fun _ => []) (fun s => s.2)
    (fun s => ∃ c L, Inv c s.2 ∧ TabP rowC p L s.2 ∧ s.1 = nextR L c ∧ (s.1 = -1 → Qd s.2) ∧ ∀ (k : Nat) v, nextR L c = k → L[k]? = some (some v) → OkY PR l [iv k, ce v] s.2 (fun r h' => (r = .bool true ∧ Inv (k + 1) h') ∨ (r = .bool false ∧ Qd h')))
    (fun s => if s.1 < 0 then 0 else (4097 - s.1).toNat) (nextR L 0, h) ⟨0, L, h0, hT, rfl, hd, hs⟩
    (by repeat (first | exact trivial | refine ⟨rfl, ?_⟩ | refine ⟨int_eq (wrap_nat (by omega)) rfl, ?_⟩)) subB_nil rfl ?_
  rintro ⟨m, g⟩ ⟨c, L, hI, hT, hm, hd, hs⟩
  dsimp only at hI hT hm hd hs ⊢
  have hc0 := (hstep c g hI).1
  have hb := (hstep c g hI).2.1
  clear h0
  rcases nextR_spec L c with ⟨hn, _⟩ | ⟨k, v, hn, hck, _, hk⟩
  · rw [hn] at hm
    subst hm
    conv => whnf
    exact hd rfl
  · rw [hn] at hm
    subst hm
    have hkl : k < L.length := (List.getElem?_eq_some_iff.1 hk).1
    have hbd := hT.bound
    obtain ⟨d, low, hT'⟩ := hT
    obtain ⟨ty, hc⟩ := hT'.cell
    obtain ⟨ty2, hdd⟩ := hT'.data
    conv => whnf
    refine opt_ld hb rfl ?_
    conv => whnf
    refine opt_ld hc rfl ?_
    conv => whnf
    refine opt_if ⟨by omega, by omega⟩ ?_
    conv => whnf
    refine opt_ld hdd (v := ce v) (rowC_val hk) ?_
    conv => whnf
    refine (hs k v hn hk).mono fun r h' hr => ?_
    rcases hr with ⟨rfl, hI'⟩ | ⟨rfl, hQ⟩
    · obtain ⟨_, hb', L', hT2, hd2, hs2⟩ := hstep _ _ hI'
      conv => whnf
      refine opt_ld hb' rfl ?_
      conv => whnf
      refine next43Q hT2 _ ?_
      rw [wrap_nat (by omega)]
      conv => whnf
      have hlt : nextR L' ((k : Int) + 1) = -1 ∨ (k : Int) < nextR L' ((k : Int) + 1) ∧ nextR L' ((k : Int) + 1) < 4097 := by
        rcases nextR_spec L' ((k : Int) + 1) with ⟨e, _⟩ | ⟨k2, v2, e, h1, _, h2⟩
        · exact .inl e
        · have := (List.getElem?_eq_some_iff.1 h2).1
          have := hT2.bound
          exact .inr (by omega)
      refine ⟨(nextR L' ((k : Int) + 1), h'), ⟨_, L', hI', hT2, rfl, hd2, hs2⟩, ?_, (by repeat (first | exact trivial | refine ⟨rfl, ?_⟩ | refine ⟨int_eq (wrap_nat (by omega)) rfl, ?_⟩)), subB_nil, rfl⟩
      dsimp only
      rcases hlt with e | ⟨e1, e2⟩
      · rw [e, if_pos (show (-1 : Int) < 0 by decide), if_neg (show ¬ (k : Int) < 0 by omega)]; omega
      · rw [if_neg (show ¬ nextR L' ((k : Int) + 1) < 0 by omega), if_neg (show ¬ (k : Int) < 0 by omega)]; omega
    · conv => whnf
      exact hQ

end
end Go.Proofs.Ytkmknolkblcbeaa.V
