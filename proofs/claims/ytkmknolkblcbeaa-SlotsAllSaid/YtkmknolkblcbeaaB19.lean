/- The bounded table of numbers, by parts of a heap. -/
import Derived.Test.YtkmknolkblcbeaaB8
import Derived.Test.YtkmknolkblcbeaaC8
import Derived.Test.YtkmknolkblcbeaaB18
namespace Go.Proofs.Ytkmknolkblcbeaa.V
set_option linter.unusedVariables false
set_option linter.unusedSimpArgs false
set_option linter.unusedSectionVars false
open Go

section
variable {h : Hp} {Q : Value → Hp → Prop} {p d : Nat} {l : Tb}

theorem new56S (a : Int) : Sp PR 56 [iv a] (fun _ => True) (X := Nat) (fun p => ptr p) (fun p => TabP rowI p (List.replicate (min (max a 0) 4096).toNat none)) := fun h _ =>
  new56 a fun p d h' hT _ _ _ => ⟨p, rfl, d, hT⟩

theorem put57S (v : Int) : Sp PR 57 [ptr p, iv v] (TabP rowI p l) (X := Unit) (fun _ => .tuple #[iv (putR l v).1, iv (putR l v).2.1]) (fun _ => TabP rowI p (putR l v).2.2) := by
  rintro h ⟨d, hT⟩
  refine put57 hT v (fun k h1 h2 h' hT' _ => ?_) (fun h1 h' hT' _ => ?_)
  · rw [putR_free h1 h2]; exact ⟨(), rfl, d, hT'⟩
  · rw [putR_full h1]; exact ⟨(), rfl, d, hT'⟩

theorem putat67S (i v : Int) : Sp PR 67 [ptr p, iv i, iv v] (TabP rowI p l) (X := Unit) (fun _ => iv (putAtR l i v).1) (fun _ => TabP rowI p (putAtR l i v).2) := by
  rintro h ⟨d, hT⟩
  refine putat67 hT i v (fun h1 => ?_) (fun w hw => ?_) (fun k hk hl h' hT' _ => ?_)
  · have : putAtR l i v = (30, l) := by simp [putAtR, h1]
    rw [this]; exact ⟨(), rfl, d, hT⟩
  · obtain ⟨k, rfl, hkl, hk⟩ := got_some hw
    have : putAtR l (k : Int) v = (31, l) := by simp [putAtR, hw]; omega
    rw [this]; exact ⟨(), rfl, d, hT⟩
  · subst hk
    have hkl : k < l.length := (List.getElem?_eq_some_iff.1 hl).1
    have hg : got l (k : Int) = none := by rw [got_nat, hl]
    have : putAtR l (k : Int) v = (0, l.set k (some v)) := by simp [putAtR, hg]; omega
    rw [this]; exact ⟨(), rfl, d, hT'⟩

theorem get60Q (hT : TabP rowI p l h) (i : Int) (hq : Q (.tuple #[((got l i).map iv).getD (iv 0), .bool (got l i).isSome]) h) : Ok PR 60 [ptr p, iv i] h Q := by
  obtain ⟨d, hT⟩ := hT
  refine get60 hT i (fun v hv => ?_) (fun hv => ?_)
  · rw [hv] at hq; exact hq
  · rw [hv] at hq; exact hq

theorem drop68S (i : Int) : Sp PR 68 [ptr p, iv i] (TabP rowI p l) (X := Unit) (fun _ => .tuple #[((dropR l i).1.map iv).getD (iv 0), .bool (dropR l i).1.isSome]) (fun _ => TabP rowI p (dropR l i).2) := by
  rintro h ⟨d, hT⟩
  refine drop68 hT i (fun k v hk hl h' hT' _ => ?_) (fun hg => ?_)
  · subst hk
    have : dropR l (k : Int) = (some v, l.set k none) := by simp [dropR, got_nat, hl]
    rw [this]; exact ⟨(), rfl, d, hT'⟩
  · have : dropR l i = (none, l) := by simp [dropR, hg]
    rw [this]; exact ⟨(), rfl, d, hT⟩

theorem next59Q (hT : TabP rowI p l h) (i : Int) (hq : Q (iv (nextR l i)) h) : Ok PR 59 [ptr p, iv i] h Q := by
  obtain ⟨d, hT⟩ := hT
  refine next59 hT i (fun k v h1 h2 h3 => ?_) (fun h1 => ?_)
  · rw [nextR_some h1 h2 h3] at hq; exact hq
  · rw [nextR_none h1] at hq; exact hq

theorem len61Q (hT : TabP rowI p l h) (hq : Q (iv (cnt l)) h) : Ok PR 61 [ptr p] h Q := by
  obtain ⟨d, hT⟩ := hT
  exact len61 hT hq

theorem bound63Q (hT : TabP rowI p l h) (hq : Q (iv l.length) h) : Ok PR 63 [ptr p] h Q := by
  obtain ⟨d, hT⟩ := hT
  exact bound63 hT hq

theorem clear65S : Sp PR 65 [ptr p] (TabP rowI p l) (X := Unit) (fun _ => .tuple #[]) (fun _ => TabP rowI p (clearR l)) := by
  rintro h ⟨d, hT⟩
  exact clear65 hT fun h' hT' _ => ⟨(), rfl, d, hT'⟩

theorem lay101S {k : Nat} (v : Int) (hk : l[k]? = some none) : Sp PR 101 [ptr p, iv k, iv v] (TabP rowI p l) (X := Unit) (fun _ => .tuple #[]) (fun _ => TabP rowI p (l.set k (some v))) := by
  rintro h ⟨d, low, hT⟩
  exact lay101 hT v hk fun h' hT' _ => ⟨(), rfl, d, low, hT'⟩

theorem set64S (i v : Int) : Sp PR 64 [ptr p, iv i, iv v] (TabP rowI p l) (X := Unit) (fun _ => .bool (setR l i v).1) (fun _ => TabP rowI p (setR l i v).2) := by
  rintro h ⟨d, low, hT⟩
  obtain ⟨ty, hc⟩ := hT.cell
  obtain ⟨ty2, hd⟩ := hT.data
  refine e64 rfl ?_
  conv => whnf
  refine has102 ⟨low, hT⟩ i ?_
  cases hg : got l i with
  | none =>
    conv => whnf
    have : setR l i v = (false, l) := by simp [setR, hg]
    exact ⟨(), by rw [this]; rfl, d, by rw [this]; exact ⟨low, hT⟩⟩
  | some w =>
    obtain ⟨k, rfl, hkl, hk⟩ := got_some hg
    have : setR l (k : Int) v = (true, l.set k (some v)) := by simp [setR, hg]
    conv => whnf
    repeat (first | (refine opt_if ⟨by omega, by omega⟩ ?_; conv => whnf) | (refine opt_ld (by assumption) (by first | rfl | assumption) ?_; conv => whnf))
    refine opt_st (x := iv v) hd rfl ?_ (.inl (Nat.zero_le _)) rfl ?_
    · simp only [List.size_toArray, flat_len rowI_len]
      have : k * 2 + 2 ≤ l.length * 2 := by rw [← Nat.succ_mul]; exact Nat.mul_le_mul_right _ hkl
      show 0 + k * 2 + 1 + 1 ≤ _
      omega
    rw [show (wr (l.flatMap rowI).toArray (0 + (k : Int).toNat * 2 + 1) (iv v).cells.toList) = ((l.set k (some v)).flatMap rowI).toArray from by
      have := wr_part rowI_len (x := some v) hk 1 (iv v).cells.toList rfl (Nat.le_refl _)
      rwa [show 0 + (k : Int).toNat * 2 + 1 = k * 2 + 1 from by simp]]
    conv => whnf
    refine ⟨(), by rw [this]; rfl, d, ?_⟩
    rw [this]
    refine ⟨low, ⟨ty, ?_⟩, ⟨ty2, upd_same _ _ _⟩, by rw [List.length_set]; exact hT.lo, fun j hj => ?_, by rw [List.length_set]; exact hT.bound, hT.ne⟩
    · rw [upd_other hT.ne, cnt_set_same hk, List.length_set]; exact hc
    · rw [List.getElem?_set]
      split
      · simp
      · exact hT.full j hj

/-- All: a walk that knows where the table lies. -/
theorem all50H {L : List As} (hh : Has L h) (hq : ∀ b h', Has (Pt b (.cells #[ptr p] 73 (0, 0)) :: L) h' → SubH h h' → h b = none → Q (.func (.func 95) #[] #[ptr b]) h') : Ok PR 50 [ptr p] h Q := by
  refine e50 rfl ?_
  conv => whnf
  refine fresh_has hh fun b h' hb hn hs hh' => ?_
  conv => whnf
  exact hq b h' hh' hs hn

/-- The walk: Inv says what holds ahead of a look at c; each round is asked of yield. -/
theorem walk95 {l : Nat} {b p : Nat} {Qd : Hp → Prop} (Inv : Int → Hp → Prop)
    (hstep : ∀ c h, Inv c h → 0 ≤ c ∧ h b = some (.cells #[ptr p] 73 (0, 0)) ∧ ∃ L, TabP rowI p L h ∧
      ((nextR L c = -1 → Qd h) ∧ ∀ (k : Nat) v, nextR L c = k → L[k]? = some (some v) → OkY PR l [iv k, iv v] h (fun r h' => (r = .bool true ∧ Inv (k + 1) h') ∨ (r = .bool false ∧ Qd h'))))
    {h : Hp} (h0 : Inv 0 h) : Ok PR 95 [.func (.yield l) #[] #[], ptr b] h (fun v h' => Qd h') := by
  obtain ⟨_, hb, L, hT, hd, hs⟩ := hstep 0 h h0
  refine e95 rfl ?_
  conv => whnf
  refine opt_ld hb rfl ?_
  conv => whnf
  refine next59Q hT 0 ?_
  conv => whnf
  refine loop_intro (σ := Int × Hp) (fun s => [(3, .v (iv s.1)), (0, .v (.func (.yield l) #[] #[])), (1, .v (ptr b))]) (fun _ => []) (fun s => s.2)
    (fun s => ∃ c L, Inv c s.2 ∧ TabP rowI p L s.2 ∧ s.1 = nextR L c ∧ (s.1 = -1 → Qd s.2) ∧ ∀ (k : Nat) v, nextR L c = k → L[k]? = some (some v) → OkY PR l [iv k, iv v] s.2 (fun r h' => (r = .bool true ∧ Inv (k + 1) h') ∨ (r = .bool false ∧ Qd h')))
    (fun s => if s.1 < 0 then 0 else (4097 - s.1).toNat) (nextR L 0, h) ⟨0, L, h0, hT, rfl, hd, hs⟩
    (by repeat (first | exact trivial | refine ⟨rfl, ?_⟩ | refine ⟨int_eq (wrap_nat (by omega)) rfl, ?_⟩)) subB_nil rfl ?_
  rintro ⟨m, g⟩ ⟨c, L, hI, hT, hm, hd, hs⟩
  dsimp only at hI hT hm hd hs ⊢
  have hc0 := (hstep c g hI).1
  have hb := (hstep c g hI).2.1
  clear h0
  rcases nextR_spec L c with ⟨hn, _⟩ | ⟨k, v, hn, hck, _, hk⟩
  · rw [hn] at hm
    subst hm
    conv => whnf
    exact hd rfl
  · rw [hn] at hm
    subst hm
    have hkl : k < L.length := (List.getElem?_eq_some_iff.1 hk).1
    have hbd := hT.bound
    obtain ⟨d, low, hT'⟩ := hT
    obtain ⟨ty, hc⟩ := hT'.cell
    obtain ⟨ty2, hdd⟩ := hT'.data
    conv => whnf
    refine opt_ld hb rfl ?_
    conv => whnf
    refine opt_ld hc rfl ?_
    conv => whnf
    refine opt_if ⟨by omega, by omega⟩ ?_
    conv => whnf
    refine opt_ld hdd (v := iv v) (rowI_val hk) ?_
    conv => whnf
    refine (hs k v hn hk).mono fun r h' hr => ?_
    rcases hr with ⟨rfl, hI'⟩ | ⟨rfl, hQ⟩
    · obtain ⟨_, hb', L', hT2, hd2, hs2⟩ := hstep _ _ hI'
      conv => whnf
      refine opt_ld hb' rfl ?_
      conv => whnf
      refine next59Q hT2 _ ?_
      rw [wrap_nat (by omega)]
      conv => whnf
      have hlt : nextR L' ((k : Int) + 1) = -1 ∨ (k : Int) < nextR L' ((k : Int) + 1) ∧ nextR L' ((k : Int) + 1) < 4097 := by
        rcases nextR_spec L' ((k : Int) + 1) with ⟨e, _⟩ | ⟨k2, v2, e, h1, _, h2⟩
        · exact .inl e
        · have := (List.getElem?_eq_some_iff.1 h2).1
          have := hT2.bound
          exact .inr (by omega)
      refine ⟨(nextR L' ((k : Int) + 1), h'), ⟨_, L', hI', hT2, rfl, hd2, hs2⟩, ?_, (by repeat (first | exact trivial | refine ⟨rfl, ?_⟩ | refine ⟨int_eq (wrap_nat (by omega)) rfl, ?_⟩)), subB_nil, rfl⟩
      dsimp only
      rcases hlt with e | ⟨e1, e2⟩
      · rw [e, if_pos (show (-1 : Int) < 0 by decide), if_neg (show ¬ (k : Int) < 0 by omega)]; omega
      · rw [if_neg (show ¬ nextR L' ((k : Int) + 1) < 0 by omega), if_neg (show ¬ (k : Int) < 0 by omega)]; omega
    · conv => whnf
      exact hQ

end
end Go.Proofs.Ytkmknolkblcbeaa.V
