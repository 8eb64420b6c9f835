/- What was laid stays. -/
import Derived.Test.YtkmknolkblcbeaaC9
import Derived.Test.YtkmknolkblcbeaaB21
import Derived.Test.YtkmknolkblcbeaaB10
namespace Go.Proofs.Ytkmknolkblcbeaa.V
set_option linter.unusedVariables false
set_option linter.unusedSimpArgs false
set_option linter.unusedSectionVars false
open Go

theorem cnt_rep (n : Nat) : cnt (List.replicate n (none : Option Int)) = 0 := cnt_repl n

theorem got_rep (n : Nat) (i : Int) : got (List.replicate n (none : Option Int)) i = none := by
  unfold got
  split
  · rw [List.getElem?_replicate]
    by_cases hc : i.toNat < n
    · rw [if_pos hc]
    · rw [if_neg hc]
  · rfl

section
variable {h : Hp} {Q : Value → Hp → Prop} {a : Option Addr} {len cap : Nat} {f : Nat → Nat → Int}

theorem stay10 (n P v : Int) (hR : RowsN 4 h a len f) (hlen : len < 2 ^ 62) (hq : ∀ h', SubH h h' → Q (.bool true) h') : Ok PR 10 [iv n, iv P, iv v, .slice a len cap] h Q := by
  refine e10 rfl ?_
  conv => whnf
  refine (Has.start h).make (new56S n) fun p h1 hh1 => ?_
  conv => whnf
  refine clamp38 n ?_
  conv => whnf
  refine fixed39 fun h2 hs2 => ?_
  have hh2 := hh1.sub hs2
  conv => whnf
  refine hh2.call 0 rfl (putat67S P v) fun _ h3 hh3 => ?_
  generalize hB : (min (max n 0) 4096).toNat = B at *
  have hBn : (min (max n 0) 4096) = B := by omega
  rw [hBn]
  have hlenrep : (List.replicate B (none : Option Int)).length = B := by simp
  by_cases hout : P < 0 ∨ (B : Int) ≤ P
  · have hp : putAtR (List.replicate B none) P v = (30, List.replicate B none) := by
      unfold putAtR; rw [if_pos (by simpa using hout)]
    rw [hp] at hh3 ⊢
    obtain ⟨g, hg, hgs⟩ := hh3.at 0 rfl
    have hT : TabP rowI p (List.replicate B none) h3 := TabP.sub hg hgs
    have fin : Q (.bool true) h3 := hq h3 (hh3.is 1 rfl)
    conv => whnf
    by_cases h0 : P < 0
    · rw [show decide (P < 0) = true from decide_eq_true h0]
      conv => whnf
      refine len61Q hT ?_
      rw [cnt_rep]
      conv => whnf
      exact fin
    · rw [show decide (P < 0) = false from decide_eq_false h0]
      conv => whnf
      rw [show decide (P ≥ (B : Int)) = true from decide_eq_true (by omega)]
      conv => whnf
      refine len61Q hT ?_
      rw [cnt_rep]
      conv => whnf
      exact fin
  · have hp : putAtR (List.replicate B none) P v = (0, (List.replicate B none).set P.toNat (some v)) := by
      unfold putAtR; rw [if_neg (by simpa using hout), got_rep]
    rw [hp] at hh3 ⊢
    obtain ⟨pl, rfl⟩ := Int.eq_ofNat_of_zero_le (show 0 ≤ P by omega)
    have hgot : got ((List.replicate B none).set pl (some v)) (pl : Int) = some v := got_set_eq (by simp; omega)
    have hh4 : Has [TabP rowI p ((List.replicate B none).set pl (some v)), Is h] h3 := hh3
    have hlen4 : ((List.replicate B (none : Option Int)).set pl (some v)).length = B := by simp
    conv => whnf
    rw [show decide ((pl : Int) ≥ (B : Int)) = false from decide_eq_false (by omega)]
    conv => whnf
    refine loop_intro (σ := Nat × Tb × Hp) (fun s => [(12, .v (iv s.1)), (9, .v (ptr p)), (1, .v (iv pl)), (2, .v (iv v)), (3, .v (.slice a len cap))]) (fun _ => []) (fun s => s.2.2)
      (fun s => s.1 ≤ len ∧ Has [TabP rowI p s.2.1, Is h] s.2.2 ∧ s.2.1.length = B ∧ got s.2.1 (pl : Int) = some v) (fun s => len - s.1) (0, _, h3) ⟨Nat.zero_le _, hh4, hlen4, hgot⟩
      (by repeat (first | exact trivial | refine ⟨rfl, ?_⟩ | refine ⟨int_eq (wrap_nat (by omega)) rfl, ?_⟩)) subB_nil rfl ?_
    clear hh4 hgot hlen4 hh3 hh2 hh1 hp
    rintro ⟨i, l, g⟩ ⟨hi, hh, hl, hgot⟩
    dsimp only at hi hh hl hgot ⊢
    have hsub : SubH h g := hh.is 1 rfl
    conv => whnf
    refine cond_dec (fun hc => ?_) (fun hc => ?_)
    · have hki : i < len := by omega
      obtain ⟨bb, off, c, ty, z, rfl, hb', hcc⟩ := (hR.sub hsub) i hki
      conv => whnf
      refine opt_if ⟨by omega, by omega⟩ ?_
      conv => whnf
      refine opt_ld hb' (v := .agg #[iv (f i 0), iv (f i 1), iv (f i 2), iv (f i 3)]) (rd_list [iv (f i 0), iv (f i 1), iv (f i 2), iv (f i 3)] rfl (by simp) fun j v hj => ?_) ?_
      · rcases j with _ | _ | _ | _ | j <;> cases hj <;> exact hcc _ (by omega)
      conv => whnf
      refine cut_intro (σ := Tb × Hp) (fun _ => [(12, .v (iv i)), (9, .v (ptr p)), (1, .v (iv pl)), (2, .v (iv v)), (3, .v (.slice (some ⟨bb, off, none⟩) len cap))]) (fun _ => []) (fun s => s.2)
        (fun s => Has [TabP rowI p s.1, Is h] s.2 ∧ s.1.length = B ∧ got s.1 (pl : Int) = some v) ?_ ?_
      · refine cond_beq (fun k1 => ?_) (fun k1 => ?_)
        · conv => whnf
          refine hh.call 0 rfl (put57S (f i 3)) fun _ g1 hh1 => ?_
          obtain ⟨s1, s2⟩ := stay_put hgot (f i 3)
          conv => whnf
          rw [show ((putR l (f i 3)).1 == (pl : Int)) = false from by simpa using s2]
          conv => whnf
          exact ⟨(_, g1), ⟨hh1, by rw [putR_len]; exact hl, s1⟩, (by repeat (first | exact trivial | refine ⟨rfl, ?_⟩ | refine ⟨int_eq (wrap_nat (by omega)) rfl, ?_⟩)), subB_nil, rfl⟩
        · conv => whnf
          refine cond_beq (fun k2 => ?_) (fun k2 => ?_)
          · conv => whnf
            refine hh.call 0 rfl (putat67S (f i 2) (f i 3)) fun _ g1 hh1 => ?_
            conv => whnf
            exact ⟨(_, g1), ⟨hh1, by rw [putAtR_len]; exact hl, stay_putAt hgot _ _⟩, (by repeat (first | exact trivial | refine ⟨rfl, ?_⟩ | refine ⟨int_eq (wrap_nat (by omega)) rfl, ?_⟩)), subB_nil, rfl⟩
          · conv => whnf
            refine cond_beq (fun k3 => ?_) (fun k3 => ?_)
            · conv => whnf
              refine cond_bne (fun hne => ?_) (fun hne => ?_)
              · conv => whnf
                refine hh.call 0 rfl (set64S (f i 2) (f i 3)) fun _ g1 hh1 => ?_
                conv => whnf
                exact ⟨(_, g1), ⟨hh1, by rw [setR_len]; exact hl, stay_set hgot hne _⟩, (by repeat (first | exact trivial | refine ⟨rfl, ?_⟩ | refine ⟨int_eq (wrap_nat (by omega)) rfl, ?_⟩)), subB_nil, rfl⟩
              · conv => whnf
                exact ⟨(_, g), ⟨hh, hl, hgot⟩, (by repeat (first | exact trivial | refine ⟨rfl, ?_⟩ | refine ⟨int_eq (wrap_nat (by omega)) rfl, ?_⟩)), subB_nil, rfl⟩
            · conv => whnf
              refine cond_beq (fun k4 => ?_) (fun k4 => ?_)
              · conv => whnf
                refine cond_bne (fun hne => ?_) (fun hne => ?_)
                · conv => whnf
                  refine hh.call 0 rfl (drop68S (f i 2)) fun _ g1 hh1 => ?_
                  conv => whnf
                  exact ⟨(_, g1), ⟨hh1, by rw [dropR_len]; exact hl, stay_drop hgot hne⟩, (by repeat (first | exact trivial | refine ⟨rfl, ?_⟩ | refine ⟨int_eq (wrap_nat (by omega)) rfl, ?_⟩)), subB_nil, rfl⟩
                · conv => whnf
                  exact ⟨(_, g), ⟨hh, hl, hgot⟩, (by repeat (first | exact trivial | refine ⟨rfl, ?_⟩ | refine ⟨int_eq (wrap_nat (by omega)) rfl, ?_⟩)), subB_nil, rfl⟩
              · conv => whnf
                refine cond_beq (fun k5 => ?_) (fun k5 => ?_)
                · conv => whnf
                  refine hh.call 0 rfl copy62S fun q g1 hh1 => ?_
                  have hh2 : Has [TabP rowI q l, TabP rowI p l, Is h] g1 := Has.spread (i := 0) rfl hh1
                  conv => whnf
                  refine hh2.call 0 rfl (drop68S (pl : Int)) fun _ g2 hh3 => ?_
                  conv => whnf
                  exact ⟨(_, g2), ⟨hh3.tail, hl, hgot⟩, (by repeat (first | exact trivial | refine ⟨rfl, ?_⟩ | refine ⟨int_eq (wrap_nat (by omega)) rfl, ?_⟩)), subB_nil, rfl⟩
                · conv => whnf
                  exact ⟨(_, g), ⟨hh, hl, hgot⟩, (by repeat (first | exact trivial | refine ⟨rfl, ?_⟩ | refine ⟨int_eq (wrap_nat (by omega)) rfl, ?_⟩)), subB_nil, rfl⟩
      · rintro ⟨l, g⟩ ⟨hh, hl, hgot⟩
        dsimp only at hh hl hgot
        obtain ⟨g1, hg1, hgs⟩ := hh.at 0 rfl
        have hT : TabP rowI p l g := TabP.sub hg1 hgs
        obtain ⟨f1, f2⟩ := findR_here hgot
        conv => whnf
        refine get60Q hT pl ?_
        rw [hgot]
        conv => whnf
        refine find69Q hT v fun g2 hs2 => ?_
        have hT2 := hT.sub hs2
        conv => whnf
        rw [show (v != v) = false from by simp]
        conv => whnf
        refine next59Q hT2 pl ?_
        rw [nextR_here hgot]
        conv => whnf
        rw [show ((pl : Int) != (pl : Int)) = false from by simp]
        conv => whnf
        rw [show decide (findR l v < 0) = false from by simpa using f1]
        conv => whnf
        rw [show decide (findR l v > (pl : Int)) = false from by simpa using f2]
        conv => whnf
        exact ⟨(i + 1, l, g2), ⟨hki, hh.sub hs2, hl, hgot⟩, by simp only; omega, (by repeat (first | exact trivial | refine ⟨rfl, ?_⟩ | refine ⟨int_eq (wrap_nat (by omega)) rfl, ?_⟩)), subB_nil, rfl⟩
    · conv => whnf
      exact hq _ hsub

end
end Go.Proofs.Ytkmknolkblcbeaa.V
