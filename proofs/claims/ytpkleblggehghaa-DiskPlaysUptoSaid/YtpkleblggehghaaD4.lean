/- Seat 04: lists of bytes joined. -/
import Derived.Test.YtpkleblggehghaaD3
namespace Go.Proofs.Ytpkleblggehghaa.V
set_option linter.unusedVariables false
set_option linter.unusedSimpArgs false
set_option linter.unusedSectionVars false
set_option linter.unusedSectionVars false
open Go

section
variable {h : Hp} {Q : Value → Hp → Prop} {L : List As}

theorem Has.ofIs {A : As} {h' : Hp} (hh : Has L h) (x : Has [A, Is h] h') : Has (A :: L) h' := by
  obtain ⟨h1, h2, e, ap, hA, hL⟩ := x
  exact ⟨h1, h2, e, ap, hA, hh.sub (hL.is 0 rfl)⟩

theorem reps_u0 (n : Nat) : reps n [.int .u8 0] = (List.replicate n (0 : Int)).map by8 := by
  induction n with
  | zero => rfl
  | succ n ih => simp only [reps, ih, List.replicate_succ, List.map_cons]; rfl

theorem wr_bytes {a b c : List Int} (hl : b.length = c.length) {r : List Int} : wr ((a ++ b ++ r).map by8).toArray a.length (c.map by8) = ((a ++ c ++ r).map by8).toArray := by
  rw [wr_wrL]
  congr 1
  have := wrL_mid (A := a.map by8) (B := b.map by8) (C := r.map by8) (V := c.map by8) (by simp [hl])
  simpa using this

theorem join50 {a : Value} {n : Nat} {ps : List Value} {bs : List (List Int)} (hh : Has L h) (ha : Vw 1 h a n ps) (hbn : bs.length = n) (hps : ∀ (i : Nat) (p : Value) (l : List Int), ps[i]? = some p → bs[i]? = some l → Vw 1 h p l.length (l.map by8)) (hn : n ≤ 2 ^ 40) (hsz : bs.flatten.length ≤ 2 ^ 40)
    (hq : ∀ s h', Has (WnP 1 s bs.flatten.length (bs.flatten.map by8) :: L) h' → Q s h') : Ok PR 50 [a] h Q := by
  have hpl : ps.length = n := by have := ha.1; simpa using this
  obtain ⟨base, cap, hs, hnc, hb0⟩ : ∃ base cap, a = .slice base n cap ∧ n ≤ cap ∧ (base = none → n = 0) := by
    obtain ⟨_, base, cap, h1, h2, h3⟩ := ha
    refine ⟨base, cap, h1, h2, fun e => ?_⟩
    rcases h3 with h3 | ⟨b, o, c, ty, z, h4, _⟩
    · exact h3
    · rw [e] at h4; cases h4
  have tk : ∀ k (hk : k < n), (bs.take (k + 1)).flatten = (bs.take k).flatten ++ bs[k]'(by omega) := fun k hk => by
    rw [List.take_succ_eq_append_getElem (by omega), List.flatten_append]; simp
  have tkl : ∀ k, (bs.take k).flatten.length ≤ bs.flatten.length := fun k => by
    conv => rhs; rw [← List.take_append_drop k bs, List.flatten_append, List.length_append]
    omega
  refine e50 rfl ?_
  refine seq_step fun K hK => ?_
  conv => whnf
  refine hK _ _ _ (seq_step fun K1 hK1 => ?_)
  conv => whnf
  refine hK1 _ _ _ (seq_step fun K2 hK2 => ?_)
  subst hs
  have ent : ∀ k, k < n → ∃ b o c ty z, base = some ⟨b, o, none⟩ ∧ h b = some (.cells c ty z) ∧ ∃ (pb : Option Addr) (pcap : Nat) (l : List Int), bs[k]? = some l ∧ c[o + k * 1 + 0]? = some (.slice pb l.length pcap) ∧ Vw 1 h (.slice pb l.length pcap) l.length (l.map by8) := fun k hkn => by
    obtain ⟨b, o, c, ty, z, cap', hs, hb, hsz2, hc⟩ := ha.at hkn
    cases hs
    have hp1 : ps[k]? = some ps[k] := List.getElem?_eq_getElem (by omega)
    have hb1 : bs[k]? = some bs[k] := List.getElem?_eq_getElem (by omega)
    have hv := hps k _ _ hp1 hb1
    obtain ⟨pb, pcap, hpe⟩ : ∃ pb pcap, ps[k] = .slice pb bs[k].length pcap := let ⟨_, x, y, z, _⟩ := hv; ⟨x, y, z⟩
    refine ⟨b, o, c, ty, z, rfl, hb, pb, pcap, bs[k], hb1, ?_, by rw [← hpe]; exact hv⟩
    rw [← hpe]
    exact hc 0 _ (by simp [hp1])
  conv => whnf
  refine loop_intro (σ := Nat) (fun k => [(12, .v (iv k)), (11, .v (iv n)), (10, .v (.slice base n cap)), (3, .v (iv (bs.take k).flatten.length)), (0, .v (.slice base n cap))]) (fun _ => []) (fun _ => h)
    (fun k => k ≤ n) (fun k => n - k) 0 (Nat.zero_le _)
    ⟨rfl, rfl, rfl, rfl, rfl, trivial⟩ subB_nil rfl ?_
  intro k hk
  dsimp only
  conv => whnf
  refine cond_dec (fun hlt => ?_) (fun hlt => ?_)
  · have hkn : k < n := by omega
    obtain ⟨b, o, c, ty, z, rfl, hb, pb, pcap, l, hbk, hck, hv⟩ := ent k hkn
    have htk : (bs.take (k + 1)).flatten = (bs.take k).flatten ++ l := by
      rw [tk k hkn]; congr 1
      rw [List.getElem?_eq_getElem (by omega)] at hbk; cases hbk; rfl
    have hle := tkl (k + 1)
    rw [htk, List.length_append] at hle
    conv => whnf
    refine opt_if ⟨by omega, by omega⟩ ?_
    conv => whnf
    refine opt_ld hb (v := .slice pb l.length pcap) hck ?_
    conv => whnf
    refine ⟨k + 1, hkn, (by show n - (k + 1) < n - k; omega), ⟨int_eq (wrap_nat (by omega)) rfl, rfl, rfl, ?_, rfl, trivial⟩, subB_nil, rfl⟩
    refine int_eq ?_ rfl
    rw [wrap_i64 (by omega) (by omega), htk, List.length_append]; omega
  · have : k = n := by omega
    subst this
    have hall : (bs.take k).flatten = bs.flatten := by rw [List.take_of_length_le (by omega)]
    rw [hall]
    conv => whnf
    refine hK2 _ _ _ (seq_step fun K3 hK3 => ?_)
    conv => whnf
    refine ⟨by omega, by omega, by omega, by omega, ?_⟩
    refine fresh_has (Has.start h) fun b1 h1 hb1 _ hs1 hh1 => ?_
    conv => whnf
    refine hK3 _ _ _ (seq_step fun K4 hK4 => ?_)
    conv => whnf
    refine hK4 _ _ _ (seq_step fun K5 hK5 => ?_)
    conv => whnf
    have hT : ((bs.flatten.length : Nat) : Int).toNat = bs.flatten.length := Int.toNat_natCast _
    have hini : Has [Pt b1 (.cells (((bs.take 0).flatten ++ List.replicate (bs.flatten.length - (bs.take 0).flatten.length) 0).map by8).toArray 5 (0, 0)), Is h] h1 := by
      have e1 : (((bs.take 0).flatten ++ List.replicate (bs.flatten.length - (bs.take 0).flatten.length) (0 : Int)).map by8) = reps bs.flatten.length [.int .u8 0] := by rw [reps_u0]; simp
      rw [e1]; exact hh1
    refine loop_intro (σ := Nat × Hp) (fun x => [(25, .v (iv x.1)), (24, .v (iv k)), (23, .v (.slice base k cap)), (7, .v (iv (bs.take x.1).flatten.length)), (6, .v (.slice (some ⟨b1, 0, none⟩) bs.flatten.length bs.flatten.length))]) (fun _ => []) (fun x => x.2)
      (fun x => x.1 ≤ k ∧ Has [Pt b1 (.cells (((bs.take x.1).flatten ++ List.replicate (bs.flatten.length - (bs.take x.1).flatten.length) 0).map by8).toArray 5 (0, 0)), Is h] x.2) (fun x => k - x.1) (0, h1) ⟨Nat.zero_le _, hini⟩
      ⟨rfl, rfl, rfl, rfl, rfl, trivial⟩ subB_nil rfl ?_
    clear hini hh1 hs1 hb1
    rintro ⟨j, g⟩ ⟨hj, hg⟩
    dsimp only at hj hg ⊢
    conv => whnf
    refine cond_dec (fun hlt => ?_) (fun hlt => ?_)
    · have hjk : j < k := by omega
      obtain ⟨b, o, c, ty, z, hbb, hb, pb, pcap, l, hbk, hck, hv⟩ := ent j hjk
      subst hbb
      have hsub : SubH h g := hg.is 1 rfl
      have htk : (bs.take (j + 1)).flatten = (bs.take j).flatten ++ l := by
        rw [tk j hjk]; congr 1
        rw [List.getElem?_eq_getElem (by omega)] at hbk; cases hbk; rfl
      have hle := tkl (j + 1)
      rw [htk, List.length_append] at hle
      conv => whnf
      refine opt_if ⟨by omega, by omega⟩ ?_
      conv => whnf
      refine opt_ld (hsub _ _ hb) (v := .slice pb l.length pcap) hck ?_
      conv => whnf
      refine opt_some (slS_lo (n := bs.flatten.length) (cap := bs.flatten.length) (lo := (bs.take j).flatten.length) (by omega) (Nat.le_refl _)) ?_
      conv => whnf
      generalize hP : (bs.take j).flatten = P at *
      generalize hTT : bs.flatten.length = T at *
      have hmin : min l.length (T - P.length) = l.length := by omega
      have hcells : ((P ++ List.replicate (T - P.length) (0 : Int)).map by8).toArray.size = T := by simp; omega
      refine cpy_has hg 0 rfl (hv.sub hsub) (by8_one l) ?_ fun g2 hg2 => ?_
      · rw [hmin, hcells]; split <;> omega
      rw [hmin] at hg2 ⊢
      have htake : (l.map by8).take (l.length * 1) = l.map by8 := by rw [Nat.mul_one]; exact List.take_of_length_le (by simp)
      rw [htake] at hg2
      have hwr : wr ((P ++ List.replicate (T - P.length) (0 : Int)).map by8).toArray (if T = P.length then 0 else 0 + P.length) (l.map by8) = ((P ++ l ++ List.replicate (T - (P ++ l).length) 0).map by8).toArray := by
        by_cases hl0 : T = P.length
        · have : l = [] := List.eq_nil_of_length_eq_zero (by omega)
          subst this
          simp [hl0, wr]
        · have e2 : P ++ List.replicate (T - P.length) (0 : Int) = P ++ List.replicate l.length 0 ++ List.replicate (T - (P ++ l).length) 0 := by
            rw [List.append_assoc, List.replicate_append_replicate]
            congr 2
            rw [List.length_append]; omega
          rw [if_neg hl0, Nat.zero_add, e2, wr_bytes (by simp)]
      replace hg2 : Has [Pt b1 (.cells (wr ((P ++ List.replicate (T - P.length) (0 : Int)).map by8).toArray (if T = P.length then 0 else 0 + P.length) (l.map by8)) 5 (0, 0)), Is h] g2 := hg2
      rw [hwr, ← htk] at hg2
      conv => whnf
      refine ⟨(j + 1, g2), ⟨hjk, hg2⟩, (by show k - (j + 1) < k - j; omega), ⟨int_eq (wrap_nat (by omega)) rfl, rfl, rfl, ?_, rfl, trivial⟩, subB_nil, rfl⟩
      refine int_eq ?_ rfl
      rw [wrap_i64 (by omega) (by omega), htk, List.length_append]; omega
    · have hjk : j = k := by omega
      subst hjk
      rw [hall, Nat.sub_self, List.replicate_zero, List.append_nil] at hg
      conv => whnf
      refine hK5 _ _ _ ?_
      conv => whnf
      refine hq _ _ (hh.ofIs (Has.mono1 hg fun g' hg' => pt_wn (e := 1) (cs := bs.flatten.map by8) (by rw [List.length_map, Nat.mul_one]) (Nat.le_refl _) ?_ hg'))
      rw [Nat.mul_one, List.take_of_length_le (by rw [List.length_map]; exact Nat.le_refl _)]

end
end Go.Proofs.Ytpkleblggehghaa.V
