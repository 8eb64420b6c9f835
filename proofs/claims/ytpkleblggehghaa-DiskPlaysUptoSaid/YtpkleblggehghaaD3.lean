/- Seat 04: byte strings, copies, places. -/
import Derived.Test.YtpkleblggehghaaD2
import Derived.Test.YtpkleblggehghaaE3
namespace Go.Proofs.Ytpkleblggehghaa.V
set_option linter.unusedVariables false
set_option linter.unusedSimpArgs false
set_option linter.unusedSectionVars false
set_option linter.unusedSectionVars false
open Go

theorem Has.nilW {L : List As} {h : Hp} (hh : Has L h) (e : Nat) : Has (WnP e (.slice none 0 0) 0 [] :: L) h :=
  ⟨fun _ => none, h, by funext b; simp [join], fun _ _ h => (by cases h), WnP.nil _ _, hh⟩

section
variable {h : Hp} {Q : Value → Hp → Prop} {L : List As}

theorem same26 {a b : Value} {n m : Nat} {l k : List Int} (ha : Vw 1 h a n (l.map by8)) (hb : Vw 1 h b m (k.map by8)) (hq : ∀ t : Bool, (l = k → t = true) → Q (.bool t) h) : Ok PR 26 [a, b] h Q := by
  refine e26 rfl ?_
  refine seq_step fun K hK => ?_
  conv => whnf
  refine hK _ _ _ ?_
  conv => whnf
  refine opt_some (vw_str ha) ?_
  conv => whnf
  refine opt_some (vw_str hb) ?_
  conv => whnf
  exact hq _ (fun e => by subst e; exact byteArray_beq _)

theorem copied27 {a : Value} {n : Nat} {vs : List Value} (hh : Has L h) (ha : Vw 1 h a n vs) (hone : vs.all one = true) (hn : n ≤ 2 ^ 40) (hq : ∀ s h', Has (WnP 1 s n vs :: L) h' → Q s h') : Ok PR 27 [a] h Q := by
  refine e27 rfl ?_
  refine seq_step fun K hK => ?_
  conv => whnf
  refine hK _ _ _ (seq_step fun K1 hK1 => ?_)
  conv => whnf
  refine hK1 _ _ _ (seq_step fun K2 hK2 => ?_)
  conv => whnf
  refine app_hasW (z := [.int .u8 0]) (hh.nilW 1) 0 rfl ha hone (by omega) fun s h1 hh1 => ?_
  replace hh1 : Has (WnP 1 s (0 + n) vs :: L) h1 := hh1
  rw [Nat.zero_add] at hh1
  conv => whnf
  refine hK2 _ _ _ ?_
  conv => whnf
  exact hq _ _ hh1

theorem flags24 {a : Value} {n : Nat} {vs : List Value} (hh : Has L h) (ha : Vw 1 h a n vs) (hone : vs.all one = true) (hn : n ≤ 2 ^ 40) (hq : ∀ s h', Has (WnP 1 s n vs :: L) h' → Q s h') : Ok PR 24 [a] h Q := by
  refine e24 rfl ?_
  refine seq_step fun K hK => ?_
  conv => whnf
  refine hK _ _ _ (seq_step fun K1 hK1 => ?_)
  conv => whnf
  refine hK1 _ _ _ (seq_step fun K2 hK2 => ?_)
  conv => whnf
  refine app_hasW (z := [.bool false]) (hh.nilW 1) 0 rfl ha hone (by omega) fun s h1 hh1 => ?_
  replace hh1 : Has (WnP 1 s (0 + n) vs :: L) h1 := hh1
  rw [Nat.zero_add] at hh1
  conv => whnf
  refine hK2 _ _ _ ?_
  conv => whnf
  exact hq _ _ hh1

def plc (n : Int) : Int := n % 1024

theorem plc_wrap (n : Int) : IntKind.i64.wrap ((IntKind.u64.wrap n).tmod 1024) = plc n := by
  have e64 : (2 : Int) ^ IntKind.u64.bits = 18446744073709551616 := by decide
  have h1 : 0 ≤ n % 18446744073709551616 := Int.emod_nonneg _ (by decide)
  have hu : IntKind.u64.wrap n = n % 18446744073709551616 := by
    unfold IntKind.wrap
    simp only [e64]
    rw [if_neg]
    simp [IntKind.signed]
  have h2 : n % 18446744073709551616 % 1024 = n % 1024 := by omega
  rw [hu, Int.tmod_eq_emod_of_nonneg h1, h2, wrap_i64 (by omega) (by omega)]
  rfl

theorem plc_lt (n : Int) : 0 ≤ plc n ∧ plc n < 1024 := by unfold plc; omega

theorem place16 (n : Int) (hq : Q (iv (plc n)) h) : Ok PR 16 [iv n] h Q := by
  refine e16 rfl ?_
  refine seq_step fun K hK => ?_
  conv => whnf
  refine hK _ _ _ ?_
  conv => whnf
  rw [plc_wrap]
  exact hq

/-- Cut, or filled up with the last byte, to 128. -/
def fillB (l : List Int) : List Int := (l ++ List.replicate 128 (l.getLastD 7)).take 128

theorem fillB_len (l : List Int) : (fillB l).length = 128 := by simp [fillB]

theorem by8_app (l m : List Int) : l.map by8 ++ m.map by8 = (l ++ m).map by8 := by simp

set_option maxRecDepth 20000 in
theorem filled48 {a : Value} {n : Nat} {l : List Int} (hh : Has L h) (ha : Vw 1 h a n (l.map by8)) (hn : n ≤ 2 ^ 40) (hq : ∀ s h', Has (WnP 1 s 128 ((fillB l).map by8) :: L) h' → Q s h') : Ok PR 48 [a] h Q := by
  have hnl : l.length = n := by have := ha.1; simpa using this
  refine e48 rfl ?_
  refine seq_step fun K hK => ?_
  conv => whnf
  refine hK _ _ _ (seq_step fun K1 hK1 => ?_)
  conv => whnf
  refine copied27 hh ha (by8_one l) hn fun s h1 hh1 => ?_
  conv => whnf
  refine hK1 _ _ _ (seq_step fun K2 hK2 => ?_)
  conv => whnf
  refine hK2 _ _ _ (seq_step fun K3 hK3 => ?_)
  have hW : WnP 1 s n (l.map by8) h1 := Has.get (L := WnP 1 s n (l.map by8) :: L) hh1 0 rfl fun _ _ => WnP.sub
  obtain ⟨base, cap, hs, hnc, hb0⟩ := hW.val
  have fin : ∀ ρ h2 s2, look ρ 4 = some (.v (by8 (l.getLastD 7))) → look ρ 3 = some (.v s2) → Has (WnP 1 s2 n (l.map by8) :: L) h2 → K3 ρ [] h2 := by
    intro ρ h2 s2 l4 l3 hh2
    refine hK3 _ _ _ (seq_step fun K4 hK4 => ?_)
    conv => whnf
    refine loop_intro (σ := Value × Nat × Hp) (fun x => [(4, .v (by8 (l.getLastD 7))), (3, .v x.1)]) (fun _ => []) (fun x => x.2.2)
      (fun x => (x.2.1 = 0 ∨ n + x.2.1 ≤ 128) ∧ Has (WnP 1 x.1 (n + x.2.1) ((l ++ List.replicate x.2.1 (l.getLastD 7)).map by8) :: L) x.2.2) (fun x => 128 - x.2.1) (s2, 0, h2) ⟨.inl rfl, by simpa using hh2⟩
      ⟨l4, l3, trivial⟩ subB_nil rfl ?_
    clear hh2 hh1 hh hW ha
    rintro ⟨s3, j, g⟩ ⟨hj, hh⟩
    dsimp only at hj hh ⊢
    have hW : WnP 1 s3 (n + j) ((l ++ List.replicate j (l.getLastD 7)).map by8) g := Has.get (L := WnP 1 s3 (n + j) ((l ++ List.replicate j (l.getLastD 7)).map by8) :: L) hh 0 rfl fun _ _ => WnP.sub
    obtain ⟨base, cap, hs3, hnc, hb0⟩ := hW.val
    subst hs3

    refine seq_step fun K5 hK5 => ?_
    conv => whnf
    refine cond_dec (fun hlt => ?_) (fun hlt => ?_)
    · conv => whnf
      refine hK5 _ _ _ ?_
      conv => whnf
      refine fresh_has hh fun b1 g1 hb1 _ _ hh1 => ?_
      conv => whnf
      have hv : Vw 1 g1 (.slice (some ⟨b1, 0, none⟩) 1 1) 1 [by8 (l.getLastD 7)] := (pt_wn (e := 1) (n := 1) (cap := 1) (vs := [by8 (l.getLastD 7)]) (cs := [by8 (l.getLastD 7)]) rfl (Nat.le_refl _) rfl hb1).vw
      refine app_hasW (z := [.int .u8 0]) hh1 1 rfl hv rfl (by omega) fun s4 g2 hh2 => ?_
      replace hh2 : Has (WnP 1 s4 (n + j + 1) ((l ++ List.replicate j (l.getLastD 7)).map by8 ++ [l.getLastD 7].map by8) :: L) g2 := Has.tail hh2
      rw [by8_app, List.append_assoc, ← List.replicate_succ'] at hh2
      conv => whnf
      exact ⟨(s4, j + 1, g2), ⟨.inr (show n + (j + 1) ≤ 128 by omega), hh2⟩, (by show 128 - (j + 1) < 128 - j; omega), (by repeat (first | exact trivial | refine ⟨rfl, ?_⟩ | refine ⟨int_eq (wrap_nat (by omega)) rfl, ?_⟩)), subB_nil, rfl⟩
    · conv => whnf
      refine hK4 _ _ _ ?_
      have hn0 : 128 ≤ n + j := by omega
      cases hb : base with
      | none => have := hb0 hb; omega
      | some ad =>
        obtain ⟨b, o, sp⟩ := ad
        subst hb
        have hc128 : 128 ≤ cap := by omega
        obtain ⟨b', o', c, ty, z, cap', hs, _⟩ := hW.vw.at (i := 0) (by omega)
        cases hs
        conv => whnf
        refine opt_some (slS_hi hc128) ?_
        conv => whnf
        refine hq _ _ ?_
        refine Has.mono1 hh fun g' hg' => ?_
        have hp := hg'.part (lo := 0) (hi := 128) (o2 := o) (c2 := cap) (by omega) hn0 (by omega) (by omega) (by omega)
        have e1 : ((((l ++ List.replicate j (l.getLastD 7)).map by8).drop (0 * 1)).take ((128 - 0) * 1)) = (fillB l).map by8 := by
          rw [Nat.zero_mul, List.drop_zero, Nat.sub_zero, Nat.mul_one, ← List.map_take]
          congr 1
          unfold fillB
          rw [List.take_append, List.take_append]
          congr 1
          rw [List.take_replicate, List.take_replicate]
          congr 1
          omega
        rw [e1] at hp
        exact hp
  subst hs
  conv => whnf
  refine cond_dec (fun h0 => ?_) (fun h0 => ?_)
  · obtain ⟨b, o, c, ty, z, cap', hs, hb, hsz, hc⟩ := hW.vw.at (i := n - 1) (by omega)
    cases hs
    have hw : IntKind.i64.wrap ((n : Int) - 1) = ((n - 1 : Nat) : Int) := by rw [wrap_i64 (by omega) (by omega)]; omega
    conv => whnf
    rw [hw]
    refine opt_if ⟨by omega, by omega⟩ ?_
    conv => whnf
    refine opt_ld hb (v := by8 (l.getLastD 7)) (hc 0 _ ?_) ?_
    · rw [Nat.mul_one, Nat.add_zero, List.getElem?_map, ← hnl, ← List.getLast?_eq_getElem?]
      cases hg : l.getLast? with
      | none => rw [List.getLast?_eq_none_iff] at hg; rw [hg] at hnl; simp at hnl; omega
      | some y => simp [List.getLastD_eq_getLast?, hg]
    conv => whnf
    exact fin _ _ _ rfl rfl hh1
  · have hl0 : l = [] := List.eq_nil_of_length_eq_zero (by omega)
    conv => whnf
    refine fin _ _ _ ?_ rfl hh1
    rw [hl0]; rfl

end
end Go.Proofs.Ytpkleblggehghaa.V
