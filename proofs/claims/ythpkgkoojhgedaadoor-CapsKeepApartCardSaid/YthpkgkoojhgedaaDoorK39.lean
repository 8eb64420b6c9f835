/- Seat 08: CapsKeepApart: Revoke, Shut, Purge and Mint by counts. -/
import Derived.Test.YthpkgkoojhgedaaDoorK38
namespace Go.Proofs.YthpkgkoojhgedaaDoor.V
set_option linter.unusedVariables false
set_option linter.unusedSimpArgs false
set_option linter.unusedSectionVars false
set_option linter.unusedSectionVars false
open Go

/-- How many lie in the lists 0 to 3. -/
def kkF (a c d f : Nat) : Nat → Nat := fun e => if e = 0 then a else if e = 1 then c else if e = 2 then d else if e = 3 then f else 0
theorem kkF_0 (a c d f : Nat) : kkF a c d f 0 = a := rfl
theorem kkF_1 (a c d f : Nat) : kkF a c d f 1 = c := rfl
theorem kkF_2 (a c d f : Nat) : kkF a c d f 2 = d := rfl
theorem kkF_3 (a c d f : Nat) : kkF a c d f 3 = f := rfl
theorem kkF_u (a c d f e : Nat) (he : 3 < e) : kkF a c d f e = 0 := by
  unfold kkF
  rw [if_neg (by omega), if_neg (by omega), if_neg (by omega), if_neg (by omega)]
theorem kk_ext {g : Nat → Nat} {a c d f : Nat} (h0 : g 0 = a) (h1 : g 1 = c) (h2 : g 2 = d) (h3 : g 3 = f) (hu : ∀ e, 3 < e → g e = 0) : g = kkF a c d f := by
  funext e
  rcases Nat.lt_or_ge 3 e with h | h
  · rw [hu e h, kkF_u _ _ _ _ e h]
  · have : e = 0 ∨ e = 1 ∨ e = 2 ∨ e = 3 := by omega
    rcases this with rfl | rfl | rfl | rfl
    · rw [h0, kkF_0]
    · rw [h1, kkF_1]
    · rw [h2, kkF_2]
    · rw [h3, kkF_3]
theorem up1_0 (a c d f k : Nat) : up1 (kkF a c d f) 0 k = kkF k c d f := kk_ext rfl rfl rfl rfl fun e he => by rw [up1_other _ _ (by omega)]; exact kkF_u _ _ _ _ e he
theorem up1_1 (a c d f k : Nat) : up1 (kkF a c d f) 1 k = kkF a k d f := kk_ext rfl rfl rfl rfl fun e he => by rw [up1_other _ _ (by omega)]; exact kkF_u _ _ _ _ e he
theorem up1_2 (a c d f k : Nat) : up1 (kkF a c d f) 2 k = kkF a c k f := kk_ext rfl rfl rfl rfl fun e he => by rw [up1_other _ _ (by omega)]; exact kkF_u _ _ _ _ e he
theorem up1_3 (a c d f k : Nat) : up1 (kkF a c d f) 3 k = kkF a c d k := kk_ext rfl rfl rfl rfl fun e he => by rw [up1_other _ _ (by omega)]; exact kkF_u _ _ _ _ e he
theorem up1_z : up1 (fun _ => 0) 0 1 = kkF 1 0 0 0 := kk_ext rfl rfl rfl rfl fun e he => by rw [up1_other _ _ (by omega)]

section
variable {h : Hp} {Q : Value → Hp → Prop} {L : List As} {b : Nat} {S : Bs} {ser : Int} {op : List Nat} {kk : Nat → Nat}

theorem Cn.lt768 (hc : Cn S ser op kk) {d : Ce} (hd : d ∈ S.cs) : posC d < 768 := by
  have := pos_lt hc.wf hd
  unfold posC; omega

theorem rev20 {k : Nat} (hc : Cn S ser op (kkF 1 k 0 0)) (hkin : Kin S) (hh : Has (CapsA b S :: L) h)
    (hq : ∀ S' sl h', Cn S' ser op (kkF 1 0 0 0) → Has (CapsA b S' :: HsP sl (rowH ser 1 k) :: L) h' → Q (.tuple #[sl, iv 0]) h') : Ok PR 20 [ptr b, iv 0, iv 0] h Q := by
  have hw := hc.wf
  refine revoke20 hw hh 0 0 (fun k' hk' => ?_) fun c hcm he hs m hm hbel sl h' hh' => ?_
  · obtain ⟨r, hr, hr0, hrs⟩ := hc.has 0 0 (by rw [kkF_0]; omega)
    have hlk := mLook_of hw hr
    rw [hr0, hrs] at hlk
    have hlk : mLook S.tb 0 0 = .inr r.a := hlk
    rw [hlk] at hk'; cases hk'
  have hc0 : c.env = 0 := by omega
  have hone : ∀ x ∈ S.cs, x.env = 0 → x = c := fun x hx hx0 => by
    have h1 := (hc.fit x hx).1
    have h2 := (hc.fit c hcm).1
    rw [hx0, kkF_0] at h1
    rw [hc0, kkF_0] at h2
    exact hw.place hx hcm (by omega) (by omega)
  have hg : ∀ d ∈ S.cs, (posC d < 768 ∧ m d = true) ↔ (fun e : Nat => decide (e ≠ 0)) d.env = true := fun d hd => by
    rw [decide_eq_true_iff, hbel d hd, hkin.bel hw hcm hd hc0 hone]
    exact ⟨fun h => h.2, fun h => ⟨hc.lt768 hd, h⟩⟩
  have hE : (swL m S 768).map hdOf = rowH ser 1 k := hc.swL (g := fun e => decide (e ≠ 0)) hm hg (rowH_sorted ..) fun x => by
    rw [mem_rowH, decide_eq_true_iff]
    constructor
    · rintro ⟨h1, h2, h3⟩
      rw [h1]; exact ⟨by omega, by rw [kkF_1]; exact h2, h3⟩
    · rintro ⟨h1, h2, h3⟩
      have : x.env = 1 := by
        rcases Nat.lt_or_ge 3 x.env with h | h
        · rw [kkF_u _ _ _ _ _ h] at h2; omega
        · have : x.env = 1 ∨ x.env = 2 ∨ x.env = 3 := by omega
          rcases this with e | e | e
          · exact e
          · rw [e, kkF_2] at h2; omega
          · rw [e, kkF_3] at h2; omega
      rw [this] at h2 h3
      exact ⟨this, by rw [kkF_1] at h2; exact h2, h3⟩
  rw [hE] at hh'
  refine hq _ sl h' ?_ hh'
  have := hc.swG (g := fun e => decide (e ≠ 0)) hm hg
  rwa [kk_ext (g := fun e => if decide (e ≠ 0) = true then 0 else kkF 1 k 0 0 e) rfl rfl rfl rfl fun e he => by rw [if_pos (decide_eq_true (by omega))]] at this

theorem shutE (hc : Cn S ser op kk) {n : Nat} (hn : n ∈ op) (op' : List Nat) (hop : ∀ e ∈ op', e ∈ op ∧ e ≠ n) (hh : Has (CapsA b S :: L) h)
    (hq : ∀ S' sl h', Cn S' ser op' (up1 kk n 0) → Has (CapsA b S' :: HsP sl (rowH ser n (kk n)) :: L) h' → Q (.tuple #[sl, iv 0]) h') : Ok PR 42 [ptr b, iv n] h Q := by
  have hw := hc.wf
  refine shut42 hw hh n (fun hno => ?_) fun n' he h16 ho sl h' hh' => ?_
  · have := hc.op n hn
    unfold isOpen at this
    rw [hno] at this; cases this
  obtain rfl : n = n' := by omega
  obtain ⟨P, hP⟩ : ∃ P, P = n * 48 + 48 := ⟨_, rfl⟩
  have hg : ∀ d ∈ S.cs, (posC d < P ∧ inE n d = true) ↔ (fun e : Nat => decide (e = n)) d.env = true := fun d hd => by
    have := (pos_lt hw hd).2
    unfold inE
    rw [decide_eq_true_iff]
    refine ⟨fun h => h.2, fun h => ⟨?_, h⟩⟩
    unfold posC; rw [h, hP]; omega
  have hE : (swL (inE n) S P).map hdOf = rowH ser n (kk n) := hc.swL (g := fun e => decide (e = n)) (inE_sim n) hg (rowH_sorted ..) fun x => by
    rw [mem_rowH, decide_eq_true_iff]
    constructor
    · rintro ⟨h1, h2, h3⟩
      rw [h1]; exact ⟨rfl, h2, h3⟩
    · rintro ⟨h1, h2, h3⟩
      rw [h1] at h2 h3
      exact ⟨h1, h2, h3⟩
  have hsg := hc.swG (g := fun e => decide (e = n)) (inE_sim n) hg
  have hsh : shut S n = ⟨(sw (inE n) S P).tb.set n none, (sw (inE n) S P).cs⟩ := by rw [hP]; rfl
  have hww := hw.shut n
  rw [← hP] at hh'
  rw [hE] at hh'
  rw [hsh] at hh' hww
  refine hq _ sl h' ⟨hww, fun e he => ?_, fun c hcc => ?_, fun e s hs => ?_⟩ hh'
  · obtain ⟨h1, h2⟩ := hop e he
    have := hsg.op e h1
    show isOpen ((sw (inE n) S P).tb.set n none) (e : Int) = true
    unfold isOpen at this ⊢
    rw [got_nat] at this ⊢
    rwa [List.getElem?_set_ne (Ne.symm h2)]
  · obtain ⟨h1, h2⟩ := hsg.fit c hcc
    refine ⟨?_, h2⟩
    unfold up1
    split
    · rename_i hh; rw [if_pos (decide_eq_true hh)] at h1; exact h1
    · rename_i hh; rw [if_neg (by rw [decide_eq_true_iff]; exact hh)] at h1; exact h1
  · unfold up1 at hs
    split at hs
    · cases hs
    · rename_i hh
      exact hsg.has e s (by show s < if _ then _ else _; rw [if_neg (by rw [decide_eq_true_iff]; exact hh)]; exact hs)

theorem purgeE {n : Nat} (hc : Cn S ser op (kkF 1 0 0 n)) (hh : Has (CapsA b S :: L) h)
    (hq : ∀ S' sl h', (∀ ser', Cn S' ser' op (kkF 0 0 0 0)) → Has (CapsA b S' :: HsP sl (rowH ser 0 1 ++ rowH ser 3 n) :: L) h' → Q sl h') : Ok PR 43 [ptr b, iv 1, iv 5] h Q := by
  have hw := hc.wf
  refine purge43 hw hh 1 5 fun sl h' hh' => ?_
  have hg : ∀ d ∈ S.cs, (posC d < 768 ∧ onM 1 5 d = true) ↔ (fun _ : Nat => true) d.env = true := fun d hd => by
    refine ⟨fun _ => rfl, fun _ => ⟨hc.lt768 hd, ?_⟩⟩
    unfold onM
    rw [(hc.fit d hd).2]
    rfl
  have hsim : ∀ c d, Sim c d → onM 1 5 c = onM 1 5 d := onM_sim 1 5
  have hE : (swL (onM 1 5) S 768).map hdOf = rowH ser 0 1 ++ rowH ser 3 n := hc.swL (g := fun _ => true) hsim hg (by
    rw [List.pairwise_append]
    refine ⟨rowH_sorted .., rowH_sorted .., fun x hx y hy => ?_⟩
    rw [mem_rowH] at hx hy
    unfold posH
    omega) fun x => by
    rw [List.mem_append, mem_rowH, mem_rowH]
    constructor
    · rintro (⟨h1, h2, h3⟩ | ⟨h1, h2, h3⟩)
      · rw [h1]; exact ⟨rfl, by rw [kkF_0]; exact h2, h3⟩
      · rw [h1]; exact ⟨rfl, by rw [kkF_3]; exact h2, h3⟩
    · rintro ⟨_, h2, h3⟩
      rcases Nat.lt_or_ge 3 x.env with h | h
      · rw [kkF_u _ _ _ _ _ h] at h2; omega
      · have : x.env = 0 ∨ x.env = 1 ∨ x.env = 2 ∨ x.env = 3 := by omega
        rcases this with e | e | e | e
        · rw [e] at h2 h3; exact .inl ⟨e, h2, h3⟩
        · rw [e, kkF_1] at h2; omega
        · rw [e, kkF_2] at h2; omega
        · rw [e] at h2 h3; exact .inr ⟨e, h2, h3⟩
  rw [hE] at hh'
  have hsg := hc.swG (g := fun _ => true) hsim hg
  refine hq _ sl h' (fun ser' => ⟨hsg.wf, hsg.op, fun c hcc => ?_, fun e s hs => ?_⟩) hh'
  · have := (hsg.fit c hcc).1
    rw [if_pos rfl] at this; omega
  · rw [show kkF 0 0 0 0 = fun _ => 0 from (kk_ext (g := fun _ => 0) rfl rfl rfl rfl fun _ _ => rfl).symm] at hs
    cases hs

theorem mint0 (hc : Cn S ser op (kkF 0 0 0 0)) (h0 : 0 ∈ op) (hser : 1 ≤ ser ∧ ser ≤ 4611686018427387903) (hh : Has (CapsA b S :: L) h)
    (hq : ∀ S' h', Cn S' ser op (kkF 1 0 0 0) → Has (CapsA b S' :: L) h' → Q (.tuple #[iv 0, iv 0]) h') : Ok PR 36 [ptr b, iv 0, iv 0, .agg #[iv 1, iv 5, iv ser, iv 15]] h Q := by
  have hw := hc.wf
  obtain ⟨n0, t0, l0, e0, g0, ht0⟩ := got_open (hc.op 0 h0)
  obtain rfl : 0 = n0 := by omega
  have g0 : got S.tb 0 = some (t0, l0) := g0
  have hfree : l0[0]? = some none := hw.free ht0 (by decide) fun c hcm hh => by
    have := (hc.fit c hcm).1
    rw [hh.1, kkF_0] at this; omega
  have hm : mMint S.tb 0 0 (cpE ser 0) = .inr 0 := by
    unfold mMint
    rw [g0]
    dsimp only
    rw [if_pos ⟨by decide, ⟨by show (1 : Int) ≤ 1 ∧ (1 : Int) ≤ 3; omega, by show (0 : Int) ≤ 5 ∧ (5 : Int) ≤ _; omega, hser, by show (0 : Int) ≤ 15 ∧ (15 : Int) ≤ 15; omega⟩⟩]
    unfold mPlace
    rw [if_pos (by omega)]
    have : got l0 0 = none := by
      have : got l0 ((0 : Nat) : Int) = none := by rw [got_nat, hfree]
      exact this
    rw [this]
    rfl
  refine mint36 (cp := cpE ser 0) hw hh 0 0 (fun k hk => by rw [hm] at hk; cases hk) fun n s a hi he hw' h' hh' => ?_
  obtain rfl : 0 = n := by omega
  rw [hm] at hi
  injection hi with hi
  subst hi
  refine hq _ h' ?_ hh'
  have := hc.more (e := 0) (a := a) (p := none) hw'
  rwa [up1_0] at this
end
end Go.Proofs.YthpkgkoojhgedaaDoor.V
