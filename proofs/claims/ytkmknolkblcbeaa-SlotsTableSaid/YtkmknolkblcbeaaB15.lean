/- The program's ties, told by a list of pairs. -/
import Derived.Test.YtkmknolkblcbeaaB14
namespace Go.Proofs.Ytkmknolkblcbeaa.V
set_option linter.unusedVariables false
open Go

structure Same (L R l : List (Int × Int)) : Prop where
  bi : Bi L R
  uq : Uq l
  get : ∀ a, aget L a = aget l a
  len : L.length = l.length

theorem Same.getR {L R l : List (Int × Int)} (h : Same L R l) (b : Int) : aget R b = aget (swp l) b := by
  have key : ∀ a, aget R b = some a ↔ aget (swp l) b = some a := fun a => by rw [← h.bi.inv, h.get, aget_swp h.uq]
  cases h1 : aget R b with
  | none => cases h2 : aget (swp l) b with
    | none => rfl
    | some a => rw [(key a).2 h2] at h1; cases h1
  | some a => exact ((key a).1 h1).symm

theorem Same.nil : Same [] [] [] := ⟨Bi.nil, Uq.nil, fun _ => rfl, rfl⟩

theorem aget_append {l : List (Int × Int)} (a b x : Int) (h : aget l a = none) : aget (l ++ [(a, b)]) x = if x = a then some b else aget l x := by
  rw [← aput_new h, aget_aput]

theorem Same.tie {L R l : List (Int × Int)} (h : Same L R l) {a b : Int} (h1 : aget L a = none) (h2 : aget R b = none) : tieR l a b = (true, l ++ [(a, b)]) ∧ Same (aput L a b) (aput R b a) (l ++ [(a, b)]) := by
  have ht : tieR l a b = (true, l ++ [(a, b)]) := by
    unfold tieR
    rw [← h.get, ← h.getR, h1, h2]; rfl
  refine ⟨ht, h.bi.tie h1 h2, by have := h.uq.tie a b; rw [ht] at this; exact this, fun x => ?_, by rw [aput_new h1]; simp [h.len]⟩
  rw [aget_aput, aget_append a b x (by rw [← h.get]; exact h1), h.get]

theorem Same.t1 {L R l : List (Int × Int)} (h : Same L R l) {a b x : Int} (h1 : aget L a = some x) : tieR l a b = (decide (x = b), l) := by
  rw [h.get] at h1
  simp [tieR, h1]

theorem Same.t2 {L R l : List (Int × Int)} (h : Same L R l) {a b x : Int} (h1 : aget L a = none) (h2 : aget R b = some x) : tieR l a b = (false, l) := by
  rw [h.get] at h1
  rw [h.getR] at h2
  simp [tieR, h1, h2]

theorem Same.cut {L R l : List (Int × Int)} (h : Same L R l) {a b : Int} (h1 : aget L a = some b) : cutR l a = (true, adel l a) ∧ Same (adel L a) (adel R b) (adel l a) := by
  have h1' := h1
  rw [h.get] at h1'
  refine ⟨by simp [cutR, h1'], h.bi.cut h1, h.uq.cut a, fun x => ?_, ?_⟩
  · rw [aget_adel h.bi.nl, aget_adel h.uq.k, h.get]
  · have e1 := length_adel h1
    have e2 := length_adel h1'
    have e3 := h.len
    omega

theorem Same.cut0 {L R l : List (Int × Int)} (h : Same L R l) {a : Int} (h1 : aget L a = none) : cutR l a = (false, l) := by
  rw [h.get] at h1
  have h2 := aget_none.1 h1
  have : ∀ l : List (Int × Int), a ∉ keys l → adel l a = l := fun l => by
    induction l with
    | nil => intro _; rfl
    | cons x l ih =>
      obtain ⟨c, v⟩ := x
      intro hn
      simp only [keys, List.map_cons, List.mem_cons, not_or] at hn
      simp only [adel, if_neg hn.1]
      rw [ih hn.2]
  simp [cutR, h1, this l h2]

def BjP (ea eb : Int → Value) (p : Nat) (l : List (Int × Int)) : As := fun h => ∃ m1 m2 L R, BiAt ea eb h p m1 m2 L R ∧ Same L R l

theorem BjP.sub {ea eb : Int → Value} {p : Nat} {l : List (Int × Int)} {h h' : Hp} (hB : BjP ea eb p l h) (hs : SubH h h') : BjP ea eb p l h' := by
  obtain ⟨m1, m2, L, R, h1, h2⟩ := hB
  exact ⟨m1, m2, L, R, h1.sub hs, h2⟩

theorem len32Q {p : Nat} {l : List (Int × Int)} {h : Hp} {Q : Value → Hp → Prop} (hB : BjP iv ce p l h) (hq : Q (iv l.length) h) : Ok PR 32 [ptr p] h Q := by
  obtain ⟨m1, m2, L, R, h1, h2⟩ := hB
  exact len32 h1 (by rw [h2.len]; exact hq)

theorem len31Q {p : Nat} {l : List (Int × Int)} {h : Hp} {Q : Value → Hp → Prop} (hB : BjP ce iv p l h) (hq : Q (iv l.length) h) : Ok PR 31 [ptr p] h Q := by
  obtain ⟨m1, m2, L, R, h1, h2⟩ := hB
  exact len31 h1 (by rw [h2.len]; exact hq)

section
variable {p : Nat} {l : List (Int × Int)}

/-! ### Numbers to Cells -/

theorem tie27S (a b : Int) : Sp PR 27 [ptr p, iv a, ce b] (BjP iv ce p l) (X := Unit) (fun _ => .bool (tieR l a b).1) (fun _ => BjP iv ce p (tieR l a b).2) := by
  rintro h ⟨m1, m2, L, R, hB, hS⟩
  refine tie27 hB a b (fun h1 h2 h' hB' hs => ?_) (fun x hx => ?_) (fun hx x hy => ?_)
  · obtain ⟨e, hS'⟩ := hS.tie h1 h2
    rw [e]
    exact ⟨(), rfl, m1, m2, _, _, hB', hS'⟩
  · rw [hS.t1 hx]; exact ⟨(), rfl, m1, m2, _, _, hB, hS⟩
  · rw [hS.t2 hx hy]; exact ⟨(), rfl, m1, m2, _, _, hB, hS⟩

theorem cut29S (a : Int) : Sp PR 29 [ptr p, iv a] (BjP iv ce p l) (X := Unit) (fun _ => .bool (cutR l a).1) (fun _ => BjP iv ce p (cutR l a).2) := by
  rintro h ⟨m1, m2, L, R, hB, hS⟩
  refine cut29 hB a (fun b hb h' hB' hs => ?_) (fun hx => ?_)
  · obtain ⟨e, hS'⟩ := hS.cut hb
    rw [e]
    exact ⟨(), rfl, m1, m2, _, _, hB', hS'⟩
  · rw [hS.cut0 hx]; exact ⟨(), rfl, m1, m2, _, _, hB, hS⟩

theorem to34S (a : Int) : Sp PR 34 [ptr p, iv a] (BjP iv ce p l) (X := Unit) (fun _ => .tuple #[((aget l a).map ce).getD ze, .bool (aget l a).isSome]) (fun _ => BjP iv ce p l) := by
  rintro h ⟨m1, m2, L, R, hB, hS⟩
  rw [← hS.get]
  refine to34 hB a (fun b hb => ?_) (fun hx => ?_)
  · rw [hb]; exact ⟨(), rfl, m1, m2, _, _, hB, hS⟩
  · rw [hx]; exact ⟨(), rfl, m1, m2, _, _, hB, hS⟩

theorem back85S (b : Int) : Sp PR 85 [ptr p, ce b] (BjP iv ce p l) (X := Unit) (fun _ => .tuple #[((aget (swp l) b).map iv).getD (iv 0), .bool (aget (swp l) b).isSome]) (fun _ => BjP iv ce p l) := by
  rintro h ⟨m1, m2, L, R, hB, hS⟩
  rw [← hS.getR]
  refine back85 hB b (fun b hb => ?_) (fun hx => ?_)
  · rw [hb]; exact ⟨(), rfl, m1, m2, _, _, hB, hS⟩
  · rw [hx]; exact ⟨(), rfl, m1, m2, _, _, hB, hS⟩

theorem len32S : Sp PR 32 [ptr p] (BjP iv ce p l) (X := Unit) (fun _ => iv l.length) (fun _ => BjP iv ce p l) := by
  rintro h ⟨m1, m2, L, R, hB, hS⟩
  refine len32 hB ?_
  rw [hS.len]
  exact ⟨(), rfl, m1, m2, _, _, hB, hS⟩

theorem new20S : Sp PR 20 [] (fun _ => True) (X := Nat) (fun q => ptr q) (fun q => BjP iv ce q []) := by
  intro h _
  exact new20 fun p m1 m2 h' hB _ _ _ _ => ⟨p, rfl, m1, m2, _, _, hB, Same.nil⟩

/-! ### Cells to numbers -/
theorem tie78S (a b : Int) : Sp PR 78 [ptr p, ce a, iv b] (BjP ce iv p l) (X := Unit) (fun _ => .bool (tieR l a b).1) (fun _ => BjP ce iv p (tieR l a b).2) := by
  rintro h ⟨m1, m2, L, R, hB, hS⟩
  refine tie78 hB a b (fun h1 h2 h' hB' hs => ?_) (fun x hx => ?_) (fun hx x hy => ?_)
  · obtain ⟨e, hS'⟩ := hS.tie h1 h2
    rw [e]
    exact ⟨(), rfl, m1, m2, _, _, hB', hS'⟩
  · rw [hS.t1 hx]; exact ⟨(), rfl, m1, m2, _, _, hB, hS⟩
  · rw [hS.t2 hx hy]; exact ⟨(), rfl, m1, m2, _, _, hB, hS⟩

theorem cut80S (a : Int) : Sp PR 80 [ptr p, ce a] (BjP ce iv p l) (X := Unit) (fun _ => .bool (cutR l a).1) (fun _ => BjP ce iv p (cutR l a).2) := by
  rintro h ⟨m1, m2, L, R, hB, hS⟩
  refine cut80 hB a (fun b hb h' hB' hs => ?_) (fun hx => ?_)
  · obtain ⟨e, hS'⟩ := hS.cut hb
    rw [e]
    exact ⟨(), rfl, m1, m2, _, _, hB', hS'⟩
  · rw [hS.cut0 hx]; exact ⟨(), rfl, m1, m2, _, _, hB, hS⟩

theorem to35S (a : Int) : Sp PR 35 [ptr p, ce a] (BjP ce iv p l) (X := Unit) (fun _ => .tuple #[((aget l a).map iv).getD (iv 0), .bool (aget l a).isSome]) (fun _ => BjP ce iv p l) := by
  rintro h ⟨m1, m2, L, R, hB, hS⟩
  rw [← hS.get]
  refine to35 hB a (fun b hb => ?_) (fun hx => ?_)
  · rw [hb]; exact ⟨(), rfl, m1, m2, _, _, hB, hS⟩
  · rw [hx]; exact ⟨(), rfl, m1, m2, _, _, hB, hS⟩

theorem back36S (b : Int) : Sp PR 36 [ptr p, iv b] (BjP ce iv p l) (X := Unit) (fun _ => .tuple #[((aget (swp l) b).map ce).getD ze, .bool (aget (swp l) b).isSome]) (fun _ => BjP ce iv p l) := by
  rintro h ⟨m1, m2, L, R, hB, hS⟩
  rw [← hS.getR]
  refine back36 hB b (fun b hb => ?_) (fun hx => ?_)
  · rw [hb]; exact ⟨(), rfl, m1, m2, _, _, hB, hS⟩
  · rw [hx]; exact ⟨(), rfl, m1, m2, _, _, hB, hS⟩

theorem len31S : Sp PR 31 [ptr p] (BjP ce iv p l) (X := Unit) (fun _ => iv l.length) (fun _ => BjP ce iv p l) := by
  rintro h ⟨m1, m2, L, R, hB, hS⟩
  refine len31 hB ?_
  rw [hS.len]
  exact ⟨(), rfl, m1, m2, _, _, hB, hS⟩

theorem new21S : Sp PR 21 [] (fun _ => True) (X := Nat) (fun q => ptr q) (fun q => BjP ce iv q []) := by
  intro h _
  exact new21 fun p m1 m2 h' hB _ _ _ _ => ⟨p, rfl, m1, m2, _, _, hB, Same.nil⟩


end

/-- A table and its turned one lie apart. -/
theorem two_parts {A B : As} {h h' : Hp} (hA : A h) (hs : SubH h h') (hB : ∃ g, B g ∧ SubH g h' ∧ ∀ x o, g x = some o → h x = none) : Has [A, B] h' := by
  obtain ⟨g, h1, h2, h3⟩ := hB
  refine Has.sub (h := join h g) ⟨h, g, rfl, apart_symm h3, hA, Has.one h1⟩ fun x o hx => ?_
  unfold join at hx
  cases hh : h x with
  | some q => rw [hh] at hx; exact hs x o (by rw [hh]; exact hx)
  | none => rw [hh] at hx; exact h2 x o (by simpa using hx)

theorem BiAt.small {ea eb : Int → Value} {h h0 : Hp} {q n1 n2 : Nat} {L R : List (Int × Int)} (hB : BiAt ea eb h q n1 n2 L R) (a : h0 q = none) (b : h0 n1 = none) (c : h0 n2 = none) :
    ∃ g, BiAt ea eb g q n1 n2 L R ∧ SubH g h ∧ ∀ x o, g x = some o → h0 x = none := by
  refine ⟨fun x => if x = q ∨ x = n1 ∨ x = n2 then h x else none, hB.same (by simp) (by simp) (by simp), fun x o hx => ?_, fun x o hx => ?_⟩
  · simp only at hx
    split at hx
    · exact hx
    · cases hx
  · simp only at hx
    split at hx
    · rename_i e
      rcases e with rfl | rfl | rfl <;> assumption
    · cases hx

theorem Same.turned {L R l L' R' : List (Int × Int)} (h : Same L R l) (hb : Bi L' R') (hi : ∀ a b, aget R' a = some b ↔ aget L a = some b) (hl : L'.length = L.length) : Same L' R' (swp l) := by
  refine ⟨hb, h.uq.swp, fun b => ?_, by rw [hl, h.len]; simp [swp]⟩
  have key : ∀ a, aget L' b = some a ↔ aget (swp l) b = some a := fun a => by rw [hb.inv, hi, h.get, aget_swp h.uq]
  cases h1 : aget L' b with
  | none => cases h2 : aget (swp l) b with
    | none => rfl
    | some a => rw [(key a).2 h2] at h1; cases h1
  | some a => exact ((key a).1 h1).symm

theorem turn30S {p : Nat} {l : List (Int × Int)} : Sp PR 30 [ptr p] (BjP iv ce p l) (X := Nat) (fun q => ptr q) (fun q => Has [BjP iv ce p l, BjP ce iv q (swp l)]) := by
  rintro h ⟨m1, m2, L, R, hB, hS⟩
  refine turn30 hB hS.bi fun q n1 n2 L' R' h' hB' hb' hi hl hs a b c => ⟨q, rfl, ?_⟩
  refine two_parts ⟨m1, m2, _, _, hB, hS⟩ hs ?_
  obtain ⟨g, g1, g2, g3⟩ := hB'.small a b c
  exact ⟨g, ⟨n1, n2, _, _, g1, hS.turned hb' hi hl⟩, g2, g3⟩

theorem turn33S {p : Nat} {l : List (Int × Int)} : Sp PR 33 [ptr p] (BjP ce iv p l) (X := Nat) (fun q => ptr q) (fun q => Has [BjP ce iv p l, BjP iv ce q (swp l)]) := by
  rintro h ⟨m1, m2, L, R, hB, hS⟩
  refine turn33 hB hS.bi fun q n1 n2 L' R' h' hB' hb' hi hl hs a b c => ⟨q, rfl, ?_⟩
  refine two_parts ⟨m1, m2, _, _, hB, hS⟩ hs ?_
  obtain ⟨g, g1, g2, g3⟩ := hB'.small a b c
  exact ⟨g, ⟨n1, n2, _, _, g1, hS.turned hb' hi hl⟩, g2, g3⟩

end Go.Proofs.Ytkmknolkblcbeaa.V
