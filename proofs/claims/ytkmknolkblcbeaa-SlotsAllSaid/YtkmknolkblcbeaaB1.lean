/- The map both ways, over numbers: what each function does. -/
import Derived.Test.YtkmknolkblcbeaaC1
namespace Go.Proofs.Ytkmknolkblcbeaa.V
set_option linter.unusedSectionVars false
set_option linter.unusedVariables false
set_option linter.unusedSimpArgs false
open Go

theorem int_key : KeyOk (.one .i) iv := ⟨fun h a b => by simp [eqV, eqS, iv]; exact Bool.beq_eq_decide_eq _ _, fun a => by simp [iv, Instr.sameBits]⟩

def ptr (b : Nat) : Value := .pointer (some ⟨b, 0, none⟩)

theorem upd_none {h : Hp} {b c : Nat} {o : Obj} (hc : upd h b o c = none) : c ≠ b ∧ h c = none := by
  unfold upd at hc
  split at hc
  · cases hc
  · rename_i e; exact ⟨e, hc⟩

/-- A pair of maps behind a pointer. -/
structure BiAt {α β : Type} (ea : α → Value) (eb : β → Value) (h : Hp) (p m1 m2 : Nat) (L : List (α × β)) (R : List (β × α)) : Prop where
  cell : ∃ ty, h p = some (.cells #[.map (some m1), .map (some m2)] ty (0, 0))
  left : MapIs ea eb (h m1) L
  right : MapIs eb ea (h m2) R
  ne1 : p ≠ m1
  ne2 : p ≠ m2
  ne3 : m1 ≠ m2

theorem BiAt.same {α β : Type} {ea : α → Value} {eb : β → Value} {h h' : Hp} {p m1 m2 : Nat} {L : List (α × β)} {R : List (β × α)} (hB : BiAt ea eb h p m1 m2 L R)
    (h1 : h' p = h p) (h2 : h' m1 = h m1) (h3 : h' m2 = h m2) : BiAt ea eb h' p m1 m2 L R :=
  ⟨by rw [h1]; exact hB.cell, by rw [h2]; exact hB.left, by rw [h3]; exact hB.right, hB.ne1, hB.ne2, hB.ne3⟩

/-- The left map turned. -/
theorem BiAt.setL {α β : Type} {ea : α → Value} {eb : β → Value} {h : Hp} {p m1 m2 : Nat} {L L' : List (α × β)} {R : List (β × α)} (hB : BiAt ea eb h p m1 m2 L R) {o : Obj} (ho : MapIs ea eb (some o) L') :
    BiAt ea eb (upd h m1 o) p m1 m2 L' R :=
  ⟨by rw [upd_other hB.ne1]; exact hB.cell, by rw [upd_same]; exact ho, by rw [upd_other (Ne.symm hB.ne3)]; exact hB.right, hB.ne1, hB.ne2, hB.ne3⟩

theorem BiAt.setR {α β : Type} {ea : α → Value} {eb : β → Value} {h : Hp} {p m1 m2 : Nat} {L : List (α × β)} {R R' : List (β × α)} (hB : BiAt ea eb h p m1 m2 L R) {o : Obj} (ho : MapIs eb ea (some o) R') :
    BiAt ea eb (upd h m2 o) p m1 m2 L R' :=
  ⟨by rw [upd_other hB.ne2]; exact hB.cell, by rw [upd_other hB.ne3]; exact hB.left, by rw [upd_same]; exact ho, hB.ne1, hB.ne2, hB.ne3⟩

theorem new13 {h : Hp} {Q : Value → Hp → Prop} (hq : ∀ p m1 m2 h', BiAt iv iv h' p m1 m2 [] [] → (∀ x, x ≠ p → x ≠ m1 → x ≠ m2 → h' x = h x) → h p = none → h m1 = none → h m2 = none → Q (ptr p) h') : Ok PR 13 [] h Q := by
  refine e13 rfl ?_
  conv => whnf
  refine .intro fun m1 h1 => ?_
  conv => whnf
  refine .intro fun m2 h2 => ?_
  conv => whnf
  refine .intro fun p h3 => ?_
  conv => whnf
  obtain ⟨n3, h3⟩ := upd_none h3
  obtain ⟨n2, h3⟩ := upd_none h3
  obtain ⟨n1, h2⟩ := upd_none h2
  refine hq p m1 m2 _ ⟨⟨108, ?_⟩, ?_, ?_, n2, n3, Ne.symm n1⟩ (fun x x1 x2 x3 => ?_) h3 h1 h2
  · rw [upd_same]; rfl
  · rw [upd_other (Ne.symm n2), upd_other (Ne.symm n1), upd_same]; exact MapIs.nil _ _ _
  · rw [upd_other (Ne.symm n3), upd_same]; exact MapIs.nil _ _ _
  · rw [upd_other x1, upd_other x3, upd_other x2]

section
variable {h : Hp} {Q : Value → Hp → Prop} {p m1 m2 : Nat} {L R : List (Int × Int)}

theorem len14 (hB : BiAt iv iv h p m1 m2 L R) (hq : Q (.int .i64 L.length) h) : Ok PR 14 [ptr p] h Q := by
  obtain ⟨ty, hc⟩ := hB.cell
  refine e14 rfl ?_
  conv => whnf
  refine opt_ld hc rfl ?_
  conv => whnf
  refine len_step hB.left ?_
  conv => whnf
  exact hq

theorem to15 (hB : BiAt iv iv h p m1 m2 L R) (a : Int) (hq : Q (.tuple #[((aget L a).map iv).getD (iv 0), .bool (aget L a).isSome]) h) : Ok PR 15 [ptr p, iv a] h Q := by
  obtain ⟨ty, hc⟩ := hB.cell
  refine e15 rfl ?_
  conv => whnf
  refine opt_ld hc rfl ?_
  conv => whnf
  refine look_step hB.left int_key a ?_
  conv => whnf
  exact hq

theorem back16 (hB : BiAt iv iv h p m1 m2 L R) (a : Int) (hq : Q (.tuple #[((aget R a).map iv).getD (iv 0), .bool (aget R a).isSome]) h) : Ok PR 16 [ptr p, iv a] h Q := by
  obtain ⟨ty, hc⟩ := hB.cell
  refine e16 rfl ?_
  conv => whnf
  refine opt_ld hc rfl ?_
  conv => whnf
  refine look_step hB.right int_key a ?_
  conv => whnf
  exact hq

theorem tie17 (hB : BiAt iv iv h p m1 m2 L R) (a b : Int)
    (h1 : aget L a = none → aget R b = none → ∀ h', BiAt iv iv h' p m1 m2 (aput L a b) (aput R b a) → (∀ x, x ≠ m1 → x ≠ m2 → h' x = h x) → Q (.bool true) h')
    (h2 : ∀ x, aget L a = some x → Q (.bool (x == b)) h) (h3 : aget L a = none → ∀ x, aget R b = some x → Q (.bool false) h) : Ok PR 17 [ptr p, iv a, iv b] h Q := by
  obtain ⟨ty, hc⟩ := hB.cell
  refine e17 rfl ?_
  conv => whnf
  refine opt_ld hc rfl ?_
  conv => whnf
  cases hL : aget L a with
  | some x =>
    refine look_some hB.left int_key hL ?_
    conv => whnf
    refine opt_ld hc rfl ?_
    conv => whnf
    refine look_step hB.right int_key b ?_
    conv => whnf
    exact h2 x hL
  | none =>
    refine look_none hB.left int_key hL ?_
    conv => whnf
    refine opt_ld hc rfl ?_
    conv => whnf
    cases hR : aget R b with
    | some x =>
      refine look_some hB.right int_key hR ?_
      conv => whnf
      exact h3 hL x hR
    | none =>
      refine look_none hB.right int_key hR ?_
      conv => whnf
      refine opt_ld hc rfl ?_
      conv => whnf
      refine mup_step hB.left int_key a b fun o1 ho1 => ?_
      have hB1 := hB.setL ho1
      obtain ⟨ty1, hc1⟩ := hB1.cell
      conv => whnf
      refine opt_ld hc1 rfl ?_
      conv => whnf
      refine mup_step hB1.right int_key b a fun o2 ho2 => ?_
      conv => whnf
      exact h1 hL hR _ (hB1.setR ho2) fun x x1 x2 => by rw [upd_other x2, upd_other x1]

theorem cut18 (hB : BiAt iv iv h p m1 m2 L R) (a : Int)
    (h1 : ∀ b, aget L a = some b → ∀ h', BiAt iv iv h' p m1 m2 (adel L a) (adel R b) → (∀ x, x ≠ m1 → x ≠ m2 → h' x = h x) → Q (.bool true) h')
    (h2 : aget L a = none → Q (.bool false) h) : Ok PR 18 [ptr p, iv a] h Q := by
  obtain ⟨ty, hc⟩ := hB.cell
  refine e18 rfl ?_
  conv => whnf
  refine opt_ld hc rfl ?_
  conv => whnf
  cases hL : aget L a with
  | none =>
    refine look_none hB.left int_key hL ?_
    conv => whnf
    exact h2 hL
  | some b =>
    refine look_some hB.left int_key hL ?_
    conv => whnf
    refine opt_ld hc rfl ?_
    conv => whnf
    refine mdel_step hB.left int_key a fun o1 ho1 => ?_
    have hB1 := hB.setL ho1
    obtain ⟨ty1, hc1⟩ := hB1.cell
    conv => whnf
    refine opt_ld hc1 rfl ?_
    conv => whnf
    refine mdel_step hB1.right int_key b fun o2 ho2 => ?_
    conv => whnf
    exact h1 b hL _ (hB1.setR ho2) fun x x1 x2 => by rw [upd_other x2, upd_other x1]

end

end Go.Proofs.Ytkmknolkblcbeaa.V
