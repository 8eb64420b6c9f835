/- The map both ways, from numbers to cells. -/
import Derived.Test.YtkmknolkblcbeaaC2
import Derived.Test.YtkmknolkblcbeaaB1
namespace Go.Proofs.Ytkmknolkblcbeaa.V
set_option linter.unusedSectionVars false
set_option linter.unusedVariables false
set_option linter.unusedSimpArgs false
open Go

def xr (n : Int) : Int := IntKind.i64.wrap (BitVec.ofInt 64 n ^^^ BitVec.ofInt 64 5).toNat

def even : ByteArray := ByteArray.mk (Array.mk [101, 118, 101, 110])
def odd : ByteArray := ByteArray.mk (Array.mk [111, 100, 100])

/-- The cell of a number. -/
def ce (n : Int) : Value := .agg #[.string (if n.tmod 2 = 0 then even else odd), .int .i64 n, .int .i64 (xr n)]

def ze : Value := .agg #[.string (ByteArray.mk (Array.mk [])), .int .i64 0, .int .i64 0]

theorem ba_self (s : ByteArray) : (s == s) = true := by rw [beq_toListBytes]; simp

theorem ce_eqL (h : Hp) (a b : Int) : eqV h (.ag [(0, .s), (1, .i), (2, .i)]) (ce a) (ce b) = some (decide (a = b)) := by
  have e : eqV h (.ag [(0, .s), (1, .i), (2, .i)]) (ce a) (ce b) = some (((if a.tmod 2 = 0 then even else odd) == (if b.tmod 2 = 0 then even else odd)) && ((a == b) && ((xr a == xr b) && true))) := rfl
  rw [e]
  by_cases hab : a = b
  · subst hab; simp [ba_self]
  · simp [hab]

theorem cell_key : KeyOk (.ag [(0, .s), (1, .i), (2, .i)]) ce := ⟨ce_eqL, fun a => by simp [ce, Instr.sameBits, ba_self]⟩

theorem ce_dec (a b : Int) : decide (a = b) = (((if a.tmod 2 = 0 then even else odd) == (if b.tmod 2 = 0 then even else odd)) && ((a == b) && ((xr a == xr b) && true))) := by
  have := ce_eqL (fun _ => none) a b
  exact (Option.some.inj this).symm

theorem int_dec (x y : Int) : (x == y) = decide (x = y) := Bool.beq_eq_decide_eq _ _

theorem cell28 {h : Hp} {Q : Value → Hp → Prop} (a : Int) (hq : Q (ce a) h) : Ok PR 28 [iv a] h Q := by
  refine e28 rfl ?_
  conv => whnf
  by_cases hc : a.tmod 2 = 0
  · refine cond_beq (fun _ => ?_) (fun he => absurd hc he)
    conv => whnf
    have : ce a = .agg #[.string even, .int .i64 a, .int .i64 (xr a)] := by simp [ce, hc]
    rw [this] at hq
    exact hq
  · refine cond_beq (fun he => absurd he hc) (fun _ => ?_)
    conv => whnf
    have : ce a = .agg #[.string odd, .int .i64 a, .int .i64 (xr a)] := by simp [ce, hc]
    rw [this] at hq
    exact hq

theorem new20 {h : Hp} {Q : Value → Hp → Prop} (hq : ∀ p m1 m2 h', BiAt iv ce h' p m1 m2 ([] : List (Int × Int)) [] → (∀ x, x ≠ p → x ≠ m1 → x ≠ m2 → h' x = h x) → h p = none → h m1 = none → h m2 = none → Q (ptr p) h') : Ok PR 20 [] h Q := by
  refine e20 rfl ?_
  conv => whnf
  refine .intro fun m1 h1 => ?_
  conv => whnf
  refine .intro fun m2 h2 => ?_
  conv => whnf
  refine .intro fun p h3 => ?_
  conv => whnf
  obtain ⟨n3, h3⟩ := upd_none h3
  obtain ⟨n2, h3⟩ := upd_none h3
  obtain ⟨n1, h2⟩ := upd_none h2
  refine hq p m1 m2 _ ⟨⟨113, ?_⟩, ?_, ?_, n2, n3, Ne.symm n1⟩ (fun x x1 x2 x3 => ?_) h3 h1 h2
  · rw [upd_same]; rfl
  · rw [upd_other (Ne.symm n2), upd_other (Ne.symm n1), upd_same]; exact MapIs.nil _ _ _
  · rw [upd_other (Ne.symm n3), upd_same]; exact MapIs.nil _ _ _
  · rw [upd_other x1, upd_other x3, upd_other x2]

section
variable {h : Hp} {Q : Value → Hp → Prop} {p m1 m2 : Nat} {L : List (Int × Int)} {R : List (Int × Int)}

theorem len32 (hB : BiAt iv ce h p m1 m2 L R) (hq : Q (.int .i64 L.length) h) : Ok PR 32 [ptr p] h Q := by
  obtain ⟨ty, hc⟩ := hB.cell
  refine e32 rfl ?_
  conv => whnf
  refine opt_ld hc rfl ?_
  conv => whnf
  refine len_step hB.left ?_
  conv => whnf
  exact hq

theorem to34 (hB : BiAt iv ce h p m1 m2 L R) (a : Int) (h1 : ∀ b, aget L a = some b → Q (.tuple #[ce b, .bool true]) h) (h2 : aget L a = none → Q (.tuple #[ze, .bool false]) h) : Ok PR 34 [ptr p, iv a] h Q := by
  obtain ⟨ty, hc⟩ := hB.cell
  refine e34 rfl ?_
  conv => whnf
  refine opt_ld hc rfl ?_
  conv => whnf
  cases hg : aget L a with
  | none =>
    refine look_none hB.left int_key hg ?_
    conv => whnf
    exact h2 hg
  | some b =>
    refine look_some hB.left int_key hg ?_
    conv => whnf
    exact h1 b hg

theorem tie27 (hB : BiAt iv ce h p m1 m2 L R) (a : Int) (b : Int)
    (h1 : aget L a = none → aget R b = none → ∀ h', BiAt iv ce h' p m1 m2 (aput L a b) (aput R b a) → (∀ x, x ≠ m1 → x ≠ m2 → h' x = h x) → Q (.bool true) h')
    (h2 : ∀ x, aget L a = some x → Q (.bool (decide (x = b))) h) (h3 : aget L a = none → ∀ x, aget R b = some x → Q (.bool false) h) : Ok PR 27 [ptr p, iv a, ce b] h Q := by
  obtain ⟨ty, hc⟩ := hB.cell
  refine e27 rfl ?_
  conv => whnf
  refine opt_ld hc rfl ?_
  conv => whnf
  cases hL : aget L a with
  | some x =>
    refine look_some hB.left int_key hL ?_
    conv => whnf
    refine opt_ld hc rfl ?_
    conv => whnf
    cases hR : aget R b with
    | some y =>
      refine look_some hB.right cell_key hR ?_
      conv => whnf
      have e := h2 x hL
      rw [ce_dec] at e
      exact e
    | none =>
      refine look_none hB.right cell_key hR ?_
      conv => whnf
      have e := h2 x hL
      rw [ce_dec] at e
      exact e
  | none =>
    refine look_none hB.left int_key hL ?_
    conv => whnf
    refine opt_ld hc rfl ?_
    conv => whnf
    cases hR : aget R b with
    | some x =>
      refine look_some hB.right cell_key hR ?_
      conv => whnf
      exact h3 hL x hR
    | none =>
      refine look_none hB.right cell_key hR ?_
      conv => whnf
      refine opt_ld hc rfl ?_
      conv => whnf
      refine mup_step hB.left int_key a b fun o1 ho1 => ?_
      have hB1 := hB.setL ho1
      obtain ⟨ty1, hc1⟩ := hB1.cell
      conv => whnf
      refine opt_ld hc1 rfl ?_
      conv => whnf
      refine mup_step hB1.right cell_key b a fun o2 ho2 => ?_
      conv => whnf
      exact h1 hL hR _ (hB1.setR ho2) fun x x1 x2 => by rw [upd_other x2, upd_other x1]

end

end Go.Proofs.Ytkmknolkblcbeaa.V
