/- Seat 09: what is set of a row. -/
import Derived.Test.YtljenppmdhldbaaH8
namespace Go.Proofs.Ytljenppmdhldbaa.V
set_option linter.unusedVariables false
set_option linter.unusedSimpArgs false
set_option linter.unusedSectionVars false
set_option linter.unusedSectionVars false
open Go

def EnvA (t : Nat) (A : Rs) (last : Int) : As := EnvP t (tab A) last

theorem qsum_ge : ∀ {l : List Q3}, (∀ q ∈ l, qge q) → qge (qsum l)
  | [], _ => ⟨Int.le_refl _, Int.le_refl _, Int.le_refl _⟩
  | q :: l, h => by
    obtain ⟨a1, a2, a3⟩ := h q (List.mem_cons_self ..)
    obtain ⟨b1, b2, b3⟩ := qsum_ge (l := l) fun x hx => h x (List.mem_cons_of_mem _ hx)
    simp only [qsum, qadd, qchild]
    refine ⟨?_, ?_, ?_⟩ <;> simp only [] <;> omega

theorem WF.bk {A : Rs} {last : Int} (hw : WF A last) {r : Row} (hr : r ∈ A) : Bk (rcOf A r) where
  rg := hw.rg r hr
  w := hw.qw r hr
  p := hw.qp r hr
  c := qsum_ge fun q hq => by
    obtain ⟨x, hx, rfl⟩ := List.mem_map.1 hq
    exact (hw.qw x (List.mem_filter.1 hx).1).1
  l := hw.ql r hr

section
variable {h : Hp} {Q : Value → Hp → Prop} {L : List As} {t : Nat} {A : Rs} {last : Int}

theorem EnvA.look (hw : WF A last) (e : Int) (hh : Has (EnvA t A last :: L) h) : ∃ (tb : Nat) (xs : Xs), xs.length = 16 ∧ rcs xs = tab A ∧ Has (Pt t (.cells #[ptr tb, iv last] 98 (0, 0)) :: TabP rowP tb (blk xs) :: RecsP xs :: L) h ∧
    ((fnd A e = none ∧ got (blk xs) e = none) ∨ ∃ (n b : Nat) (r : Row) (s : Value), e = n ∧ n < 16 ∧ fnd A e = some r ∧ got (blk xs) e = some b ∧ xs[n]? = some (some (b, rcOf A r, s))) := by
  obtain ⟨tb, xs, a1, a2, hh, h1⟩ := EnvP.look (e := e) hh
  refine ⟨tb, xs, a1, a2, hh, ?_⟩
  rcases h1 with ⟨h1, h2⟩ | ⟨n, b, r, s, rfl, hn, h1, h2, h3⟩
  · rw [got_tab hw.lt] at h1
    exact .inl ⟨Option.map_eq_none_iff.1 h1, h2⟩
  · rw [got_tab hw.lt] at h1
    obtain ⟨r', h4, rfl⟩ := Option.map_eq_some_iff.1 h1
    exact .inr ⟨n, b, r', s, rfl, hn, h4, h2, h3⟩

theorem EnvA.put {tb n b : Nat} {xs : Xs} {r : Row} {s s' : Value} {f : Row → Row} (hw : WF A last) (hf : Keep f) (a1 : xs.length = 16) (a2 : rcs xs = tab A) (hr : fnd A (n : Int) = some r) (hx : xs[n]? = some (some (b, rcOf A r, s)))
    (hh : Has (Pt b (.cells (recC (rcOf A (f r)) s').toArray 103 (0, 0)) :: WnP 1 s' (rcOf A r).kids.length ((rcOf A r).kids.map iv) :: RecsP (xs.set n none) :: Pt t (.cells #[ptr tb, iv last] 98 (0, 0)) :: TabP rowP tb (blk xs) :: L) h) : Has (EnvA t (upR A n f) last :: L) h := by
  have e1 : (rcOf A r).kids = (rcOf A (f r)).kids := by show kids A r.num = kids A (f r).num; rw [(hf r).1]
  rw [e1] at hh
  have := EnvP.put (r' := rcOf A (f r)) a1 a2 hx hh
  rw [tab_up hf hw.lt hr] at this
  exact this

def mSet (A : Rs) (e : Int) (c : Row → Int) (f : Row → Row) : Int × Rs := match fnd A e with
  | none => (90, A)
  | some r => if c r = 0 then (0, upR A e f) else (c r, A)

theorem mSet_none {e : Int} {c : Row → Int} {f : Row → Row} (h : fnd A e = none) : mSet A e c f = (90, A) := by unfold mSet; rw [h]
theorem mSet_ok {e : Int} {c : Row → Int} {f : Row → Row} {r : Row} (h : fnd A e = some r) (h0 : c r = 0) : mSet A e c f = (0, upR A e f) := by unfold mSet; rw [h]; simp only [h0, if_true]
theorem mSet_no {e : Int} {c : Row → Int} {f : Row → Row} {r : Row} (h : fnd A e = some r) {n : Int} (h0 : c r = n) (hn : n ≠ 0) : mSet A e c f = (n, A) := by unfold mSet; rw [h]; simp only [h0, if_neg hn]

theorem WF.set (hw : WF A last) {e : Int} {c : Row → Int} {f : Row → Row} (hf : Keep f) (h1 : ∀ r ∈ A, (r.num : Int) = e → c r = 0 → qge (f r).paid ∧ qge (left A (f r)) ∧ (0 ≤ (f r).bits ∧ (f r).bits ≤ 4294967295) ∧ (f r).regs.length = 8) : WF (mSet A e c f).2 last := by
  cases h : fnd A e with
  | none => rw [mSet_none h]; exact hw
  | some r =>
    by_cases h0 : c r = 0
    · rw [mSet_ok h h0]
      refine hw.up hf fun s hs hse => ?_
      have : s = r := by
        have := (fnd_iff hw.nd).2 ⟨hs, hse⟩
        rw [h] at this; exact (Option.some.inj this).symm
      subst this
      exact h1 s hs hse h0
    · rw [mSet_no h rfl h0]; exact hw

def isW (n : Int) : Prop := 0 ≤ n ∧ n ≤ 4294967295
instance (n : Int) : Decidable (isW n) := by unfold isW; exact inferInstance
def orW (a b : Int) : Int := IntKind.i64.wrap ((BitVec.ofInt 64 a ||| BitVec.ofInt 64 b).toNat : Int)

def fState (st code : Int) (r : Row) : Row := { r with state := st, code := code }
def fRegs (g : List Int) (pc : Int) (r : Row) : Row := { r with regs := g, pc := pc }
def fBits (n : Int) (r : Row) : Row := { r with bits := n }
def fNotify (n : Int) (r : Row) : Row := if r.state = 2 ∧ orW r.bits n ≠ 0 then { r with state := 1, bits := 0, regs := (r.regs.set 0 0).set 1 (IntKind.u32.wrap (orW r.bits n)) } else { r with bits := orW r.bits n }
def fFreeze (on : Bool) (r : Row) : Row := { r with frozen := on }
def fPay (q : Q3) (r : Row) : Row := { r with paid := qadd r.paid q }
def fRefund (q : Q3) (r : Row) : Row := { r with paid := qsub r.paid q }
def fWait (r : Row) : Row := if r.bits = 0 then { r with bits := 0, state := 2 } else { r with bits := 0 }

theorem kState (st code : Int) : Keep (fState st code) := fun r => ⟨rfl, rfl, rfl, rfl⟩
theorem kRegs (g : List Int) (pc : Int) : Keep (fRegs g pc) := fun r => ⟨rfl, rfl, rfl, rfl⟩
theorem kBits (n : Int) : Keep (fBits n) := fun r => ⟨rfl, rfl, rfl, rfl⟩
theorem kNotify (n : Int) : Keep (fNotify n) := fun r => by unfold fNotify; split <;> exact ⟨rfl, rfl, rfl, rfl⟩
theorem kFreeze (on : Bool) : Keep (fFreeze on) := fun r => ⟨rfl, rfl, rfl, rfl⟩
theorem kPay (q : Q3) : Keep (fPay q) := fun r => ⟨rfl, rfl, rfl, rfl⟩
theorem kRefund (q : Q3) : Keep (fRefund q) := fun r => ⟨rfl, rfl, rfl, rfl⟩
theorem kWait : Keep fWait := fun r => by unfold fWait; split <;> exact ⟨rfl, rfl, rfl, rfl⟩

def cW (n : Int) (r : Row) : Int := if isW n then 0 else 1
def mState (A : Rs) (e st code : Int) := mSet A e (fun _ => if (0 ≤ st ∧ st ≤ 4) ∧ isW code then 0 else 1) (fState st code)
def mRegs (A : Rs) (e : Int) (g : List Int) (pc : Int) := mSet A e (fun _ => 0) (fRegs g pc)
def mBits (A : Rs) (e n : Int) := mSet A e (cW n) (fBits n)
def mNotify (A : Rs) (e n : Int) := mSet A e (cW n) (fNotify n)
def mFreeze (A : Rs) (e : Int) (on : Bool) := mSet A e (fun _ => 0) (fFreeze on)
def mPay (A : Rs) (e : Int) (q : Q3) := mSet A e (fun r => if qgood q then (if qle q (left A r) then 0 else 2) else 1) (fPay q)
def mRefund (A : Rs) (e : Int) (q : Q3) := mSet A e (fun r => if qgood q ∧ qle q r.paid then 0 else 1) (fRefund q)
def mWait (A : Rs) (e : Int) : (Int × Int) × Rs := (match fnd A e with | none => (0, 90) | some r => (r.bits, 0), (mSet A e (fun _ => 0) fWait).2)

theorem orW_nat (a b : Nat) (ha : a < 4294967296) (hb : b < 4294967296) : orW a b = ((a ||| b : Nat) : Int) := by
  have h1 : (a ||| b) < 2 ^ 32 := Nat.or_lt_two_pow (by omega) (by omega)
  have e : (BitVec.ofInt 64 (a : Int) ||| BitVec.ofInt 64 (b : Int)).toNat = a ||| b := by
    rw [BitVec.toNat_or, BitVec.ofInt_natCast, BitVec.ofInt_natCast, BitVec.toNat_ofNat, BitVec.toNat_ofNat, Nat.mod_eq_of_lt (by omega), Nat.mod_eq_of_lt (by omega)]
  unfold orW
  rw [e, wrap_i64 (by omega) (by omega)]

theorem orW_isW {a b : Int} (ha : isW a) (hb : isW b) : isW (orW a b) := by
  obtain ⟨x, rfl⟩ := Int.eq_ofNat_of_zero_le ha.1
  obtain ⟨y, rfl⟩ := Int.eq_ofNat_of_zero_le hb.1
  have h1 := ha.2; have h2 := hb.2
  rw [orW_nat x y (by omega) (by omega)]
  have : (x ||| y) < 2 ^ 32 := Nat.or_lt_two_pow (by omega) (by omega)
  exact ⟨by omega, by omega⟩

theorem WF.mState (hw : WF A last) (e st code : Int) : WF (mState A e st code).2 last := hw.set (kState _ _) fun r hr _ _ => ⟨hw.qp r hr, hw.ql r hr, hw.bt r hr, hw.rg r hr⟩
theorem WF.mRegs (hw : WF A last) (e : Int) {g : List Int} (pc : Int) (hg : g.length = 8) : WF (mRegs A e g pc).2 last := hw.set (kRegs _ _) fun r hr _ _ => ⟨hw.qp r hr, hw.ql r hr, hw.bt r hr, hg⟩
theorem WF.mBits (hw : WF A last) (e n : Int) : WF (mBits A e n).2 last := hw.set (kBits _) fun r hr _ hc => ⟨hw.qp r hr, hw.ql r hr, by unfold cW at hc; split at hc; assumption; omega, hw.rg r hr⟩
theorem WF.mFreeze (hw : WF A last) (e : Int) (on : Bool) : WF (mFreeze A e on).2 last := hw.set (kFreeze _) fun r hr _ _ => ⟨hw.qp r hr, hw.ql r hr, hw.bt r hr, hw.rg r hr⟩
theorem WF.mWait (hw : WF A last) (e : Int) : WF (mWait A e).2 last := hw.set kWait fun r hr _ _ => by
  unfold fWait; split <;> exact ⟨hw.qp r hr, hw.ql r hr, ⟨Int.le_refl 0, show (0 : Int) ≤ 4294967295 by decide⟩, hw.rg r hr⟩
theorem WF.mNotify (hw : WF A last) (e n : Int) : WF (mNotify A e n).2 last := hw.set (kNotify _) fun r hr _ hc => by
  have hn : isW n := by unfold cW at hc; split at hc; assumption; omega
  unfold fNotify; split
  · exact ⟨hw.qp r hr, hw.ql r hr, ⟨Int.le_refl 0, show (0 : Int) ≤ 4294967295 by decide⟩, by simp [hw.rg r hr]⟩
  · exact ⟨hw.qp r hr, hw.ql r hr, orW_isW (hw.bt r hr) hn, hw.rg r hr⟩
theorem WF.mPay (hw : WF A last) (e : Int) (q : Q3) : WF (mPay A e q).2 last := hw.set (kPay _) fun r hr _ hc => by
  split at hc
  · rename_i h1
    split at hc
    · rename_i h2
      obtain ⟨⟨a1, a2, a3⟩, _⟩ := h1
      obtain ⟨b1, b2, b3⟩ := h2
      obtain ⟨c1, c2, c3⟩ := hw.qp r hr
      refine ⟨⟨?_, ?_, ?_⟩, ⟨?_, ?_, ?_⟩, hw.bt r hr, hw.rg r hr⟩ <;> simp only [fPay, left, qadd, qsub] at * <;> omega
    · cases hc
  · cases hc
theorem WF.mRefund (hw : WF A last) (e : Int) (q : Q3) : WF (mRefund A e q).2 last := hw.set (kRefund _) fun r hr _ hc => by
  split at hc
  · rename_i h1
    obtain ⟨⟨⟨a1, a2, a3⟩, _⟩, b1, b2, b3⟩ := h1
    obtain ⟨c1, c2, c3⟩ := hw.qp r hr
    obtain ⟨d1, d2, d3⟩ := hw.ql r hr
    refine ⟨⟨?_, ?_, ?_⟩, ⟨?_, ?_, ?_⟩, hw.bt r hr, hw.rg r hr⟩ <;> simp only [fRefund, left, qadd, qsub] at * <;> omega
  · cases hc

end
end Go.Proofs.Ytljenppmdhldbaa.V
