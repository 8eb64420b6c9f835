/- Seat 09: the statements' own book. -/
import Derived.Test.YtljenppmdhldbaaH23
import Derived.Test.YtljenppmdhldbaaH17
namespace Go.Proofs.Ytljenppmdhldbaa.V
set_option linter.unusedVariables false
set_option linter.unusedSimpArgs false
set_option linter.unusedSectionVars false
set_option linter.unusedSectionVars false
open Go

structure OpE where
  kind : Int
  t : Int
  e : Int
  n : Int
  m : Int
  q : Q3
  regs : List Int
  pc : Int
  on : Bool

def opC (o : OpE) : List Value := [iv o.kind, iv o.t, iv o.e, iv o.n, iv o.m] ++ q3 o.q ++ o.regs.map u32v ++ [u32v o.pc, .bool o.on]

def step (A : Rs) (last : Int) (o : OpE) : Rs × Int :=
  if o.kind = 2 then (mCreate A last o.e o.n o.q).2
  else if o.kind = 3 then ((mDestroy A o.e).2, last)
  else if o.kind = 11 then ((mPay A o.e o.q).2, last)
  else if o.kind = 12 then ((mRefund A o.e o.q).2, last)
  else if o.kind = 5 then ((mRegs A o.e o.regs o.pc).2, last)
  else if o.kind = 6 then ((mState A o.e o.n o.m).2, last)
  else if o.kind = 7 then ((mBits A o.e o.n).2, last)
  else if o.kind = 8 then ((mNotify A o.e o.n).2, last)
  else if o.kind = 9 then ((mWait A o.e).2, last)
  else if o.kind = 10 then ((mFreeze A o.e o.on).2, last)
  else (A, last)

section
variable {A : Rs} {last : Int}

theorem WF.mCreate (hw : WF A last) (e serial : Int) (q : Q3) : WF (mCreate A last e serial q).2.1 (mCreate A last e serial q).2.2 := by
  unfold V.mCreate
  cases hp : fnd A e with
  | none => exact hw
  | some p =>
    simp only
    by_cases h1 : qgood q ∧ last < serial ∧ serial ≤ 4611686018427387903
    · rw [if_pos h1]
      by_cases h2 : qle (qchild q) (left A p)
      · rw [if_pos h2]
        cases hf : free A with
        | none => exact hw
        | some n =>
          obtain ⟨a, b, _⟩ := free_some hf
          exact hw.create hp b a h1.1 h1.2.1 h2
      · rw [if_neg h2]; exact hw
    · rw [if_neg h1]; exact hw

theorem WF.mDestroy (hw : WF A last) (e : Int) : WF (mDestroy A e).2 last := by
  unfold V.mDestroy
  cases hr : fnd A e with
  | none => exact hw
  | some r =>
    simp only
    by_cases h0 : e = 0
    · rw [if_pos h0]; exact hw
    · rw [if_neg h0]; exact hw.cut hr h0

theorem WF.step (hw : WF A last) (o : OpE) (ho : o.regs.length = 8) : WF (step A last o).1 (step A last o).2 := by
  unfold V.step
  split
  · exact hw.mCreate ..
  split
  · exact hw.mDestroy _
  split
  · exact hw.mPay ..
  split
  · exact hw.mRefund ..
  split
  · exact hw.mRegs _ _ ho
  split
  · exact hw.mState ..
  split
  · exact hw.mBits ..
  split
  · exact hw.mNotify ..
  split
  · exact hw.mWait _
  split
  · exact hw.mFreeze ..
  exact hw
end

def lvG (p : Nat → Bool) : List Bool := (List.range 16).map p
theorem lvG_len (p : Nat → Bool) : (lvG p).length = 16 := by simp [lvG]
theorem lvG_get (p : Nat → Bool) {n : Nat} (hn : n < 16) : (lvG p)[n]? = some (p n) := by simp [lvG, hn]
theorem lvG_set (p : Nat → Bool) (n : Nat) (v : Bool) : (lvG p).set n v = lvG fun m => if m = n then v else p m := by
  apply List.ext_getElem?
  intro i
  rw [List.getElem?_set, lvG_len]
  by_cases hi : i < 16
  · rw [lvG_get _ hi, lvG_get _ hi]
    by_cases h : n = i
    · subst h; rw [if_pos rfl, if_pos hi, if_pos rfl]
    · rw [if_neg h, if_neg (Ne.symm h)]
  · rw [List.getElem?_eq_none (by rw [lvG_len]; omega), List.getElem?_eq_none (by rw [lvG_len]; omega)]
    by_cases h : n = i
    · rw [if_pos h, if_neg (by omega)]
    · rw [if_neg h]
theorem lvG_congr {p q : Nat → Bool} (h : ∀ n, n < 16 → p n = q n) : lvG p = lvG q := List.map_congr_left fun n hn => h n (List.mem_range.1 hn)

def livesF (A : Rs) (n : Nat) : Bool := (fnd A (n : Int)).isSome
def PdOk (A : Rs) (pd : List Q3) : Prop := pd.length = 16 ∧ ∀ r ∈ A, pd[r.num]? = some r.paid
def BkP (b : Nat) (A : Rs) (last : Int) : As := fun h => ∃ pd, PdOk A pd ∧ h b = some (.cells (bookC (lvG (livesF A)) pd last).toArray 58 (0, 0))

section
variable {lv : List Bool} {pd : List Q3} {last : Int}

theorem bk_lv (h1 : lv.length = 16) {n : Nat} (hn : n < 16) {v : Bool} (hv : lv[n]? = some v) : (bookC lv pd last).toArray[n]? = some (.bool v) := by
  rw [List.getElem?_toArray, bookC, List.append_assoc, List.getElem?_append_left (by rw [List.length_map]; omega), List.getElem?_map, hv]; rfl

theorem bk_pd (h1 : lv.length = 16) (h2 : pd.length = 16) {n : Nat} {q : Q3} (hq : pd[n]? = some q) : rd (bookC lv pd last).toArray (16 + n * 3) 3 true = some (aq q) := by
  have hn : n < 16 := by have := (List.getElem?_eq_some_iff.1 hq).1; omega
  refine agg_rd (row := q3 q) rfl (by rw [List.size_toArray, bookC_len h1 h2]; omega) fun j v hj => ?_
  have hj3 : j < 3 := (List.getElem?_eq_some_iff.1 hj).1
  rw [List.getElem?_toArray, bookC, List.append_assoc, List.getElem?_append_right (by rw [List.length_map]; omega), List.length_map, h1, show 16 + n * 3 + j - 16 = n * 3 + j by omega,
    List.getElem?_append_left (by rw [flat_len (row := q3) (e := 3) (fun _ => rfl), h2]; omega), flat_get (row := q3) (e := 3) (fun _ => rfl) pd n j q hq hj3, hj]

theorem bk_last (h1 : lv.length = 16) (h2 : pd.length = 16) : (bookC lv pd last).toArray[64]? = some (iv last) := by
  rw [List.getElem?_toArray, bookC, List.getElem?_append_right (by rw [List.length_append, List.length_map, flat_len (row := q3) (e := 3) (fun _ => rfl), h1, h2]; omega),
    List.length_append, List.length_map, flat_len (row := q3) (e := 3) (fun _ => rfl), h1, h2]; rfl

theorem wr_lv (h1 : lv.length = 16) {n : Nat} (hn : n < 16) (v : Bool) : wr (bookC lv pd last).toArray n [.bool v] = (bookC (lv.set n v) pd last).toArray := by
  rw [wr_wrL, wrL_one]
  · congr 1
    unfold bookC
    rw [List.append_assoc, List.set_append_left _ _ (by rw [List.length_map]; omega), ← List.map_set, List.append_assoc]
  · unfold bookC; rw [List.length_append, List.length_append, List.length_map]; omega

theorem wrL_in : ∀ (vs X P Z : List Value) (o : Nat), o + vs.length ≤ P.length → wrL (X ++ (P ++ Z)) (X.length + o) vs = X ++ (wrL P o vs ++ Z)
  | [], X, P, Z, o, _ => rfl
  | v :: vs, X, P, Z, o, h => by
    simp only [List.length_cons] at h
    simp only [wrL]
    rw [List.set_append_right _ _ (by omega), Nat.add_sub_cancel_left, List.set_append_left _ _ (by omega), show X.length + o + 1 = X.length + (o + 1) by omega, wrL_in vs X (P.set o v) Z (o + 1) (by rw [List.length_set]; omega)]

theorem wr_pd (h1 : lv.length = 16) (h2 : pd.length = 16) {n : Nat} (hn : n < 16) (q : Q3) : wr (bookC lv pd last).toArray (16 + n * 3) (q3 q) = (bookC lv (pd.set n q) last).toArray := by
  rw [wr_wrL]
  congr 1
  have h4 : (pd.flatMap q3).length = 48 := by rw [flat_len (row := q3) (e := 3) (fun _ => rfl), h2]
  unfold bookC
  rw [List.append_assoc, show 16 + n * 3 = (lv.map Value.bool).length + n * 3 by rw [List.length_map, h1], wrL_in _ _ _ _ _ (by rw [h4]; show n * 3 + 3 ≤ 48; omega), flat_set (row := q3) (e := 3) (fun _ => rfl) pd n q (by omega), List.append_assoc]

theorem wr_last (h1 : lv.length = 16) (h2 : pd.length = 16) (x : Int) : wr (bookC lv pd last).toArray 64 [iv x] = (bookC lv pd x).toArray := by
  rw [wr_wrL, wrL_one]
  · congr 1
    unfold bookC
    rw [List.set_append_right _ _ (by rw [List.length_append, List.length_map, flat_len (row := q3) (e := 3) (fun _ => rfl), h1, h2]; omega), List.length_append, List.length_map, flat_len (row := q3) (e := 3) (fun _ => rfl), h1, h2]; rfl
  · rw [bookC_len h1 h2]; omega

end

theorem bkp0 {b : Nat} {h : Hp} (hh : BookP b lv0 pd0 3 h) : BkP b A0 3 h :=
  ⟨pd0, ⟨rfl, fun r hr => by
    simp only [A0, List.mem_cons, List.not_mem_nil, or_false] at hr
    rcases hr with rfl | rfl | rfl <;> rfl⟩, hh.2.2⟩

end Go.Proofs.Ytljenppmdhldbaa.V
