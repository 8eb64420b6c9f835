/- Seat 08: books, lists that are opened, what is laid and minted. -/
import Derived.Test.YthpkgkoojhgedaaDoorK5
namespace Go.Proofs.YthpkgkoojhgedaaDoor.V
set_option linter.unusedVariables false
set_option linter.unusedSimpArgs false
set_option linter.unusedSectionVars false
set_option linter.unusedSectionVars false
open Go

section
variable {p : Nat} {l : List (Option Nat)}

theorem tputS {k : Nat} (v : Nat) (h1 : ∀ j, j < k → l[j]? ≠ some none) (h2 : l[k]? = some none) : Sp PR 73 [ptr p, ptr v] (TabP rowP p l) (X := Unit) (fun _ => .tuple #[iv k, iv 0]) (fun _ => TabP rowP p (l.set k (some v))) := by
  rintro h ⟨d, hT⟩
  refine tput hT v (fun k' h3 h4 h' hT' _ => ?_) (fun h3 h' hT' _ => ?_)
  · have : k' = k := by
      rcases Nat.lt_trichotomy k' k with hl | hl | hl
      · exact absurd h4 (h1 _ hl)
      · exact hl
      · exact absurd h2 (h3 _ hl)
    subst this
    exact ⟨(), rfl, d, hT'⟩
  · exact absurd h2 (h3 k (List.getElem?_eq_some_iff.1 h2).1)

theorem tputF (v : Nat) (h1 : ∀ j, j < l.length → l[j]? ≠ some none) : Sp PR 73 [ptr p, ptr v] (TabP rowP p l) (X := Unit) (fun _ => .tuple #[iv (-1), iv 2]) (fun _ => TabP rowP p l) := by
  rintro h ⟨d, hT⟩
  refine tput hT v (fun k' h3 h4 h' hT' _ => ?_) (fun h3 h' hT' _ => ?_)
  · exact absurd h4 (h1 _ (List.getElem?_eq_some_iff.1 h4).1)
  · exact ⟨(), rfl, d, hT'⟩

theorem tputatS {k : Nat} (v : Nat) (h2 : l[k]? = some none) : Sp PR 72 [ptr p, iv k, ptr v] (TabP rowP p l) (X := Unit) (fun _ => iv 0) (fun _ => TabP rowP p (l.set k (some v))) := by
  rintro h ⟨d, hT⟩
  have hk := (List.getElem?_eq_some_iff.1 h2).1
  refine tputat hT k v (fun h => by omega) (fun w hw => ?_) (fun k' he h3 h' hT' _ => ?_)
  · rw [got_nat, h2] at hw; cases hw
  · obtain rfl : k' = k := by omega
    exact ⟨(), rfl, d, hT'⟩

theorem tdropS {k w : Nat} (h2 : l[k]? = some (some w)) : Sp PR 74 [ptr p, iv k] (TabP rowP p l) (X := Unit) (fun _ => .tuple #[ptr w, .bool true]) (fun _ => TabP rowP p (l.set k none)) := by
  rintro h ⟨d, hT⟩
  refine tdrop hT k (fun k' v hk hl h' hT' _ => ?_) (fun hg => ?_)
  · have : k' = k := by omega
    subst this
    rw [h2] at hl; cases hl
    exact ⟨(), rfl, d, hT'⟩
  · rw [got_nat, h2] at hg; cases hg

theorem tnewS : Sp PR 70 [iv 48] (fun _ => True) (X := Nat) (fun p => ptr p) (fun p => TabP rowP p (List.replicate 48 none)) := by
  rintro h -
  exact tnew 48 fun p d h' hT _ _ _ => ⟨p, rfl, d, hT⟩
end

theorem wrL_one {c : List Value} {o : Nat} (x : Value) (ho : o < c.length) : wrL c o [x] = c.set o x := by
  apply List.ext_getElem?
  intro i
  rw [wrL_get _ _ _ _ (by simp; omega), List.getElem?_set]
  by_cases hi : o = i
  · subst hi
    rw [if_pos ⟨by omega, by simp⟩, if_pos rfl, if_pos ho]; simp
  · rw [if_neg (by simp; omega), if_neg hi]

theorem Has.emp {A : As} {L : List As} {h : Hp} (hA : A fun _ => none) (hh : Has L h) : Has (A :: L) h :=
  ⟨fun _ => none, h, by funext b; simp [join], fun _ _ h => (by cases h), hA, hh⟩

section
variable {h : Hp} {Q : Value → Hp → Prop} {L : List As} {b : Nat} {S : Bs}

theorem new31 (hh : Has L h) (hq : ∀ b h', Has (CapsA b st0 :: L) h' → Q (ptr b) h') : Ok PR 31 [] h Q := by
  refine e31 rfl (seq_step fun K hK => ?_)
  repeat (first | ((with_reducible refine hK _ _ _ ?_); clear hK) | (with_reducible refine seq_step fun K hK => ?_) | (with_reducible refine block_step ?_) | ((with_reducible refine cond_t ?_ ?_); focus rfl) | ((with_reducible refine cond_f ?_ ?_); focus rfl) | ((with_reducible refine code_id ?_); conv => whnf) | (clear hK; (with_reducible refine hK _ _ _ ?_); clear hK) | (clear hK; clear hK; (with_reducible refine hK _ _ _ ?_); clear hK) | (clear hK; clear hK; clear hK; (with_reducible refine hK _ _ _ ?_); clear hK) | (clear hK; clear hK; clear hK; clear hK; (with_reducible refine hK _ _ _ ?_); clear hK) | (clear hK; clear hK; clear hK; clear hK; clear hK; (with_reducible refine hK _ _ _ ?_); clear hK) | (clear hK; clear hK; clear hK; clear hK; clear hK; clear hK; (with_reducible refine hK _ _ _ ?_); clear hK) | (clear hK; clear hK; clear hK; clear hK; clear hK; clear hK; clear hK; (with_reducible refine hK _ _ _ ?_); clear hK))
  refine fresh_has hh fun b h1 _ _ _ hh1 => ?_
  conv => whnf
  repeat (first | ((with_reducible refine hK _ _ _ ?_); clear hK) | (with_reducible refine seq_step fun K hK => ?_) | (with_reducible refine block_step ?_) | ((with_reducible refine cond_t ?_ ?_); focus rfl) | ((with_reducible refine cond_f ?_ ?_); focus rfl) | ((with_reducible refine code_id ?_); conv => whnf) | (clear hK; (with_reducible refine hK _ _ _ ?_); clear hK) | (clear hK; clear hK; (with_reducible refine hK _ _ _ ?_); clear hK) | (clear hK; clear hK; clear hK; (with_reducible refine hK _ _ _ ?_); clear hK) | (clear hK; clear hK; clear hK; clear hK; (with_reducible refine hK _ _ _ ?_); clear hK) | (clear hK; clear hK; clear hK; clear hK; clear hK; (with_reducible refine hK _ _ _ ?_); clear hK) | (clear hK; clear hK; clear hK; clear hK; clear hK; clear hK; (with_reducible refine hK _ _ _ ?_); clear hK) | (clear hK; clear hK; clear hK; clear hK; clear hK; clear hK; clear hK; (with_reducible refine hK _ _ _ ?_); clear hK))
  refine hq b _ (CapsA.cls (tb := List.replicate 16 none) (C := []) ?_)
  refine hh1.map_tail fun g hg => Has.emp ?_ (Has.emp ?_ hg)
  · trivial
  · trivial

theorem bookC_set (tb : Tb) (n : Nat) (hn : n < tb.length) (x : Option (Nat × List (Option Nat))) : wr (bookC tb).toArray n [ptrO (x.map (·.1))] = (bookC (tb.set n x)).toArray := by
  rw [wr_wrL, wrL_one _ (by unfold bookC; rw [List.length_map]; exact hn)]
  unfold bookC
  rw [List.map_set]

theorem open35 (hw : WF S) (hh : Has (CapsA b S :: L) h) (e : Int) (h1 : (e < 0 ∨ 16 ≤ e ∨ (got S.tb e).isSome = true) → Q (iv 83) h)
    (h2 : ∀ (n t : Nat) h', e = n → S.tb[n]? = some none → Has (CapsA b (opn S n t) :: L) h' → Q (iv 0) h') : Ok PR 35 [ptr b, iv e] h Q := by
  have hr := CapsA.rd0 hh
  refine e35 rfl (seq_step fun K hK => ?_)
  repeat (first | ((with_reducible refine hK _ _ _ ?_); clear hK) | (with_reducible refine seq_step fun K hK => ?_) | (with_reducible refine block_step ?_) | ((with_reducible refine cond_t ?_ ?_); focus rfl) | ((with_reducible refine cond_f ?_ ?_); focus rfl) | ((with_reducible refine code_id ?_); conv => whnf) | (clear hK; (with_reducible refine hK _ _ _ ?_); clear hK) | (clear hK; clear hK; (with_reducible refine hK _ _ _ ?_); clear hK) | (clear hK; clear hK; clear hK; (with_reducible refine hK _ _ _ ?_); clear hK) | (clear hK; clear hK; clear hK; clear hK; (with_reducible refine hK _ _ _ ?_); clear hK) | (clear hK; clear hK; clear hK; clear hK; clear hK; (with_reducible refine hK _ _ _ ?_); clear hK) | (clear hK; clear hK; clear hK; clear hK; clear hK; clear hK; (with_reducible refine hK _ _ _ ?_); clear hK) | (clear hK; clear hK; clear hK; clear hK; clear hK; clear hK; clear hK; (with_reducible refine hK _ _ _ ?_); clear hK))
  by_cases h0 : e < 0
  · rw [show decide (e < 0) = true from decide_eq_true h0]
    conv => whnf
    repeat (first | ((with_reducible refine hK _ _ _ ?_); clear hK) | (with_reducible refine seq_step fun K hK => ?_) | (with_reducible refine block_step ?_) | ((with_reducible refine cond_t ?_ ?_); focus rfl) | ((with_reducible refine cond_f ?_ ?_); focus rfl) | ((with_reducible refine code_id ?_); conv => whnf) | (clear hK; (with_reducible refine hK _ _ _ ?_); clear hK) | (clear hK; clear hK; (with_reducible refine hK _ _ _ ?_); clear hK) | (clear hK; clear hK; clear hK; (with_reducible refine hK _ _ _ ?_); clear hK) | (clear hK; clear hK; clear hK; clear hK; (with_reducible refine hK _ _ _ ?_); clear hK) | (clear hK; clear hK; clear hK; clear hK; clear hK; (with_reducible refine hK _ _ _ ?_); clear hK) | (clear hK; clear hK; clear hK; clear hK; clear hK; clear hK; (with_reducible refine hK _ _ _ ?_); clear hK) | (clear hK; clear hK; clear hK; clear hK; clear hK; clear hK; clear hK; (with_reducible refine hK _ _ _ ?_); clear hK))
    exact h1 (.inl h0)
  obtain ⟨n, rfl⟩ := Int.eq_ofNat_of_zero_le (show 0 ≤ e by omega)
  rw [show decide ((n : Int) < 0) = false from decide_eq_false (by omega)]
  conv => whnf
  by_cases h16 : n < 16
  · rw [show decide ((n : Int) ≥ 16) = false from decide_eq_false (by omega)]
    conv => whnf
    refine opt_if ⟨by omega, by omega⟩ ?_
    conv => whnf
    refine opt_ld hr.bk (v := ptrO ((got S.tb (n : Int)).map (·.1))) (by show (bookC S.tb).toArray[0 + (n : Int).toNat * 1]? = _; rw [Int.toNat_natCast, Nat.mul_one, Nat.zero_add]; exact bookC_get hw.len h16) ?_
    cases hg : got S.tb (n : Int) with
    | some x =>
      conv => whnf
      repeat (first | ((with_reducible refine hK _ _ _ ?_); clear hK) | (with_reducible refine seq_step fun K hK => ?_) | (with_reducible refine block_step ?_) | ((with_reducible refine cond_t ?_ ?_); focus rfl) | ((with_reducible refine cond_f ?_ ?_); focus rfl) | ((with_reducible refine code_id ?_); conv => whnf) | (clear hK; (with_reducible refine hK _ _ _ ?_); clear hK) | (clear hK; clear hK; (with_reducible refine hK _ _ _ ?_); clear hK) | (clear hK; clear hK; clear hK; (with_reducible refine hK _ _ _ ?_); clear hK) | (clear hK; clear hK; clear hK; clear hK; (with_reducible refine hK _ _ _ ?_); clear hK) | (clear hK; clear hK; clear hK; clear hK; clear hK; (with_reducible refine hK _ _ _ ?_); clear hK) | (clear hK; clear hK; clear hK; clear hK; clear hK; clear hK; (with_reducible refine hK _ _ _ ?_); clear hK) | (clear hK; clear hK; clear hK; clear hK; clear hK; clear hK; clear hK; (with_reducible refine hK _ _ _ ?_); clear hK))
      exact h1 (.inr (.inr (by rw [hg]; rfl)))
    | none =>
      have hn : S.tb[n]? = some none := by
        have hlt : n < S.tb.length := by rw [hw.len]; exact h16
        rw [got_nat, List.getElem?_eq_getElem hlt] at hg
        rw [List.getElem?_eq_getElem hlt]
        exact congrArg some hg
      conv => whnf
      repeat (first | ((with_reducible refine hK _ _ _ ?_); clear hK) | (with_reducible refine seq_step fun K hK => ?_) | (with_reducible refine block_step ?_) | ((with_reducible refine cond_t ?_ ?_); focus rfl) | ((with_reducible refine cond_f ?_ ?_); focus rfl) | ((with_reducible refine code_id ?_); conv => whnf) | (clear hK; (with_reducible refine hK _ _ _ ?_); clear hK) | (clear hK; clear hK; (with_reducible refine hK _ _ _ ?_); clear hK) | (clear hK; clear hK; clear hK; (with_reducible refine hK _ _ _ ?_); clear hK) | (clear hK; clear hK; clear hK; clear hK; (with_reducible refine hK _ _ _ ?_); clear hK) | (clear hK; clear hK; clear hK; clear hK; clear hK; (with_reducible refine hK _ _ _ ?_); clear hK) | (clear hK; clear hK; clear hK; clear hK; clear hK; clear hK; (with_reducible refine hK _ _ _ ?_); clear hK) | (clear hK; clear hK; clear hK; clear hK; clear hK; clear hK; clear hK; (with_reducible refine hK _ _ _ ?_); clear hK))
      refine hh.make tnewS fun t h3 hh3 => ?_
      conv => whnf
      refine opt_if ⟨by omega, by omega⟩ ?_
      conv => whnf
      have hh4 : Has (BkA b S.tb :: TabP rowP t (List.replicate 48 none) :: TabsP S.tb :: CellsP S.cs :: L) h3 := (CapsA.opn hh3.swap).map_tail fun g hg => hg.pull 2 rfl
      refine st_has hh4 0 rfl rfl (by rw [List.size_toArray]; unfold bookC; rw [List.length_map, hw.len, Int.toNat_natCast]; omega) rfl fun h5 _ _ hh5 => ?_
      conv => whnf
      repeat (first | ((with_reducible refine hK _ _ _ ?_); clear hK) | (with_reducible refine seq_step fun K hK => ?_) | (with_reducible refine block_step ?_) | ((with_reducible refine cond_t ?_ ?_); focus rfl) | ((with_reducible refine cond_f ?_ ?_); focus rfl) | ((with_reducible refine code_id ?_); conv => whnf) | (clear hK; (with_reducible refine hK _ _ _ ?_); clear hK) | (clear hK; clear hK; (with_reducible refine hK _ _ _ ?_); clear hK) | (clear hK; clear hK; clear hK; (with_reducible refine hK _ _ _ ?_); clear hK) | (clear hK; clear hK; clear hK; clear hK; (with_reducible refine hK _ _ _ ?_); clear hK) | (clear hK; clear hK; clear hK; clear hK; clear hK; (with_reducible refine hK _ _ _ ?_); clear hK) | (clear hK; clear hK; clear hK; clear hK; clear hK; clear hK; (with_reducible refine hK _ _ _ ?_); clear hK) | (clear hK; clear hK; clear hK; clear hK; clear hK; clear hK; clear hK; (with_reducible refine hK _ _ _ ?_); clear hK))
      refine h2 n t h5 rfl hn (CapsA.cls (tb := S.tb.set n (some (t, List.replicate 48 none))) (C := S.cs) ?_)
      have e1 : wr (bookC S.tb).toArray (0 + (n : Int).toNat * 1) [ptr t] = (bookC (S.tb.set n (some (t, List.replicate 48 none)))).toArray := by
        rw [Int.toNat_natCast, Nat.mul_one, Nat.zero_add]
        exact bookC_set S.tb n (by rw [hw.len]; exact h16) (some (t, _))
      have hh6 : Has (BkA b (S.tb.set n (some (t, List.replicate 48 none))) :: TabP rowP t (List.replicate 48 none) :: TabsP S.tb :: CellsP S.cs :: L) h5 := by
        unfold BkA
        rw [← e1]
        exact hh5
      refine hh6.map_tail fun g hg => ?_
      have e2 : S.tb.set n none = S.tb := by
        apply List.ext_getElem?
        intro j
        by_cases hj : n = j
        · subst hj; rw [List.getElem?_set_self (by rw [hw.len]; exact h16), hn]
        · rw [List.getElem?_set_ne hj]
      exact TabsP.unfocus (by rw [hw.len]; exact h16) (by rw [e2]; exact hg)
  · rw [show decide ((n : Int) ≥ 16) = true from decide_eq_true (by omega)]
    conv => whnf
    repeat (first | ((with_reducible refine hK _ _ _ ?_); clear hK) | (with_reducible refine seq_step fun K hK => ?_) | (with_reducible refine block_step ?_) | ((with_reducible refine cond_t ?_ ?_); focus rfl) | ((with_reducible refine cond_f ?_ ?_); focus rfl) | ((with_reducible refine code_id ?_); conv => whnf) | (clear hK; (with_reducible refine hK _ _ _ ?_); clear hK) | (clear hK; clear hK; (with_reducible refine hK _ _ _ ?_); clear hK) | (clear hK; clear hK; clear hK; (with_reducible refine hK _ _ _ ?_); clear hK) | (clear hK; clear hK; clear hK; clear hK; (with_reducible refine hK _ _ _ ?_); clear hK) | (clear hK; clear hK; clear hK; clear hK; clear hK; (with_reducible refine hK _ _ _ ?_); clear hK) | (clear hK; clear hK; clear hK; clear hK; clear hK; clear hK; (with_reducible refine hK _ _ _ ?_); clear hK) | (clear hK; clear hK; clear hK; clear hK; clear hK; clear hK; clear hK; (with_reducible refine hK _ _ _ ?_); clear hK))
    exact h1 (.inr (.inl (by omega)))

/-- The lowest free place. -/
def low (l : List (Option Nat)) : Option Nat := (List.range l.length).find? fun k => decide (l[k]? = some none)
theorem low_some {l : List (Option Nat)} {k : Nat} (hl : low l = some k) : l[k]? = some none ∧ ∀ j, j < k → l[j]? ≠ some none := by
  unfold low at hl
  rw [List.find?_range_eq_some] at hl
  obtain ⟨h1, h2, h3⟩ := hl
  exact ⟨of_decide_eq_true h1, fun j hj he => by have := h3 j hj; rw [decide_eq_true he] at this; cases this⟩
theorem low_none {l : List (Option Nat)} (hl : low l = none) : ∀ j, j < l.length → l[j]? ≠ some none := fun j hj he => by
  unfold low at hl
  rw [List.find?_eq_none] at hl
  exact hl j (List.mem_range.2 hj) (decide_eq_true he)

def mPlace (l : List (Option Nat)) (at' : Int) : Int ⊕ Nat := if 0 ≤ at' then (match got l at' with
  | some _ => .inl 31
  | none => .inr at'.toNat) else match low l with
  | none => .inl 2
  | some k => .inr k

theorem mPlace_free {l : List (Option Nat)} (hl : l.length = 48) {at' : Int} (ha : okAt at') {s : Nat} (hm : mPlace l at' = .inr s) : l[s]? = some none := by
  unfold mPlace at hm
  split at hm
  · rename_i h0
    obtain ⟨n, rfl⟩ := Int.eq_ofNat_of_zero_le h0
    have hn : n < l.length := by have := ha.2; omega
    cases hg : got l (n : Int) with
    | some x => rw [hg] at hm; cases hm
    | none =>
      rw [hg] at hm
      cases hm
      rw [got_nat, List.getElem?_eq_getElem hn] at hg
      rw [Int.toNat_natCast, List.getElem?_eq_getElem hn]
      exact congrArg some hg
  · cases hg : low l with
    | none => rw [hg] at hm; cases hm
    | some k => rw [hg] at hm; cases hm; exact (low_some hg).1

/-- What stays when one table is turned. -/
theorem CapsA.table {e t : Nat} {l : List (Option Nat)} (ht : S.tb[e]? = some (some (t, l))) (hh : Has (CapsA b S :: L) h) : Has (TabP rowP t l :: BkA b S.tb :: TabsP (S.tb.set e none) :: CellsP S.cs :: L) h :=
  ((CapsA.opn hh).map_tail fun g hg => TabsP.focus ht hg).swap

theorem bookC_setTab {e t : Nat} {l : List (Option Nat)} (ht : S.tb[e]? = some (some (t, l))) (s : Nat) (v : Option Nat) : bookC (setTab S.tb e s v) = bookC S.tb := by
  rw [setTab_at ht]
  unfold bookC
  rw [List.map_set]
  apply List.ext_getElem?
  intro j
  rw [List.getElem?_set]
  by_cases hj : e = j
  · subst hj
    rw [if_pos rfl, if_pos (by rw [List.length_map]; exact (List.getElem?_eq_some_iff.1 ht).1), List.getElem?_map, ht]; rfl
  · rw [if_neg hj]

theorem CapsA.tabled {e t : Nat} {l : List (Option Nat)} {s : Nat} {v : Option Nat} (ht : S.tb[e]? = some (some (t, l))) (hh : Has (TabP rowP t (l.set s v) :: BkA b S.tb :: TabsP (S.tb.set e none) :: CellsP S.cs :: L) h) :
    Has (CapsA b ⟨setTab S.tb e s v, S.cs⟩ :: L) h := by
  refine CapsA.cls ?_
  have e1 : BkA b (setTab S.tb e s v) = BkA b S.tb := by unfold BkA; rw [bookC_setTab ht]
  rw [e1]
  refine hh.swap.map_tail fun g hg => ?_
  rw [setTab_at ht]
  exact TabsP.unfocus (List.getElem?_eq_some_iff.1 ht).1 hg

theorem CapsA.tableS {e t : Nat} {l : List (Option Nat)} (ht : S.tb[e]? = some (some (t, l))) (hh : Has (TabP rowP t l :: BkA b S.tb :: TabsP (S.tb.set e none) :: CellsP S.cs :: L) h) : Has (CapsA b S :: L) h := by
  have h2 := hh.swap.map_tail fun g hg => TabsP.unfocus (List.getElem?_eq_some_iff.1 ht).1 hg
  have e1 : S.tb.set e (some (t, l)) = S.tb := by
    apply List.ext_getElem?
    intro j
    by_cases hj : e = j
    · subst hj; rw [List.getElem?_set_self (List.getElem?_eq_some_iff.1 ht).1, ht]
    · rw [List.getElem?_set_ne hj]
  rw [e1] at h2
  exact CapsA.cls h2

/-- A cell's place is set. -/
theorem cell_place {c : Ce} {s : Value} (x y : Nat) : wr (cellC c s).toArray 0 [iv x, iv y] = (cellC { c with env := x, slot := y } s).toArray := by
  rw [wr_wrL]; rfl

set_option maxHeartbeats 1000000 in
theorem lay40 (hw : WF S) {c : Ce} (hh : Has (CapsA b S :: CellP c :: L) h) {e t : Nat} {l : List (Option Nat)} (he : e < 16) (ht : S.tb[e]? = some (some (t, l))) (hl : l.length = 48) {at' : Int} (hat : okAt at')
    (h1 : ∀ k, mPlace l at' = .inl k → ∀ h', Has (CapsA b S :: CellP c :: L) h' → Q (.tuple #[iv (-1), iv k]) h')
    (h2 : ∀ s : Nat, mPlace l at' = .inr s → ∀ h', Has (CapsA b ⟨setTab S.tb e s (some c.a), S.cs⟩ :: CellP { c with env := e, slot := s } :: L) h' → Q (.tuple #[iv s, iv 0]) h') : Ok PR 40 [ptr b, ptr c.a, iv e, iv at'] h Q := by
  have hr := CapsA.rd0 hh
  have hge : got S.tb (e : Int) = some (t, l) := by rw [got_nat, ht]
  have fin : ∀ (s : Nat) (g : Hp), mPlace l at' = .inr s → Has (TabP rowP t (l.set s (some c.a)) :: BkA b S.tb :: TabsP (S.tb.set e none) :: CellsP S.cs :: CellP c :: L) g →
      ∃ sv, Has (Pt c.a (.cells (cellC c sv).toArray 84 (0, 0)) :: WnP 1 sv c.kids.length (c.kids.map ptr) :: CapsA b ⟨setTab S.tb e s (some c.a), S.cs⟩ :: L) g := fun s g hs hg => CellP.opn (CapsA.tabled ht hg).swap
  refine e40 rfl (seq_step fun K hK => ?_)
  repeat (first | ((with_reducible refine hK _ _ _ ?_); clear hK) | (with_reducible refine seq_step fun K hK => ?_) | (with_reducible refine block_step ?_) | ((with_reducible refine cond_t ?_ ?_); focus rfl) | ((with_reducible refine cond_f ?_ ?_); focus rfl) | ((with_reducible refine code_id ?_); conv => whnf) | (clear hK; (with_reducible refine hK _ _ _ ?_); clear hK) | (clear hK; clear hK; (with_reducible refine hK _ _ _ ?_); clear hK) | (clear hK; clear hK; clear hK; (with_reducible refine hK _ _ _ ?_); clear hK) | (clear hK; clear hK; clear hK; clear hK; (with_reducible refine hK _ _ _ ?_); clear hK) | (clear hK; clear hK; clear hK; clear hK; clear hK; (with_reducible refine hK _ _ _ ?_); clear hK) | (clear hK; clear hK; clear hK; clear hK; clear hK; clear hK; (with_reducible refine hK _ _ _ ?_); clear hK) | (clear hK; clear hK; clear hK; clear hK; clear hK; clear hK; clear hK; (with_reducible refine hK _ _ _ ?_); clear hK))
  refine opt_if ⟨by omega, by omega⟩ ?_
  conv => whnf
  refine opt_ld hr.bk (v := ptr t) (by show (bookC S.tb).toArray[0 + (e : Int).toNat * 1]? = _; rw [Int.toNat_natCast, Nat.mul_one, Nat.zero_add, bookC_get hw.len he, hge]; rfl) ?_
  conv => whnf
  repeat (first | ((with_reducible refine hK _ _ _ ?_); clear hK) | (with_reducible refine seq_step fun K hK => ?_) | (with_reducible refine block_step ?_) | ((with_reducible refine cond_t ?_ ?_); focus rfl) | ((with_reducible refine cond_f ?_ ?_); focus rfl) | ((with_reducible refine code_id ?_); conv => whnf) | (clear hK; (with_reducible refine hK _ _ _ ?_); clear hK) | (clear hK; clear hK; (with_reducible refine hK _ _ _ ?_); clear hK) | (clear hK; clear hK; clear hK; (with_reducible refine hK _ _ _ ?_); clear hK) | (clear hK; clear hK; clear hK; clear hK; (with_reducible refine hK _ _ _ ?_); clear hK) | (clear hK; clear hK; clear hK; clear hK; clear hK; (with_reducible refine hK _ _ _ ?_); clear hK) | (clear hK; clear hK; clear hK; clear hK; clear hK; clear hK; (with_reducible refine hK _ _ _ ?_); clear hK) | (clear hK; clear hK; clear hK; clear hK; clear hK; clear hK; clear hK; (with_reducible refine hK _ _ _ ?_); clear hK))
  by_cases h0 : 0 ≤ at'
  · obtain ⟨n, rfl⟩ := Int.eq_ofNat_of_zero_le h0
    have hn : n < l.length := by have := hat.2; omega
    rw [show decide ((n : Int) ≥ 0) = true from decide_eq_true h0]
    conv => whnf
    repeat (first | ((with_reducible refine hK _ _ _ ?_); clear hK) | (with_reducible refine seq_step fun K hK => ?_) | (with_reducible refine block_step ?_) | ((with_reducible refine cond_t ?_ ?_); focus rfl) | ((with_reducible refine cond_f ?_ ?_); focus rfl) | ((with_reducible refine code_id ?_); conv => whnf) | (clear hK; (with_reducible refine hK _ _ _ ?_); clear hK) | (clear hK; clear hK; (with_reducible refine hK _ _ _ ?_); clear hK) | (clear hK; clear hK; clear hK; (with_reducible refine hK _ _ _ ?_); clear hK) | (clear hK; clear hK; clear hK; clear hK; (with_reducible refine hK _ _ _ ?_); clear hK) | (clear hK; clear hK; clear hK; clear hK; clear hK; (with_reducible refine hK _ _ _ ?_); clear hK) | (clear hK; clear hK; clear hK; clear hK; clear hK; clear hK; (with_reducible refine hK _ _ _ ?_); clear hK) | (clear hK; clear hK; clear hK; clear hK; clear hK; clear hK; clear hK; (with_reducible refine hK _ _ _ ?_); clear hK))
    cases hg : l[n]? with
    | none => rw [List.getElem?_eq_getElem hn] at hg; cases hg
    | some x =>
      cases x with
      | some w =>
        have hm : mPlace l (n : Int) = .inl 31 := by unfold mPlace; rw [if_pos h0, got_nat, hg]
        obtain ⟨d, hT⟩ := hr.tab ht
        refine tputat hT n c.a (fun h => by omega) (fun w hw => ?_) (fun k' he h3 h' hT' _ => ?_)
        · conv => whnf
          repeat (first | ((with_reducible refine hK _ _ _ ?_); clear hK) | (with_reducible refine seq_step fun K hK => ?_) | (with_reducible refine block_step ?_) | ((with_reducible refine cond_t ?_ ?_); focus rfl) | ((with_reducible refine cond_f ?_ ?_); focus rfl) | ((with_reducible refine code_id ?_); conv => whnf) | (clear hK; (with_reducible refine hK _ _ _ ?_); clear hK) | (clear hK; clear hK; (with_reducible refine hK _ _ _ ?_); clear hK) | (clear hK; clear hK; clear hK; (with_reducible refine hK _ _ _ ?_); clear hK) | (clear hK; clear hK; clear hK; clear hK; (with_reducible refine hK _ _ _ ?_); clear hK) | (clear hK; clear hK; clear hK; clear hK; clear hK; (with_reducible refine hK _ _ _ ?_); clear hK) | (clear hK; clear hK; clear hK; clear hK; clear hK; clear hK; (with_reducible refine hK _ _ _ ?_); clear hK) | (clear hK; clear hK; clear hK; clear hK; clear hK; clear hK; clear hK; (with_reducible refine hK _ _ _ ?_); clear hK))
          exact h1 31 hm _ hh
        · obtain rfl : k' = n := by omega
          rw [hg] at h3; cases h3
      | none =>
        have hm : mPlace l (n : Int) = .inr n := by unfold mPlace; rw [if_pos h0, got_nat, hg]; rfl
        refine (CapsA.table ht hh).call 0 rfl (tputatS c.a hg) fun _ h3 hh3 => ?_
        obtain ⟨sv, hh4⟩ := fin n h3 hm hh3
        conv => whnf
        repeat (first | ((with_reducible refine hK _ _ _ ?_); clear hK) | (with_reducible refine seq_step fun K hK => ?_) | (with_reducible refine block_step ?_) | ((with_reducible refine cond_t ?_ ?_); focus rfl) | ((with_reducible refine cond_f ?_ ?_); focus rfl) | ((with_reducible refine code_id ?_); conv => whnf) | (clear hK; (with_reducible refine hK _ _ _ ?_); clear hK) | (clear hK; clear hK; (with_reducible refine hK _ _ _ ?_); clear hK) | (clear hK; clear hK; clear hK; (with_reducible refine hK _ _ _ ?_); clear hK) | (clear hK; clear hK; clear hK; clear hK; (with_reducible refine hK _ _ _ ?_); clear hK) | (clear hK; clear hK; clear hK; clear hK; clear hK; (with_reducible refine hK _ _ _ ?_); clear hK) | (clear hK; clear hK; clear hK; clear hK; clear hK; clear hK; (with_reducible refine hK _ _ _ ?_); clear hK) | (clear hK; clear hK; clear hK; clear hK; clear hK; clear hK; clear hK; (with_reducible refine hK _ _ _ ?_); clear hK))
        refine st_has hh4 0 rfl rfl (by show 0 + 2 ≤ 8; decide) rfl fun h5 _ _ hh5 => ?_
        have e1 : wr (cellC c sv).toArray (0 + 0) [iv e, iv n] = (cellC { c with env := e, slot := n } sv).toArray := cell_place e n
        conv => whnf
        repeat (first | ((with_reducible refine hK _ _ _ ?_); clear hK) | (with_reducible refine seq_step fun K hK => ?_) | (with_reducible refine block_step ?_) | ((with_reducible refine cond_t ?_ ?_); focus rfl) | ((with_reducible refine cond_f ?_ ?_); focus rfl) | ((with_reducible refine code_id ?_); conv => whnf) | (clear hK; (with_reducible refine hK _ _ _ ?_); clear hK) | (clear hK; clear hK; (with_reducible refine hK _ _ _ ?_); clear hK) | (clear hK; clear hK; clear hK; (with_reducible refine hK _ _ _ ?_); clear hK) | (clear hK; clear hK; clear hK; clear hK; (with_reducible refine hK _ _ _ ?_); clear hK) | (clear hK; clear hK; clear hK; clear hK; clear hK; (with_reducible refine hK _ _ _ ?_); clear hK) | (clear hK; clear hK; clear hK; clear hK; clear hK; clear hK; (with_reducible refine hK _ _ _ ?_); clear hK) | (clear hK; clear hK; clear hK; clear hK; clear hK; clear hK; clear hK; (with_reducible refine hK _ _ _ ?_); clear hK))
        refine h2 n hm _ (Has.swap (CellP.cls (c := { c with env := e, slot := n }) (s := sv) ?_))
        rw [← e1]; exact hh5
  · rw [show decide (at' ≥ 0) = false from decide_eq_false h0]
    conv => whnf
    repeat (first | ((with_reducible refine hK _ _ _ ?_); clear hK) | (with_reducible refine seq_step fun K hK => ?_) | (with_reducible refine block_step ?_) | ((with_reducible refine cond_t ?_ ?_); focus rfl) | ((with_reducible refine cond_f ?_ ?_); focus rfl) | ((with_reducible refine code_id ?_); conv => whnf) | (clear hK; (with_reducible refine hK _ _ _ ?_); clear hK) | (clear hK; clear hK; (with_reducible refine hK _ _ _ ?_); clear hK) | (clear hK; clear hK; clear hK; (with_reducible refine hK _ _ _ ?_); clear hK) | (clear hK; clear hK; clear hK; clear hK; (with_reducible refine hK _ _ _ ?_); clear hK) | (clear hK; clear hK; clear hK; clear hK; clear hK; (with_reducible refine hK _ _ _ ?_); clear hK) | (clear hK; clear hK; clear hK; clear hK; clear hK; clear hK; (with_reducible refine hK _ _ _ ?_); clear hK) | (clear hK; clear hK; clear hK; clear hK; clear hK; clear hK; clear hK; (with_reducible refine hK _ _ _ ?_); clear hK))
    cases hlow : low l with
    | none =>
      have hm : mPlace l at' = .inl 2 := by unfold mPlace; rw [if_neg h0, hlow]
      refine (CapsA.table ht hh).call 0 rfl (tputF c.a (low_none hlow)) fun _ h3 hh3 => ?_
      conv => whnf
      repeat (first | ((with_reducible refine hK _ _ _ ?_); clear hK) | (with_reducible refine seq_step fun K hK => ?_) | (with_reducible refine block_step ?_) | ((with_reducible refine cond_t ?_ ?_); focus rfl) | ((with_reducible refine cond_f ?_ ?_); focus rfl) | ((with_reducible refine code_id ?_); conv => whnf) | (clear hK; (with_reducible refine hK _ _ _ ?_); clear hK) | (clear hK; clear hK; (with_reducible refine hK _ _ _ ?_); clear hK) | (clear hK; clear hK; clear hK; (with_reducible refine hK _ _ _ ?_); clear hK) | (clear hK; clear hK; clear hK; clear hK; (with_reducible refine hK _ _ _ ?_); clear hK) | (clear hK; clear hK; clear hK; clear hK; clear hK; (with_reducible refine hK _ _ _ ?_); clear hK) | (clear hK; clear hK; clear hK; clear hK; clear hK; clear hK; (with_reducible refine hK _ _ _ ?_); clear hK) | (clear hK; clear hK; clear hK; clear hK; clear hK; clear hK; clear hK; (with_reducible refine hK _ _ _ ?_); clear hK))
      exact h1 2 hm _ (CapsA.tableS ht hh3)
    | some n =>
      have hm : mPlace l at' = .inr n := by unfold mPlace; rw [if_neg h0, hlow]
      refine (CapsA.table ht hh).call 0 rfl (tputS c.a (low_some hlow).2 (low_some hlow).1) fun _ h3 hh3 => ?_
      obtain ⟨sv, hh4⟩ := fin n h3 hm hh3
      conv => whnf
      repeat (first | ((with_reducible refine hK _ _ _ ?_); clear hK) | (with_reducible refine seq_step fun K hK => ?_) | (with_reducible refine block_step ?_) | ((with_reducible refine cond_t ?_ ?_); focus rfl) | ((with_reducible refine cond_f ?_ ?_); focus rfl) | ((with_reducible refine code_id ?_); conv => whnf) | (clear hK; (with_reducible refine hK _ _ _ ?_); clear hK) | (clear hK; clear hK; (with_reducible refine hK _ _ _ ?_); clear hK) | (clear hK; clear hK; clear hK; (with_reducible refine hK _ _ _ ?_); clear hK) | (clear hK; clear hK; clear hK; clear hK; (with_reducible refine hK _ _ _ ?_); clear hK) | (clear hK; clear hK; clear hK; clear hK; clear hK; (with_reducible refine hK _ _ _ ?_); clear hK) | (clear hK; clear hK; clear hK; clear hK; clear hK; clear hK; (with_reducible refine hK _ _ _ ?_); clear hK) | (clear hK; clear hK; clear hK; clear hK; clear hK; clear hK; clear hK; (with_reducible refine hK _ _ _ ?_); clear hK))
      refine st_has hh4 0 rfl rfl (by show 0 + 2 ≤ 8; decide) rfl fun h5 _ _ hh5 => ?_
      have e1 : wr (cellC c sv).toArray (0 + 0) [iv e, iv n] = (cellC { c with env := e, slot := n } sv).toArray := cell_place e n
      conv => whnf
      repeat (first | ((with_reducible refine hK _ _ _ ?_); clear hK) | (with_reducible refine seq_step fun K hK => ?_) | (with_reducible refine block_step ?_) | ((with_reducible refine cond_t ?_ ?_); focus rfl) | ((with_reducible refine cond_f ?_ ?_); focus rfl) | ((with_reducible refine code_id ?_); conv => whnf) | (clear hK; (with_reducible refine hK _ _ _ ?_); clear hK) | (clear hK; clear hK; (with_reducible refine hK _ _ _ ?_); clear hK) | (clear hK; clear hK; clear hK; (with_reducible refine hK _ _ _ ?_); clear hK) | (clear hK; clear hK; clear hK; clear hK; (with_reducible refine hK _ _ _ ?_); clear hK) | (clear hK; clear hK; clear hK; clear hK; clear hK; (with_reducible refine hK _ _ _ ?_); clear hK) | (clear hK; clear hK; clear hK; clear hK; clear hK; clear hK; (with_reducible refine hK _ _ _ ?_); clear hK) | (clear hK; clear hK; clear hK; clear hK; clear hK; clear hK; clear hK; (with_reducible refine hK _ _ _ ?_); clear hK))
      refine h2 n hm _ (Has.swap (CellP.cls (c := { c with env := e, slot := n }) (s := sv) ?_))
      rw [← e1]; exact hh5

instance (c : Cp) : Decidable (okC c) := by unfold okC; infer_instance
def mMint (tb : Tb) (e at' : Int) (c : Cp) : Int ⊕ Nat := match got tb e with
  | none => .inl 83
  | some (_, l) => if okAt at' ∧ okC c then mPlace l at' else .inl 1

theorem addC_none (C : List Ce) {n : Ce} (hn : n.par = none) : addC C n = C ++ [n] := by
  unfold addC
  congr 1
  conv => rhs; rw [← List.map_id C]
  refine List.map_congr_left fun p _ => ?_
  rw [hn, if_neg (by simp)]; rfl

set_option maxHeartbeats 1000000 in
theorem mint36 (hw : WF S) (hh : Has (CapsA b S :: L) h) (e at' : Int) (cp : Cp)
    (h1 : ∀ k, mMint S.tb e at' cp = .inl k → ∀ h', Has (CapsA b S :: L) h' → Q (.tuple #[iv (-1), iv k]) h')
    (h2 : ∀ n s a : Nat, mMint S.tb e at' cp = .inr s → e = n → WF (add S ⟨a, n, s, cp, none, []⟩) → ∀ h', Has (CapsA b (add S ⟨a, n, s, cp, none, []⟩) :: L) h' → Q (.tuple #[iv s, iv 0]) h') :
    Ok PR 36 [ptr b, iv e, iv at', .agg #[iv cp.kind, iv cp.obj, iv cp.serial, iv cp.rights]] h Q := by
  have hr := CapsA.rd0 hh
  refine e36 rfl (seq_step fun K hK => ?_)
  repeat (first | ((with_reducible refine hK _ _ _ ?_); clear hK) | (with_reducible refine seq_step fun K hK => ?_) | (with_reducible refine block_step ?_) | ((with_reducible refine cond_t ?_ ?_); focus rfl) | ((with_reducible refine cond_f ?_ ?_); focus rfl) | ((with_reducible refine code_id ?_); conv => whnf) | (clear hK; (with_reducible refine hK _ _ _ ?_); clear hK) | (clear hK; clear hK; (with_reducible refine hK _ _ _ ?_); clear hK) | (clear hK; clear hK; clear hK; (with_reducible refine hK _ _ _ ?_); clear hK) | (clear hK; clear hK; clear hK; clear hK; (with_reducible refine hK _ _ _ ?_); clear hK) | (clear hK; clear hK; clear hK; clear hK; clear hK; (with_reducible refine hK _ _ _ ?_); clear hK) | (clear hK; clear hK; clear hK; clear hK; clear hK; clear hK; (with_reducible refine hK _ _ _ ?_); clear hK) | (clear hK; clear hK; clear hK; clear hK; clear hK; clear hK; clear hK; (with_reducible refine hK _ _ _ ?_); clear hK))
  refine list37 hr hw.len e ?_
  cases hg : got S.tb e with
  | none =>
    have hm : mMint S.tb e at' cp = .inl 83 := by unfold mMint; rw [hg]
    conv => whnf
    repeat (first | ((with_reducible refine hK _ _ _ ?_); clear hK) | (with_reducible refine seq_step fun K hK => ?_) | (with_reducible refine block_step ?_) | ((with_reducible refine cond_t ?_ ?_); focus rfl) | ((with_reducible refine cond_f ?_ ?_); focus rfl) | ((with_reducible refine code_id ?_); conv => whnf) | (clear hK; (with_reducible refine hK _ _ _ ?_); clear hK) | (clear hK; clear hK; (with_reducible refine hK _ _ _ ?_); clear hK) | (clear hK; clear hK; clear hK; (with_reducible refine hK _ _ _ ?_); clear hK) | (clear hK; clear hK; clear hK; clear hK; (with_reducible refine hK _ _ _ ?_); clear hK) | (clear hK; clear hK; clear hK; clear hK; clear hK; (with_reducible refine hK _ _ _ ?_); clear hK) | (clear hK; clear hK; clear hK; clear hK; clear hK; clear hK; (with_reducible refine hK _ _ _ ?_); clear hK) | (clear hK; clear hK; clear hK; clear hK; clear hK; clear hK; clear hK; (with_reducible refine hK _ _ _ ?_); clear hK))
    exact h1 83 hm _ hh
  | some x =>
    obtain ⟨t, l⟩ := x
    obtain ⟨n, rfl, ht⟩ := got_at hg
    have he : n < 16 := by rw [← hw.len]; exact (List.getElem?_eq_some_iff.1 ht).1
    have hl := hw.tl ht
    conv => whnf
    repeat (first | ((with_reducible refine hK _ _ _ ?_); clear hK) | (with_reducible refine seq_step fun K hK => ?_) | (with_reducible refine block_step ?_) | ((with_reducible refine cond_t ?_ ?_); focus rfl) | ((with_reducible refine cond_f ?_ ?_); focus rfl) | ((with_reducible refine code_id ?_); conv => whnf) | (clear hK; (with_reducible refine hK _ _ _ ?_); clear hK) | (clear hK; clear hK; (with_reducible refine hK _ _ _ ?_); clear hK) | (clear hK; clear hK; clear hK; (with_reducible refine hK _ _ _ ?_); clear hK) | (clear hK; clear hK; clear hK; clear hK; (with_reducible refine hK _ _ _ ?_); clear hK) | (clear hK; clear hK; clear hK; clear hK; clear hK; (with_reducible refine hK _ _ _ ?_); clear hK) | (clear hK; clear hK; clear hK; clear hK; clear hK; clear hK; (with_reducible refine hK _ _ _ ?_); clear hK) | (clear hK; clear hK; clear hK; clear hK; clear hK; clear hK; clear hK; (with_reducible refine hK _ _ _ ?_); clear hK))
    refine place39 at' ?_
    have hm0 : mMint S.tb (n : Int) at' cp = if okAt at' ∧ okC cp then mPlace l at' else .inl 1 := by unfold mMint; rw [hg]
    have bad : ¬ (okAt at' ∧ okC cp) → mMint S.tb (n : Int) at' cp = .inl 1 := fun hx => by rw [hm0, if_neg hx]
    by_cases c0 : okAt at'
    case neg =>
      rw [show decide (okAt at') = false from decide_eq_false c0]
      conv => whnf
      repeat (first | ((with_reducible refine hK _ _ _ ?_); clear hK) | (with_reducible refine seq_step fun K hK => ?_) | (with_reducible refine block_step ?_) | ((with_reducible refine cond_t ?_ ?_); focus rfl) | ((with_reducible refine cond_f ?_ ?_); focus rfl) | ((with_reducible refine code_id ?_); conv => whnf) | (clear hK; (with_reducible refine hK _ _ _ ?_); clear hK) | (clear hK; clear hK; (with_reducible refine hK _ _ _ ?_); clear hK) | (clear hK; clear hK; clear hK; (with_reducible refine hK _ _ _ ?_); clear hK) | (clear hK; clear hK; clear hK; clear hK; (with_reducible refine hK _ _ _ ?_); clear hK) | (clear hK; clear hK; clear hK; clear hK; clear hK; (with_reducible refine hK _ _ _ ?_); clear hK) | (clear hK; clear hK; clear hK; clear hK; clear hK; clear hK; (with_reducible refine hK _ _ _ ?_); clear hK) | (clear hK; clear hK; clear hK; clear hK; clear hK; clear hK; clear hK; (with_reducible refine hK _ _ _ ?_); clear hK))
      exact h1 1 (bad fun h => c0 h.1) _ hh
    rw [show decide (okAt at') = true from decide_eq_true c0]
    conv => whnf
    by_cases c1 : cp.kind < 1
    case pos =>
      rw [show decide (cp.kind < 1) = true from decide_eq_true c1]
      conv => whnf
      repeat (first | ((with_reducible refine hK _ _ _ ?_); clear hK) | (with_reducible refine seq_step fun K hK => ?_) | (with_reducible refine block_step ?_) | ((with_reducible refine cond_t ?_ ?_); focus rfl) | ((with_reducible refine cond_f ?_ ?_); focus rfl) | ((with_reducible refine code_id ?_); conv => whnf) | (clear hK; (with_reducible refine hK _ _ _ ?_); clear hK) | (clear hK; clear hK; (with_reducible refine hK _ _ _ ?_); clear hK) | (clear hK; clear hK; clear hK; (with_reducible refine hK _ _ _ ?_); clear hK) | (clear hK; clear hK; clear hK; clear hK; (with_reducible refine hK _ _ _ ?_); clear hK) | (clear hK; clear hK; clear hK; clear hK; clear hK; (with_reducible refine hK _ _ _ ?_); clear hK) | (clear hK; clear hK; clear hK; clear hK; clear hK; clear hK; (with_reducible refine hK _ _ _ ?_); clear hK) | (clear hK; clear hK; clear hK; clear hK; clear hK; clear hK; clear hK; (with_reducible refine hK _ _ _ ?_); clear hK))
      exact h1 1 (bad fun h => by have := h.2; unfold okC at this; omega) _ hh
    rw [show decide (cp.kind < 1) = false from decide_eq_false c1]
    conv => whnf
    by_cases c2 : cp.kind > 3
    case pos =>
      rw [show decide (cp.kind > 3) = true from decide_eq_true c2]
      conv => whnf
      repeat (first | ((with_reducible refine hK _ _ _ ?_); clear hK) | (with_reducible refine seq_step fun K hK => ?_) | (with_reducible refine block_step ?_) | ((with_reducible refine cond_t ?_ ?_); focus rfl) | ((with_reducible refine cond_f ?_ ?_); focus rfl) | ((with_reducible refine code_id ?_); conv => whnf) | (clear hK; (with_reducible refine hK _ _ _ ?_); clear hK) | (clear hK; clear hK; (with_reducible refine hK _ _ _ ?_); clear hK) | (clear hK; clear hK; clear hK; (with_reducible refine hK _ _ _ ?_); clear hK) | (clear hK; clear hK; clear hK; clear hK; (with_reducible refine hK _ _ _ ?_); clear hK) | (clear hK; clear hK; clear hK; clear hK; clear hK; (with_reducible refine hK _ _ _ ?_); clear hK) | (clear hK; clear hK; clear hK; clear hK; clear hK; clear hK; (with_reducible refine hK _ _ _ ?_); clear hK) | (clear hK; clear hK; clear hK; clear hK; clear hK; clear hK; clear hK; (with_reducible refine hK _ _ _ ?_); clear hK))
      exact h1 1 (bad fun h => by have := h.2; unfold okC at this; omega) _ hh
    rw [show decide (cp.kind > 3) = false from decide_eq_false c2]
    conv => whnf
    by_cases c3 : cp.obj < 0
    case pos =>
      rw [show decide (cp.obj < 0) = true from decide_eq_true c3]
      conv => whnf
      repeat (first | ((with_reducible refine hK _ _ _ ?_); clear hK) | (with_reducible refine seq_step fun K hK => ?_) | (with_reducible refine block_step ?_) | ((with_reducible refine cond_t ?_ ?_); focus rfl) | ((with_reducible refine cond_f ?_ ?_); focus rfl) | ((with_reducible refine code_id ?_); conv => whnf) | (clear hK; (with_reducible refine hK _ _ _ ?_); clear hK) | (clear hK; clear hK; (with_reducible refine hK _ _ _ ?_); clear hK) | (clear hK; clear hK; clear hK; (with_reducible refine hK _ _ _ ?_); clear hK) | (clear hK; clear hK; clear hK; clear hK; (with_reducible refine hK _ _ _ ?_); clear hK) | (clear hK; clear hK; clear hK; clear hK; clear hK; (with_reducible refine hK _ _ _ ?_); clear hK) | (clear hK; clear hK; clear hK; clear hK; clear hK; clear hK; (with_reducible refine hK _ _ _ ?_); clear hK) | (clear hK; clear hK; clear hK; clear hK; clear hK; clear hK; clear hK; (with_reducible refine hK _ _ _ ?_); clear hK))
      exact h1 1 (bad fun h => by have := h.2; unfold okC at this; omega) _ hh
    rw [show decide (cp.obj < 0) = false from decide_eq_false c3]
    conv => whnf
    by_cases c4 : cp.obj > 4611686018427387903
    case pos =>
      rw [show decide (cp.obj > 4611686018427387903) = true from decide_eq_true c4]
      conv => whnf
      repeat (first | ((with_reducible refine hK _ _ _ ?_); clear hK) | (with_reducible refine seq_step fun K hK => ?_) | (with_reducible refine block_step ?_) | ((with_reducible refine cond_t ?_ ?_); focus rfl) | ((with_reducible refine cond_f ?_ ?_); focus rfl) | ((with_reducible refine code_id ?_); conv => whnf) | (clear hK; (with_reducible refine hK _ _ _ ?_); clear hK) | (clear hK; clear hK; (with_reducible refine hK _ _ _ ?_); clear hK) | (clear hK; clear hK; clear hK; (with_reducible refine hK _ _ _ ?_); clear hK) | (clear hK; clear hK; clear hK; clear hK; (with_reducible refine hK _ _ _ ?_); clear hK) | (clear hK; clear hK; clear hK; clear hK; clear hK; (with_reducible refine hK _ _ _ ?_); clear hK) | (clear hK; clear hK; clear hK; clear hK; clear hK; clear hK; (with_reducible refine hK _ _ _ ?_); clear hK) | (clear hK; clear hK; clear hK; clear hK; clear hK; clear hK; clear hK; (with_reducible refine hK _ _ _ ?_); clear hK))
      exact h1 1 (bad fun h => by have := h.2; unfold okC at this; omega) _ hh
    rw [show decide (cp.obj > 4611686018427387903) = false from decide_eq_false c4]
    conv => whnf
    by_cases c5 : cp.serial < 1
    case pos =>
      rw [show decide (cp.serial < 1) = true from decide_eq_true c5]
      conv => whnf
      repeat (first | ((with_reducible refine hK _ _ _ ?_); clear hK) | (with_reducible refine seq_step fun K hK => ?_) | (with_reducible refine block_step ?_) | ((with_reducible refine cond_t ?_ ?_); focus rfl) | ((with_reducible refine cond_f ?_ ?_); focus rfl) | ((with_reducible refine code_id ?_); conv => whnf) | (clear hK; (with_reducible refine hK _ _ _ ?_); clear hK) | (clear hK; clear hK; (with_reducible refine hK _ _ _ ?_); clear hK) | (clear hK; clear hK; clear hK; (with_reducible refine hK _ _ _ ?_); clear hK) | (clear hK; clear hK; clear hK; clear hK; (with_reducible refine hK _ _ _ ?_); clear hK) | (clear hK; clear hK; clear hK; clear hK; clear hK; (with_reducible refine hK _ _ _ ?_); clear hK) | (clear hK; clear hK; clear hK; clear hK; clear hK; clear hK; (with_reducible refine hK _ _ _ ?_); clear hK) | (clear hK; clear hK; clear hK; clear hK; clear hK; clear hK; clear hK; (with_reducible refine hK _ _ _ ?_); clear hK))
      exact h1 1 (bad fun h => by have := h.2; unfold okC at this; omega) _ hh
    rw [show decide (cp.serial < 1) = false from decide_eq_false c5]
    conv => whnf
    by_cases c6 : cp.serial > 4611686018427387903
    case pos =>
      rw [show decide (cp.serial > 4611686018427387903) = true from decide_eq_true c6]
      conv => whnf
      repeat (first | ((with_reducible refine hK _ _ _ ?_); clear hK) | (with_reducible refine seq_step fun K hK => ?_) | (with_reducible refine block_step ?_) | ((with_reducible refine cond_t ?_ ?_); focus rfl) | ((with_reducible refine cond_f ?_ ?_); focus rfl) | ((with_reducible refine code_id ?_); conv => whnf) | (clear hK; (with_reducible refine hK _ _ _ ?_); clear hK) | (clear hK; clear hK; (with_reducible refine hK _ _ _ ?_); clear hK) | (clear hK; clear hK; clear hK; (with_reducible refine hK _ _ _ ?_); clear hK) | (clear hK; clear hK; clear hK; clear hK; (with_reducible refine hK _ _ _ ?_); clear hK) | (clear hK; clear hK; clear hK; clear hK; clear hK; (with_reducible refine hK _ _ _ ?_); clear hK) | (clear hK; clear hK; clear hK; clear hK; clear hK; clear hK; (with_reducible refine hK _ _ _ ?_); clear hK) | (clear hK; clear hK; clear hK; clear hK; clear hK; clear hK; clear hK; (with_reducible refine hK _ _ _ ?_); clear hK))
      exact h1 1 (bad fun h => by have := h.2; unfold okC at this; omega) _ hh
    rw [show decide (cp.serial > 4611686018427387903) = false from decide_eq_false c6]
    conv => whnf
    by_cases c7 : cp.rights < 0
    case pos =>
      rw [show decide (cp.rights < 0) = true from decide_eq_true c7]
      conv => whnf
      repeat (first | ((with_reducible refine hK _ _ _ ?_); clear hK) | (with_reducible refine seq_step fun K hK => ?_) | (with_reducible refine block_step ?_) | ((with_reducible refine cond_t ?_ ?_); focus rfl) | ((with_reducible refine cond_f ?_ ?_); focus rfl) | ((with_reducible refine code_id ?_); conv => whnf) | (clear hK; (with_reducible refine hK _ _ _ ?_); clear hK) | (clear hK; clear hK; (with_reducible refine hK _ _ _ ?_); clear hK) | (clear hK; clear hK; clear hK; (with_reducible refine hK _ _ _ ?_); clear hK) | (clear hK; clear hK; clear hK; clear hK; (with_reducible refine hK _ _ _ ?_); clear hK) | (clear hK; clear hK; clear hK; clear hK; clear hK; (with_reducible refine hK _ _ _ ?_); clear hK) | (clear hK; clear hK; clear hK; clear hK; clear hK; clear hK; (with_reducible refine hK _ _ _ ?_); clear hK) | (clear hK; clear hK; clear hK; clear hK; clear hK; clear hK; clear hK; (with_reducible refine hK _ _ _ ?_); clear hK))
      exact h1 1 (bad fun h => by have := h.2; unfold okC at this; omega) _ hh
    rw [show decide (cp.rights < 0) = false from decide_eq_false c7]
    conv => whnf
    by_cases c8 : cp.rights > 15
    case pos =>
      rw [show decide (cp.rights > 15) = true from decide_eq_true c8]
      conv => whnf
      repeat (first | ((with_reducible refine hK _ _ _ ?_); clear hK) | (with_reducible refine seq_step fun K hK => ?_) | (with_reducible refine block_step ?_) | ((with_reducible refine cond_t ?_ ?_); focus rfl) | ((with_reducible refine cond_f ?_ ?_); focus rfl) | ((with_reducible refine code_id ?_); conv => whnf) | (clear hK; (with_reducible refine hK _ _ _ ?_); clear hK) | (clear hK; clear hK; (with_reducible refine hK _ _ _ ?_); clear hK) | (clear hK; clear hK; clear hK; (with_reducible refine hK _ _ _ ?_); clear hK) | (clear hK; clear hK; clear hK; clear hK; (with_reducible refine hK _ _ _ ?_); clear hK) | (clear hK; clear hK; clear hK; clear hK; clear hK; (with_reducible refine hK _ _ _ ?_); clear hK) | (clear hK; clear hK; clear hK; clear hK; clear hK; clear hK; (with_reducible refine hK _ _ _ ?_); clear hK) | (clear hK; clear hK; clear hK; clear hK; clear hK; clear hK; clear hK; (with_reducible refine hK _ _ _ ?_); clear hK))
      exact h1 1 (bad fun h => by have := h.2; unfold okC at this; omega) _ hh
    rw [show decide (cp.rights > 15) = false from decide_eq_false c8]
    conv => whnf
    repeat (first | ((with_reducible refine hK _ _ _ ?_); clear hK) | (with_reducible refine seq_step fun K hK => ?_) | (with_reducible refine block_step ?_) | ((with_reducible refine cond_t ?_ ?_); focus rfl) | ((with_reducible refine cond_f ?_ ?_); focus rfl) | ((with_reducible refine code_id ?_); conv => whnf) | (clear hK; (with_reducible refine hK _ _ _ ?_); clear hK) | (clear hK; clear hK; (with_reducible refine hK _ _ _ ?_); clear hK) | (clear hK; clear hK; clear hK; (with_reducible refine hK _ _ _ ?_); clear hK) | (clear hK; clear hK; clear hK; clear hK; (with_reducible refine hK _ _ _ ?_); clear hK) | (clear hK; clear hK; clear hK; clear hK; clear hK; (with_reducible refine hK _ _ _ ?_); clear hK) | (clear hK; clear hK; clear hK; clear hK; clear hK; clear hK; (with_reducible refine hK _ _ _ ?_); clear hK) | (clear hK; clear hK; clear hK; clear hK; clear hK; clear hK; clear hK; (with_reducible refine hK _ _ _ ?_); clear hK))
    have ok : okC cp := by unfold okC; omega
    have hm : mMint S.tb (n : Int) at' cp = mPlace l at' := by rw [hm0, if_pos ⟨c0, ok⟩]
    refine fresh_has hh fun a h3 _ hn3 _ hh3 => ?_
    conv => whnf
    have hfr := hr.new hn3
    have hh4 : Has (CapsA b S :: CellP ⟨a, 0, 0, cp, none, []⟩ :: L) h3 := by
      have h4 : Has (CellP ⟨a, 0, 0, cp, none, []⟩ :: CapsA b S :: L) h3 := CellP.cls (s := .slice none 0 0) (hh3.map_tail fun g hg => hg.nilW 1)
      exact h4.swap
    refine lay40 hw hh4 he ht hl c0 (fun k hk h' hh' => ?_) (fun s hs h' hh' => ?_)
    · conv => whnf
      repeat (first | ((with_reducible refine hK _ _ _ ?_); clear hK) | (with_reducible refine seq_step fun K hK => ?_) | (with_reducible refine block_step ?_) | ((with_reducible refine cond_t ?_ ?_); focus rfl) | ((with_reducible refine cond_f ?_ ?_); focus rfl) | ((with_reducible refine code_id ?_); conv => whnf) | (clear hK; (with_reducible refine hK _ _ _ ?_); clear hK) | (clear hK; clear hK; (with_reducible refine hK _ _ _ ?_); clear hK) | (clear hK; clear hK; clear hK; (with_reducible refine hK _ _ _ ?_); clear hK) | (clear hK; clear hK; clear hK; clear hK; (with_reducible refine hK _ _ _ ?_); clear hK) | (clear hK; clear hK; clear hK; clear hK; clear hK; (with_reducible refine hK _ _ _ ?_); clear hK) | (clear hK; clear hK; clear hK; clear hK; clear hK; clear hK; (with_reducible refine hK _ _ _ ?_); clear hK) | (clear hK; clear hK; clear hK; clear hK; clear hK; clear hK; clear hK; (with_reducible refine hK _ _ _ ?_); clear hK))
      exact h1 k (by rw [hm, hk]) _ (hh'.map_tail fun g hg => hg.tail)
    · have hfree := mPlace_free hl c0 hs
      conv => whnf
      repeat (first | ((with_reducible refine hK _ _ _ ?_); clear hK) | (with_reducible refine seq_step fun K hK => ?_) | (with_reducible refine block_step ?_) | ((with_reducible refine cond_t ?_ ?_); focus rfl) | ((with_reducible refine cond_f ?_ ?_); focus rfl) | ((with_reducible refine code_id ?_); conv => whnf) | (clear hK; (with_reducible refine hK _ _ _ ?_); clear hK) | (clear hK; clear hK; (with_reducible refine hK _ _ _ ?_); clear hK) | (clear hK; clear hK; clear hK; (with_reducible refine hK _ _ _ ?_); clear hK) | (clear hK; clear hK; clear hK; clear hK; (with_reducible refine hK _ _ _ ?_); clear hK) | (clear hK; clear hK; clear hK; clear hK; clear hK; (with_reducible refine hK _ _ _ ?_); clear hK) | (clear hK; clear hK; clear hK; clear hK; clear hK; clear hK; (with_reducible refine hK _ _ _ ?_); clear hK) | (clear hK; clear hK; clear hK; clear hK; clear hK; clear hK; clear hK; (with_reducible refine hK _ _ _ ?_); clear hK))
      have hw2 : WF (add S ⟨a, n, s, cp, none, []⟩) := hw.add (n := ⟨a, n, s, cp, none, []⟩) ht hfree hfr rfl ok (fun p hp => by cases hp)
      refine h2 n s a (by rw [hm, hs]) rfl hw2 _ ?_
      unfold add
      rw [addC_none _ rfl]
      have h5 := CapsA.opn hh'
      refine CapsA.cls ((h5.map_tail fun g hg => hg.map_tail fun g hg => CellsP.push hg.swap))
end
end Go.Proofs.YthpkgkoojhgedaaDoor.V
