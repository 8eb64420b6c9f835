/- Seat 08: where a book, its lists and its cells lie; what is looked up. -/
import Derived.Test.YthpkgkoojhgedaaDoorK4
import Derived.Test.YthpkgkoojhgedaaDoorU7
namespace Go.Proofs.YthpkgkoojhgedaaDoor.V
set_option linter.unusedVariables false
set_option linter.unusedSimpArgs false
set_option linter.unusedSectionVars false
set_option linter.unusedSectionVars false
open Go

def ptrO : Option Nat → Value
  | some v => ptr v
  | none => .pointer none

def capC (c : Cp) : List Value := [iv c.kind, iv c.obj, iv c.serial, iv c.rights]

/-- A cell's 8 values; s: its children's slice. -/
def cellC (c : Ce) (s : Value) : List Value := [iv c.env, iv c.slot, iv c.cap.kind, iv c.cap.obj, iv c.cap.serial, iv c.cap.rights, ptrO c.par, s]

def CellP (c : Ce) : As := fun h => ∃ s, Has [Pt c.a (.cells (cellC c s).toArray 84 (0, 0)), WnP 1 s c.kids.length (c.kids.map ptr)] h
def CellsP (C : List Ce) : As := Has (C.map CellP)

def tabA : Option (Nat × List (Option Nat)) → List As
  | none => []
  | some (t, l) => [TabP rowP t l]
def TabsP (tb : Tb) : As := Has (tb.flatMap tabA)

def bookC (tb : Tb) : List Value := tb.map fun x => ptrO (x.map (·.1))
def BkA (b : Nat) (tb : Tb) : As := Pt b (.cells (bookC tb).toArray 107 (0, 0))
def CapsA (b : Nat) (S : Bs) : As := Has [BkA b S.tb, TabsP S.tb, CellsP S.cs]

section
variable {h : Hp} {Q : Value → Hp → Prop} {L : List As} {b : Nat} {S : Bs}

theorem CapsA.opn (hh : Has (CapsA b S :: L) h) : Has (BkA b S.tb :: TabsP S.tb :: CellsP S.cs :: L) h := Has.flat (L1 := [_, _, _]) hh
theorem CapsA.cls {tb : Tb} {C : List Ce} (hh : Has (BkA b tb :: TabsP tb :: CellsP C :: L) h) : Has (CapsA b ⟨tb, C⟩ :: L) h := Has.group (L1 := [_, _, _]) hh
theorem CellP.opn {c : Ce} (hh : Has (CellP c :: L) h) : ∃ s, Has (Pt c.a (.cells (cellC c s).toArray 84 (0, 0)) :: WnP 1 s c.kids.length (c.kids.map ptr) :: L) h := by
  obtain ⟨h1, h2, e, ap, ⟨s, hs⟩, hL⟩ := hh
  exact ⟨s, Has.flat (L1 := [_, _]) ⟨h1, h2, e, ap, hs, hL⟩⟩
theorem CellP.cls {c : Ce} {s : Value} (hh : Has (Pt c.a (.cells (cellC c s).toArray 84 (0, 0)) :: WnP 1 s c.kids.length (c.kids.map ptr) :: L) h) : Has (CellP c :: L) h := by
  obtain ⟨h1, h2, e, ap, hs, hL⟩ := Has.group (L1 := [_, _]) hh
  exact ⟨h1, h2, e, ap, ⟨s, hs⟩, hL⟩

theorem CellsP.focus {C : List Ce} {i : Nat} {c : Ce} (hc : C[i]? = some c) (hh : Has (CellsP C :: L) h) : Has (CellP c :: CellsP (C.eraseIdx i) :: L) h := by
  have h1 : Has (C.map CellP ++ L) h := Has.flat hh
  have hp : (C.map CellP).Perm (CellP c :: (C.eraseIdx i).map CellP) := ((perm_erase hc).map CellP).symm
  have h2 : Has ((CellP c :: (C.eraseIdx i).map CellP) ++ L) h := h1.perm (hp.append_right L)
  exact Has.map_tail (L := (C.eraseIdx i).map CellP ++ L) h2 fun g hg => Has.group hg

theorem CellsP.unfocus {C : List Ce} {i : Nat} {c c' : Ce} (hc : C[i]? = some c) (hh : Has (CellP c' :: CellsP (C.eraseIdx i) :: L) h) : Has (CellsP (C.set i c') :: L) h := by
  have h1 : Has ((CellP c' :: (C.eraseIdx i).map CellP) ++ L) h := Has.map_tail hh fun g hg => Has.flat hg
  have hp : (CellP c' :: (C.eraseIdx i).map CellP).Perm ((C.set i c').map CellP) := by
    have := (perm_set hc (y := c')).map CellP
    exact this
  exact Has.group (h1.perm (hp.append_right L))

theorem CellsP.push {C : List Ce} {c : Ce} (hh : Has (CellP c :: CellsP C :: L) h) : Has (CellsP (C ++ [c]) :: L) h := by
  have h1 : Has ((CellP c :: C.map CellP) ++ L) h := Has.map_tail hh fun g hg => Has.flat hg
  have hp : (CellP c :: C.map CellP).Perm ((C ++ [c]).map CellP) := by
    rw [List.map_append]
    exact (List.perm_append_comm (l₁ := [CellP c]) (l₂ := C.map CellP))
  exact Has.group (h1.perm (hp.append_right L))

theorem tabs_perm {tb : Tb} {n : Nat} {x : Option (Nat × List (Option Nat))} (hx : tb[n]? = some x) : (tb.flatMap tabA).Perm (tabA x ++ (tb.set n none).flatMap tabA) := by
  have hn := (List.getElem?_eq_some_iff.1 hx).1
  have hv := (List.getElem?_eq_some_iff.1 hx).2
  have e1 : tb = tb.take n ++ x :: tb.drop (n + 1) := by
    conv => lhs; rw [← List.take_append_drop n tb, List.drop_eq_getElem_cons hn, hv]
  have e2 : tb.set n none = tb.take n ++ none :: tb.drop (n + 1) := by
    rw [List.set_eq_take_append_cons_drop, if_pos hn]
  rw [e2]
  conv => lhs; rw [e1]
  rw [List.flatMap_append, List.flatMap_append, List.flatMap_cons, List.flatMap_cons]
  show ((tb.take n).flatMap tabA ++ (tabA x ++ (tb.drop (n + 1)).flatMap tabA)).Perm (tabA x ++ ((tb.take n).flatMap tabA ++ (tb.drop (n + 1)).flatMap tabA))
  rw [← List.append_assoc, ← List.append_assoc]
  exact List.perm_append_comm.append_right _

theorem TabsP.focus {tb : Tb} {n t : Nat} {l : List (Option Nat)} (hx : tb[n]? = some (some (t, l))) (hh : Has (TabsP tb :: L) h) : Has (TabP rowP t l :: TabsP (tb.set n none) :: L) h := by
  have h1 : Has (tb.flatMap tabA ++ L) h := Has.flat hh
  have h2 := h1.perm ((tabs_perm hx).append_right L)
  exact Has.map_tail (L := (tb.set n none).flatMap tabA ++ L) h2 fun g hg => Has.group hg

theorem TabsP.unfocus {tb : Tb} {n t : Nat} {l : List (Option Nat)} (hn : n < tb.length) (hh : Has (TabP rowP t l :: TabsP (tb.set n none) :: L) h) : Has (TabsP (tb.set n (some (t, l))) :: L) h := by
  have h1 : Has ((TabP rowP t l :: (tb.set n none).flatMap tabA) ++ L) h := Has.map_tail hh fun g hg => Has.flat hg
  have hp := tabs_perm (tb := tb.set n (some (t, l))) (n := n) (x := some (t, l)) (by rw [List.getElem?_set_self hn])
  rw [List.set_set] at hp
  exact Has.group (h1.perm (hp.symm.append_right L))

/-- A list dropped. -/
theorem TabsP.shut {tb : Tb} {n t : Nat} {l : List (Option Nat)} (hx : tb[n]? = some (some (t, l))) (hh : Has (TabsP tb :: L) h) : Has (TabsP (tb.set n none) :: L) h := (TabsP.focus hx hh).tail

/-- What can be read of a book. -/
structure CapsR (b : Nat) (S : Bs) (h : Hp) : Prop where
  bk : h b = some (.cells (bookC S.tb).toArray 107 (0, 0))
  tab : ∀ {e t : Nat} {l : List (Option Nat)}, S.tb[e]? = some (some (t, l)) → TabP rowP t l h
  cell : ∀ c ∈ S.cs, ∃ s, h c.a = some (.cells (cellC c s).toArray 84 (0, 0)) ∧ Vw 1 h s c.kids.length (c.kids.map ptr)

theorem CapsR.sub {h' : Hp} (hr : CapsR b S h) (hs : SubH h h') : CapsR b S h' :=
  ⟨hs _ _ hr.bk, fun ht => (hr.tab ht).sub hs, fun c hc => let ⟨s, h1, h2⟩ := hr.cell c hc; ⟨s, hs _ _ h1, h2.sub hs⟩⟩

theorem CapsA.rd0 (hh : Has (CapsA b S :: L) h) : CapsR b S h := by
  have h1 := CapsA.opn hh
  refine ⟨h1.pt 0 rfl, fun {e t l} ht => ?_, fun c hc => ?_⟩
  · exact Has.get (TabsP.focus ht (h1.pull 1 rfl)) 0 rfl fun _ _ => TabP.sub
  · obtain ⟨i, hi⟩ := List.mem_iff_getElem?.1 hc
    obtain ⟨s, h2⟩ := CellP.opn (CellsP.focus hi (h1.pull 2 rfl))
    exact ⟨s, h2.pt 0 rfl, h2.wn 1 rfl⟩

theorem CapsA.rd (hh : Has L h) (i : Nat) (hi : L[i]? = some (CapsA b S)) : CapsR b S h := CapsA.rd0 (hh.pull i hi)

/-- A block of our own lies at no cell of the book. -/
theorem CapsR.new {a : Nat} (hr : CapsR b S h) (ha : h a = none) : ∀ c ∈ S.cs, c.a ≠ a := fun c hc e => by
  obtain ⟨s, h1, _⟩ := hr.cell c hc
  rw [e, ha] at h1; cases h1

theorem pt_ne {x y : Nat} {o o' : Obj} (hh : Has (Pt x o :: Pt y o' :: L) h) : x ≠ y := fun e => by
  obtain ⟨h1, h2, rfl, ha, hA, g1, g2, rfl, hb, hB, hL⟩ := hh
  have := ha x o hA
  subst e
  unfold join at this
  rw [show g1 x = some o' from hB] at this
  cases this

theorem got_at {α : Type} {l : List (Option α)} {e : Int} {x : α} (h : got l e = some x) : ∃ k : Nat, e = k ∧ l[k]? = some (some x) := by
  obtain ⟨k, h1, _, h2⟩ := got_some h
  exact ⟨k, h1, h2⟩

theorem bookC_get {tb : Tb} (hl : tb.length = 16) {e : Nat} (he : e < 16) : (bookC tb).toArray[e]? = some (ptrO ((got tb (e : Int)).map (·.1))) := by
  rw [List.getElem?_toArray]
  unfold bookC
  rw [List.getElem?_map, got_nat, List.getElem?_eq_getElem (by omega)]
  rfl

theorem list37 (hr : CapsR b S h) (hl : S.tb.length = 16) (e : Int) (hq : Q (ptrO ((got S.tb e).map (·.1))) h) : Ok PR 37 [ptr b, iv e] h Q := by
  refine e37 rfl (seq_step fun K hK => ?_)
  repeat (first | ((with_reducible refine hK _ _ _ ?_); clear hK) | (with_reducible refine seq_step fun K hK => ?_) | (with_reducible refine block_step ?_) | ((with_reducible refine cond_t ?_ ?_); focus rfl) | ((with_reducible refine cond_f ?_ ?_); focus rfl) | ((with_reducible refine code_id ?_); conv => whnf) | (clear hK; (with_reducible refine hK _ _ _ ?_); clear hK) | (clear hK; clear hK; (with_reducible refine hK _ _ _ ?_); clear hK) | (clear hK; clear hK; clear hK; (with_reducible refine hK _ _ _ ?_); clear hK) | (clear hK; clear hK; clear hK; clear hK; (with_reducible refine hK _ _ _ ?_); clear hK) | (clear hK; clear hK; clear hK; clear hK; clear hK; (with_reducible refine hK _ _ _ ?_); clear hK) | (clear hK; clear hK; clear hK; clear hK; clear hK; clear hK; (with_reducible refine hK _ _ _ ?_); clear hK) | (clear hK; clear hK; clear hK; clear hK; clear hK; clear hK; clear hK; (with_reducible refine hK _ _ _ ?_); clear hK))
  by_cases h0 : e < 0
  · rw [got_neg h0] at hq
    rw [show decide (e < 0) = true from decide_eq_true h0]
    conv => whnf
    repeat (first | ((with_reducible refine hK _ _ _ ?_); clear hK) | (with_reducible refine seq_step fun K hK => ?_) | (with_reducible refine block_step ?_) | ((with_reducible refine cond_t ?_ ?_); focus rfl) | ((with_reducible refine cond_f ?_ ?_); focus rfl) | ((with_reducible refine code_id ?_); conv => whnf) | (clear hK; (with_reducible refine hK _ _ _ ?_); clear hK) | (clear hK; clear hK; (with_reducible refine hK _ _ _ ?_); clear hK) | (clear hK; clear hK; clear hK; (with_reducible refine hK _ _ _ ?_); clear hK) | (clear hK; clear hK; clear hK; clear hK; (with_reducible refine hK _ _ _ ?_); clear hK) | (clear hK; clear hK; clear hK; clear hK; clear hK; (with_reducible refine hK _ _ _ ?_); clear hK) | (clear hK; clear hK; clear hK; clear hK; clear hK; clear hK; (with_reducible refine hK _ _ _ ?_); clear hK) | (clear hK; clear hK; clear hK; clear hK; clear hK; clear hK; clear hK; (with_reducible refine hK _ _ _ ?_); clear hK))
    exact hq
  · obtain ⟨n, rfl⟩ := Int.eq_ofNat_of_zero_le (show 0 ≤ e by omega)
    rw [show decide ((n : Int) < 0) = false from decide_eq_false (by omega)]
    conv => whnf
    by_cases h1 : n < 16
    · rw [show decide ((n : Int) ≥ 16) = false from decide_eq_false (by omega)]
      conv => whnf
      repeat (first | ((with_reducible refine hK _ _ _ ?_); clear hK) | (with_reducible refine seq_step fun K hK => ?_) | (with_reducible refine block_step ?_) | ((with_reducible refine cond_t ?_ ?_); focus rfl) | ((with_reducible refine cond_f ?_ ?_); focus rfl) | ((with_reducible refine code_id ?_); conv => whnf) | (clear hK; (with_reducible refine hK _ _ _ ?_); clear hK) | (clear hK; clear hK; (with_reducible refine hK _ _ _ ?_); clear hK) | (clear hK; clear hK; clear hK; (with_reducible refine hK _ _ _ ?_); clear hK) | (clear hK; clear hK; clear hK; clear hK; (with_reducible refine hK _ _ _ ?_); clear hK) | (clear hK; clear hK; clear hK; clear hK; clear hK; (with_reducible refine hK _ _ _ ?_); clear hK) | (clear hK; clear hK; clear hK; clear hK; clear hK; clear hK; (with_reducible refine hK _ _ _ ?_); clear hK) | (clear hK; clear hK; clear hK; clear hK; clear hK; clear hK; clear hK; (with_reducible refine hK _ _ _ ?_); clear hK))
      refine opt_if ⟨by omega, by omega⟩ ?_
      conv => whnf
      refine opt_ld hr.bk (v := ptrO ((got S.tb (n : Int)).map (·.1))) (by show (bookC S.tb).toArray[0 + (n : Int).toNat * 1]? = _; rw [Int.toNat_natCast, Nat.mul_one, Nat.zero_add]; exact bookC_get hl h1) ?_
      conv => whnf
      repeat (first | ((with_reducible refine hK _ _ _ ?_); clear hK) | (with_reducible refine seq_step fun K hK => ?_) | (with_reducible refine block_step ?_) | ((with_reducible refine cond_t ?_ ?_); focus rfl) | ((with_reducible refine cond_f ?_ ?_); focus rfl) | ((with_reducible refine code_id ?_); conv => whnf) | (clear hK; (with_reducible refine hK _ _ _ ?_); clear hK) | (clear hK; clear hK; (with_reducible refine hK _ _ _ ?_); clear hK) | (clear hK; clear hK; clear hK; (with_reducible refine hK _ _ _ ?_); clear hK) | (clear hK; clear hK; clear hK; clear hK; (with_reducible refine hK _ _ _ ?_); clear hK) | (clear hK; clear hK; clear hK; clear hK; clear hK; (with_reducible refine hK _ _ _ ?_); clear hK) | (clear hK; clear hK; clear hK; clear hK; clear hK; clear hK; (with_reducible refine hK _ _ _ ?_); clear hK) | (clear hK; clear hK; clear hK; clear hK; clear hK; clear hK; clear hK; (with_reducible refine hK _ _ _ ?_); clear hK))
      exact hq
    · rw [show decide ((n : Int) ≥ 16) = true from decide_eq_true (by omega)]
      rw [got_big (by omega)] at hq
      conv => whnf
      repeat (first | ((with_reducible refine hK _ _ _ ?_); clear hK) | (with_reducible refine seq_step fun K hK => ?_) | (with_reducible refine block_step ?_) | ((with_reducible refine cond_t ?_ ?_); focus rfl) | ((with_reducible refine cond_f ?_ ?_); focus rfl) | ((with_reducible refine code_id ?_); conv => whnf) | (clear hK; (with_reducible refine hK _ _ _ ?_); clear hK) | (clear hK; clear hK; (with_reducible refine hK _ _ _ ?_); clear hK) | (clear hK; clear hK; clear hK; (with_reducible refine hK _ _ _ ?_); clear hK) | (clear hK; clear hK; clear hK; clear hK; (with_reducible refine hK _ _ _ ?_); clear hK) | (clear hK; clear hK; clear hK; clear hK; clear hK; (with_reducible refine hK _ _ _ ?_); clear hK) | (clear hK; clear hK; clear hK; clear hK; clear hK; clear hK; (with_reducible refine hK _ _ _ ?_); clear hK) | (clear hK; clear hK; clear hK; clear hK; clear hK; clear hK; clear hK; (with_reducible refine hK _ _ _ ?_); clear hK))
      exact hq

def mLook (tb : Tb) (e s : Int) : Int ⊕ Nat := match got tb e with
  | none => .inl 83
  | some (_, l) => match got l s with
    | none => .inl 80
    | some a => .inr a
def lookV : Int ⊕ Nat → Value
  | .inl k => .tuple #[.pointer none, iv k]
  | .inr a => .tuple #[ptr a, iv 0]

theorem look38 (hr : CapsR b S h) (hl : S.tb.length = 16) (e s : Int) (hq : Q (lookV (mLook S.tb e s)) h) : Ok PR 38 [ptr b, iv e, iv s] h Q := by
  refine e38 rfl (seq_step fun K hK => ?_)
  repeat (first | ((with_reducible refine hK _ _ _ ?_); clear hK) | (with_reducible refine seq_step fun K hK => ?_) | (with_reducible refine block_step ?_) | ((with_reducible refine cond_t ?_ ?_); focus rfl) | ((with_reducible refine cond_f ?_ ?_); focus rfl) | ((with_reducible refine code_id ?_); conv => whnf) | (clear hK; (with_reducible refine hK _ _ _ ?_); clear hK) | (clear hK; clear hK; (with_reducible refine hK _ _ _ ?_); clear hK) | (clear hK; clear hK; clear hK; (with_reducible refine hK _ _ _ ?_); clear hK) | (clear hK; clear hK; clear hK; clear hK; (with_reducible refine hK _ _ _ ?_); clear hK) | (clear hK; clear hK; clear hK; clear hK; clear hK; (with_reducible refine hK _ _ _ ?_); clear hK) | (clear hK; clear hK; clear hK; clear hK; clear hK; clear hK; (with_reducible refine hK _ _ _ ?_); clear hK) | (clear hK; clear hK; clear hK; clear hK; clear hK; clear hK; clear hK; (with_reducible refine hK _ _ _ ?_); clear hK))
  refine list37 hr hl e ?_
  unfold mLook at hq
  cases hg : got S.tb e with
  | none =>
    rw [hg] at hq
    conv => whnf
    repeat (first | ((with_reducible refine hK _ _ _ ?_); clear hK) | (with_reducible refine seq_step fun K hK => ?_) | (with_reducible refine block_step ?_) | ((with_reducible refine cond_t ?_ ?_); focus rfl) | ((with_reducible refine cond_f ?_ ?_); focus rfl) | ((with_reducible refine code_id ?_); conv => whnf) | (clear hK; (with_reducible refine hK _ _ _ ?_); clear hK) | (clear hK; clear hK; (with_reducible refine hK _ _ _ ?_); clear hK) | (clear hK; clear hK; clear hK; (with_reducible refine hK _ _ _ ?_); clear hK) | (clear hK; clear hK; clear hK; clear hK; (with_reducible refine hK _ _ _ ?_); clear hK) | (clear hK; clear hK; clear hK; clear hK; clear hK; (with_reducible refine hK _ _ _ ?_); clear hK) | (clear hK; clear hK; clear hK; clear hK; clear hK; clear hK; (with_reducible refine hK _ _ _ ?_); clear hK) | (clear hK; clear hK; clear hK; clear hK; clear hK; clear hK; clear hK; (with_reducible refine hK _ _ _ ?_); clear hK))
    exact hq
  | some x =>
    obtain ⟨t, l⟩ := x
    rw [hg] at hq
    dsimp only at hq
    obtain ⟨n, rfl, hn⟩ := got_at hg
    obtain ⟨d, hT⟩ := hr.tab hn
    conv => whnf
    repeat (first | ((with_reducible refine hK _ _ _ ?_); clear hK) | (with_reducible refine seq_step fun K hK => ?_) | (with_reducible refine block_step ?_) | ((with_reducible refine cond_t ?_ ?_); focus rfl) | ((with_reducible refine cond_f ?_ ?_); focus rfl) | ((with_reducible refine code_id ?_); conv => whnf) | (clear hK; (with_reducible refine hK _ _ _ ?_); clear hK) | (clear hK; clear hK; (with_reducible refine hK _ _ _ ?_); clear hK) | (clear hK; clear hK; clear hK; (with_reducible refine hK _ _ _ ?_); clear hK) | (clear hK; clear hK; clear hK; clear hK; (with_reducible refine hK _ _ _ ?_); clear hK) | (clear hK; clear hK; clear hK; clear hK; clear hK; (with_reducible refine hK _ _ _ ?_); clear hK) | (clear hK; clear hK; clear hK; clear hK; clear hK; clear hK; (with_reducible refine hK _ _ _ ?_); clear hK) | (clear hK; clear hK; clear hK; clear hK; clear hK; clear hK; clear hK; (with_reducible refine hK _ _ _ ?_); clear hK))
    refine tget hT s (fun v hv => ?_) (fun hv => ?_)
    · rw [hv] at hq
      conv => whnf
      repeat (first | ((with_reducible refine hK _ _ _ ?_); clear hK) | (with_reducible refine seq_step fun K hK => ?_) | (with_reducible refine block_step ?_) | ((with_reducible refine cond_t ?_ ?_); focus rfl) | ((with_reducible refine cond_f ?_ ?_); focus rfl) | ((with_reducible refine code_id ?_); conv => whnf) | (clear hK; (with_reducible refine hK _ _ _ ?_); clear hK) | (clear hK; clear hK; (with_reducible refine hK _ _ _ ?_); clear hK) | (clear hK; clear hK; clear hK; (with_reducible refine hK _ _ _ ?_); clear hK) | (clear hK; clear hK; clear hK; clear hK; (with_reducible refine hK _ _ _ ?_); clear hK) | (clear hK; clear hK; clear hK; clear hK; clear hK; (with_reducible refine hK _ _ _ ?_); clear hK) | (clear hK; clear hK; clear hK; clear hK; clear hK; clear hK; (with_reducible refine hK _ _ _ ?_); clear hK) | (clear hK; clear hK; clear hK; clear hK; clear hK; clear hK; clear hK; (with_reducible refine hK _ _ _ ?_); clear hK))
      exact hq
    · rw [hv] at hq
      conv => whnf
      repeat (first | ((with_reducible refine hK _ _ _ ?_); clear hK) | (with_reducible refine seq_step fun K hK => ?_) | (with_reducible refine block_step ?_) | ((with_reducible refine cond_t ?_ ?_); focus rfl) | ((with_reducible refine cond_f ?_ ?_); focus rfl) | ((with_reducible refine code_id ?_); conv => whnf) | (clear hK; (with_reducible refine hK _ _ _ ?_); clear hK) | (clear hK; clear hK; (with_reducible refine hK _ _ _ ?_); clear hK) | (clear hK; clear hK; clear hK; (with_reducible refine hK _ _ _ ?_); clear hK) | (clear hK; clear hK; clear hK; clear hK; (with_reducible refine hK _ _ _ ?_); clear hK) | (clear hK; clear hK; clear hK; clear hK; clear hK; (with_reducible refine hK _ _ _ ?_); clear hK) | (clear hK; clear hK; clear hK; clear hK; clear hK; clear hK; (with_reducible refine hK _ _ _ ?_); clear hK) | (clear hK; clear hK; clear hK; clear hK; clear hK; clear hK; clear hK; (with_reducible refine hK _ _ _ ?_); clear hK))
      exact hq

theorem mLook_at {e s : Int} {a : Nat} (hw : WF S) (hm : mLook S.tb e s = .inr a) : ∃ c ∈ S.cs, c.a = a ∧ e = c.env ∧ s = c.slot := by
  unfold mLook at hm
  cases hg : got S.tb e with
  | none => rw [hg] at hm; cases hm
  | some x =>
    obtain ⟨t, l⟩ := x
    rw [hg] at hm
    dsimp only at hm
    obtain ⟨n, rfl, hn⟩ := got_at hg
    cases hk : got l s with
    | none => rw [hk] at hm; cases hm
    | some y =>
      rw [hk] at hm
      cases hm
      obtain ⟨k, rfl, hk2⟩ := got_at hk
      obtain ⟨c, hc, e1, e2, e3⟩ := hw.t1 hn hk2
      exact ⟨c, hc, e1, by rw [e2], by rw [e3]⟩

theorem mLook_of {c : Ce} (hw : WF S) (hc : c ∈ S.cs) : mLook S.tb c.env c.slot = .inr c.a := by
  obtain ⟨t, l, h1, h2⟩ := hw.t2 c hc
  unfold mLook
  rw [got_nat, h1]
  dsimp only
  rw [got_nat, h2]

def okAt (at' : Int) : Prop := -1 ≤ at' ∧ at' < 48
instance (at' : Int) : Decidable (okAt at') := by unfold okAt; infer_instance
theorem place39 (at' : Int) (hq : Q (.bool (decide (okAt at'))) h) : Ok PR 39 [iv at'] h Q := by
  refine e39 rfl (seq_step fun K hK => ?_)
  repeat (first | ((with_reducible refine hK _ _ _ ?_); clear hK) | (with_reducible refine seq_step fun K hK => ?_) | (with_reducible refine block_step ?_) | ((with_reducible refine cond_t ?_ ?_); focus rfl) | ((with_reducible refine cond_f ?_ ?_); focus rfl) | ((with_reducible refine code_id ?_); conv => whnf) | (clear hK; (with_reducible refine hK _ _ _ ?_); clear hK) | (clear hK; clear hK; (with_reducible refine hK _ _ _ ?_); clear hK) | (clear hK; clear hK; clear hK; (with_reducible refine hK _ _ _ ?_); clear hK) | (clear hK; clear hK; clear hK; clear hK; (with_reducible refine hK _ _ _ ?_); clear hK) | (clear hK; clear hK; clear hK; clear hK; clear hK; (with_reducible refine hK _ _ _ ?_); clear hK) | (clear hK; clear hK; clear hK; clear hK; clear hK; clear hK; (with_reducible refine hK _ _ _ ?_); clear hK) | (clear hK; clear hK; clear hK; clear hK; clear hK; clear hK; clear hK; (with_reducible refine hK _ _ _ ?_); clear hK))
  by_cases h0 : -1 ≤ at'
  · rw [show decide (at' ≥ -1) = true from decide_eq_true h0]
    rw [show decide (okAt at') = decide (at' < 48) by unfold okAt; simp [h0]] at hq
    conv => whnf
    repeat (first | ((with_reducible refine hK _ _ _ ?_); clear hK) | (with_reducible refine seq_step fun K hK => ?_) | (with_reducible refine block_step ?_) | ((with_reducible refine cond_t ?_ ?_); focus rfl) | ((with_reducible refine cond_f ?_ ?_); focus rfl) | ((with_reducible refine code_id ?_); conv => whnf) | (clear hK; (with_reducible refine hK _ _ _ ?_); clear hK) | (clear hK; clear hK; (with_reducible refine hK _ _ _ ?_); clear hK) | (clear hK; clear hK; clear hK; (with_reducible refine hK _ _ _ ?_); clear hK) | (clear hK; clear hK; clear hK; clear hK; (with_reducible refine hK _ _ _ ?_); clear hK) | (clear hK; clear hK; clear hK; clear hK; clear hK; (with_reducible refine hK _ _ _ ?_); clear hK) | (clear hK; clear hK; clear hK; clear hK; clear hK; clear hK; (with_reducible refine hK _ _ _ ?_); clear hK) | (clear hK; clear hK; clear hK; clear hK; clear hK; clear hK; clear hK; (with_reducible refine hK _ _ _ ?_); clear hK))
    exact hq
  · rw [show decide (at' ≥ -1) = false from decide_eq_false h0]
    rw [show decide (okAt at') = false from decide_eq_false fun h => h0 h.1] at hq
    conv => whnf
    repeat (first | ((with_reducible refine hK _ _ _ ?_); clear hK) | (with_reducible refine seq_step fun K hK => ?_) | (with_reducible refine block_step ?_) | ((with_reducible refine cond_t ?_ ?_); focus rfl) | ((with_reducible refine cond_f ?_ ?_); focus rfl) | ((with_reducible refine code_id ?_); conv => whnf) | (clear hK; (with_reducible refine hK _ _ _ ?_); clear hK) | (clear hK; clear hK; (with_reducible refine hK _ _ _ ?_); clear hK) | (clear hK; clear hK; clear hK; (with_reducible refine hK _ _ _ ?_); clear hK) | (clear hK; clear hK; clear hK; clear hK; (with_reducible refine hK _ _ _ ?_); clear hK) | (clear hK; clear hK; clear hK; clear hK; clear hK; (with_reducible refine hK _ _ _ ?_); clear hK) | (clear hK; clear hK; clear hK; clear hK; clear hK; clear hK; (with_reducible refine hK _ _ _ ?_); clear hK) | (clear hK; clear hK; clear hK; clear hK; clear hK; clear hK; clear hK; (with_reducible refine hK _ _ _ ?_); clear hK))
    exact hq
end
end Go.Proofs.YthpkgkoojhgedaaDoor.V
