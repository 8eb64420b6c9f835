/- Seat 08: what all lists hold; has. -/
import Derived.Test.YthpkgkoojhgedaaDoorK25
import Derived.Test.YthpkgkoojhgedaaDoorK11
namespace Go.Proofs.YthpkgkoojhgedaaDoor.V
set_option linter.unusedVariables false
set_option linter.unusedSimpArgs false
set_option linter.unusedSectionVars false
set_option linter.unusedSectionVars false
open Go

/-- What all lists below n hold. -/
def allTo (S : Bs) (n : Nat) : List Hd := (List.range n).flatMap (lsOf S)
def allOf (S : Bs) : List Hd := allTo S 16

theorem lsOf_le (S : Bs) (n : Nat) : (lsOf S n).length ≤ 48 := lsTo_le S n 48

theorem allTo_le (S : Bs) : ∀ n, (allTo S n).length ≤ n * 48
  | 0 => Nat.le_refl _
  | n + 1 => by
    have h1 := allTo_le S n
    have h2 := lsOf_le S n
    unfold allTo at *
    rw [List.range_succ, List.flatMap_append, List.length_append, List.flatMap_singleton]
    omega

theorem allTo_succ (S : Bs) (n : Nat) : allTo S (n + 1) = allTo S n ++ lsOf S n := by
  unfold allTo
  rw [List.range_succ, List.flatMap_append, List.flatMap_singleton]

def posH (x : Hd) : Nat := x.env * 48 + x.slot

section
variable {S : Bs}

theorem mem_lsOf (hw : WF S) {n : Nat} {x : Hd} : x ∈ lsOf S n ↔ ∃ c ∈ S.cs, x = hdOf c ∧ c.env = n := by
  unfold lsOf lsTo
  rw [List.mem_filterMap]
  constructor
  · rintro ⟨s, hs, h⟩
    have hs := List.mem_range.1 hs
    obtain ⟨c, hc, rfl⟩ := Option.map_eq_some_iff.1 h
    obtain ⟨h1, h2⟩ := atP_spec hc
    have := pos_lt hw h1
    unfold posC at h2
    exact ⟨c, h1, rfl, by omega⟩
  · rintro ⟨c, hc, rfl, he⟩
    have h1 := pos_lt hw hc
    refine ⟨c.slot, List.mem_range.2 h1.2, ?_⟩
    have h2 := atP_some hw hc
    unfold posC at h2
    rw [he] at h2
    rw [h2]; rfl

theorem mem_allOf (hw : WF S) {x : Hd} : x ∈ allOf S ↔ ∃ c ∈ S.cs, x = hdOf c := by
  unfold allOf allTo
  rw [List.mem_flatMap]
  constructor
  · rintro ⟨n, _, h⟩
    obtain ⟨c, hc, e, _⟩ := (mem_lsOf hw).1 h
    exact ⟨c, hc, e⟩
  · rintro ⟨c, hc, rfl⟩
    exact ⟨c.env, List.mem_range.2 (pos_lt hw hc).1, (mem_lsOf hw).2 ⟨c, hc, rfl, rfl⟩⟩

theorem lsOf_closed (hw : WF S) {n : Nat} (h : got S.tb (n : Int) = none) : lsOf S n = [] := by
  rw [List.eq_nil_iff_forall_not_mem]
  intro x hx
  obtain ⟨c, hc, _, he⟩ := (mem_lsOf hw).1 hx
  obtain ⟨t, l, a1, _⟩ := hw.t2 c hc
  rw [got_nat, ← he, a1] at h
  cases h

theorem all_le (hw : WF S) : S.cs.length ≤ (allOf S).length := by
  have h1 : (S.cs.map posC).Nodup := by
    rw [List.Nodup, List.pairwise_map]
    exact hw.pos
  have h2 := nodup_sub (m := (allOf S).map posH) h1 fun x hx => by
    obtain ⟨c, hc, rfl⟩ := List.mem_map.1 hx
    exact List.mem_map.2 ⟨hdOf c, (mem_allOf hw).2 ⟨c, hc, rfl⟩, rfl⟩
  rwa [List.length_map, List.length_map] at h2

theorem lsTo_sorted (hw : WF S) (n : Nat) : ∀ c, (lsTo S n c).Pairwise (fun x y => posH x < posH y) ∧ ∀ x ∈ lsTo S n c, posH x < n * 48 + c ∧ n * 48 ≤ posH x
  | 0 => ⟨List.Pairwise.nil, fun x hx => by cases hx⟩
  | c + 1 => by
    obtain ⟨h1, h2⟩ := lsTo_sorted hw n c
    rw [lsTo_succ]
    cases ha : atP S (n * 48 + c) with
    | none =>
      dsimp only
      rw [List.append_nil]
      exact ⟨h1, fun x hx => ⟨by have := (h2 x hx).1; omega, (h2 x hx).2⟩⟩
    | some k =>
      have hk : posH (hdOf k) = n * 48 + c := (atP_spec ha).2
      refine ⟨List.pairwise_append.2 ⟨h1, by simp, fun x hx y hy => ?_⟩, fun x hx => ?_⟩
      · rw [List.mem_singleton.1 hy, hk]; exact (h2 x hx).1
      · rcases List.mem_append.1 hx with hx | hx
        · exact ⟨by have := (h2 x hx).1; omega, (h2 x hx).2⟩
        · rw [List.mem_singleton.1 hx, hk]; omega

theorem allTo_sorted (hw : WF S) : ∀ n, (allTo S n).Pairwise (fun x y => posH x < posH y) ∧ ∀ x ∈ allTo S n, posH x < n * 48
  | 0 => ⟨List.Pairwise.nil, fun x hx => by cases hx⟩
  | n + 1 => by
    obtain ⟨h1, h2⟩ := allTo_sorted hw n
    obtain ⟨g1, g2⟩ := lsTo_sorted hw n 48
    rw [allTo_succ]
    refine ⟨List.pairwise_append.2 ⟨h1, g1, fun x hx y hy => ?_⟩, fun x hx => ?_⟩
    · have := h2 x hx; have := (g2 y hy).2; omega
    · rcases List.mem_append.1 hx with hx | hx
      · have := h2 x hx; omega
      · have := (g2 x hx).1; omega

def isAt (e s : Int) (x : Hd) : Bool := decide ((x.env : Int) = e) && decide ((x.slot : Int) = s)

theorem find_at (hw : WF S) {c : Ce} (hc : c ∈ S.cs) : (allOf S).find? (isAt c.env c.slot) = some (hdOf c) := by
  cases h : (allOf S).find? (isAt c.env c.slot) with
  | none =>
    rw [List.find?_eq_none] at h
    exact absurd (by unfold isAt hdOf; simp) (h (hdOf c) ((mem_allOf hw).2 ⟨c, hc, rfl⟩))
  | some x =>
    have h1 := List.find?_some h
    obtain ⟨d, hd, rfl⟩ := (mem_allOf hw).1 (List.mem_of_find?_eq_some h)
    unfold isAt hdOf at h1
    simp only [Bool.and_eq_true, decide_eq_true_eq] at h1
    rw [hw.place hd hc (by omega) (by omega)]
end

section
variable {h : Hp} {Q : Value → Hp → Prop} {L : List As} {b : Nat} {S : Bs}

/-- Reading one out of a list. -/
theorem hs_at {s : Value} {l : List Hd} (hv : Vw 6 h s l.length (l.flatMap hdC)) {i : Nat} (hi : i < l.length) : ∃ bb o cap c ty z, s = .slice (some ⟨bb, o, none⟩) l.length cap ∧ h bb = some (.cells c ty z) ∧
    c[o + i * 6]? = some (iv l[i].env) ∧ c[o + i * 6 + 1]? = some (iv l[i].slot) ∧ rd c (o + i * 6) 6 true = some (.agg (hdC l[i]).toArray) ∧ rd c (o + i * 6 + 2) 4 true = some (.agg #[iv l[i].cap.kind, iv l[i].cap.obj, iv l[i].cap.serial, iv l[i].cap.rights]) := by
  have hx : l[i]? = some l[i] := List.getElem?_eq_getElem hi
  obtain ⟨bb, o, c, ty, z, cap, e1, e2, e3, e4⟩ := hv.at (i := i) hi
  have g : ∀ j v, (hdC l[i])[j]? = some v → c[o + i * 6 + j]? = some v := fun j v hj => e4 j v (by rw [flat_get hdC_len l i j _ hx (by have := (List.getElem?_eq_some_iff.1 hj).1; exact this)]; exact hj)
  refine ⟨bb, o, cap, c, ty, z, e1, e2, g 0 _ rfl, g 1 _ rfl, agg_rd (row := hdC l[i]) rfl (by omega) g, agg_rd (row := [iv l[i].cap.kind, iv l[i].cap.obj, iv l[i].cap.serial, iv l[i].cap.rights]) rfl (by omega) fun j v hj => ?_⟩
  rw [show o + i * 6 + 2 + j = o + i * 6 + (2 + j) by omega]
  refine g (2 + j) v ?_
  match j, hj with
  | 0, hj => exact hj
  | 1, hj => exact hj
  | 2, hj => exact hj
  | 3, hj => exact hj
  | j + 4, hj => cases hj

def hasV : Option Hd → Value
  | some x => .tuple #[.agg (hdC x).toArray, .bool true]
  | none => .tuple #[.agg #[iv 0, iv 0, iv 0, iv 0, iv 0, iv 0], .bool false]

set_option maxRecDepth 100000 in
set_option maxHeartbeats 1000000 in
theorem has22 {s : Value} {l : List Hd} (hl : l.length < 1099511627776) (hv : Vw 6 h s l.length (l.flatMap hdC)) (e t : Int) (hq : Q (hasV (l.find? (isAt e t))) h) : Ok PR 22 [s, .agg #[iv e, iv t]] h Q := by
  have hv0 := hv
  obtain ⟨_, bi, ci, rfl, _, _⟩ := hv
  refine e22 rfl (seq_step fun K hK => ?_)
  repeat (first | ((with_reducible refine hK _ _ _ ?_); clear hK) | (with_reducible refine seq_step fun K hK => ?_) | (with_reducible refine block_step ?_) | ((with_reducible refine cond_t ?_ ?_); focus rfl) | ((with_reducible refine cond_f ?_ ?_); focus rfl) | ((with_reducible refine code_id ?_); conv => whnf) | (clear hK; (with_reducible refine hK _ _ _ ?_); clear hK) | (clear hK; clear hK; (with_reducible refine hK _ _ _ ?_); clear hK) | (clear hK; clear hK; clear hK; (with_reducible refine hK _ _ _ ?_); clear hK) | (clear hK; clear hK; clear hK; clear hK; (with_reducible refine hK _ _ _ ?_); clear hK) | (clear hK; clear hK; clear hK; clear hK; clear hK; (with_reducible refine hK _ _ _ ?_); clear hK) | (clear hK; clear hK; clear hK; clear hK; clear hK; clear hK; (with_reducible refine hK _ _ _ ?_); clear hK) | (clear hK; clear hK; clear hK; clear hK; clear hK; clear hK; clear hK; (with_reducible refine hK _ _ _ ?_); clear hK))
  refine loop_intro (σ := Nat) (fun s => [(0, .v (.slice bi l.length ci)), (3, .l 3 0), (4, .l 4 0), (6, .v (iv s))]) (fun _ => [(3, [iv e, iv t]), (4, [iv 0, iv 0, iv 0, iv 0, iv 0, iv 0])]) (fun _ => h)
    (fun s => s ≤ l.length ∧ ∀ x ∈ l.take s, isAt e t x = false) (fun s => l.length - s) 0 ⟨Nat.zero_le _, fun w hw => by cases hw⟩
    (subE_cons rfl (subE_cons rfl (subE_cons rfl (subE_cons rfl subE_nil)))) (subB_cons rfl (subB_cons rfl subB_nil)) rfl ?_
  rintro i ⟨hi, hno⟩
  have hnext : IntKind.i64.wrap ((i : Int) + 1) = ((i + 1 : Nat) : Int) := wrap_nat (by omega)
  repeat (first | ((with_reducible refine hK _ _ _ ?_); clear hK) | (with_reducible refine seq_step fun K hK => ?_) | (with_reducible refine block_step ?_) | ((with_reducible refine cond_t ?_ ?_); focus rfl) | ((with_reducible refine cond_f ?_ ?_); focus rfl) | ((with_reducible refine code_id ?_); conv => whnf) | (clear hK; (with_reducible refine hK _ _ _ ?_); clear hK) | (clear hK; clear hK; (with_reducible refine hK _ _ _ ?_); clear hK) | (clear hK; clear hK; clear hK; (with_reducible refine hK _ _ _ ?_); clear hK) | (clear hK; clear hK; clear hK; clear hK; (with_reducible refine hK _ _ _ ?_); clear hK) | (clear hK; clear hK; clear hK; clear hK; clear hK; (with_reducible refine hK _ _ _ ?_); clear hK) | (clear hK; clear hK; clear hK; clear hK; clear hK; clear hK; (with_reducible refine hK _ _ _ ?_); clear hK) | (clear hK; clear hK; clear hK; clear hK; clear hK; clear hK; clear hK; (with_reducible refine hK _ _ _ ?_); clear hK))
  refine cond_dec (fun hlt => ?_) (fun hge => ?_)
  · have hil : i < l.length := by omega
    obtain ⟨bb, o, cap', cc, ty, z, hsl, hbb, h0, h1, h6, _⟩ := hs_at hv0 hil
    rw [hsl]
    have ei : ((i : Int)).toNat = i := Int.toNat_natCast i
    have fin0 : isAt e t l[i] = false → ∀ x ∈ l.take (i + 1), isAt e t x = false := fun hf x hx => by
      rw [← List.take_append_getElem hil] at hx
      rcases List.mem_append.1 hx with hx | hx
      · exact hno x hx
      · rw [List.mem_singleton.1 hx]; exact hf
    repeat (first | ((with_reducible refine hK _ _ _ ?_); clear hK) | (with_reducible refine seq_step fun K hK => ?_) | (with_reducible refine block_step ?_) | ((with_reducible refine cond_t ?_ ?_); focus rfl) | ((with_reducible refine cond_f ?_ ?_); focus rfl) | ((with_reducible refine code_id ?_); conv => whnf) | (clear hK; (with_reducible refine hK _ _ _ ?_); clear hK) | (clear hK; clear hK; (with_reducible refine hK _ _ _ ?_); clear hK) | (clear hK; clear hK; clear hK; (with_reducible refine hK _ _ _ ?_); clear hK) | (clear hK; clear hK; clear hK; clear hK; (with_reducible refine hK _ _ _ ?_); clear hK) | (clear hK; clear hK; clear hK; clear hK; clear hK; (with_reducible refine hK _ _ _ ?_); clear hK) | (clear hK; clear hK; clear hK; clear hK; clear hK; clear hK; (with_reducible refine hK _ _ _ ?_); clear hK) | (clear hK; clear hK; clear hK; clear hK; clear hK; clear hK; clear hK; (with_reducible refine hK _ _ _ ?_); clear hK) | (refine ⟨_, _, SubH.refl _, SubB.refl _, ?_⟩; conv => whnf) | (refine ⟨⟨SubH.refl _, SubB.refl _⟩, ?_⟩; conv => whnf) | (refine ⟨_, _, ⟨SubH.refl _, SubB.refl _⟩, SubH.refl _, SubB.refl _, ?_⟩; conv => whnf))
    refine opt_if ⟨by omega, by omega⟩ ?_
    conv => whnf
    refine opt_ld hbb (v := iv l[i].env) (by show cc[o + (i : Int).toNat * 6]? = _; rw [ei]; exact h0) ?_
    conv => whnf
    by_cases he : (l[i].env : Int) = e
    · rw [show ((l[i].env : Int) == e) = true from beq_iff_eq.2 he]
      conv => whnf
      refine opt_if ⟨by omega, by omega⟩ ?_
      conv => whnf
      refine opt_ld hbb (v := iv l[i].slot) (by show cc[o + (i : Int).toNat * 6 + 1]? = _; rw [ei]; exact h1) ?_
      conv => whnf
      by_cases hs : (l[i].slot : Int) = t
      · rw [show ((l[i].slot : Int) == t) = true from beq_iff_eq.2 hs]
        conv => whnf
        repeat (first | ((with_reducible refine hK _ _ _ ?_); clear hK) | (with_reducible refine seq_step fun K hK => ?_) | (with_reducible refine block_step ?_) | ((with_reducible refine cond_t ?_ ?_); focus rfl) | ((with_reducible refine cond_f ?_ ?_); focus rfl) | ((with_reducible refine code_id ?_); conv => whnf) | (clear hK; (with_reducible refine hK _ _ _ ?_); clear hK) | (clear hK; clear hK; (with_reducible refine hK _ _ _ ?_); clear hK) | (clear hK; clear hK; clear hK; (with_reducible refine hK _ _ _ ?_); clear hK) | (clear hK; clear hK; clear hK; clear hK; (with_reducible refine hK _ _ _ ?_); clear hK) | (clear hK; clear hK; clear hK; clear hK; clear hK; (with_reducible refine hK _ _ _ ?_); clear hK) | (clear hK; clear hK; clear hK; clear hK; clear hK; clear hK; (with_reducible refine hK _ _ _ ?_); clear hK) | (clear hK; clear hK; clear hK; clear hK; clear hK; clear hK; clear hK; (with_reducible refine hK _ _ _ ?_); clear hK) | (refine ⟨_, _, SubH.refl _, SubB.refl _, ?_⟩; conv => whnf) | (refine ⟨⟨SubH.refl _, SubB.refl _⟩, ?_⟩; conv => whnf) | (refine ⟨_, _, ⟨SubH.refl _, SubB.refl _⟩, SubH.refl _, SubB.refl _, ?_⟩; conv => whnf))
        refine opt_if ⟨by omega, by omega⟩ ?_
        conv => whnf
        refine opt_ld hbb (v := .agg (hdC l[i]).toArray) (by show rd cc (o + (i : Int).toNat * 6) 6 true = _; rw [ei]; exact h6) ?_
        conv => whnf
        repeat (first | ((with_reducible refine hK _ _ _ ?_); clear hK) | (with_reducible refine seq_step fun K hK => ?_) | (with_reducible refine block_step ?_) | ((with_reducible refine cond_t ?_ ?_); focus rfl) | ((with_reducible refine cond_f ?_ ?_); focus rfl) | ((with_reducible refine code_id ?_); conv => whnf) | (clear hK; (with_reducible refine hK _ _ _ ?_); clear hK) | (clear hK; clear hK; (with_reducible refine hK _ _ _ ?_); clear hK) | (clear hK; clear hK; clear hK; (with_reducible refine hK _ _ _ ?_); clear hK) | (clear hK; clear hK; clear hK; clear hK; (with_reducible refine hK _ _ _ ?_); clear hK) | (clear hK; clear hK; clear hK; clear hK; clear hK; (with_reducible refine hK _ _ _ ?_); clear hK) | (clear hK; clear hK; clear hK; clear hK; clear hK; clear hK; (with_reducible refine hK _ _ _ ?_); clear hK) | (clear hK; clear hK; clear hK; clear hK; clear hK; clear hK; clear hK; (with_reducible refine hK _ _ _ ?_); clear hK) | (refine ⟨_, _, SubH.refl _, SubB.refl _, ?_⟩; conv => whnf) | (refine ⟨⟨SubH.refl _, SubB.refl _⟩, ?_⟩; conv => whnf) | (refine ⟨_, _, ⟨SubH.refl _, SubB.refl _⟩, SubH.refl _, SubB.refl _, ?_⟩; conv => whnf))
        have ef : l.find? (isAt e t) = some l[i] := by
          rw [List.find?_eq_some_iff_getElem]
          refine ⟨by unfold isAt; rw [decide_eq_true he, decide_eq_true hs]; rfl, i, hil, rfl, fun j hj => ?_⟩
          have := hno l[j] (List.mem_iff_getElem.2 ⟨j, by rw [List.length_take]; omega, List.getElem_take⟩)
          rw [this]; rfl
        rw [ef] at hq
        exact hq
      · rw [show ((l[i].slot : Int) == t) = false from beq_eq_false_iff_ne.2 hs]
        conv => whnf
        repeat (first | ((with_reducible refine hK _ _ _ ?_); clear hK) | (with_reducible refine seq_step fun K hK => ?_) | (with_reducible refine block_step ?_) | ((with_reducible refine cond_t ?_ ?_); focus rfl) | ((with_reducible refine cond_f ?_ ?_); focus rfl) | ((with_reducible refine code_id ?_); conv => whnf) | (clear hK; (with_reducible refine hK _ _ _ ?_); clear hK) | (clear hK; clear hK; (with_reducible refine hK _ _ _ ?_); clear hK) | (clear hK; clear hK; clear hK; (with_reducible refine hK _ _ _ ?_); clear hK) | (clear hK; clear hK; clear hK; clear hK; (with_reducible refine hK _ _ _ ?_); clear hK) | (clear hK; clear hK; clear hK; clear hK; clear hK; (with_reducible refine hK _ _ _ ?_); clear hK) | (clear hK; clear hK; clear hK; clear hK; clear hK; clear hK; (with_reducible refine hK _ _ _ ?_); clear hK) | (clear hK; clear hK; clear hK; clear hK; clear hK; clear hK; clear hK; (with_reducible refine hK _ _ _ ?_); clear hK) | (refine ⟨_, _, SubH.refl _, SubB.refl _, ?_⟩; conv => whnf) | (refine ⟨⟨SubH.refl _, SubB.refl _⟩, ?_⟩; conv => whnf) | (refine ⟨_, _, ⟨SubH.refl _, SubB.refl _⟩, SubH.refl _, SubB.refl _, ?_⟩; conv => whnf))
        exact ⟨i + 1, ⟨hil, fin0 (by unfold isAt; rw [decide_eq_false hs, Bool.and_false])⟩, by omega, subE_cons (by rw [hsl]; rfl) (subE_cons rfl (subE_cons rfl (subE_cons (int_eq hnext rfl) subE_nil))), subB_cons rfl (subB_cons rfl subB_nil), rfl⟩
    · rw [show ((l[i].env : Int) == e) = false from beq_eq_false_iff_ne.2 he]
      conv => whnf
      repeat (first | ((with_reducible refine hK _ _ _ ?_); clear hK) | (with_reducible refine seq_step fun K hK => ?_) | (with_reducible refine block_step ?_) | ((with_reducible refine cond_t ?_ ?_); focus rfl) | ((with_reducible refine cond_f ?_ ?_); focus rfl) | ((with_reducible refine code_id ?_); conv => whnf) | (clear hK; (with_reducible refine hK _ _ _ ?_); clear hK) | (clear hK; clear hK; (with_reducible refine hK _ _ _ ?_); clear hK) | (clear hK; clear hK; clear hK; (with_reducible refine hK _ _ _ ?_); clear hK) | (clear hK; clear hK; clear hK; clear hK; (with_reducible refine hK _ _ _ ?_); clear hK) | (clear hK; clear hK; clear hK; clear hK; clear hK; (with_reducible refine hK _ _ _ ?_); clear hK) | (clear hK; clear hK; clear hK; clear hK; clear hK; clear hK; (with_reducible refine hK _ _ _ ?_); clear hK) | (clear hK; clear hK; clear hK; clear hK; clear hK; clear hK; clear hK; (with_reducible refine hK _ _ _ ?_); clear hK) | (refine ⟨_, _, SubH.refl _, SubB.refl _, ?_⟩; conv => whnf) | (refine ⟨⟨SubH.refl _, SubB.refl _⟩, ?_⟩; conv => whnf) | (refine ⟨_, _, ⟨SubH.refl _, SubB.refl _⟩, SubH.refl _, SubB.refl _, ?_⟩; conv => whnf))
      exact ⟨i + 1, ⟨hil, fin0 (by unfold isAt; rw [decide_eq_false he, Bool.false_and])⟩, by omega, subE_cons (by rw [hsl]; rfl) (subE_cons rfl (subE_cons rfl (subE_cons (int_eq hnext rfl) subE_nil))), subB_cons rfl (subB_cons rfl subB_nil), rfl⟩
  · have hie : i = l.length := by omega
    rw [hie, List.take_length] at hno
    have ef : l.find? (isAt e t) = none := by
      rw [List.find?_eq_none]
      intro x hx
      rw [hno x hx]; simp
    rw [ef] at hq
    repeat (first | ((with_reducible refine hK _ _ _ ?_); clear hK) | (with_reducible refine seq_step fun K hK => ?_) | (with_reducible refine block_step ?_) | ((with_reducible refine cond_t ?_ ?_); focus rfl) | ((with_reducible refine cond_f ?_ ?_); focus rfl) | ((with_reducible refine code_id ?_); conv => whnf) | (clear hK; (with_reducible refine hK _ _ _ ?_); clear hK) | (clear hK; clear hK; (with_reducible refine hK _ _ _ ?_); clear hK) | (clear hK; clear hK; clear hK; (with_reducible refine hK _ _ _ ?_); clear hK) | (clear hK; clear hK; clear hK; clear hK; (with_reducible refine hK _ _ _ ?_); clear hK) | (clear hK; clear hK; clear hK; clear hK; clear hK; (with_reducible refine hK _ _ _ ?_); clear hK) | (clear hK; clear hK; clear hK; clear hK; clear hK; clear hK; (with_reducible refine hK _ _ _ ?_); clear hK) | (clear hK; clear hK; clear hK; clear hK; clear hK; clear hK; clear hK; (with_reducible refine hK _ _ _ ?_); clear hK))
    exact hq

set_option maxHeartbeats 1000000 in
theorem all15 (hw : WF S) (hh : Has (CapsA b S :: L) h) (hq : ∀ s h', Has (HsP s (allOf S) :: CapsA b S :: L) h' → Q s h') : Ok PR 15 [ptr b] h Q := by
  refine e15 rfl (seq_step fun K hK => ?_)
  repeat (first | ((with_reducible refine hK _ _ _ ?_); clear hK) | (with_reducible refine seq_step fun K hK => ?_) | (with_reducible refine block_step ?_) | ((with_reducible refine cond_t ?_ ?_); focus rfl) | ((with_reducible refine cond_f ?_ ?_); focus rfl) | ((with_reducible refine code_id ?_); conv => whnf) | (clear hK; (with_reducible refine hK _ _ _ ?_); clear hK) | (clear hK; clear hK; (with_reducible refine hK _ _ _ ?_); clear hK) | (clear hK; clear hK; clear hK; (with_reducible refine hK _ _ _ ?_); clear hK) | (clear hK; clear hK; clear hK; clear hK; (with_reducible refine hK _ _ _ ?_); clear hK) | (clear hK; clear hK; clear hK; clear hK; clear hK; (with_reducible refine hK _ _ _ ?_); clear hK) | (clear hK; clear hK; clear hK; clear hK; clear hK; clear hK; (with_reducible refine hK _ _ _ ?_); clear hK) | (clear hK; clear hK; clear hK; clear hK; clear hK; clear hK; clear hK; (with_reducible refine hK _ _ _ ?_); clear hK))
  refine loop_intro (σ := (Nat × Value) × Hp) (fun s => [(0, .v (ptr b)), (3, .v s.1.2), (4, .v (iv s.1.1))]) (fun _ => []) (fun s => s.2)
    (fun s => s.1.1 ≤ 16 ∧ Has (HsP s.1.2 (allTo S s.1.1) :: CapsA b S :: L) s.2) (fun s => 16 - s.1.1) ((0, .slice none 0 0), h) ⟨Nat.zero_le _, hh.nilW 6⟩
    (subE_cons rfl (subE_cons rfl (subE_cons rfl subE_nil))) subB_nil rfl ?_
  rintro ⟨⟨n, s⟩, g⟩ ⟨hn, hg⟩
  dsimp only at hn hg ⊢
  have hnext : IntKind.i64.wrap ((n : Int) + 1) = ((n + 1 : Nat) : Int) := wrap_nat (by omega)
  have hle := allTo_le S n
  have hle2 := lsOf_le S n
  repeat (first | ((with_reducible refine hK _ _ _ ?_); clear hK) | (with_reducible refine seq_step fun K hK => ?_) | (with_reducible refine block_step ?_) | ((with_reducible refine cond_t ?_ ?_); focus rfl) | ((with_reducible refine cond_f ?_ ?_); focus rfl) | ((with_reducible refine code_id ?_); conv => whnf) | (clear hK; (with_reducible refine hK _ _ _ ?_); clear hK) | (clear hK; clear hK; (with_reducible refine hK _ _ _ ?_); clear hK) | (clear hK; clear hK; clear hK; (with_reducible refine hK _ _ _ ?_); clear hK) | (clear hK; clear hK; clear hK; clear hK; (with_reducible refine hK _ _ _ ?_); clear hK) | (clear hK; clear hK; clear hK; clear hK; clear hK; (with_reducible refine hK _ _ _ ?_); clear hK) | (clear hK; clear hK; clear hK; clear hK; clear hK; clear hK; (with_reducible refine hK _ _ _ ?_); clear hK) | (clear hK; clear hK; clear hK; clear hK; clear hK; clear hK; clear hK; (with_reducible refine hK _ _ _ ?_); clear hK))
  refine cond_dec (fun hlt => ?_) (fun hge => ?_)
  · have hn16 : n < 16 := by omega
    have fin : ∀ (m : Value) (g' : Hp) (K' : Ent → Hp → Prop), Has (HsP m (lsOf S n) :: HsP s (allTo S n) :: CapsA b S :: L) g' → (∀ s2 g2, Has (HsP s2 (allTo S (n + 1)) :: CapsA b S :: L) g2 → K' (.v s2) g2) → appK [.int .i64 0, .int .i64 0, .int .i64 0, .int .i64 0, .int .i64 0, .int .i64 0] 49 48 g' (.v s) (.v m) K' := fun m g' K' hg' hK' => by
      refine app_hasW (z := [.int .i64 0, .int .i64 0, .int .i64 0, .int .i64 0, .int .i64 0, .int .i64 0]) hg' 1 rfl (hg'.wn 0 rfl) (hd_one _) (by omega) fun s2 g2 hg2 => hK' s2 g2 ?_
      have h3 := hg2.tail
      rw [allTo_succ]
      show Has (WnP 6 s2 (allTo S n ++ lsOf S n).length ((allTo S n ++ lsOf S n).flatMap hdC) :: CapsA b S :: L) g2
      rw [List.length_append, List.flatMap_append]
      exact h3
    repeat (first | ((with_reducible refine hK _ _ _ ?_); clear hK) | (with_reducible refine seq_step fun K hK => ?_) | (with_reducible refine block_step ?_) | ((with_reducible refine cond_t ?_ ?_); focus rfl) | ((with_reducible refine cond_f ?_ ?_); focus rfl) | ((with_reducible refine code_id ?_); conv => whnf) | (clear hK; (with_reducible refine hK _ _ _ ?_); clear hK) | (clear hK; clear hK; (with_reducible refine hK _ _ _ ?_); clear hK) | (clear hK; clear hK; clear hK; (with_reducible refine hK _ _ _ ?_); clear hK) | (clear hK; clear hK; clear hK; clear hK; (with_reducible refine hK _ _ _ ?_); clear hK) | (clear hK; clear hK; clear hK; clear hK; clear hK; (with_reducible refine hK _ _ _ ?_); clear hK) | (clear hK; clear hK; clear hK; clear hK; clear hK; clear hK; (with_reducible refine hK _ _ _ ?_); clear hK) | (clear hK; clear hK; clear hK; clear hK; clear hK; clear hK; clear hK; (with_reducible refine hK _ _ _ ?_); clear hK))
    refine list23 hw hg.swap n (fun hno => ?_) (fun n' he hop m g2 hg2 => ?_)
    · have hnil := lsOf_closed hw hno
      conv => whnf
      repeat (first | ((with_reducible refine hK _ _ _ ?_); clear hK) | (with_reducible refine seq_step fun K hK => ?_) | (with_reducible refine block_step ?_) | ((with_reducible refine cond_t ?_ ?_); focus rfl) | ((with_reducible refine cond_f ?_ ?_); focus rfl) | ((with_reducible refine code_id ?_); conv => whnf) | (clear hK; (with_reducible refine hK _ _ _ ?_); clear hK) | (clear hK; clear hK; (with_reducible refine hK _ _ _ ?_); clear hK) | (clear hK; clear hK; clear hK; (with_reducible refine hK _ _ _ ?_); clear hK) | (clear hK; clear hK; clear hK; clear hK; (with_reducible refine hK _ _ _ ?_); clear hK) | (clear hK; clear hK; clear hK; clear hK; clear hK; (with_reducible refine hK _ _ _ ?_); clear hK) | (clear hK; clear hK; clear hK; clear hK; clear hK; clear hK; (with_reducible refine hK _ _ _ ?_); clear hK) | (clear hK; clear hK; clear hK; clear hK; clear hK; clear hK; clear hK; (with_reducible refine hK _ _ _ ?_); clear hK))
      refine fin _ g _ (by rw [hnil]; exact hg.nilW 6) fun s2 g2 hg2 => ?_
      conv => whnf
      repeat (first | ((with_reducible refine hK _ _ _ ?_); clear hK) | (with_reducible refine seq_step fun K hK => ?_) | (with_reducible refine block_step ?_) | ((with_reducible refine cond_t ?_ ?_); focus rfl) | ((with_reducible refine cond_f ?_ ?_); focus rfl) | ((with_reducible refine code_id ?_); conv => whnf) | (clear hK; (with_reducible refine hK _ _ _ ?_); clear hK) | (clear hK; clear hK; (with_reducible refine hK _ _ _ ?_); clear hK) | (clear hK; clear hK; clear hK; (with_reducible refine hK _ _ _ ?_); clear hK) | (clear hK; clear hK; clear hK; clear hK; (with_reducible refine hK _ _ _ ?_); clear hK) | (clear hK; clear hK; clear hK; clear hK; clear hK; (with_reducible refine hK _ _ _ ?_); clear hK) | (clear hK; clear hK; clear hK; clear hK; clear hK; clear hK; (with_reducible refine hK _ _ _ ?_); clear hK) | (clear hK; clear hK; clear hK; clear hK; clear hK; clear hK; clear hK; (with_reducible refine hK _ _ _ ?_); clear hK))
      exact ⟨((n + 1, s2), g2), ⟨hn16, hg2⟩, by dsimp only; omega, subE_cons rfl (subE_cons rfl (subE_cons (int_eq hnext rfl) subE_nil)), subB_nil, rfl⟩
    · obtain rfl : n = n' := by omega
      conv => whnf
      repeat (first | ((with_reducible refine hK _ _ _ ?_); clear hK) | (with_reducible refine seq_step fun K hK => ?_) | (with_reducible refine block_step ?_) | ((with_reducible refine cond_t ?_ ?_); focus rfl) | ((with_reducible refine cond_f ?_ ?_); focus rfl) | ((with_reducible refine code_id ?_); conv => whnf) | (clear hK; (with_reducible refine hK _ _ _ ?_); clear hK) | (clear hK; clear hK; (with_reducible refine hK _ _ _ ?_); clear hK) | (clear hK; clear hK; clear hK; (with_reducible refine hK _ _ _ ?_); clear hK) | (clear hK; clear hK; clear hK; clear hK; (with_reducible refine hK _ _ _ ?_); clear hK) | (clear hK; clear hK; clear hK; clear hK; clear hK; (with_reducible refine hK _ _ _ ?_); clear hK) | (clear hK; clear hK; clear hK; clear hK; clear hK; clear hK; (with_reducible refine hK _ _ _ ?_); clear hK) | (clear hK; clear hK; clear hK; clear hK; clear hK; clear hK; clear hK; (with_reducible refine hK _ _ _ ?_); clear hK))
      refine fin m g2 _ (hg2.map_tail fun g hg => hg.swap) fun s2 g3 hg3 => ?_
      conv => whnf
      repeat (first | ((with_reducible refine hK _ _ _ ?_); clear hK) | (with_reducible refine seq_step fun K hK => ?_) | (with_reducible refine block_step ?_) | ((with_reducible refine cond_t ?_ ?_); focus rfl) | ((with_reducible refine cond_f ?_ ?_); focus rfl) | ((with_reducible refine code_id ?_); conv => whnf) | (clear hK; (with_reducible refine hK _ _ _ ?_); clear hK) | (clear hK; clear hK; (with_reducible refine hK _ _ _ ?_); clear hK) | (clear hK; clear hK; clear hK; (with_reducible refine hK _ _ _ ?_); clear hK) | (clear hK; clear hK; clear hK; clear hK; (with_reducible refine hK _ _ _ ?_); clear hK) | (clear hK; clear hK; clear hK; clear hK; clear hK; (with_reducible refine hK _ _ _ ?_); clear hK) | (clear hK; clear hK; clear hK; clear hK; clear hK; clear hK; (with_reducible refine hK _ _ _ ?_); clear hK) | (clear hK; clear hK; clear hK; clear hK; clear hK; clear hK; clear hK; (with_reducible refine hK _ _ _ ?_); clear hK))
      exact ⟨((n + 1, s2), g3), ⟨hn16, hg3⟩, by dsimp only; omega, subE_cons rfl (subE_cons rfl (subE_cons (int_eq hnext rfl) subE_nil)), subB_nil, rfl⟩
  · have hn16 : n = 16 := by omega
    rw [hn16] at hg
    repeat (first | ((with_reducible refine hK _ _ _ ?_); clear hK) | (with_reducible refine seq_step fun K hK => ?_) | (with_reducible refine block_step ?_) | ((with_reducible refine cond_t ?_ ?_); focus rfl) | ((with_reducible refine cond_f ?_ ?_); focus rfl) | ((with_reducible refine code_id ?_); conv => whnf) | (clear hK; (with_reducible refine hK _ _ _ ?_); clear hK) | (clear hK; clear hK; (with_reducible refine hK _ _ _ ?_); clear hK) | (clear hK; clear hK; clear hK; (with_reducible refine hK _ _ _ ?_); clear hK) | (clear hK; clear hK; clear hK; clear hK; (with_reducible refine hK _ _ _ ?_); clear hK) | (clear hK; clear hK; clear hK; clear hK; clear hK; (with_reducible refine hK _ _ _ ?_); clear hK) | (clear hK; clear hK; clear hK; clear hK; clear hK; clear hK; (with_reducible refine hK _ _ _ ?_); clear hK) | (clear hK; clear hK; clear hK; clear hK; clear hK; clear hK; clear hK; (with_reducible refine hK _ _ _ ?_); clear hK))
    exact hq s _ hg
end
end Go.Proofs.YthpkgkoojhgedaaDoor.V
