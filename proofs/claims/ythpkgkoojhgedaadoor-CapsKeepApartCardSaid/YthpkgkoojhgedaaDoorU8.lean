/- Local boxes at a place; equality of rows of plain values. -/
import Derived.Test.YthpkgkoojhgedaaDoorU7
namespace Go.Proofs.YthpkgkoojhgedaaDoor.V
set_option linter.unusedVariables false
set_option linter.unusedSimpArgs false
set_option linter.unusedSectionVars false
set_option linter.unusedSectionVars false
open Go

theorem opt_ldLo {r o sz : Nat} {ag : Bool} {β : Bx} {cs : List Value} {v : Value} {K : Ent → Prop} (hl : lookB β r = some cs) (hv : rd cs.toArray o sz ag = some v) (hk : K (.v v)) : optK (pLd sz ag (fun _ => none) β (.l r o)) K := by
  simp only [pLd, hl, ldL, hv, toE, optK]
  exact hk

theorem opt_stLo {g : Hp} {r o sz : Nat} {β : Bx} {x : Value} {c c' : List Value} {K : Hp × Bx → Prop} (hl : lookB β r = some c) (h1 : x.cells.size = sz) (ho : o + sz ≤ c.length) (h4 : x.cells.toList.all one = true) (hc : wrL c o x.cells.toList = c')
    (hk : K (g, (r, c') :: β)) : optK (pSt sz g β (.l r o) (.v x)) K := by
  simp only [pSt, stL, hl]
  rw [if_pos ⟨h1, ho, h4⟩]
  simp only [optK]
  rw [wrF_eq (by simp [h1]; omega), hc]
  exact hk

theorem ret_cl {Q : Value → Hp → Prop} {ρ : Env} {β : Bx} {h : Hp} {n sz r o : Nat} {ag : Bool} {cs : List Value} {v : Value} (hl : look ρ n = some (.l r o)) (hb : lookB β r = some cs) (hv : rd cs.toArray o sz ag = some v) (hk : Q v h) : retK Q [.c n sz ag] ρ β h := by
  simp only [retK, rvs, rv, hl, pLd, hb, ldL, hv, toE, one1]
  exact hk

theorem rd_all {cs : List Value} {n : Nat} (h : cs.length = n) : rd cs.toArray 0 n true = some (.agg cs.toArray) := by
  simp only [rd, if_true]
  rw [if_pos (by simp; omega)]
  simp only [sub, List.drop_zero]
  rw [List.take_of_length_le (Nat.le_of_eq h)]

theorem SubB.new {β : Bx} {r : Nat} {cs : List Value} (h : lookB β r = none) : SubB β ((r, cs) :: β) := fun s ds hs => by
  simp only [lookB]
  split
  · rename_i e; subst e; rw [h] at hs; cases hs
  · exact hs

/-- Two values of one plain kind. -/
def alike : EqS → Value → Value → Bool
  | .b, .bool _, .bool _ => true
  | .i, .int k _, .int k' _ => decide (k = k')
  | _, _, _ => false

theorem alike_eq {h : Hp} {e : EqS} {x y : Value} (ha : alike e x y = true) : ∃ r, eqS h e x y = some r ∧ (r = true ↔ x = y) := by
  unfold alike at ha
  split at ha
  · rename_i a b
    exact ⟨a == b, rfl, by simp⟩
  · rename_i k a k' b
    have hk : k = k' := of_decide_eq_true ha
    subst hk
    refine ⟨a == b, by simp [eqS], by simp⟩
  · cases ha

def enumE : Nat → List EqS → List (Nat × EqS)
  | _, [] => []
  | o, e :: es => (o, e) :: enumE (o + 1) es

theorem eqL_enum {h : Hp} {X Y : List Value} : ∀ (es : List EqS) (o : Nat), X.length = o + es.length → Y.length = o + es.length → (∀ j e, es[j]? = some e → ∃ x y, X[o + j]? = some x ∧ Y[o + j]? = some y ∧ alike e x y = true) →
    ∃ r, eqL h X.toArray Y.toArray (enumE o es) = some r ∧ (r = true ↔ X.drop o = Y.drop o)
  | [], o, h1, h2, _ => ⟨true, rfl, by rw [List.drop_of_length_le (by simp at h1; omega), List.drop_of_length_le (by simp at h2; omega)]; simp⟩
  | e :: es, o, h1, h2, h3 => by
    simp only [List.length_cons] at h1 h2
    obtain ⟨x, y, hx, hy, ha⟩ := h3 0 e rfl
    obtain ⟨r1, hr1, hr2⟩ := alike_eq (h := h) ha
    obtain ⟨r2, hr3, hr4⟩ := eqL_enum (h := h) (X := X) (Y := Y) es (o + 1) (by omega) (by omega) fun j e' hj => by
      have := h3 (j + 1) e' (by simpa using hj)
      rwa [show o + (j + 1) = o + 1 + j by omega] at this
    refine ⟨r1 && r2, ?_, ?_⟩
    · simp only [Nat.add_zero] at hx hy
      simp only [enumE, eqL, List.getElem?_toArray, hx, hy, hr1, hr3]
    · simp only [Nat.add_zero] at hx hy
      have ex : X.drop o = x :: X.drop (o + 1) := by
        obtain ⟨hlt, hv⟩ := List.getElem?_eq_some_iff.1 hx
        rw [List.drop_eq_getElem_cons hlt, hv]
      have ey : Y.drop o = y :: Y.drop (o + 1) := by
        obtain ⟨hlt, hv⟩ := List.getElem?_eq_some_iff.1 hy
        rw [List.drop_eq_getElem_cons hlt, hv]
      rw [ex, ey, Bool.and_eq_true, hr2, hr4, List.cons.injEq]

/-- Rows of plain values, compared. -/
theorem opt_eqag {h : Hp} {β : Bx} {neg : Bool} {L : List (Nat × EqS)} {X Y : List Value} (es : List EqS) (hL : L = enumE 0 es) (h1 : X.length = es.length) (h2 : Y.length = es.length) (h3 : ∀ (j : Nat) (e : EqS), es[j]? = some e → ∃ x y : Value, X[j]? = some x ∧ Y[j]? = some y ∧ alike e x y = true) {b : Bool} (hb : b = true ↔ X = Y)
    {K : Ent → Prop} (hk : K (.v (.bool (if neg then !b else b)))) : optK (prv h β (.eq neg (.ag L)) [.v (.agg X.toArray), .v (.agg Y.toArray)]) K := by
  obtain ⟨r, hr, hr2⟩ := eqL_enum (h := h) (X := X) (Y := Y) es 0 (by omega) (by omega) (fun j e hj => by have := h3 j e hj; rwa [Nat.zero_add])
  subst hL
  have e : r = b := by
    rw [List.drop_zero, List.drop_zero] at hr2
    cases r <;> cases b <;> simp_all
  subst e
  refine opt_some (x := .v (.bool (if neg then !r else r))) ?_ hk
  simp only [prv, pEq, eqV, hr]

/-- Rows of plain values by their kinds. -/
def kd : Value → EqS × Option IntKind
  | .bool _ => (.b, none)
  | .int k _ => (.i, some k)
  | _ => (.s, none)
def plainK (k : EqS × Option IntKind) : Bool := match k with
  | (.b, none) => true
  | (.i, some _) => true
  | _ => false

theorem alike_kd {k : EqS × Option IntKind} {x y : Value} (hk : plainK k = true) (hx : kd x = k) (hy : kd y = k) : alike k.1 x y = true := by
  subst hx
  cases x <;> simp [kd, plainK] at hk hy ⊢ <;> cases y <;> simp [kd] at hy ⊢ <;> simp_all [alike]

theorem opt_eqkd {h : Hp} {β : Bx} {neg : Bool} {L : List (Nat × EqS)} {X Y : List Value} (KK : List (EqS × Option IntKind)) (hL : L = enumE 0 (KK.map (·.1))) (hp : KK.all plainK = true) (h1 : X.map kd = KK) (h2 : Y.map kd = KK) {b : Bool} (hb : b = true ↔ X = Y)
    {K : Ent → Prop} (hk : K (.v (.bool (if neg then !b else b)))) : optK (prv h β (.eq neg (.ag L)) [.v (.agg X.toArray), .v (.agg Y.toArray)]) K := by
  have lX : X.length = KK.length := by rw [← h1, List.length_map]
  have lY : Y.length = KK.length := by rw [← h2, List.length_map]
  refine opt_eqag (KK.map (·.1)) hL (by rw [List.length_map]; exact lX) (by rw [List.length_map]; exact lY) (fun j e he => ?_) hb hk
  rw [List.getElem?_map] at he
  obtain ⟨k, hk, rfl⟩ := Option.map_eq_some_iff.1 he
  have hj := (List.getElem?_eq_some_iff.1 hk).1
  have gx : (X.map kd)[j]? = some k := by rw [h1]; exact hk
  have gy : (Y.map kd)[j]? = some k := by rw [h2]; exact hk
  rw [List.getElem?_map] at gx gy
  obtain ⟨x, ex, kx⟩ := Option.map_eq_some_iff.1 gx
  obtain ⟨y, ey, ky⟩ := Option.map_eq_some_iff.1 gy
  refine ⟨x, y, ex, ey, alike_kd ?_ kx ky⟩
  exact List.all_eq_true.1 hp k (List.mem_of_getElem? hk)

end Go.Proofs.YthpkgkoojhgedaaDoor.V
