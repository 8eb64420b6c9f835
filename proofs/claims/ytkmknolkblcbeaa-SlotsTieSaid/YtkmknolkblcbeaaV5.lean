/- Equality of structs and arrays, part by part; and the looks, each as the program's own operation. -/
import Derived.Test.YtkmknolkblcbeaaV4
import Derived.ChangeKeysEq
namespace Go.Proofs.Ytkmknolkblcbeaa.V
set_option linter.unusedSectionVars false
set_option linter.unusedVariables false
set_option linter.unusedSimpArgs false
open Go

section
variable {P : Program} {w : World} {h : Hp} {f : Fm} {B : Nat → Nat} {β : Bx}

theorem eqL_append {xs ys : Array Value} {r : Bool} : ∀ {l1 l2 : List (Nat × EqS)}, eqL h xs ys (l1 ++ l2) = some r →
    ∃ a b, eqL h xs ys l1 = some a ∧ eqL h xs ys l2 = some b ∧ r = (a && b)
  | [], l2, he => ⟨true, r, rfl, he, by simp⟩
  | (o, e) :: l1, l2, he => by
    simp only [List.cons_append, eqL] at he
    split at he
    · rename_i x y hx hy
      split at he
      · rename_i a b ha hb
        cases he
        obtain ⟨c, d, hc, hd, rfl⟩ := eqL_append hb
        exact ⟨a && c, d, by simp [eqL, hx, hy, ha, hc], hd, by simp [Bool.and_assoc]⟩
      · cases he
    · cases he

/-- x is the value of type t that lies at 'off' in X. -/
def AtX (P : Program) (X : Array Value) (off sz : Nat) (t : TypeId) (x : Value) : Prop :=
  if isAg P t then ∃ xs, x = .agg xs ∧ ∀ k, k < sz → xs[k]? = X[off + k]? else X[off]? = some x

theorem allSome_cons {α β : Type} {f : α → Option (List β)} {x : α} {xs : List α} {l : List β} (h : allSome f (x :: xs) = some l) :
    ∃ a b, f x = some a ∧ allSome f xs = some b ∧ l = a ++ b := by
  simp only [allSome] at h
  split at h
  · rename_i a b ha hb; cases h; exact ⟨a, b, ha, hb, rfl⟩
  · cases h

theorem part_at {t : TypeId} {d : TypeDesc} {X xs : Array Value} {off o sz : Nat} (hd : P.underlying t = some d) (hi : (P.info? t).isSome = true)
    (hxs : ∀ k, k < sz → xs[k]? = X[off + k]?) (ho : o + P.cellsOf t ≤ sz) (hx : isAg P t = false → P.cellsOf t ≠ 0 ∧ (X[off + o]?).isSome = true) :
    ∃ x, (part t xs o).run P w = .ok x w ∧ AtX P X (off + o) (P.cellsOf t) t x := by
  cases ha : isAg P t with
  | true =>
    refine ⟨_, run_part' hd hi (v := .agg (xs.extract o (o + P.cellsOf t))) (by simp [ha]), ?_⟩
    simp only [AtX, ha, if_true]
    refine ⟨_, rfl, fun k hk => ?_⟩
    rw [Array.getElem?_extract]
    have h1 : xs[o + k]? = X[off + o + k]? := by rw [hxs (o + k) (by omega), Nat.add_assoc]
    split
    · exact h1
    · rename_i hlt
      rw [← h1, Array.getElem?_eq_none]
      omega
  | false =>
    obtain ⟨hc, hs⟩ := hx ha
    obtain ⟨x, hx⟩ := Option.isSome_iff_exists.1 hs
    refine ⟨x, run_part' hd hi (v := x) (by simp only [ha, Bool.false_eq_true, if_false]; rw [hxs o (by omega)]; exact hx), ?_⟩
    simp [AtX, ha, hx]

theorem sc_info {t : TypeId} {e : EqS} (hs : sc P t = some e) : isAg P t = false := by
  have := sc_inv hs
  unfold isAg
  cases e <;> simp only at this
  · rw [this]
  · obtain ⟨_, h⟩ := this; rw [h]
  · rw [this]
  · obtain ⟨_, h, _⟩ := this; rw [h]
  · obtain ⟨_, h⟩ := this; rw [h]
  · obtain ⟨_, _, h⟩ := this; rw [h]
  · obtain ⟨_, _, _, h⟩ := this; rw [h]

theorem sc_und {t : TypeId} {e : EqS} (hs : sc P t = some e) : ∃ d, P.underlying t = some d := by
  unfold sc at hs
  split at hs <;> first | exact ⟨_, by assumption⟩ | cases hs

/-- What flat finds: the type is known; a type without parts has its one cell there. -/
theorem flat_known {d : Nat} {t : TypeId} {off sz : Nat} {l : List (Nat × EqS)} (hf : flat P d t off sz = some l) : ∃ u, P.underlying t = some u := by
  cases d with
  | zero => cases hf
  | succ d =>
    simp only [flat] at hf
    cases hu : P.underlying t with
    | some u => exact ⟨u, rfl⟩
    | none => simp [hu, sc] at hf

theorem flat_one {d : Nat} {t : TypeId} {off sz : Nat} {l : List (Nat × EqS)} (hf : flat P d t off sz = some l) (ha : isAg P t = false) :
    sz ≠ 0 ∧ ∃ e, sc P t = some e ∧ l = [(off, e)] := by
  cases d with
  | zero => cases hf
  | succ d =>
    simp only [flat] at hf
    split at hf
    · rename_i hu; simp [isAg, hu] at ha
    · rename_i hu; simp [isAg, hu] at ha
    · split at hf
      · cases hf
      · rename_i hz
        split at hf
        · rename_i e he; cases hf; exact ⟨hz, e, he, rfl⟩
        · cases hf

theorem eqL_single {X Y : Array Value} {off : Nat} {e : EqS} {r : Bool} (he : eqL h X Y [(off, e)] = some r) :
    ∃ x y, X[off]? = some x ∧ Y[off]? = some y ∧ eqS h e x y = some r := by
  simp only [eqL] at he
  split at he
  · rename_i x y hx hy
    split at he
    · rename_i a b ha hb
      cases hb; cases he
      exact ⟨x, y, hx, hy, by simpa using ha⟩
    · cases he
  · cases he

theorem und_info {t : TypeId} {u : TypeDesc} (hu : P.underlying t = some u) : (P.info? t).isSome = true := by
  cases hi : P.info? t with
  | some i => rfl
  | none => simp [Program.underlying, hi] at hu

theorem flat_run (hr : Rep w h f) : ∀ (d D : Nat) (t : TypeId) (off sz : Nat) (l : List (Nat × EqS)) (X Y : Array Value) (x y : Value) (r : Bool),
    flat P d t off sz = some l → eqL h X Y l = some r → AtX P X off sz t x → AtX P Y off sz t y → (Op.equalIn (d + D) t x y).run P w = .ok r w
  | 0, _, _, _, _, _, _, _, _, _, _, hf, _, _, _ => by cases hf
  | d + 1, D, t, off, sz, l, X, Y, x, y, r, hf, he, hx, hy => by
    have step : ∀ (u : TypeId) (o : Nat) (l' : List (Nat × EqS)) (xs ys : Array Value) (b : Bool), (∀ k, k < sz → xs[k]? = X[off + k]?) → (∀ k, k < sz → ys[k]? = Y[off + k]?) →
        o + P.cellsOf u ≤ sz → flat P d u (off + o) (P.cellsOf u) = some l' → eqL h X Y l' = some b →
        ∃ x y, (part u xs o).run P w = .ok x w ∧ (part u ys o).run P w = .ok y w ∧ (Op.equalIn (d + D) u x y).run P w = .ok b w := by
      intro u o l' xs ys b hxs hys ho hf' he'
      obtain ⟨du, hdu⟩ := flat_known hf'
      have hone : isAg P u = false → P.cellsOf u ≠ 0 ∧ (X[off + o]?).isSome = true ∧ (Y[off + o]?).isSome = true := fun ha => by
        obtain ⟨hz, e, _, rfl⟩ := flat_one hf' ha
        obtain ⟨x, y, h1, h2, _⟩ := eqL_single he'
        exact ⟨hz, by simp [h1], by simp [h2]⟩
      obtain ⟨x, p1, a1⟩ := part_at (w := w) hdu (und_info hdu) hxs ho (fun ha => ⟨(hone ha).1, (hone ha).2.1⟩)
      obtain ⟨y, p2, a2⟩ := part_at (w := w) hdu (und_info hdu) hys ho (fun ha => ⟨(hone ha).1, (hone ha).2.2⟩)
      exact ⟨x, y, p1, p2, flat_run hr d D u (off + o) (P.cellsOf u) l' X Y x y b hf' he' a1 a2⟩
    have hdD : d + 1 + D = (d + D) + 1 := by omega
    simp only [flat] at hf
    split at hf
    · rename_i fs hu
      split at hf
      · cases hf
      · rename_i hst
        have hag : isAg P t = true := by simp [isAg, hu]
        simp only [AtX, hag, if_true] at hx hy
        obtain ⟨xs, rfl, hxs⟩ := hx
        obtain ⟨ys, rfl, hys⟩ := hy
        rw [hdD, run_equalIn_struct w (d + D) t xs ys (by simp [Program.fieldsOf, hu]) (by simpa using hst)]
        have hfs : P.fieldsOf t = fs := by simp [Program.fieldsOf, hu]
        rw [hfs]
        generalize fs.toList = L at hf
        clear hu hfs
        induction L generalizing l r with
        | nil => simp only [allSome, Option.some.injEq] at hf; subst hf; simp only [eqL, Option.some.injEq] at he; subst he; simp [Op.eqFields]
        | cons fl L ih =>
          obtain ⟨l1, l2, h1, h2, rfl⟩ := allSome_cons hf
          obtain ⟨a, b, ha, hb, rfl⟩ := eqL_append he
          split at h1
          · cases h1
          · rename_i hc
            simp only [Bool.or_eq_true, decide_eq_true_eq, not_or] at hc
            obtain ⟨x, y, p1, p2, p3⟩ := step fl.type fl.offset l1 xs ys a hxs hys (by omega) h1 ha
            simp only [Op.eqFields, ne_eq, hc.1, not_false_eq_true, if_true, Sem.run_bind, p1, p2, p3, Result.andThen_ok]
            have := ih l2 b hb h2
            cases a
            · simp
            · simpa using this
    · rename_i n e hu
      split at hf
      · cases hf
      · rename_i hi
        obtain ⟨i, hi⟩ := Option.isSome_iff_exists.1 (by cases hx : P.info? e with | none => simp [hx] at hi | some i => rfl : (P.info? e).isSome = true)
        have hag : isAg P t = true := by simp [isAg, hu]
        simp only [AtX, hag, if_true] at hx hy
        obtain ⟨xs, rfl, hxs⟩ := hx
        obtain ⟨ys, rfl, hys⟩ := hy
        rw [hdD, run_equalIn_array w (d + D) xs ys hu hi]
        generalize List.range n = L at hf
        clear hu
        induction L generalizing l r with
        | nil => simp only [allSome, Option.some.injEq] at hf; subst hf; simp only [eqL, Option.some.injEq] at he; subst he; simp [Op.eqItems]
        | cons k L ih =>
          obtain ⟨l1, l2, h1, h2, rfl⟩ := allSome_cons hf
          obtain ⟨a, b, ha, hb, rfl⟩ := eqL_append he
          split at h1
          · cases h1
          · rename_i hc
            obtain ⟨x, y, p1, p2, p3⟩ := step e (k * P.cellsOf e) l1 xs ys a hxs hys (by omega) h1 ha
            simp only [Op.eqItems, Sem.run_bind, p1, p2, p3, Result.andThen_ok]
            have := ih l2 b hb h2
            cases a
            · simp
            · simpa using this
    · split at hf
      · cases hf
      · rename_i hz
        split at hf
        · rename_i e hs
          cases hf
          obtain ⟨x', y', h1, h2, h3⟩ := eqL_single he
          have hag := sc_info hs
          simp only [AtX, hag, Bool.false_eq_true, if_false] at hx hy
          rw [hx] at h1; rw [hy] at h2; cases h1; cases h2
          rw [hdD]; exact eqS_run hr hs h3
        · cases hf

theorem eqT_run {t : TypeId} {e : EqT} {x y : Value} {r : Bool} (hr : Rep w h f) (ht : eqT P t = some e) (he : eqV h e x y = some r) : (Op.equal t x y).run P w = .ok r w := by
  unfold eqT at ht
  split at ht
  · rename_i hag
    split at ht
    · cases ht
    · cases hf : flat P 40 t 0 (P.cellsOf t) with
      | none => simp [hf] at ht
      | some l =>
        simp only [hf, Option.map_some, Option.some.injEq] at ht
        subst ht
        unfold eqV at he
        split at he <;> try (cases he; done)
        · rename_i hc; cases hc
        · rename_i l' xs ys hc
          cases hc
          exact flat_run hr 40 9960 t 0 (P.cellsOf t) l xs ys _ _ r hf he (by simp [AtX, hag]) (by simp [AtX, hag])
  · cases hs : sc P t with
    | none => simp [hs] at ht
    | some s1 =>
      simp only [hs, Option.map_some, Option.some.injEq] at ht
      subst ht
      exact eqS_run (d := 9999) hr hs he

theorem eqGuard_run {op : BinOp} {t : TypeId} {e : EqT} {x y : Operand} {a b : Value} {r : Bool} (ht : eqT P t = some e) (he : eqV h e a b = some r) : (eqGuard op t x y a b).run P w = .ok () w := by
  unfold eqT at ht
  split at ht
  · split at ht
    · cases ht
    · rename_i hg
      cases hf : flat P 40 t 0 (P.cellsOf t) with
      | none => simp [hf] at ht
      | some l =>
        simp only [hf, Option.map_some, Option.some.injEq] at ht
        subst ht
        unfold eqV at he
        split at he <;> try (cases he; done)
        · rename_i hc; cases hc
        · exact run_eqGuard_agg w op t x y _ _ (by simpa using hg)
  · cases hs : sc P t with
    | none => simp [hs] at ht
    | some s1 =>
      simp only [hs, Option.map_some, Option.some.injEq] at ht
      subst ht
      simp only [eqV] at he
      unfold eqS at he
      split at he <;> first | (cases he; done) | (cases op <;> simp [eqGuard])

end

end Go.Proofs.Ytkmknolkblcbeaa.V
