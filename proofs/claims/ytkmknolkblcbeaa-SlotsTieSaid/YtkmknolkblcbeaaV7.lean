/- Maps: looking a key up, and what the model does for it. -/
import Derived.Test.YtkmknolkblcbeaaV6
namespace Go.Proofs.Ytkmknolkblcbeaa.V
set_option linter.unusedSectionVars false
set_option linter.unusedVariables false
set_option linter.unusedSimpArgs false
open Go

section
variable {P : Program} {w : World} {h : Hp} {f : Fm} {B : Nat → Nat} {β : Bx} {ρ : Operand → Value}

theorem chk_sc {t : TypeId} {e : EqS} {x : Value} {b : Bool} {d : Nat} (ht : sc P t = some e) : (Instr.checkKey b (d + 1) t x).run P w = .ok () w := by
  have hi := sc_inv ht
  cases e <;> simp only at hi
  · simp [Instr.checkKey, run_underlying' hi]
  · obtain ⟨k, hi⟩ := hi; simp [Instr.checkKey, run_underlying' hi]
  · simp [Instr.checkKey, run_underlying' hi]
  · obtain ⟨k, hi, _⟩ := hi; simp [Instr.checkKey, run_underlying' hi]
  · obtain ⟨k, hi⟩ := hi; simp [Instr.checkKey, run_underlying' hi]
  · obtain ⟨k, l, hi⟩ := hi; simp [Instr.checkKey, run_underlying' hi]
  · obtain ⟨k, l, m, hi⟩ := hi; simp [Instr.checkKey, run_underlying' hi]

theorem chk_flat : ∀ (d D : Nat) (t : TypeId) (off sz : Nat) (l : List (Nat × EqS)) (X : Array Value) (x : Value) (r b : Bool),
    flat P d t off sz = some l → eqL h X X l = some r → AtX P X off sz t x → (Instr.checkKey b (d + D) t x).run P w = .ok () w
  | 0, _, _, _, _, _, _, _, _, _, hf, _, _ => by cases hf
  | d + 1, D, t, off, sz, l, X, x, r, b, hf, he, hx => by
    have step : ∀ (u : TypeId) (o : Nat) (l' : List (Nat × EqS)) (xs : Array Value) (q : Bool), (∀ k, k < sz → xs[k]? = X[off + k]?) →
        o + P.cellsOf u ≤ sz → flat P d u (off + o) (P.cellsOf u) = some l' → eqL h X X l' = some q →
        ∃ x, (part u xs o).run P w = .ok x w ∧ (Instr.checkKey b (d + D) u x).run P w = .ok () w := by
      intro u o l' xs q hxs ho hf' he'
      obtain ⟨du, hdu⟩ := flat_known hf'
      have hone : isAg P u = false → P.cellsOf u ≠ 0 ∧ (X[off + o]?).isSome = true := fun ha => by
        obtain ⟨hz, e, _, rfl⟩ := flat_one hf' ha
        obtain ⟨x, y, h1, h2, _⟩ := eqL_single he'
        exact ⟨hz, by simp [h1]⟩
      obtain ⟨x, p1, a1⟩ := part_at (w := w) hdu (und_info hdu) hxs ho hone
      exact ⟨x, p1, chk_flat d D u (off + o) (P.cellsOf u) l' X x q b hf' he' a1⟩
    have hdD : d + 1 + D = (d + D) + 1 := by omega
    simp only [flat] at hf
    split at hf
    · rename_i fs hu
      split at hf
      · cases hf
      · have hag : isAg P t = true := by simp [isAg, hu]
        simp only [AtX, hag, if_true] at hx
        obtain ⟨xs, rfl, hxs⟩ := hx
        rw [hdD]
        simp only [Instr.checkKey, Sem.run_bind, run_underlying' hu, Result.andThen_ok]
        rw [← Array.forIn_toList]
        generalize fs.toList = L at hf
        clear hu
        induction L generalizing l r with
        | nil => simp
        | cons fl L ih =>
          obtain ⟨l1, l2, h1, h2, rfl⟩ := allSome_cons hf
          obtain ⟨a, c, ha, hc', rfl⟩ := eqL_append he
          split at h1
          · cases h1
          · rename_i hc
            simp only [Bool.or_eq_true, decide_eq_true_eq, not_or] at hc
            obtain ⟨x, p1, p3⟩ := step fl.type fl.offset l1 xs a hxs (by omega) h1 ha
            have := ih l2 c hc' h2
            simp only [List.forIn_cons, Sem.run_bind, ne_eq, hc.1, not_false_eq_true, if_true, p1, p3, Result.andThen_ok, Sem.run_pure]
            exact this
    · rename_i n e hu
      split at hf
      · cases hf
      · rename_i hi
        obtain ⟨i, hi⟩ := Option.isSome_iff_exists.1 (by cases hx : P.info? e with | none => simp [hx] at hi | some i => rfl : (P.info? e).isSome = true)
        have hag : isAg P t = true := by simp [isAg, hu]
        simp only [AtX, hag, if_true] at hx
        obtain ⟨xs, rfl, hxs⟩ := hx
        rw [hdD]
        simp only [Instr.checkKey, Sem.run_bind, run_underlying' hu, Result.andThen_ok]
        simp only [Std.Legacy.Range.forIn_eq_forIn_range', Std.Legacy.Range.size, Nat.sub_zero, Nat.add_one_sub_one, Nat.div_one]
        rw [List.range_eq_range'] at hf
        generalize List.range' 0 n = L at hf
        clear hu
        induction L generalizing l r with
        | nil => simp
        | cons k L ih =>
          obtain ⟨l1, l2, h1, h2, rfl⟩ := allSome_cons hf
          obtain ⟨a, c, ha, hc', rfl⟩ := eqL_append he
          split at h1
          · cases h1
          · rename_i hc
            obtain ⟨x, p1, p3⟩ := step e (k * P.cellsOf e) l1 xs a hxs (by omega) h1 ha
            have := ih l2 c hc' h2
            simp only [List.forIn_cons, Sem.run_bind, run_sizeOf' hi, show i.size = P.cellsOf e from by simp [Program.cellsOf, hi], p1, p3, Result.andThen_ok, Sem.run_pure]
            exact this
    · split at hf
      · cases hf
      · split at hf
        · rename_i e hs
          rw [hdD]; exact chk_sc hs
        · cases hf

theorem chk_run {t : TypeId} {e : EqT} {x : Value} {b : Bool} (ht : eqT P t = some e) (he : (eqV h e x x).isSome = true) : (Instr.checkKey b 10000 t x).run P w = .ok () w := by
  obtain ⟨r, he⟩ := Option.isSome_iff_exists.1 he
  unfold eqT at ht
  split at ht
  · rename_i hag
    split at ht
    · cases ht
    · cases hf : flat P 40 t 0 (P.cellsOf t) with
      | none => simp [hf] at ht
      | some l =>
        simp only [hf, Option.map_some, Option.some.injEq] at ht
        subst ht
        cases x with
        | agg xs => exact chk_flat 40 9960 t 0 (P.cellsOf t) l xs _ _ b hf he (by simp [AtX, hag])
        | _ => simp [eqV] at he
  · cases hs : sc P t with
    | none => simp [hs] at ht
    | some s1 => exact chk_sc (d := 9999) hs

/-- Where the key stands. -/
def scan (h : Hp) (k : EqT) (x : Value) : List MapEntry → Option (Option Nat)
  | [] => some none
  | e :: es => match eqV h k x e.key with
    | some true => some (some 0)
    | some false => (match scan h k x es with | some (some i) => some (some (i + 1)) | r => r)
    | none => none

def outI (es : List MapEntry) (j : Nat) : Option Nat → Option (Nat × Value)
  | none => none
  | some i => (es[i]?).map fun e => (i + j, e.val)

theorem outI_cons (e : MapEntry) (es : List MapEntry) (j i : Nat) : outI (e :: es) j (some (i + 1)) = outI es (j + 1) (some i) := by
  simp [outI, Nat.add_assoc, Nat.add_comm 1 j]

theorem scan_asking (hr : Rep w h f) {t : TypeId} {k : EqT} {x : Value} (ht : eqT P t = some k) : ∀ {es : List MapEntry} {r : Option Nat} (j : Nat), scan h k x es = some r →
    (Instr.findAsking t x es j).run P w = .ok (outI es j r) w
  | [], r, j, hs => by simp only [scan, Option.some.injEq] at hs; subst hs; simp [Instr.findAsking, outI]
  | e :: es, r, j, hs => by
    simp only [scan] at hs
    split at hs
    · rename_i he
      cases hs
      simp [Instr.findAsking, eqT_run hr ht he, outI]
    · rename_i he
      split at hs
      · rename_i i hi
        cases hs
        have := scan_asking hr ht (j + 1) hi
        rw [outI_cons]
        simp only [Instr.findAsking, Sem.run_bind, eqT_run hr ht he, Result.andThen_ok, Bool.false_eq_true, if_false, this]
      · cases r with
        | none =>
          have := scan_asking hr ht (j + 1) hs
          simp only [Instr.findAsking, Sem.run_bind, eqT_run hr ht he, Result.andThen_ok, Bool.false_eq_true, if_false, this, outI]
        | some i => rename_i hne; exact absurd hs (hne i)
    · cases hs

theorem scan_now {u : TypeDesc} {k : EqT} {x : Value} (hsame : ∀ y r, eqV h k x y = some r → Instr.sameNow u x y = some r) : ∀ {es : List MapEntry} {r : Option Nat} (j : Nat), scan h k x es = some r →
    Instr.findNow u x es j = some (outI es j r)
  | [], r, j, hs => by simp only [scan, Option.some.injEq] at hs; subst hs; simp [Instr.findNow, outI]
  | e :: es, r, j, hs => by
    simp only [scan] at hs
    split at hs
    · rename_i he
      cases hs
      simp [Instr.findNow, hsame _ _ he, outI]
    · rename_i he
      split at hs
      · rename_i i hi
        cases hs
        have := scan_now hsame (j + 1) hi
        rw [outI_cons]
        simp only [Instr.findNow, hsame _ _ he, this]
      · cases r with
        | none =>
          have := scan_now hsame (j + 1) hs
          simp only [Instr.findNow, hsame _ _ he, this, outI]
        | some i => rename_i hne; exact absurd hs (hne i)
    · cases hs

theorem scan_run (hr : Rep w h f) {t : TypeId} {k : EqT} {x : Value} (ht : eqT P t = some k) {es : List MapEntry} {r : Option Nat} (hs : scan h k x es = some r) :
    (Instr.findKey t x es).run P w = .ok (outI es 0 r) w := by
  have hu : ∃ u, P.underlying t = some u := by
    unfold eqT at ht
    split at ht
    · split at ht
      · cases ht
      · cases hf : flat P 40 t 0 (P.cellsOf t) with
        | none => simp [hf] at ht
        | some l => exact flat_known hf
    · cases hs : sc P t with
      | none => simp [hs] at ht
      | some q => exact sc_und hs
  obtain ⟨u, hu⟩ := hu
  simp only [Instr.findKey, Sem.run_bind, run_underlying' hu, Result.andThen_ok]
  cases hn : Instr.findNow u x es 0 with
  | none =>
    exact scan_asking (P := P) (w := w) hr ht 0 hs
  | some q =>
    simp only [Sem.run_pure]
    cases es with
    | nil =>
      simp only [scan, Option.some.injEq] at hs; subst hs
      simp only [Instr.findNow, Option.some.injEq] at hn; subst hn; rfl
    | cons e0 es0 =>
      -- the first key was compared at once: a type of one of three kinds
      have hsame : ∀ y r, eqV h k x y = some r → Instr.sameNow u x y = some r := by
        have hkind : (∃ q, u = .int q) ∨ u = .string ∨ u = .bool := by
          simp only [Instr.findNow] at hn
          cases hsn : Instr.sameNow u x e0.key with
          | none => simp [hsn] at hn
          | some b =>
            unfold Instr.sameNow at hsn
            split at hsn <;> first | exact .inl ⟨_, rfl⟩ | exact .inr (.inl rfl) | exact .inr (.inr rfl) | cases hsn
        intro y r he
        have hk : k = .one (match u with | .int _ => .i | .string => .s | _ => .b) := by
          unfold eqT at ht
          have hag : isAg P t = false := by unfold isAg; rw [hu]; rcases hkind with ⟨q, rfl⟩ | rfl | rfl <;> rfl
          simp only [hag, Bool.false_eq_true, if_false] at ht
          rcases hkind with ⟨q, rfl⟩ | rfl | rfl <;> simp [sc, hu] at ht <;> exact ht.symm
        have same_of : ∀ q : EqS, eqS h q x y = some r → (match q with | .i => ∀ z, Instr.sameNow (.int z) x y = some r | .s => Instr.sameNow .string x y = some r | .b => Instr.sameNow .bool x y = some r | _ => True) := by
          intro q he
          unfold eqS at he
          split at he <;> first | trivial | (cases he; done) | (intro z; simpa [Instr.sameNow] using he) | (simpa [Instr.sameNow] using he)
        rcases hkind with ⟨q, rfl⟩ | rfl | rfl <;> subst hk <;> simp only [eqV] at he
        · exact same_of .i he q
        · exact same_of .s he
        · exact same_of .b he
      have := scan_now hsame 0 hs
      rw [hn] at this
      rw [Option.some.inj this]

theorem find_scan {k : EqT} {x : Value} : ∀ {es : List MapEntry} {r : Option Value}, find h k x es = some r →
    ∃ i, scan h k x es = some i ∧ r = (match i with | none => none | some i => (es[i]?).map (·.val)) ∧ ∀ j, i = some j → j < es.length
  | [], r, hf => by simp only [find, Option.some.injEq] at hf; subst hf; exact ⟨none, rfl, rfl, fun j hj => by cases hj⟩
  | e :: es, r, hf => by
    simp only [find] at hf
    split at hf
    · rename_i he; cases hf; exact ⟨some 0, by simp [scan, he], by simp, fun j hj => by cases hj; simp⟩
    · rename_i he
      obtain ⟨i, hi, hr, hl⟩ := find_scan hf
      cases i with
      | none => exact ⟨none, by simp [scan, he, hi], hr, fun j hj => by cases hj⟩
      | some i => exact ⟨some (i + 1), by simp [scan, he, hi], by simpa using hr, fun j hj => by cases hj; simpa using hl i rfl⟩
    · cases hf

theorem repl_scan {k : EqT} {x v : Value} : ∀ {es : List MapEntry} {r : Option (List MapEntry)}, repl k h x v es = some r →
    ∃ i, scan h k x es = some i ∧ (match i with | none => r = none | some i => ∃ hi : i < es.length, Instr.sameBits 10000 es[i].key x = true ∧ r = some (es.set i { es[i] with key := x, val := v }))
  | [], r, hf => by simp only [repl, Option.some.injEq] at hf; subst hf; exact ⟨none, rfl, rfl⟩
  | e :: es, r, hf => by
    simp only [repl] at hf
    split at hf
    · rename_i he
      split at hf
      · rename_i hb; cases hf; exact ⟨some 0, by simp [scan, he], by simp, by simpa using hb, by simp⟩
      · cases hf
    · rename_i he
      split at hf
      · rename_i l hl
        cases hf
        obtain ⟨i, hi, hr⟩ := repl_scan hl
        cases i with
        | none => cases hr
        | some i =>
          obtain ⟨h1, h2, h3⟩ := hr
          cases h3
          exact ⟨some (i + 1), by simp [scan, he, hi], by simpa using h1, by simpa using h2, by simp⟩
      · cases r with
        | none =>
          obtain ⟨i, hi, hr⟩ := repl_scan hf
          cases i with
          | none => exact ⟨none, by simp [scan, he, hi], rfl⟩
          | some i => obtain ⟨_, _, h3⟩ := hr; cases h3
        | some l => rename_i hne; exact absurd hf (hne l)
    · cases hf

theorem strk_scan {k : EqT} {x : Value} : ∀ {es : List MapEntry} {r : Option (List MapEntry)}, strk k h x es = some r →
    ∃ i, scan h k x es = some i ∧ (match i with | none => r = none | some i => i < es.length ∧ r = some (es.eraseIdx i))
  | [], r, hf => by simp only [strk, Option.some.injEq] at hf; subst hf; exact ⟨none, rfl, rfl⟩
  | e :: es, r, hf => by
    simp only [strk] at hf
    split at hf
    · rename_i he; cases hf; exact ⟨some 0, by simp [scan, he], by simp, by simp⟩
    · rename_i he
      split at hf
      · rename_i l hl
        cases hf
        obtain ⟨i, hi, hr⟩ := strk_scan hl
        cases i with
        | none => cases hr
        | some i =>
          obtain ⟨h1, h3⟩ := hr
          cases h3
          exact ⟨some (i + 1), by simp [scan, he, hi], by simpa using h1, by simp⟩
      · cases r with
        | none =>
          obtain ⟨i, hi, hr⟩ := strk_scan hf
          cases i with
          | none => exact ⟨none, by simp [scan, he, hi], rfl⟩
          | some i => obtain ⟨_, h3⟩ := hr; cases h3
        | some l => rename_i hne; exact absurd hf (hne l)
    · cases hf

theorem run_zero {t : TypeId} {i : TypeInfo} {z : Value} (hi : P.info? t = some i) (hz : i.zero = some z) : (zeroValue t).run P w = .ok z w := by
  simp [zeroValue, run_typeInfo' hi, hz]

theorem run_look {o : Oper} {t kt et : TypeId} {k : EqT} {i : TypeInfo} {z : Value} {ok : Bool} {m x : Operand} {e u e' : Ent} (hr : Rep w h f) (ho : o.op = .lookup t m x ok) (ht : P.underlying t = some (.map kt et))
    (hk : eqT P kt = some k) (hi : P.info? et = some i) (hz : i.zero = some z) (hx : ρ m = entV B e) (hu : ρ x = entV B u) (hp : pLook k z ok h e u = some e') :
    (execOp ρ o).run P w = .ok (.value (entV B e')) w := by
  unfold pLook at hp
  split at hp
  · rename_i y
    split at hp
    · rename_i hs
      cases hp
      have hfk := scan_run (w := w) (x := y) (es := []) (r := none) hr hk rfl
      simp only [outI] at hfk
      have hck : (Instr.checkKey true 10000 kt y).run P w = .ok () w := chk_run hk hs
      cases ok <;> simp only [execOp, ho, hx, hu, entV, Instr.lookup, Sem.run_bind, run_underlying' ht, Result.andThen_ok, Sem.run_pure, show (#[] : Array MapEntry).isEmpty = true from rfl, hck, hfk, run_zero hi hz, Bool.false_eq_true, if_false, if_true]
    · cases hp
  · rename_i r y
    split at hp
    · cases hp
    · rename_i es hm
      obtain ⟨a, c, hob, rfl⟩ := mapO_spec hm
      split at hp
      · cases hp
      · rename_i hs
        have hs : (eqV h k y y).isSome = true := by cases hq : eqV h k y y <;> simp [hq] at hs ⊢
        have hck : (Instr.checkKey a.isEmpty 10000 kt y).run P w = .ok () w := chk_run hk hs
        split at hp
        · cases hp
        · rename_i hf
          cases hp
          obtain ⟨i', hsc, hv, hl⟩ := find_scan hf
          have hfk := scan_run (w := w) hr hk hsc
          cases i' with
          | none =>
            simp only [outI] at hfk
            cases ok <;> simp only [execOp, ho, hx, hu, entV, Instr.lookup, Sem.run_bind, run_underlying' ht, Result.andThen_ok, Sem.run_pure, run_getObj_map (hr.vis _ _ hob), hck, hfk, run_zero hi hz, Bool.false_eq_true, if_false, if_true]
          | some j =>
            have hj := hl j rfl
            simp only [List.getElem?_eq_getElem hj, Option.map_some] at hv
            cases hv
        · rename_i v hf
          cases hp
          obtain ⟨i', hsc, hv, hl⟩ := find_scan hf
          have hfk := scan_run (w := w) hr hk hsc
          cases i' with
          | none => cases hv
          | some j =>
            have hj := hl j rfl
            have hg : a.toList[j]? = some a.toList[j] := List.getElem?_eq_getElem hj
            simp only [outI, hg, Option.map_some, Option.some.injEq] at hv hfk
            subst hv
            cases ok <;> simp only [execOp, ho, hx, hu, entV, Instr.lookup, Sem.run_bind, run_underlying' ht, Result.andThen_ok, Sem.run_pure, run_getObj_map (hr.vis _ _ hob), hck, hfk, Bool.false_eq_true, if_false, if_true]
  · cases hp

end

end Go.Proofs.Ytkmknolkblcbeaa.V
