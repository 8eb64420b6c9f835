/- Frames; a region's operations, in a fixed order and in every order. -/
import Derived.Test.YtkmknolkblcbeaaV11
namespace Go.Proofs.Ytkmknolkblcbeaa.V
set_option linter.unusedSectionVars false
set_option linter.unusedVariables false
set_option linter.unusedSimpArgs false
open Go

/-- The frame's part of what is known. -/
structure Fr (n : Nat) (ds : List Deferred) (B : Nat → Nat) (ρ : Env) (a : Act) : Prop where
  size : a.tmps.size = n
  dfs : a.defers = ds
  env : ∀ t e, look ρ t = some e → a.tmps[t]? = some (entV B e)

def dstOk (n : Nat) : Option Nat → Bool
  | some d => decide (d < n)
  | none => true

/-- One operation with its guard and its temporary. -/
def cI (P : Program) (n : Nat) (prom : List Nat) (ops : Array Oper) (o : Oper) : Option I :=
  if dstOk n o.dst then
    match cef P prom o with
    | none => none
    | some (ef, xs) => match o.guard with
      | none => some ⟨none, o.dst, ef, xs.map cx⟩
      | some (j, want) => match (ops[j]?).bind (·.dst) with
        | some t => some ⟨some (t, want), o.dst, ef, xs.map cx⟩
        | none => none
  else none

section
variable {P : Program} {w : World} {h : Hp} {f : Fm} {B : Nat → Nat} {β : Bx} {ρ : Env} {n : Nat} {ds : List Deferred} {a : Act}

theorem Fr.ox (s : Fr n ds B ρ a) {x : Operand} {e : Ent} (hx : V.ox ρ (cx x) = some e) : a.eval x = entV B e := by
  cases x with
  | tmp t => have := s.env t e hx; simp [Act.eval, this]
  | const v => simp only [cx, V.ox, Option.some.injEq] at hx; subst hx; rfl
  | global g => simp only [cx, V.ox, Option.some.injEq] at hx; subst hx; rfl
  | func g => simp only [cx, V.ox, Option.some.injEq] at hx; subst hx; rfl

theorem Fr.oxs (s : Fr n ds B ρ a) : ∀ {xs : List Operand} {es : List Ent}, V.oxs ρ (xs.map cx) = some es → xs.map a.eval = es.map (entV B)
  | [], es, hx => by simp only [List.map_nil, V.oxs, Option.some.injEq] at hx; subst hx; rfl
  | x :: xs, es, hx => by
    simp only [List.map_cons, V.oxs] at hx
    cases h1 : V.ox ρ (cx x) with
    | none => simp [h1] at hx
    | some e =>
      cases h2 : V.oxs ρ (xs.map cx) with
      | none => simp [h1, h2] at hx
      | some es' =>
        simp [h1, h2] at hx
        subst hx
        simp [s.ox h1, s.oxs h2]

theorem Fr.put (s : Fr n ds B ρ a) {d : Option Nat} {e : Ent} (hd : dstOk n d = true) : Fr n ds B (putE d e ρ) (a.put d (entV B e)) := by
  cases d with
  | none => exact s
  | some d =>
    have hd : d < n := by simpa [dstOk] using hd
    refine ⟨by simp [Act.put, s.size], s.dfs, fun t e' ht => ?_⟩
    simp only [putE, look] at ht
    simp only [Act.put]
    rw [Array.getElem?_setIfInBounds]
    split at ht
    · rename_i h; subst h; cases ht; simp [s.size, hd]
    · rename_i h; rw [if_neg h]; exact s.env t e' ht

theorem Fr.undef (s : Fr n ds B ρ a) {d : Option Nat} (hd : dstOk n d = true) : Fr n ds B (putE d undefE ρ) (a.put d undef) := s.put hd

theorem noLoc_spec {d : Nat} : ∀ {ρ : Env}, noLoc d ρ = true → ∀ t r o, look ρ t = some (.l r o) → r ≠ d
  | [], _, t, r, o, h => by cases h
  | (k, .l r' o') :: ρ, hn, t, r, o, h => by
    simp only [noLoc] at hn
    split at hn
    · cases hn
    · rename_i hne
      simp only [look] at h
      split at h
      · cases h; exact hne
      · exact noLoc_spec hn t r o h
  | (k, .v x) :: ρ, hn, t, r, o, h => by
    simp only [noLoc] at hn
    simp only [look] at h
    split at h
    · cases h
    · exact noLoc_spec hn t r o h

/-- A new box, out of sight. -/
theorem newbox (s : Fr n ds B ρ a) (hw : Wd B β h f w) {d : Nat} {cs : List Value} {ty : TypeId} (hd : d < n) (hn : noLoc d ρ = true) {w' : World} (he : w'.heap = w.heap.push (.cells cs.toArray ty (0, 0))) (hs : Still w w' := by exact ⟨rfl, rfl, rfl⟩) :
    ∃ B', Fr n ds B' ((d, .l d 0) :: ρ) (a.put (some d) (.pointer (some ⟨w.heap.size, 0, none⟩))) ∧ Wd B' ((d, cs) :: β) h f w' ∧ (∀ r, r ≠ d → B' r = B r) := by
  refine ⟨fun r => if r = d then w.heap.size else B r, ?_, ?_, fun r hr => by simp [hr]⟩
  · refine ⟨by simp [Act.put, s.size], s.dfs, fun t e' ht => ?_⟩
    simp only [look] at ht
    simp only [Act.put]
    rw [Array.getElem?_setIfInBounds]
    split at ht
    · rename_i h; subst h; cases ht; simp [s.size, hd, entV]
    · rename_i h
      rw [if_neg h]
      rw [s.env t e' ht]
      cases e' with
      | v x => rfl
      | l r o => simp [entV, noLoc_spec hn t r o ht]
  · have hlt : ∀ r es, lookB β r = some es → B r ≠ w.heap.size := fun r es hl e => by
      obtain ⟨ty, h1, _⟩ := hw.box r es hl
      rw [e] at h1; simp at h1
    refine ⟨fun r es hl => ?_, fun r u es es' hr hu hB => ?_, ?_⟩
    · simp only [lookB] at hl
      split at hl
      · rename_i e; subst e; cases hl
        exact ⟨ty, by simp [he], by simp [hw.rep.fresh_vis], by simp [hw.rep.fresh_hid]⟩
      · rename_i e
        have e' : r ≠ d := fun h => e h.symm
        obtain ⟨ty', g1, g2, g3⟩ := hw.box r es hl
        refine ⟨ty', ?_, by simpa [e'] using g2, by simpa [e'] using g3⟩
        simp only [e', if_false]
        rw [he, push_get, if_neg (hlt r es hl)]; exact g1
    · simp only [lookB] at hr hu
      split at hr <;> split at hu
      · rename_i e1 e2; rw [← e1, ← e2]
      · rename_i e1 e2
        subst e1
        rw [if_pos rfl, if_neg (fun h => e2 h.symm)] at hB
        exact absurd hB.symm (hlt u es' hu)
      · rename_i e1 e2
        subst e2
        rw [if_neg (fun h => e1 h.symm), if_pos rfl] at hB
        exact absurd hB (hlt r es hr)
      · rename_i e1 e2
        simp only [show ¬ r = d from fun h => e1 h.symm, show ¬ u = d from fun h => e2 h.symm, if_false] at hB
        exact hw.inj r u es es' hr hu hB
    · refine ⟨fun c p hc => ?_, fun c p hc => ?_, hw.rep.dis, hw.rep.kp.trans hs⟩
      · rw [he, push_get, if_neg (fun e => by subst e; rw [hw.rep.fresh_vis] at hc; cases hc)]; exact hw.rep.vis c p hc
      · rw [he, push_get, if_neg (fun e => by subst e; rw [hw.rep.fresh_hid] at hc; cases hc)]; exact hw.rep.hid c p hc

theorem act_fixed (a : Act) : Fixed a.eval := fun _ => rfl

theorem noDefer_cef {o : Oper} {prom : List Nat} {r : Ef × List Operand} (hc : cef P prom o = some r) : noDefer o = true := by
  unfold noDefer
  cases ho : o.op <;> try rfl
  · simp [cef, cpr, ho] at hc
  · simp [cef, cpr, ho] at hc

theorem guard_eq {ops : Array Oper} {o : Oper} {j : Nat} {want : Bool} {t : Nat} {b : Bool} (s : Fr n ds B ρ a) (hg : o.guard = some (j, want)) (ht : (ops[j]?).bind (·.dst) = some t) (hl : look ρ t = some (.v (.bool b))) :
    Region.wanted o (yielded ops a.tmps) = (b == want) := by
  have h1 := s.env t _ hl
  simp only [Region.wanted, hg, yielded, ht, Option.bind_some, h1, entV]
  cases b <;> cases want <;> rfl

theorem guard_off {ops : Array Oper} {o : Oper} {j : Nat} {want : Bool} {t : Nat} {vs : Array Value} (s : Fr n ds B ρ a) (hg : o.guard = some (j, want)) (ht : (ops[j]?).bind (·.dst) = some t) (hl : look ρ t = some (.v (.tuple vs))) :
    Region.wanted o (yielded ops a.tmps) = false := by
  have h1 := s.env t _ hl
  simp only [Region.wanted, hg, yielded, ht, Option.bind_some, h1, entV]
  cases want <;> rfl

/-- A guard looked at. -/
theorem guard_gn {ops : Array Oper} {o : Oper} {j : Nat} {want : Bool} {t : Nat} {b : Bool} (s : Fr n ds B ρ a) (hg : o.guard = some (j, want)) (ht : (ops[j]?).bind (·.dst) = some t) (hl : gn (!want) (look ρ t) = some (.v (.bool b))) :
    Region.wanted o (yielded ops a.tmps) = (b == want) := by
  rcases gn_spec hl with h | ⟨⟨vs, h⟩, e⟩
  · exact guard_eq s hg ht h
  · rw [guard_off s hg ht h, e]; cases want <;> rfl

/-- What is known behind an operation. -/
def After (n : Nat) (ds : List Deferred) (f : Fm) (K : Env → Bx → Hp → Prop) (a : Act) (w : World) : Prop :=
  ∃ B ρ β h, Fr n ds B ρ a ∧ Wd B β h f w ∧ K ρ β h

def newAt (i : I) (r : Nat) : Prop := match i.o, i.d with
  | .al _, some d => r = d
  | .bx, some d => r = d
  | _, _ => False

/-- The same, and which boxes are where they were. -/
def AfterB (n : Nat) (ds : List Deferred) (f : Fm) (B : Nat → Nat) (i : I) (K : Env → Bx → Hp → Prop) (a : Act) (w : World) : Prop :=
  ∃ B' ρ β h, Fr n ds B' ρ a ∧ Wd B' β h f w ∧ K ρ β h ∧ ∀ r, ¬ newAt i r → B' r = B r

theorem AfterB.after {i : I} {K : Env → Bx → Hp → Prop} (h : AfterB n ds f B i K a w) : After n ds f K a w :=
  let ⟨B', ρ, β, h, h1, h2, h3, _⟩ := h; ⟨B', ρ, β, h, h1, h2, h3⟩

theorem doI_sound {o : Oper} {prom : List Nat} {ef : Ef} {xs : List Operand} {g : Option (Nat × Bool)} {K : Env → Bx → Hp → Prop} (s : Fr n ds B ρ a) (hw : Wd B β h f w)
    (hc : cef P prom o = some (ef, xs)) (hd : dstOk n o.dst = true) (hk : doI P ⟨g, o.dst, ef, xs.map cx⟩ ρ β h K) :
    stepW P o a.eval w (fun v w' => AfterB n ds f B ⟨g, o.dst, ef, xs.map cx⟩ K (a.put o.dst v) w') := by
  unfold doI at hk
  simp only at hk
  · replace hk := optK_spec hk
    obtain ⟨es, hes, hk⟩ := hk
    have hmap := s.oxs hes
    split at hk
    · -- a box for a new variable
      rename_i z d hdst
      obtain ⟨hn, hK⟩ := ifK_spec hk
      have hrun : ∃ t, (execOp a.eval o).run P w = .ok (.value (.pointer (some ⟨w.heap.size, 0, none⟩))) { w with heap := w.heap.push (.cells z.toArray t (0, 0)) } := by
        unfold cef at hc
        split at hc
        · cases hc
        · split at hc
          all_goals first
            | (rename_i t ho
               split at hc
               · rename_i z' hz
                 split at hc
                 · cases hc
                 · split at hc
                   · cases hc
                     obtain ⟨v, hv, hvc⟩ := zero_run (P := P) (w := w) hz
                     exact ⟨t, by simp only [execOp, ho, Instr.alloc, Sem.run_bind, hv, Result.andThen_ok, newVar, newRow, hvc, run_newObj, Sem.run_pure]⟩
                   · cases hc
               · cases hc)
            | (exfalso; (repeat' split at hc) <;> cases hc)
      obtain ⟨t, hrun⟩ := hrun
      unfold stepW
      rw [hrun]
      rw [hdst] at hd
      obtain ⟨B', hf', hw', hB⟩ := newbox s hw (by simpa [dstOk] using hd) hn (cs := z) (ty := t) (w' := { w with heap := w.heap.push (.cells z.toArray t (0, 0)) }) rfl
      exact ⟨B', _, _, h, by rw [hdst]; exact hf', hw', hK, fun r hr => hB r (fun e => hr (by simp only [newAt, hdst]; exact e))⟩
    · -- a box for a value
      rename_i d x hdst
      obtain ⟨hn, hK⟩ := ifK_spec hk
      have hrun : ∃ t, (execOp a.eval o).run P w = .ok (.value (.pointer (some ⟨w.heap.size, 0, none⟩))) { w with heap := w.heap.push (.cells x.cells.toList.toArray t (0, 0)) } := by
        unfold cef at hc
        split at hc
        · cases hc
        · split at hc
          all_goals first
            | (rename_i t v ho
               split at hc
               · cases hc
                 obtain ⟨e1, he1, h1⟩ := map1 hmap
                 simp only [List.cons.injEq, and_true] at he1
                 subst he1
                 exact ⟨t, by simp only [execOp, ho, Instr.box, Sem.run_bind, Result.andThen_ok, newVar, newRow, h1, entV, run_newObj, Sem.run_pure, Array.toArray_toList]⟩
               · cases hc)
            | (exfalso; (repeat' split at hc) <;> cases hc)
      obtain ⟨t, hrun⟩ := hrun
      unfold stepW
      rw [hrun]
      rw [hdst] at hd
      obtain ⟨B', hf', hw', hB⟩ := newbox s hw (by simpa [dstOk] using hd) hn (cs := x.cells.toList) (ty := t) (w' := { w with heap := w.heap.push (.cells x.cells.toList.toArray t (0, 0)) }) rfl
      exact ⟨B', _, _, h, by rw [hdst]; exact hf', hw', hK, fun r hr => hB r (fun e => hr (by simp only [newAt, hdst]; exact e))⟩
    · refine upW_mono ?_ (ef_sound hw (act_fixed a) hc hmap hk)
      rintro v w' ⟨e, h', β', rfl, hK, hw'⟩
      rw [putK_eq] at hK
      exact ⟨B, _, β', h', s.put hd, hw', hK, fun _ _ => rfl⟩

theorem stI_sound {ops : Array Oper} {o : Oper} {prom : List Nat} {i : I} {K : Env → Bx → Hp → Prop} (s : Fr n ds B ρ a) (hw : Wd B β h f w) (hc : cI P n prom ops o = some i) (hk : stI P i ρ β h K) :
    stepO P ops o a w (AfterB n ds f B i K) := by
  unfold cI at hc
  split at hc
  · rename_i hd
    split at hc
    · cases hc
    · rename_i ef xs hcef
      split at hc
      · rename_i hg
        cases hc
        simp only [stI] at hk
        unfold stepO
        rw [if_pos (by simp [Region.wanted, hg])]
        exact doI_sound s hw hcef hd hk
      · rename_i j want hg
        split at hc
        · rename_i t ht
          cases hc
          cases want <;> simp only [stI] at hk <;> rcases condK_spec hk with ⟨hl, hk⟩ | ⟨hl, hk⟩ <;> have hgu := guard_gn s hg ht hl <;> unfold stepO
          · rw [if_neg (by rw [hgu]; decide)]
            rw [putK_eq] at hk
            exact ⟨B, _, β, h, s.undef hd, hw, hk, fun _ _ => rfl⟩
          · rw [if_pos (by rw [hgu]; decide)]
            exact doI_sound s hw hcef hd hk
          · rw [if_pos (by rw [hgu]; decide)]
            exact doI_sound s hw hcef hd hk
          · rw [if_neg (by rw [hgu]; decide)]
            rw [putK_eq] at hk
            exact ⟨B, _, β, h, s.undef hd, hw, hk, fun _ _ => rfl⟩
        · cases hc
  · cases hc

def cIs (P : Program) (n : Nat) (prom : List Nat) (ops : Array Oper) : List Oper → Option (List I)
  | [] => some []
  | o :: l => match cI P n prom ops o, cIs P n prom ops l with
    | some i, some r => some (i :: r)
    | _, _ => none

theorem After.mono {K K' : Env → Bx → Hp → Prop} (hk : ∀ ρ β h, K ρ β h → K' ρ β h) {a : Act} {w : World} (ha : After n ds f K a w) : After n ds f K' a w :=
  let ⟨B, ρ, β, h, h1, h2, h3⟩ := ha; ⟨B, ρ, β, h, h1, h2, hk _ _ _ h3⟩

theorem opsK_sound {ops : Array Oper} {prom : List Nat} {K : Env → Bx → Hp → Prop} {Q : Act → World → Prop} (hq : ∀ a w, After n ds f K a w → Q a w) : ∀ (l : List Oper) (il : List I) (a : Act) (w : World),
    cIs P n prom ops l = some il → After n ds f (opsK P K il) a w → wpS P ops Q l a w
  | [], il, a, w, hc, ha => by
    simp only [cIs, Option.some.injEq] at hc; subst hc
    exact hq a w ha
  | o :: l, il, a, w, hc, ha => by
    simp only [cIs] at hc
    split at hc
    · rename_i i r hi hr
      cases hc
      obtain ⟨B, ρ, β, h, s, hw, hk⟩ := ha
      simp only [opsK] at hk
      exact stepO_mono (fun a w ha => opsK_sound hq l r a w hr ha.after) (stI_sound s hw hi hk)
    · cases hc

theorem cIs_noDefer {ops : Array Oper} {prom : List Nat} : ∀ {l : List Oper} {il : List I}, cIs P n prom ops l = some il → ∀ o ∈ l, noDefer o = true
  | [], _, _, o, ho => by cases ho
  | x :: l, il, hc, o, ho => by
    simp only [cIs] at hc
    split at hc
    · rename_i i r hi hr
      rcases List.mem_cons.1 ho with rfl | ho
      · unfold cI at hi
        split at hi
        · split at hi
          · cases hi
          · rename_i hcef; exact noDefer_cef hcef
        · cases hi
      · exact cIs_noDefer hr o ho
    · cases hc

end

end Go.Proofs.Ytkmknolkblcbeaa.V
