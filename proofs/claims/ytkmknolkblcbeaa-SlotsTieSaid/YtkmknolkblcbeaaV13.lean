/- Regions in every order, read off a plan. -/
import Derived.Test.YtkmknolkblcbeaaV12
namespace Go.Proofs.Ytkmknolkblcbeaa.V
set_option linter.unusedSectionVars false
set_option linter.unusedVariables false
set_option linter.unusedSimpArgs false
open Go

def anyP (P : Program) (ops : Array Oper) (late : Nat → Bool) (K : Act → World → Prop) : Nat → Array Bool → (World → Prop) → Act → World → Prop
  | 0, listed, _, a, w => Region.ready .any ops listed = [] ∧ K a w
  | fuel + 1, listed, S, a, w =>
    (Region.ready .any ops listed = [] → K a w) ∧
    ∀ i ∈ Region.ready .any ops listed, opAny P ops i (fun a w => ∃ S' : World → Prop, S' w ∧ (late i = true → ∀ w, S' w → S w) ∧ anyP P ops late K fuel (listed.setIfInBounds i true) S' a w) a w

section
variable {P : Program} {ops : Array Oper} {late : Nat → Bool} {K : Act → World → Prop}

theorem noDefer_at (hd : ops.all noDefer = true) {j : Nat} {o : Oper} (ho : ops[j]? = some o) : noDefer o = true := by
  have := Array.all_eq_true.1 hd
  obtain ⟨hj', rfl⟩ := Array.getElem?_eq_some_iff.1 ho
  exact this j hj'

theorem anyP_sound {r : Option Nat} {n : Nat} {Q : Exit → Act → World → Prop} (hd : ops.all noDefer = true) :
    ∀ (fuel : Nat) (listed : Array Bool) (S : World → Prop) (a : Act) (w : World), anyP P ops late (fun a w => Q .normal a w) fuel listed S a w → wpAnyIn (FW r) n P .any ops Q fuel listed a w
  | 0, _, _, _, _, h => h
  | fuel + 1, listed, S, a, w, h => by
    refine ⟨h.1, fun i hi => ?_⟩
    have h2 := h.2 i hi
    unfold opAny at h2
    unfold wpOpIn
    cases ho : ops[i]? with
    | none => simp only [ho] at h2 ⊢; obtain ⟨S', _, _, h3⟩ := h2; exact anyP_sound hd fuel _ _ _ _ h3
    | some o =>
      simp only [ho, stepO] at h2 ⊢
      have hno : noDefer o = true := noDefer_at hd ho
      split
      · rename_i hw
        rw [if_pos hw] at h2
        exact stepW_wpIn hno (upW_mono (fun v w' ⟨S', _, _, h3⟩ => anyP_sound hd fuel _ _ _ _ h3) h2)
      · rename_i hw
        rw [if_neg hw] at h2
        obtain ⟨S', _, _, h3⟩ := h2
        exact ⟨fun _ _ => trivial, anyP_sound hd fuel _ _ _ _ h3⟩

theorem region_plan_wpIn {id : Nat} {S : World → Prop} {r : Option Nat} {n : Nat} {Q : Exit → Act → World → Prop} {a : Act} {w : World}
    (hm : P.follows .mixedOrders = true) (hd : ops.all noDefer = true)
    (h : anyP P ops late (fun a w => Q .normal a w) ops.size (Array.replicate ops.size false) S a { w with drawn := w.drawn + 1 }) : (Code.region id ops true).wpIn (FW r) n P Q a w :=
  wpIn_region_any hm (anyP_sound hd _ _ _ _ _ h)

theorem Yl.weaken {S T : World → Prop} {o : Oper} {v : Value} {a : Act} (hy : Yl P ops T o v a) (h : ∀ w, S w → T w) : Yl P ops S o v a := by
  rcases hy with ⟨h1, h2⟩ | h1
  · exact .inl ⟨h1, fun w hw => h2 w (h w hw)⟩
  · exact .inr h1

theorem getD_set_false {listed : Array Bool} {i k : Nat} (h : (listed.setIfInBounds i true).getD k false = true) : k = i ∨ listed.getD k false = true := by
  by_cases hk : i = k
  · exact .inl hk.symm
  · right
    simp only [Array.getD_eq_getD_getElem?, Array.getElem?_setIfInBounds, if_neg hk] at h ⊢
    exact h

/-- What may come up while i is not listed yet. -/
def Cl (ops : Array Oper) (late : Nat → Bool) (i : Nat) (R : Nat → Bool) (listed : Array Bool) : Prop :=
  (∀ j, R j = true → late j = true) ∧ ∀ j oj, ops[j]? = some oj → j ≠ i → listed.getD j true = false →
    (∀ e ∈ oj.after, Region.binds .any e = true → listed.getD e.on false = true ∨ R e.on = true) → R j = true

theorem anyP_first {T : World → Prop} {R : Nat → Bool} {i : Nat} {oi : Oper} {v : Value} (hi : ops[i]? = some oi) (hd : ops.all noDefer = true) :
    ∀ (fuel : Nat) (listed : Array Bool) (S : World → Prop) (a : Act) (w : World),
      (∀ j oj, ops[j]? = some oj → j ≠ i → listed.getD j true = false → (∀ e ∈ oj.after, Region.binds .any e = true → e.on ≠ i) → oi.apart ops oj = true) →
      ((∀ w, T w) ∨ Cl ops late i R listed) → (∀ w, S w → T w) →
      i ∈ Region.ready .any ops listed → Yl P ops T oi v a → S w →
      anyP P ops late K fuel (listed.setIfInBounds i true) S (a.put oi.dst v) w → anyP P ops late K (fuel + 1) listed S a w := by
  intro fuel
  induction fuel with
  | zero =>
    intro listed S a w _ _ hST hr hy hS H
    refine ⟨fun h => (by rw [h] at hr; cases hr), fun j hj => ?_⟩
    by_cases hji : j = i
    · subst hji; exact (hy.weaken hST).opAny hi hS ⟨S, hS, fun _ _ h => h, H⟩
    · have := ready_mono hj hji
      rw [H.1] at this
      cases this
  | succ fuel ih =>
    intro listed S a w hfree hcl hST hr hy hS H
    refine ⟨fun h => (by rw [h] at hr; cases hr), fun j hj => ?_⟩
    by_cases hji : j = i
    · subst hji; exact (hy.weaken hST).opAny hi hS ⟨S, hS, fun _ _ h => h, H⟩
    · have h1 := H.2 j (ready_mono hj hji)
      obtain ⟨hjun, oj, hoj, hall⟩ := mem_ready.1 hj
      have hnot : ∀ e ∈ oj.after, Region.binds .any e = true → e.on ≠ i := fun e he hb heq => by
        have h1 := hall e he hb
        have h0 := (mem_ready.1 hr).1
        rw [heq] at h1
        rcases Nat.lt_or_ge i listed.size with h' | h'
        · simp [h'] at h0 h1; rw [h0] at h1; cases h1
        · simp [Array.getElem?_eq_none h'] at h1
      have h2 := opAny_put hoj (hfree j oj hoj hji hjun hnot) (noDefer_at hd hi) (noDefer_at hd hoj) hy h1
      have hun' : ∀ k, (listed.setIfInBounds j true).getD k true = false → listed.getD k true = false := fun k hun => by
        by_cases hjk : j = k
        · subst hjk; exact hjun
        · rw [getD_set_ne true hjk] at hun; exact hun
      have hfree' : ∀ k ok, ops[k]? = some ok → k ≠ i → (listed.setIfInBounds j true).getD k true = false →
          (∀ e ∈ ok.after, Region.binds .any e = true → e.on ≠ i) → oi.apart ops ok = true := fun k ok hk hki hun hno => hfree k ok hk hki (hun' k hun) hno
      have hcl' : (∀ w, T w) ∨ Cl ops late i R (listed.setIfInBounds j true) := by
        refine hcl.imp id fun hc => ⟨hc.1, fun k ok hk hki hun hpr => hc.2 k ok hk hki (hun' k hun) fun e he hb => ?_⟩
        rcases hpr e he hb with h | h
        · rcases getD_set_false h with h | h
          · right
            rw [h]
            exact hc.2 j oj hoj hji hjun fun e he hb => .inl (hall e he hb)
          · exact .inl h
        · exact .inr h
      refine opAny_mono (fun a' w' h3 => ?_) h2
      obtain ⟨hy', S', hS', hl, h4⟩ := h3
      refine ⟨S', hS', hl, ih (listed.setIfInBounds j true) S' a' w' hfree' hcl' ?_ (ready_mono hr (Ne.symm hji)) hy' hS' ?_⟩
      · intro w hw
        rcases hcl with hT | hc
        · exact hT w
        · exact hST w (hl (hc.1 j (hc.2 j oj hoj hji hjun fun e he hb => .inl (hall e he hb))) w hw)
      · rw [Array.setIfInBounds_comm _ _ hji]
        exact h4

end

/-! ### Plans -/

mutual
inductive Plan where
  | done
  | q (i : I) (p : Plan)
  | br (l : PlanL)
inductive PlanL where
  | nil
  | cons (late cut : Bool) (i : I) (p : Plan) (l : PlanL)
end

def SubH (h h' : Hp) : Prop := ∀ b o, h b = some o → h' b = some o
def SubB (β β' : Bx) : Prop := ∀ r cs, lookB β r = some cs → lookB β' r = some cs

theorem SubH.refl (h : Hp) : SubH h h := fun _ _ h => h
theorem SubB.refl (β : Bx) : SubB β β := fun _ _ h => h

def nextK : Bool → Bool → Hp → Bx → Bx → Hp → (Hp → Bx → Prop) → Prop
  | false, false, _, _, β, h, M => M h β
  | true, false, hr, βr, β, h, M => (SubH hr h ∧ SubB βr β) ∧ M h β
  | false, true, _, _, β, h, M => ∃ hr' βr', SubH hr' h ∧ SubB βr' β ∧ M hr' βr'
  | true, true, hr, βr, β, h, M => ∃ hr' βr', (SubH hr hr' ∧ SubB βr βr') ∧ SubH hr' h ∧ SubB βr' β ∧ M hr' βr'

def andNil : PlanL → Prop → Prop → Prop
  | .nil, p, _ => p
  | .cons .., p, q => p ∧ q

def newD (i : I) (βr : Bx) : Prop := match i.o, i.d with
  | .al _, some d => lookB βr d = none
  | .bx, some d => lookB βr d = none
  | _, _ => True

def newK (late : Bool) (i : I) (βr : Bx) (X : Prop) : Prop := match late, i.o, i.d with
  | true, .al _, some d => lookB βr d = none ∧ X
  | true, .bx, some d => lookB βr d = none ∧ X
  | _, _, _ => X

theorem newK_spec {late : Bool} {i : I} {βr : Bx} {X : Prop} (h : newK late i βr X) : (late = true → newD i βr) ∧ X := by
  obtain ⟨g, d, o, xs⟩ := i
  cases late
  · exact ⟨fun h => (by cases h), h⟩
  · cases d <;> cases o <;> first | exact ⟨fun _ => trivial, h⟩ | exact ⟨fun _ => h.1, h.2⟩

mutual
def planK (P : Program) (K : Env → Bx → Hp → Prop) : Plan → Hp → Bx → Env → Bx → Hp → Prop
  | .done, _, _, ρ, β, h => K ρ β h
  | .q i p, hr, βr, ρ, β, h => stI P i ρ βr hr (fun ρ' _ _ => planK P K p hr βr ρ' β h)
  | .br l, hr, βr, ρ, β, h => planLK P K l hr βr ρ β h
def planLK (P : Program) (K : Env → Bx → Hp → Prop) : PlanL → Hp → Bx → Env → Bx → Hp → Prop
  | .nil, _, _, _, _, _ => True
  | .cons late cut i p l, hr, βr, ρ, β, h =>
    andNil l (newK late i βr (stI P i ρ β h (fun ρ' β' h' => nextK late cut hr βr β' h' fun hr' βr' => planK P K p hr' βr' ρ' β' h'))) (planLK P K l hr βr ρ β h)
end

mutual
def Plan.late : Plan → Bool
  | .done => false
  | .q _ p => p.late
  | .br l => l.late
def PlanL.late : PlanL → Bool
  | .nil => false
  | .cons l _ _ p r => l || p.late || r.late
end

def regK (P : Program) (K : Env → Bx → Hp → Prop) (p : Plan) (ρ : Env) (β : Bx) (h : Hp) : Prop :=
  nextK false p.late h β β h fun hr βr => planK P K p hr βr ρ β h

def reads : Pr → Bool
  | .ld .. | .eq .. | .lenM | .look .. | .b2s => true
  | _ => false

def lateOf (P : Program) (ops : Array Oper) (m : Array Nat) (j : Nat) : Bool :=
  match ops[j]? with
  | none => true
  | some oj => (cpr P oj).isSome || (List.range ops.size).any fun i => i != j && !(Nat.testBit (m.getD j 0) i) && !(Nat.testBit (m.getD i 0) j) &&
      (match ops[i]? with | some oi => (match cpr P oi with | some (p, _) => reads p | none => false) | none => false)

def lates (P : Program) (ops : Array Oper) : List Bool := (List.range ops.size).map (lateOf P ops (Region.before ops))

def predsIn (ops : Array Oper) (listed : Array Bool) (R : List Nat) (j : Nat) : Bool :=
  match ops[j]? with
  | none => false
  | some oj => oj.after.all fun e => !Region.binds .any e || listed.getD e.on false || R.contains e.on

def reach (ops : Array Oper) (listed : Array Bool) (i : Nat) : Nat → List Nat → List Nat
  | 0, R => R
  | n + 1, R => reach ops listed i n ((List.range ops.size).filter fun j => j != i && !listed.getD j true && predsIn ops listed R j)

def okR (ops : Array Oper) (late : List Bool) (listed : Array Bool) (i : Nat) (R : List Nat) : Bool :=
  R.all (fun j => late.getD j true) && (List.range ops.size).all fun j => j == i || listed.getD j true || !(predsIn ops listed R j) || R.contains j

def okTake (P : Program) (ops : Array Oper) (late : List Bool) (listed : Array Bool) (j : Nat) : Bool :=
  match ops[j]? with
  | none => false
  | some oj => match cpr P oj with
    | none => false
    | some (p, _) => Region.free .any ops listed j && (!reads p || late.all id || okR ops late listed j (reach ops listed j ops.size []))

def mkBr (late : List Bool) (f : Nat → Option I) (g : Nat → Option Plan) : List Nat → Option PlanL
  | [] => some .nil
  | j :: js => match f j, g j, mkBr late f g js with
    | some i, some p, some l => some (.cons (late.getD j true) p.late i p l)
    | _, _, _ => none

def mkPlan (P : Program) (n : Nat) (prom : List Nat) (ops : Array Oper) (late : List Bool) : Nat → Array Bool → Option Plan
  | 0, listed => match Region.ready .any ops listed with
    | [] => some .done
    | _ => none
  | fuel + 1, listed => match Region.ready .any ops listed with
    | [] => some .done
    | rs => match rs.find? (okTake P ops late listed) with
      | some j => (match (ops[j]?).bind (cI P n prom ops), mkPlan P n prom ops late fuel (listed.setIfInBounds j true) with
        | some i, some p => some (.q i p)
        | _, _ => none)
      | none => (match mkBr late (fun j => (ops[j]?).bind (cI P n prom ops)) (fun j => mkPlan P n prom ops late fuel (listed.setIfInBounds j true)) rs with
        | some l => some (.br l)
        | none => none)

end Go.Proofs.Ytkmknolkblcbeaa.V
