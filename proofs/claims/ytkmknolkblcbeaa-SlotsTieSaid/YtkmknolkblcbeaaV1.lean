/- A small calculus over the machine's steps: operations that yield, call or start a round; regions in every order. -/
import Derived.OrdersIn
import Derived.RangeFuncLeaves
import Derived.RangeFuncRecord
import Derived.Laws.Sem
import Derived.TacticsIn
import Derived.WalkKit
namespace Go.Proofs.Ytkmknolkblcbeaa.V
set_option linter.unusedSectionVars false
set_option linter.unusedVariables false
set_option linter.unusedSimpArgs false
open Go

/-- The fence that lets everything in, in a round or not. -/
def FW (r : Option Nat) : Fence := { fn := fun _ => True, depth := none, alive := false, round := r }

theorem callsIn_FW {r : Option Nat} {n : Nat} {P : Program} {f : FuncId} {args : Array Value} {w : World} {R : Ending → World → Prop} :
    CallsIn (FW r) n P f args w R ↔ Calls P f args w R := callsIn_wide (n := n)

/-- What one operation does: a value, nothing, a call, a round. -/
def upW (P : Program) (K : Value → World → Prop) : Result Next → Prop
  | .ok (.value v) w => K v w
  | .ok .skip w => K undef w
  | .ok (.enter f args) w => Calls P f args w (fun e w' => ∃ v, e = .returned v ∧ K v w')
  | .ok (.round l f tmps assign body) w => RoundIn (FW none) 0 P l f tmps assign body w (fun e w' => ∃ v, e = .returned v ∧ K v w')
  | _ => False

def stepW (P : Program) (o : Oper) (ρ : Operand → Value) (w : World) (K : Value → World → Prop) : Prop := upW P K ((execOp ρ o).run P w)

theorem upW_mono {P : Program} {K K' : Value → World → Prop} (h : ∀ v w, K v w → K' v w) {r : Result Next} (hr : upW P K r) : upW P K' r := by
  cases r with
  | ok x w =>
    cases x <;> simp only [upW] at hr ⊢ <;>
      first
        | exact h _ _ hr
        | exact Calls.mono hr (fun e w' ⟨v, he, hv⟩ => ⟨v, he, h _ _ hv⟩)
        | exact RoundIn.mono hr (fun e w' ⟨v, he, hv⟩ => ⟨v, he, h _ _ hv⟩)
  | halt x w => exact hr

def noDefer (o : Oper) : Bool := match o.op with
  | .defer _ => false
  | .select .. => false
  | _ => true

theorem stepW_wpIn {P : Program} {o : Oper} {a : Act} {w : World} {r : Option Nat} {n : Nat} {next : Act → World → Prop} {Q : Exit → Act → World → Prop} (hd : noDefer o = true)
    (h : stepW P o a.eval w (fun v w' => next (a.put o.dst v) w')) : o.wpIn (FW r) n P a w next Q := by
  have hsem : Oper.semAt (FW r).round a.eval o = execOp a.eval o :=
    Oper.semAt_eq _ _ _ (fun c hc => by simp [noDefer, hc] at hd)
  refine ⟨fun _ _ => trivial, ?_⟩
  rw [hsem]
  unfold stepW at h
  generalize (execOp a.eval o).run P w = res at h
  cases res with
  | ok x w' =>
    cases x with
    | value v => exact h
    | skip => exact h
    | enter f args =>
      refine ⟨fun hs => by simp [FW] at hs, callsIn_FW.2 (Calls.mono h fun e w'' ⟨v, he, hv⟩ => ?_)⟩
      subst he; exact hv
    | round l f tmps assign body =>
      refine ⟨fun hs => by simp [FW] at hs, ?_⟩
      have h2 : RoundIn (FW r) (n - 1) P l f tmps assign body w' (fun e w' => ∃ v, e = .returned v ∧ next (a.put o.dst v) w') := by
        refine ⟨trivial, fun c cs _ => ?_⟩
        exact h.2 c cs (fun d hd => by simp [FW] at hd)
      refine h2.mono fun e w'' ⟨v, he, hv⟩ => ?_
      subst he; exact hv
    | _ => exact h.elim
  | halt x w' => exact h.elim

/-- One operation of a region, its guard looked at. -/
def stepO (P : Program) (ops : Array Oper) (o : Oper) (a : Act) (w : World) (K : Act → World → Prop) : Prop :=
  if Region.wanted o (yielded ops a.tmps) then stepW P o a.eval w (fun v w' => K (a.put o.dst v) w') else K (a.put o.dst undef) w

theorem stepO_mono {P : Program} {ops : Array Oper} {o : Oper} {a : Act} {w : World} {K K' : Act → World → Prop} (h : ∀ a w, K a w → K' a w) (hs : stepO P ops o a w K) :
    stepO P ops o a w K' := by
  unfold stepO at *
  split
  · rename_i hw; rw [if_pos hw] at hs; exact upW_mono (fun _ _ h' => h _ _ h') hs
  · rename_i hw; rw [if_neg hw] at hs; exact h _ _ hs

def wpS (P : Program) (ops : Array Oper) (K : Act → World → Prop) : List Oper → Act → World → Prop
  | [], a, w => K a w
  | o :: l, a, w => stepO P ops o a w (wpS P ops K l)

theorem wpS_sound {P : Program} {ops : Array Oper} {r : Option Nat} {n : Nat} {Q : Exit → Act → World → Prop} : ∀ (l : List Oper) (a : Act) (w : World),
    (∀ o ∈ l, noDefer o = true) → wpS P ops (fun a w => Q .normal a w) l a w → wpListIn (FW r) n P ops Q l a w
  | [], _, _, _, h => h
  | o :: l, a, w, hd, h => by
    unfold wpListIn
    simp only [wpS, stepO] at h
    split
    · rename_i hw
      rw [if_pos hw] at h
      exact stepW_wpIn (hd o (by simp)) (upW_mono (fun v w' h' => wpS_sound l _ _ (fun o ho => hd o (by simp [ho])) h') h)
    · rename_i hw
      rw [if_neg hw] at h
      exact ⟨fun _ _ => trivial, wpS_sound l _ _ (fun o ho => hd o (by simp [ho])) h⟩

theorem region_wpIn {P : Program} {id : Nat} {ops : Array Oper} {r : Option Nat} {n : Nat} {Q : Exit → Act → World → Prop} {a : Act} {w : World}
    (hd : ops.all noDefer = true) (h : wpS P ops (fun a w => Q .normal a w) ops.toList a w) : (Code.region id ops false).wpIn (FW r) n P Q a w :=
  wpIn_region_list (wpS_sound _ _ _ (fun o ho => by
    have := Array.all_eq_true.1 hd
    obtain ⟨i, hi, rfl⟩ := List.mem_iff_getElem.1 ho
    simpa using this i (by simpa using hi)) h)

/-! ### Whatever order the tape picks -/

def opAny (P : Program) (ops : Array Oper) (i : Nat) (K : Act → World → Prop) (a : Act) (w : World) : Prop :=
  match ops[i]? with
  | none => K a w
  | some o => stepO P ops o a w K

theorem opAny_mono {P : Program} {ops : Array Oper} {i : Nat} {K K' : Act → World → Prop} (h : ∀ a w, K a w → K' a w) {a : Act} {w : World} (hs : opAny P ops i K a w) :
    opAny P ops i K' a w := by
  unfold opAny at *
  split
  · rename_i ho; simp only [ho] at hs; exact h _ _ hs
  · rename_i o ho; simp only [ho] at hs; exact stepO_mono h hs

/-- Whatever comes up next, and S holds behind each operation. -/
def anyH (P : Program) (ops : Array Oper) (S : World → Prop) (K : Act → World → Prop) : Nat → Array Bool → Act → World → Prop
  | 0, listed, a, w => Region.ready .any ops listed = [] ∧ K a w
  | fuel + 1, listed, a, w =>
    (Region.ready .any ops listed = [] → K a w) ∧
    ∀ i ∈ Region.ready .any ops listed, opAny P ops i (fun a w => S w ∧ anyH P ops S K fuel (listed.setIfInBounds i true) a w) a w

theorem anyH_sound {P : Program} {ops : Array Oper} {S : World → Prop} {r : Option Nat} {n : Nat} {Q : Exit → Act → World → Prop} (hd : ops.all noDefer = true) :
    ∀ (fuel : Nat) (listed : Array Bool) (a : Act) (w : World), anyH P ops S (fun a w => Q .normal a w) fuel listed a w → wpAnyIn (FW r) n P .any ops Q fuel listed a w
  | 0, _, _, _, h => h
  | fuel + 1, listed, a, w, h => by
    refine ⟨h.1, fun i hi => ?_⟩
    have h2 := h.2 i hi
    unfold opAny at h2
    unfold wpOpIn
    cases ho : ops[i]? with
    | none => simp only [ho] at h2 ⊢; exact anyH_sound hd fuel _ _ _ h2.2
    | some o =>
      simp only [ho, stepO] at h2 ⊢
      have hno : noDefer o = true := by
        have := Array.all_eq_true.1 hd
        obtain ⟨hi', rfl⟩ := Array.getElem?_eq_some_iff.1 ho
        exact this i hi'
      split
      · rename_i hw
        rw [if_pos hw] at h2
        exact stepW_wpIn hno (upW_mono (fun v w' h' => anyH_sound hd fuel _ _ _ h'.2) h2)
      · rename_i hw
        rw [if_neg hw] at h2
        exact ⟨fun _ _ => trivial, anyH_sound hd fuel _ _ _ h2.2⟩

theorem region_draw_wpIn {P : Program} {id : Nat} {ops : Array Oper} {S : World → Prop} {r : Option Nat} {n : Nat} {Q : Exit → Act → World → Prop} {a : Act} {w : World}
    (hm : P.follows .mixedOrders = true) (hd : ops.all noDefer = true)
    (h : anyH P ops S (fun a w => Q .normal a w) ops.size (Array.replicate ops.size false) a { w with drawn := w.drawn + 1 }) : (Code.region id ops true).wpIn (FW r) n P Q a w :=
  wpIn_region_any hm (anyH_sound hd _ _ _ _ h)

/-- In every world that meets S, operation o yields v and leaves the world (or it is not wanted, and v is undef). -/
def Yl (P : Program) (ops : Array Oper) (S : World → Prop) (o : Oper) (v : Value) (a : Act) : Prop :=
  (Region.wanted o (yielded ops a.tmps) = true ∧ ∀ w, S w → (execOp a.eval o).run P w = .ok (.value v) w) ∨
  (Region.wanted o (yielded ops a.tmps) = false ∧ v = undef)

theorem Yl.opAny {P : Program} {ops : Array Oper} {S : World → Prop} {i : Nat} {o : Oper} {v : Value} {a : Act} (hi : ops[i]? = some o) (hy : Yl P ops S o v a)
    {K : Act → World → Prop} {w : World} (hS : S w) (h : K (a.put o.dst v) w) : opAny P ops i K a w := by
  unfold V.opAny
  simp only [hi, stepO]
  rcases hy with ⟨hw, hv⟩ | ⟨hw, rfl⟩
  · simp only [hw, if_true, stepW, hv w hS, upW]; exact h
  · simp only [hw, Bool.false_eq_true, if_false]; exact h

theorem Yl.of_same {P : Program} {ops : Array Oper} {S : World → Prop} {o : Oper} {v : Value} {a a' : Act} (hy : Yl P ops S o v a) (he : execOp a'.eval o = execOp a.eval o)
    (hw : Region.wanted o (yielded ops a'.tmps) = Region.wanted o (yielded ops a.tmps)) : Yl P ops S o v a' := by
  unfold Yl at *
  rw [he, hw]
  exact hy

theorem noSel {o : Oper} (h : noDefer o = true) : ∀ cs b, o.op ≠ .select cs b := fun cs b hc => by simp [noDefer, hc] at h

theorem opAny_put {P : Program} {ops : Array Oper} {S : World → Prop} {j : Nat} {oi oj : Oper} {v : Value} (hj : ops[j]? = some oj) (hap : oi.apart ops oj = true)
    (hi1 : noDefer oi = true) (hj1 : noDefer oj = true) {K : Act → World → Prop} {a : Act} {w : World}
    (hy : Yl P ops S oi v a) (h : opAny P ops j K (a.put oi.dst v) w) :
    opAny P ops j (fun a' w' => Yl P ops S oi v a' ∧ K (a'.put oi.dst v) w') a w := by
  obtain ⟨h1, h2, h3⟩ := Oper.apart_spec hap
  have keep : ∀ u, Yl P ops S oi v (a.put oj.dst u) := fun u =>
    hy.of_same (execOp_put oi (noSel hi1) a oj.dst u h3) (wanted_put oi a oj.dst u h3)
  unfold opAny at *
  simp only [hj, stepO] at *
  rw [wanted_put oj a oi.dst v h1] at h
  split
  · rename_i hw
    rw [if_pos hw] at h
    unfold stepW at *
    rw [execOp_put oj (noSel hj1) a oi.dst v h1] at h
    exact upW_mono (fun u w' hk => ⟨keep u, by rw [← Act.put_comm a v u h2]; exact hk⟩) h
  · rename_i hw
    rw [if_neg hw] at h
    exact ⟨keep _, by rw [← Act.put_comm a v undef h2]; exact h⟩

/-- An operation that may come up now, quiet under S, may be taken first. -/
theorem anyH_first {P : Program} {ops : Array Oper} {S : World → Prop} {K : Act → World → Prop} {i : Nat} {oi : Oper} {v : Value} (hi : ops[i]? = some oi) (hd : ops.all noDefer = true) :
    ∀ (fuel : Nat) (listed : Array Bool) (a : Act) (w : World),
      (∀ j oj, ops[j]? = some oj → j ≠ i → listed.getD j true = false → (∀ e ∈ oj.after, Region.binds .any e = true → e.on ≠ i) → oi.apart ops oj = true) →
      i ∈ Region.ready .any ops listed → Yl P ops S oi v a → S w →
      anyH P ops S K fuel (listed.setIfInBounds i true) (a.put oi.dst v) w → anyH P ops S K (fuel + 1) listed a w := by
  have hdj : ∀ (j : Nat) (o : Oper), ops[j]? = some o → noDefer o = true := fun j o ho => by
    have := Array.all_eq_true.1 hd
    obtain ⟨hj', rfl⟩ := Array.getElem?_eq_some_iff.1 ho
    exact this j hj'
  intro fuel
  induction fuel with
  | zero =>
    intro listed a w _ hr hy hS H
    refine ⟨fun h => (by rw [h] at hr; cases hr), fun j hj => ?_⟩
    by_cases hji : j = i
    · subst hji; exact hy.opAny hi hS ⟨hS, H⟩
    · have := ready_mono hj hji
      rw [H.1] at this
      cases this
  | succ fuel ih =>
    intro listed a w hfree hr hy hS H
    refine ⟨fun h => (by rw [h] at hr; cases hr), fun j hj => ?_⟩
    by_cases hji : j = i
    · subst hji; exact hy.opAny hi hS ⟨hS, H⟩
    · have h1 := H.2 j (ready_mono hj hji)
      obtain ⟨hjun, oj, hoj, hall⟩ := mem_ready.1 hj
      have hnot : ∀ e ∈ oj.after, Region.binds .any e = true → e.on ≠ i := fun e he hb heq => by
        have h1 := hall e he hb
        have h0 := (mem_ready.1 hr).1
        rw [heq] at h1
        rcases Nat.lt_or_ge i listed.size with h' | h'
        · simp [h'] at h0 h1; rw [h0] at h1; cases h1
        · simp [Array.getElem?_eq_none h'] at h1
      have h2 := opAny_put hoj (hfree j oj hoj hji hjun hnot) (hdj i oi hi) (hdj j oj hoj) hy h1
      have hfree' : ∀ k ok, ops[k]? = some ok → k ≠ i → (listed.setIfInBounds j true).getD k true = false →
          (∀ e ∈ ok.after, Region.binds .any e = true → e.on ≠ i) → oi.apart ops ok = true := fun k ok hk hki hun hno => by
        refine hfree k ok hk hki ?_ hno
        by_cases hjk : j = k
        · subst hjk; exact hjun
        · rw [getD_set_ne true hjk] at hun; exact hun
      refine opAny_mono (fun a' w' h3 => ⟨h3.2.1, ih (listed.setIfInBounds j true) a' w' hfree' (ready_mono hr (Ne.symm hji)) h3.1 h3.2.1 ?_⟩) h2
      rw [Array.setIfInBounds_comm _ _ hji]
      exact h3.2.2

theorem anyH_take {P : Program} {ops : Array Oper} {S : World → Prop} {K : Act → World → Prop} {i : Nat} {oi : Oper} {v : Value} {fuel : Nat} {listed : Array Bool} {a : Act} {w : World}
    (hi : ops[i]? = some oi) (hd : ops.all noDefer = true) (hf : Region.free .any ops listed i = true) (hr : (Region.ready .any ops listed).contains i = true)
    (hy : Yl P ops S oi v a) (hS : S w)
    (h : anyH P ops S K fuel (listed.setIfInBounds i true) (a.put oi.dst v) w) : anyH P ops S K (fuel + 1) listed a w :=
  anyH_first hi hd fuel listed a w (Region.free_spec hi hf) (by simpa using hr) hy hS h

end Go.Proofs.Ytkmknolkblcbeaa.V
