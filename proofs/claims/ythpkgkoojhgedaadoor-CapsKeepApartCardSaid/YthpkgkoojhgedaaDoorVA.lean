/- A calculus of contracts over the machine: steps, heaps, a small language of resolved operations, and what each does. -/
import Derived.OrdersIn
import Derived.RangeFuncLeaves
import Derived.RangeFuncRecord
import Derived.Laws.Sem
import Derived.TacticsIn
import Derived.WalkKit
import Derived.Laws.StructEq
import Derived.ChangeKeysEq

/- A small calculus over the machine's steps: operations that yield, call or start a round; regions in every order. -/
namespace Go.Proofs.YthpkgkoojhgedaaDoor.V
set_option linter.unusedSectionVars false
set_option linter.unusedVariables false
set_option linter.unusedSimpArgs false
open Go

/-- The fence that lets everything in, in a round or not. -/
def FW (r : Option Nat) : Fence := { fn := fun _ => True, depth := none, alive := false, round := r }

theorem callsIn_FW {r : Option Nat} {n : Nat} {P : Program} {f : FuncId} {args : Array Value} {w : World} {R : Ending → World → Prop} :
    CallsIn (FW r) n P f args w R ↔ Calls P f args w R := callsIn_wide (n := n)

/-- What one operation does: a value, nothing, a call, a round. -/
def upW (P : Program) (K : Value → World → Prop) : Result Next → Prop
  | .ok (.value v) w => K v w
  | .ok .skip w => K undef w
  | .ok (.enter f args) w => Calls P f args w (fun e w' => ∃ v, e = .returned v ∧ K v w')
  | .ok (.round l f tmps assign body) w => RoundIn (FW none) 0 P l f tmps assign body w (fun e w' => ∃ v, e = .returned v ∧ K v w')
  | _ => False

def stepW (P : Program) (o : Oper) (ρ : Operand → Value) (w : World) (K : Value → World → Prop) : Prop := upW P K ((execOp ρ o).run P w)

theorem upW_mono {P : Program} {K K' : Value → World → Prop} (h : ∀ v w, K v w → K' v w) {r : Result Next} (hr : upW P K r) : upW P K' r := by
  cases r with
  | ok x w =>
    cases x <;> simp only [upW] at hr ⊢ <;>
      first
        | exact h _ _ hr
        | exact Calls.mono hr (fun e w' ⟨v, he, hv⟩ => ⟨v, he, h _ _ hv⟩)
        | exact RoundIn.mono hr (fun e w' ⟨v, he, hv⟩ => ⟨v, he, h _ _ hv⟩)
  | halt x w => exact hr

def noDefer (o : Oper) : Bool := match o.op with
  | .defer _ => false
  | .select .. => false
  | _ => true

theorem stepW_wpIn {P : Program} {o : Oper} {a : Act} {w : World} {r : Option Nat} {n : Nat} {next : Act → World → Prop} {Q : Exit → Act → World → Prop} (hd : noDefer o = true)
    (h : stepW P o a.eval w (fun v w' => next (a.put o.dst v) w')) : o.wpIn (FW r) n P a w next Q := by
  have hsem : Oper.semAt (FW r).round a.eval o = execOp a.eval o :=
    Oper.semAt_eq _ _ _ (fun c hc => by simp [noDefer, hc] at hd)
  refine ⟨fun _ _ => trivial, ?_⟩
  rw [hsem]
  unfold stepW at h
  generalize (execOp a.eval o).run P w = res at h
  cases res with
  | ok x w' =>
    cases x with
    | value v => exact h
    | skip => exact h
    | enter f args =>
      refine ⟨fun hs => by simp [FW] at hs, callsIn_FW.2 (Calls.mono h fun e w'' ⟨v, he, hv⟩ => ?_)⟩
      subst he; exact hv
    | round l f tmps assign body =>
      refine ⟨fun hs => by simp [FW] at hs, ?_⟩
      have h2 : RoundIn (FW r) (n - 1) P l f tmps assign body w' (fun e w' => ∃ v, e = .returned v ∧ next (a.put o.dst v) w') := by
        refine ⟨trivial, fun c cs _ => ?_⟩
        exact h.2 c cs (fun d hd => by simp [FW] at hd)
      refine h2.mono fun e w'' ⟨v, he, hv⟩ => ?_
      subst he; exact hv
    | _ => exact h.elim
  | halt x w' => exact h.elim

/-- One operation of a region, its guard looked at. -/
def stepO (P : Program) (ops : Array Oper) (o : Oper) (a : Act) (w : World) (K : Act → World → Prop) : Prop :=
  if Region.wanted o (yielded ops a.tmps) then stepW P o a.eval w (fun v w' => K (a.put o.dst v) w') else K (a.put o.dst undef) w

theorem stepO_mono {P : Program} {ops : Array Oper} {o : Oper} {a : Act} {w : World} {K K' : Act → World → Prop} (h : ∀ a w, K a w → K' a w) (hs : stepO P ops o a w K) :
    stepO P ops o a w K' := by
  unfold stepO at *
  split
  · rename_i hw; rw [if_pos hw] at hs; exact upW_mono (fun _ _ h' => h _ _ h') hs
  · rename_i hw; rw [if_neg hw] at hs; exact h _ _ hs

def wpS (P : Program) (ops : Array Oper) (K : Act → World → Prop) : List Oper → Act → World → Prop
  | [], a, w => K a w
  | o :: l, a, w => stepO P ops o a w (wpS P ops K l)

theorem wpS_sound {P : Program} {ops : Array Oper} {r : Option Nat} {n : Nat} {Q : Exit → Act → World → Prop} : ∀ (l : List Oper) (a : Act) (w : World),
    (∀ o ∈ l, noDefer o = true) → wpS P ops (fun a w => Q .normal a w) l a w → wpListIn (FW r) n P ops Q l a w
  | [], _, _, _, h => h
  | o :: l, a, w, hd, h => by
    unfold wpListIn
    simp only [wpS, stepO] at h
    split
    · rename_i hw
      rw [if_pos hw] at h
      exact stepW_wpIn (hd o (by simp)) (upW_mono (fun v w' h' => wpS_sound l _ _ (fun o ho => hd o (by simp [ho])) h') h)
    · rename_i hw
      rw [if_neg hw] at h
      exact ⟨fun _ _ => trivial, wpS_sound l _ _ (fun o ho => hd o (by simp [ho])) h⟩

theorem region_wpIn {P : Program} {id : Nat} {ops : Array Oper} {r : Option Nat} {n : Nat} {Q : Exit → Act → World → Prop} {a : Act} {w : World}
    (hd : ops.all noDefer = true) (h : wpS P ops (fun a w => Q .normal a w) ops.toList a w) : (Code.region id ops false).wpIn (FW r) n P Q a w :=
  wpIn_region_list (wpS_sound _ _ _ (fun o ho => by
    have := Array.all_eq_true.1 hd
    obtain ⟨i, hi, rfl⟩ := List.mem_iff_getElem.1 ho
    simpa using this i (by simpa using hi)) h)

/-! ### Whatever order the tape picks -/

def opAny (P : Program) (ops : Array Oper) (i : Nat) (K : Act → World → Prop) (a : Act) (w : World) : Prop :=
  match ops[i]? with
  | none => K a w
  | some o => stepO P ops o a w K

theorem opAny_mono {P : Program} {ops : Array Oper} {i : Nat} {K K' : Act → World → Prop} (h : ∀ a w, K a w → K' a w) {a : Act} {w : World} (hs : opAny P ops i K a w) :
    opAny P ops i K' a w := by
  unfold opAny at *
  split
  · rename_i ho; simp only [ho] at hs; exact h _ _ hs
  · rename_i o ho; simp only [ho] at hs; exact stepO_mono h hs

/-- Whatever comes up next, and S holds behind each operation. -/
def anyH (P : Program) (ops : Array Oper) (S : World → Prop) (K : Act → World → Prop) : Nat → Array Bool → Act → World → Prop
  | 0, listed, a, w => Region.ready .any ops listed = [] ∧ K a w
  | fuel + 1, listed, a, w =>
    (Region.ready .any ops listed = [] → K a w) ∧
    ∀ i ∈ Region.ready .any ops listed, opAny P ops i (fun a w => S w ∧ anyH P ops S K fuel (listed.setIfInBounds i true) a w) a w

theorem anyH_sound {P : Program} {ops : Array Oper} {S : World → Prop} {r : Option Nat} {n : Nat} {Q : Exit → Act → World → Prop} (hd : ops.all noDefer = true) :
    ∀ (fuel : Nat) (listed : Array Bool) (a : Act) (w : World), anyH P ops S (fun a w => Q .normal a w) fuel listed a w → wpAnyIn (FW r) n P .any ops Q fuel listed a w
  | 0, _, _, _, h => h
  | fuel + 1, listed, a, w, h => by
    refine ⟨h.1, fun i hi => ?_⟩
    have h2 := h.2 i hi
    unfold opAny at h2
    unfold wpOpIn
    cases ho : ops[i]? with
    | none => simp only [ho] at h2 ⊢; exact anyH_sound hd fuel _ _ _ h2.2
    | some o =>
      simp only [ho, stepO] at h2 ⊢
      have hno : noDefer o = true := by
        have := Array.all_eq_true.1 hd
        obtain ⟨hi', rfl⟩ := Array.getElem?_eq_some_iff.1 ho
        exact this i hi'
      split
      · rename_i hw
        rw [if_pos hw] at h2
        exact stepW_wpIn hno (upW_mono (fun v w' h' => anyH_sound hd fuel _ _ _ h'.2) h2)
      · rename_i hw
        rw [if_neg hw] at h2
        exact ⟨fun _ _ => trivial, anyH_sound hd fuel _ _ _ h2.2⟩

theorem region_draw_wpIn {P : Program} {id : Nat} {ops : Array Oper} {S : World → Prop} {r : Option Nat} {n : Nat} {Q : Exit → Act → World → Prop} {a : Act} {w : World}
    (hm : P.follows .mixedOrders = true) (hd : ops.all noDefer = true)
    (h : anyH P ops S (fun a w => Q .normal a w) ops.size (Array.replicate ops.size false) a { w with drawn := w.drawn + 1 }) : (Code.region id ops true).wpIn (FW r) n P Q a w :=
  wpIn_region_any hm (anyH_sound hd _ _ _ _ h)

/-- In every world that meets S, operation o yields v and leaves the world (or it is not wanted, and v is undef). -/
def Yl (P : Program) (ops : Array Oper) (S : World → Prop) (o : Oper) (v : Value) (a : Act) : Prop :=
  (Region.wanted o (yielded ops a.tmps) = true ∧ ∀ w, S w → (execOp a.eval o).run P w = .ok (.value v) w) ∨
  (Region.wanted o (yielded ops a.tmps) = false ∧ v = undef)

theorem Yl.opAny {P : Program} {ops : Array Oper} {S : World → Prop} {i : Nat} {o : Oper} {v : Value} {a : Act} (hi : ops[i]? = some o) (hy : Yl P ops S o v a)
    {K : Act → World → Prop} {w : World} (hS : S w) (h : K (a.put o.dst v) w) : opAny P ops i K a w := by
  unfold V.opAny
  simp only [hi, stepO]
  rcases hy with ⟨hw, hv⟩ | ⟨hw, rfl⟩
  · simp only [hw, if_true, stepW, hv w hS, upW]; exact h
  · simp only [hw, Bool.false_eq_true, if_false]; exact h

theorem Yl.of_same {P : Program} {ops : Array Oper} {S : World → Prop} {o : Oper} {v : Value} {a a' : Act} (hy : Yl P ops S o v a) (he : execOp a'.eval o = execOp a.eval o)
    (hw : Region.wanted o (yielded ops a'.tmps) = Region.wanted o (yielded ops a.tmps)) : Yl P ops S o v a' := by
  unfold Yl at *
  rw [he, hw]
  exact hy

theorem noSel {o : Oper} (h : noDefer o = true) : ∀ cs b, o.op ≠ .select cs b := fun cs b hc => by simp [noDefer, hc] at h

theorem opAny_put {P : Program} {ops : Array Oper} {S : World → Prop} {j : Nat} {oi oj : Oper} {v : Value} (hj : ops[j]? = some oj) (hap : oi.apart ops oj = true)
    (hi1 : noDefer oi = true) (hj1 : noDefer oj = true) {K : Act → World → Prop} {a : Act} {w : World}
    (hy : Yl P ops S oi v a) (h : opAny P ops j K (a.put oi.dst v) w) :
    opAny P ops j (fun a' w' => Yl P ops S oi v a' ∧ K (a'.put oi.dst v) w') a w := by
  obtain ⟨h1, h2, h3⟩ := Oper.apart_spec hap
  have keep : ∀ u, Yl P ops S oi v (a.put oj.dst u) := fun u =>
    hy.of_same (execOp_put oi (noSel hi1) a oj.dst u h3) (wanted_put oi a oj.dst u h3)
  unfold opAny at *
  simp only [hj, stepO] at *
  rw [wanted_put oj a oi.dst v h1] at h
  split
  · rename_i hw
    rw [if_pos hw] at h
    unfold stepW at *
    rw [execOp_put oj (noSel hj1) a oi.dst v h1] at h
    exact upW_mono (fun u w' hk => ⟨keep u, by rw [← Act.put_comm a v u h2]; exact hk⟩) h
  · rename_i hw
    rw [if_neg hw] at h
    exact ⟨keep _, by rw [← Act.put_comm a v undef h2]; exact h⟩

/-- An operation that may come up now, quiet under S, may be taken first. -/
theorem anyH_first {P : Program} {ops : Array Oper} {S : World → Prop} {K : Act → World → Prop} {i : Nat} {oi : Oper} {v : Value} (hi : ops[i]? = some oi) (hd : ops.all noDefer = true) :
    ∀ (fuel : Nat) (listed : Array Bool) (a : Act) (w : World),
      (∀ j oj, ops[j]? = some oj → j ≠ i → listed.getD j true = false → (∀ e ∈ oj.after, Region.binds .any e = true → e.on ≠ i) → oi.apart ops oj = true) →
      i ∈ Region.ready .any ops listed → Yl P ops S oi v a → S w →
      anyH P ops S K fuel (listed.setIfInBounds i true) (a.put oi.dst v) w → anyH P ops S K (fuel + 1) listed a w := by
  have hdj : ∀ (j : Nat) (o : Oper), ops[j]? = some o → noDefer o = true := fun j o ho => by
    have := Array.all_eq_true.1 hd
    obtain ⟨hj', rfl⟩ := Array.getElem?_eq_some_iff.1 ho
    exact this j hj'
  intro fuel
  induction fuel with
  | zero =>
    intro listed a w _ hr hy hS H
    refine ⟨fun h => (by rw [h] at hr; cases hr), fun j hj => ?_⟩
    by_cases hji : j = i
    · subst hji; exact hy.opAny hi hS ⟨hS, H⟩
    · have := ready_mono hj hji
      rw [H.1] at this
      cases this
  | succ fuel ih =>
    intro listed a w hfree hr hy hS H
    refine ⟨fun h => (by rw [h] at hr; cases hr), fun j hj => ?_⟩
    by_cases hji : j = i
    · subst hji; exact hy.opAny hi hS ⟨hS, H⟩
    · have h1 := H.2 j (ready_mono hj hji)
      obtain ⟨hjun, oj, hoj, hall⟩ := mem_ready.1 hj
      have hnot : ∀ e ∈ oj.after, Region.binds .any e = true → e.on ≠ i := fun e he hb heq => by
        have h1 := hall e he hb
        have h0 := (mem_ready.1 hr).1
        rw [heq] at h1
        rcases Nat.lt_or_ge i listed.size with h' | h'
        · simp [h'] at h0 h1; rw [h0] at h1; cases h1
        · simp [Array.getElem?_eq_none h'] at h1
      have h2 := opAny_put hoj (hfree j oj hoj hji hjun hnot) (hdj i oi hi) (hdj j oj hoj) hy h1
      have hfree' : ∀ k ok, ops[k]? = some ok → k ≠ i → (listed.setIfInBounds j true).getD k true = false →
          (∀ e ∈ ok.after, Region.binds .any e = true → e.on ≠ i) → oi.apart ops ok = true := fun k ok hk hki hun hno => by
        refine hfree k ok hk hki ?_ hno
        by_cases hjk : j = k
        · subst hjk; exact hjun
        · rw [getD_set_ne true hjk] at hun; exact hun
      refine opAny_mono (fun a' w' h3 => ⟨h3.2.1, ih (listed.setIfInBounds j true) a' w' hfree' (ready_mono hr (Ne.symm hji)) h3.1 h3.2.1 ?_⟩) h2
      rw [Array.setIfInBounds_comm _ _ hji]
      exact h3.2.2

theorem anyH_take {P : Program} {ops : Array Oper} {S : World → Prop} {K : Act → World → Prop} {i : Nat} {oi : Oper} {v : Value} {fuel : Nat} {listed : Array Bool} {a : Act} {w : World}
    (hi : ops[i]? = some oi) (hd : ops.all noDefer = true) (hf : Region.free .any ops listed i = true) (hr : (Region.ready .any ops listed).contains i = true)
    (hy : Yl P ops S oi v a) (hS : S w)
    (h : anyH P ops S K fuel (listed.setIfInBounds i true) (a.put oi.dst v) w) : anyH P ops S K (fuel + 1) listed a w :=
  anyH_first hi hd fuel listed a w (Region.free_spec hi hf) (by simpa using hr) hy hS h

end Go.Proofs.YthpkgkoojhgedaaDoor.V

/- Heaps as partial functions, and what a world has of them: a part that is spoken of and a part that stays. -/
namespace Go.Proofs.YthpkgkoojhgedaaDoor.V
set_option linter.unusedSectionVars false
set_option linter.unusedVariables false
set_option linter.unusedSimpArgs false
open Go

abbrev Hp := Nat → Option Obj

@[irreducible] def upd (h : Hp) (b : Nat) (o : Obj) : Hp := fun x => if x = b then some o else h x

theorem upd_same (h : Hp) (b : Nat) (o : Obj) : upd h b o b = some o := by simp [upd]
theorem upd_other {h : Hp} {b c : Nat} {o : Obj} (hc : c ≠ b) : upd h b o c = h c := by simp [upd, hc]
theorem upd_upd (h : Hp) (b : Nat) (o p : Obj) : upd (upd h b o) b p = upd h b p := by funext x; simp [upd]; split <;> rfl

/-- The streams are as they were. -/
structure Still (w w' : World) : Prop where
  os : w'.os = w.os
  tape : w'.tape = w.tape
  output : w'.output = w.output

theorem Still.trans {a b c : World} (h : Still a b) (k : Still b c) : Still a c := ⟨k.os.trans h.os, k.tape.trans h.tape, k.output.trans h.output⟩

/-- What stays: hidden blocks, and the streams of a world. -/
structure Fm where
  hid : Hp
  base : World

instance : CoeFun Fm (fun _ => Nat → Option Obj) := ⟨Fm.hid⟩

/-- w has h, and f beside it. -/
structure Rep (w : World) (h : Hp) (f : Fm) : Prop where
  vis : ∀ b o, h b = some o → w.heap[b]? = some o
  hid : ∀ b o, f b = some o → w.heap[b]? = some o
  dis : ∀ b o, h b = some o → f b = none
  kp : Still f.base w

/-- One block turned. -/
structure Upd (w w' : World) (b : Nat) (o : Obj) : Prop where
  get : ∀ x, w'.heap[x]? = if x = b then some o else w.heap[x]?
  still : Still w w'

theorem Rep.heap {w w' : World} {h : Hp} {f : Fm} (hr : Rep w h f) (he : w'.heap = w.heap) (hs : Still w w' := by exact ⟨rfl, rfl, rfl⟩) : Rep w' h f :=
  ⟨fun b o hb => by rw [he]; exact hr.vis b o hb, fun b o hb => by rw [he]; exact hr.hid b o hb, hr.dis, hr.kp.trans hs⟩

theorem Rep.drew {w : World} {h : Hp} {f : Fm} (hr : Rep w h f) : Rep { w with drawn := w.drawn + 1 } h f := hr.heap rfl

theorem Rep.set {w w' : World} {h : Hp} {f : Fm} {b : Nat} {o o' : Obj} (hr : Rep w h f) (hb : h b = some o)
    (hu : Upd w w' b o') : Rep w' (upd h b o') f := by
  have he := hu.get
  refine ⟨fun c p hc => ?_, fun c p hc => ?_, fun c p hc => ?_, hr.kp.trans hu.still⟩
  · rw [he]
    unfold upd at hc
    split
    · rename_i e; rw [if_pos e] at hc; exact hc
    · rename_i e; rw [if_neg e] at hc; exact hr.vis c p hc
  · rw [he]
    have hne : c ≠ b := fun e => by subst e; rw [hr.dis c o hb] at hc; cases hc
    rw [if_neg hne]; exact hr.hid c p hc
  · unfold upd at hc
    split at hc
    · rename_i e; subst e; exact hr.dis c o hb
    · exact hr.dis c p hc

theorem Rep.fresh_vis {w : World} {h : Hp} {f : Fm} (hr : Rep w h f) : h w.heap.size = none := by
  cases hh : h w.heap.size with
  | none => rfl
  | some o => have := hr.vis _ _ hh; simp at this

theorem Rep.fresh_hid {w : World} {h : Hp} {f : Fm} (hr : Rep w h f) : f w.heap.size = none := by
  cases hh : f w.heap.size with
  | none => rfl
  | some o => have := hr.hid _ _ hh; simp at this

theorem push_get {w : World} {o : Obj} (x : Nat) : (w.heap.push o)[x]? = if x = w.heap.size then some o else w.heap[x]? := by
  rw [Array.getElem?_push]

theorem Rep.push {w w' : World} {h : Hp} {f : Fm} {o : Obj} (hr : Rep w h f) (he : w'.heap = w.heap.push o) (hs : Still w w' := by exact ⟨rfl, rfl, rfl⟩) : Rep w' (upd h w.heap.size o) f := by
  refine ⟨fun c p hc => ?_, fun c p hc => ?_, fun c p hc => ?_, hr.kp.trans hs⟩
  · rw [he, push_get]
    unfold upd at hc
    split
    · rename_i e; rw [if_pos e] at hc; exact hc
    · rename_i e; rw [if_neg e] at hc; exact hr.vis c p hc
  · rw [he, push_get]
    have hne : c ≠ w.heap.size := fun e => by subst e; rw [hr.fresh_hid] at hc; cases hc
    rw [if_neg hne]; exact hr.hid c p hc
  · unfold upd at hc
    split at hc
    · rename_i e; subst e; exact hr.fresh_hid
    · exact hr.dis c p hc

/-- A new block that is kept out of sight. -/
theorem Rep.push_hid {w w' : World} {h : Hp} {f : Fm} {o : Obj} (hr : Rep w h f) (he : w'.heap = w.heap.push o) (hs : Still w w' := by exact ⟨rfl, rfl, rfl⟩) : Rep w' h { f with hid := upd f.hid w.heap.size o } := by
  refine ⟨fun c p hc => ?_, fun c p hc => ?_, fun c p hc => ?_, hr.kp.trans hs⟩
  · rw [he, push_get]
    have hne : c ≠ w.heap.size := fun e => by subst e; rw [hr.fresh_vis] at hc; cases hc
    rw [if_neg hne]; exact hr.vis c p hc
  · rw [he, push_get]
    replace hc : upd f.hid w.heap.size o c = some p := hc
    unfold upd at hc
    split
    · rename_i e; rw [if_pos e] at hc; exact hc
    · rename_i e; rw [if_neg e] at hc; exact hr.hid c p hc
  · have hne : c ≠ w.heap.size := fun e => by subst e; rw [hr.fresh_vis] at hc; cases hc
    show upd f.hid w.heap.size o c = none
    rw [upd_other hne]; exact hr.dis c p hc

/-- A call: whatever else there is stays. -/
@[irreducible] def Ok (P : Program) (f : FuncId) (args : List Value) (h : Hp) (Q : Value → Hp → Prop) : Prop :=
  ∀ w fr, Rep w h fr → Calls P f args.toArray w (fun e w' => ∃ v h', e = .returned v ∧ Q v h' ∧ Rep w' h' fr)

theorem Ok.run {P : Program} {f : FuncId} {args : List Value} {h : Hp} {Q : Value → Hp → Prop} (hok : Ok P f args h Q) :
    ∀ w fr, Rep w h fr → Calls P f args.toArray w (fun e w' => ∃ v h', e = .returned v ∧ Q v h' ∧ Rep w' h' fr) := by unfold Ok at hok; exact hok

theorem Ok.intro {P : Program} {f : FuncId} {args : List Value} {h : Hp} {Q : Value → Hp → Prop}
    (hok : ∀ w fr, Rep w h fr → Calls P f args.toArray w (fun e w' => ∃ v h', e = .returned v ∧ Q v h' ∧ Rep w' h' fr)) : Ok P f args h Q := by unfold Ok; exact hok

theorem Ok.mono {P : Program} {f : FuncId} {args : List Value} {h : Hp} {Q Q' : Value → Hp → Prop} (hok : Ok P f args h Q) (hq : ∀ v h', Q v h' → Q' v h') : Ok P f args h Q' :=
  .intro fun w fr hr => (hok.run w fr hr).mono fun e w' ⟨v, h', he, hv, hr'⟩ => ⟨v, h', he, hq _ _ hv, hr'⟩

/-- A round of the loop l, as its iterator asks for it. -/
@[irreducible] def OkY (P : Program) (l : Nat) (vs : List Value) (h : Hp) (Q : Value → Hp → Prop) : Prop :=
  ∀ w fr, Rep w h fr → ∃ f tmps assign body w', (Instr.yield l vs.toArray).run P w = .ok (.round l f tmps assign body) w' ∧
    RoundIn (FW none) 0 P l f tmps assign body w' (fun e w'' => ∃ v h', e = .returned v ∧ Q v h' ∧ Rep w'' h' fr)

theorem OkY.run {P : Program} {l : Nat} {vs : List Value} {h : Hp} {Q : Value → Hp → Prop} (hok : OkY P l vs h Q) :
    ∀ w fr, Rep w h fr → ∃ f tmps assign body w', (Instr.yield l vs.toArray).run P w = .ok (.round l f tmps assign body) w' ∧
      RoundIn (FW none) 0 P l f tmps assign body w' (fun e w'' => ∃ v h', e = .returned v ∧ Q v h' ∧ Rep w'' h' fr) := by unfold OkY at hok; exact hok

theorem OkY.intro {P : Program} {l : Nat} {vs : List Value} {h : Hp} {Q : Value → Hp → Prop}
    (hok : ∀ w fr, Rep w h fr → ∃ f tmps assign body w', (Instr.yield l vs.toArray).run P w = .ok (.round l f tmps assign body) w' ∧
      RoundIn (FW none) 0 P l f tmps assign body w' (fun e w'' => ∃ v h', e = .returned v ∧ Q v h' ∧ Rep w'' h' fr)) : OkY P l vs h Q := by unfold OkY; exact hok

theorem OkY.mono {P : Program} {l : Nat} {vs : List Value} {h : Hp} {Q Q' : Value → Hp → Prop} (hok : OkY P l vs h Q) (hq : ∀ v h', Q v h' → Q' v h') : OkY P l vs h Q' :=
  .intro fun w fr hr => let ⟨f, tmps, assign, body, w', h1, h2⟩ := hok.run w fr hr
    ⟨f, tmps, assign, body, w', h1, h2.mono fun e w'' ⟨v, h', he, hv, hr'⟩ => ⟨v, h', he, hq _ _ hv, hr'⟩⟩

/-- Two heaps side by side. -/
def join (h g : Hp) : Hp := fun b => (h b).or (g b)
def Apart (h g : Hp) : Prop := ∀ b o, h b = some o → g b = none

theorem join_left {h g : Hp} {b : Nat} {o : Obj} (hb : h b = some o) : join h g b = some o := by simp [join, hb]
theorem join_right {h g : Hp} {b : Nat} (hb : h b = none) : join h g b = g b := by simp [join, hb]

/-- The frame's rule. -/
theorem Ok.frame {P : Program} {f : FuncId} {args : List Value} {h g : Hp} {Q : Value → Hp → Prop} (hok : Ok P f args h Q) (ha : Apart h g) :
    Ok P f args (join h g) (fun v h' => ∃ h1, h' = join h1 g ∧ Apart h1 g ∧ Q v h1) := by
  refine .intro fun w fr hr => ?_
  have h1 : Rep w h { fr with hid := join g fr.hid } := by
    refine ⟨fun b o hb => hr.vis b o (join_left hb), fun b o hb => ?_, fun b o hb => ?_, hr.kp⟩
    · replace hb : join g fr.hid b = some o := hb
      unfold join at hb
      cases hg : g b with
      | none => rw [hg] at hb; exact hr.hid b o (by simpa using hb)
      | some p =>
        rw [hg] at hb
        simp at hb; subst hb
        refine hr.vis b p ?_
        cases hh : h b with
        | none => rw [join_right hh]; exact hg
        | some q => rw [ha b q hh] at hg; cases hg
    · have := hr.dis b o (join_left hb)
      show join g fr.hid b = none
      rw [join, ha b o hb, this]; rfl
  refine (hok.run w _ h1).mono fun e w' ⟨v, h', he, hv, hr'⟩ => ⟨v, join h' g, he, ⟨h', rfl, ?_, hv⟩, ?_⟩
  · intro b o hb
    have : join g fr.hid b = none := hr'.dis b o hb
    unfold join at this
    cases hg : g b with
    | none => rfl
    | some p => rw [hg] at this; simp at this
  · refine ⟨fun b o hb => ?_, fun b o hb => ?_, fun b o hb => ?_, hr'.kp⟩
    · cases hh : h' b with
      | some q => rw [join_left hh] at hb; cases hb; exact hr'.vis b _ hh
      | none => rw [join_right hh] at hb; exact hr'.hid b o (show join g fr.hid b = some o from join_left hb)
    · cases hg : g b with
      | none => exact hr'.hid b o (show join g fr.hid b = some o by rw [join_right hg]; exact hb)
      | some p =>
        have : join h g b = some p := by
          cases hh : h b with
          | none => rw [join_right hh]; exact hg
          | some q => rw [ha b q hh] at hg; cases hg
        rw [hr.dis b p this] at hb; cases hb
    · cases hf : fr b with
      | none => rfl
      | some p =>
        exfalso
        cases hh : h' b with
        | some q =>
          have : join g fr.hid b = none := hr'.dis b q hh
          cases hg : g b with
          | none => rw [join_right hg, hf] at this; cases this
          | some u => rw [join_left hg] at this; cases this
        | none =>
          rw [join_right hh] at hb
          have : join h g b = some o := by
            cases hh2 : h b with
            | none => rw [join_right hh2]; exact hb
            | some q => rw [ha b q hh2] at hb; cases hb
          rw [hr.dis b o this] at hf; cases hf

/-! ### Cells -/

theorem Rep.cell {w : World} {h : Hp} {f : Fm} (hr : Rep w h f) {b o : Nat} {c : Array Value} {ty : TypeId} {z : Nat × Nat} (hb : h b = some (.cells c ty z)) :
    w.cell? ⟨b, o, none⟩ = c[o]? := by simp [World.cell?, hr.vis b _ hb]

theorem cell_of {w : World} {b o : Nat} {c : Array Value} {ty : TypeId} {z : Nat × Nat} (hb : w.heap[b]? = some (.cells c ty z)) :
    w.cell? ⟨b, o, none⟩ = c[o]? := by simp [World.cell?, hb]

theorem frozen_of {w : World} {b o : Nat} {c : Array Value} {ty : TypeId} {z : Nat × Nat} (hb : w.heap[b]? = some (.cells c ty z)) :
    w.frozen? ⟨b, o, none⟩ = (decide (z.1 ≤ o) && decide (o < z.2)) := by obtain ⟨lo, hi⟩ := z; simp [World.frozen?, hb]

theorem setCell_get {w : World} {b o : Nat} {c : Array Value} {ty : TypeId} {z : Nat × Nat} {v : Value} (hb : w.heap[b]? = some (.cells c ty z)) (x : Nat) :
    (w.setCell ⟨b, o, none⟩ v).heap[x]? = if x = b then some (.cells (c.setIfInBounds o v) ty z) else w.heap[x]? := by
  simp only [World.setCell, Array.getElem?_modify]
  split
  · rename_i e; subst e; simp [hb]
  · rename_i e; rw [if_neg (fun h => e h.symm)]

end Go.Proofs.YthpkgkoojhgedaaDoor.V

/- A small language of resolved operations, and what each does to a frame and a heap. -/
namespace Go.Proofs.YthpkgkoojhgedaaDoor.V
set_option linter.unusedSectionVars false
set_option linter.unusedVariables false
set_option linter.unusedSimpArgs false
open Go

/-- What a temporary is known to hold: a value, or the address of a place in a local box that nobody else sees. -/
inductive Ent where
  | v (x : Value)
  | l (r o : Nat)

inductive X where
  | t (n : Nat)
  | c (v : Value)

abbrev Env := List (Nat × Ent)
abbrev Bx := List (Nat × List Value)

def look : Env → Nat → Option Ent
  | [], _ => none
  | (k, e) :: r, t => if k = t then some e else look r t

def lookB : Bx → Nat → Option (List Value)
  | [], _ => none
  | (k, e) :: r, t => if k = t then some e else lookB r t

def ox (ρ : Env) : X → Option Ent
  | .t n => look ρ n
  | .c v => some (.v v)

def oxs (ρ : Env) : List X → Option (List Ent)
  | [] => some []
  | x :: xs => match ox ρ x with
    | none => none
    | some e => match oxs ρ xs with
      | none => none
      | some es => some (e :: es)

/-- Everything that is known in the first is known in the second. -/
def subE : Env → Env → Prop
  | [], _ => True
  | (t, e) :: r, ρ => look ρ t = some e ∧ subE r ρ
def subB : Bx → Bx → Prop
  | [], _ => True
  | (t, e) :: r, ρ => lookB ρ t = some e ∧ subB r ρ

def noLoc (d : Nat) : Env → Bool
  | [] => true
  | (_, .l r _) :: ρ => if r = d then false else noLoc d ρ
  | (_, .v _) :: ρ => noLoc d ρ

inductive EqS where
  | b | i | s | p | sl | mp | fn
  deriving DecidableEq

inductive EqT where
  | one (e : EqS)
  | ag (l : List (Nat × EqS))

/-- Operations that only look. -/
inductive Pr where
  | mv | nilc | pick
  | fa (off : Nat) | iaS (esz : Nat) | iaA (len esz : Nat)
  | ld (sz : Nat) (ag : Bool) | fld (off sz : Nat) (ag : Bool) | ixA (len sz : Nat) (ag : Bool) | ixS
  | ar (op : BinOp) | cm (op : BinOp) | bt (op : BinOp) | dv (op : BinOp) | sh (op : BinOp) | sop (op : BinOp) | eq (neg : Bool) (t : EqT)
  | un (op : UnOp) | cv (k : IntKind) | ext (i : Nat) | lenS | lenT | lenM | cap | min2 | max2 | min3 | max3
  | slS (esz : Nat) (lo hi mx : Bool) | slA (len esz : Nat) (lo hi : Bool) | slT (lo hi : Bool)
  | look (k : EqT) (z : Value) (ok : Bool)
  | bld (z : List Value) (pl : List (Nat × Nat)) | mkf (fn : Fn) (n : Nat) | mki (t : TypeId) | b2s

/-- Operations that do something. -/
inductive Ef where
  | pr (p : Pr)
  | st (sz : Nat)
  | al (z : List Value) | bx
  | alh (z : List Value) (ty : TypeId) | bxh (ty : TypeId)
  | mks (z : List Value) (ty : TypeId) (bytes : Nat) | bsl (z : List Value) (ty : TypeId) (len esz : Nat) (pl : List Nat) | mkm
  | call (k : FuncId) | callv
  | app (z : List Value) (ty : TypeId) (bytes : Nat)
  | rng | nxt | ent | mkmr
  | mup (k : EqT) | mdel (k : EqT) | clrS (z : List Value) | clrM | cpy (esz : Nat)

structure I where
  g : Option (Nat × Bool)
  d : Option Nat
  o : Ef
  xs : List X

/-! ### The looks -/

def pNil : Ent → Option Ent
  | .v (.pointer (some a)) => some (.v (.pointer (some a)))
  | .v (.func (.func f) a b) => some (.v (.func (.func f) a b))
  | .v (.func (.yield f) a b) => some (.v (.func (.yield f) a b))
  | .v (.func (.methodOf t n) a b) => some (.v (.func (.methodOf t n) a b))
  | .l r o => some (.l r o)
  | _ => none

def pPick : Ent → Ent → Ent → Option Ent
  | .v (.bool t), a, b => some (if t then a else b)
  | _, _, _ => none

def pFa (off : Nat) : Ent → Option Ent
  | .v (.pointer (some ⟨b, o, none⟩)) => some (.v (.pointer (some ⟨b, o + off, none⟩)))
  | .l r o => some (.l r (o + off))
  | _ => none

def pIaS (esz : Nat) : Ent → Ent → Option Ent
  | .v (.slice (some ⟨b, o, none⟩) len _), .v (.int _ i) => if 0 ≤ i ∧ i < (len : Int) then some (.v (.pointer (some ⟨b, o + i.toNat * esz, none⟩))) else none
  | _, _ => none

def pIaA (len esz : Nat) : Ent → Ent → Option Ent
  | .v (.pointer (some ⟨b, o, none⟩)), .v (.int _ i) => if 0 ≤ i ∧ i < (len : Int) then some (.v (.pointer (some ⟨b, o + i.toNat * esz, none⟩))) else none
  | .l r o, .v (.int _ i) => if 0 ≤ i ∧ i < (len : Int) then some (.l r (o + i.toNat * esz)) else none
  | _, _ => none

/-- A stretch of cells. -/
def sub (c : Array Value) (o n : Nat) : Array Value := ((c.toList.drop o).take n).toArray

/-- A value out of a row of cells. -/
def rd (c : Array Value) (o sz : Nat) (ag : Bool) : Option Value :=
  if ag then (if o + sz ≤ c.size then some (.agg (sub c o sz)) else none) else c[o]?

def ldO (o sz : Nat) (ag : Bool) : Option Obj → Option Value
  | some (.cells c _ _) => rd c o sz ag
  | _ => none

def ldL (o sz : Nat) (ag : Bool) : Option (List Value) → Option Value
  | some cs => rd cs.toArray o sz ag
  | none => none

def toE : Option Value → Option Ent
  | some x => some (.v x)
  | none => none

def pLd (sz : Nat) (ag : Bool) (h : Hp) (β : Bx) : Ent → Option Ent
  | .v (.pointer (some ⟨b, o, none⟩)) => toE (ldO o sz ag (h b))
  | .l r o => toE (ldL o sz ag (lookB β r))
  | _ => none

def pFld (off sz : Nat) (ag : Bool) : Ent → Option Ent
  | .v (.agg cs) => toE (if ag then some (.agg (sub cs off sz)) else cs[off]?)
  | _ => none

def pIxA (len sz : Nat) (ag : Bool) : Ent → Ent → Option Ent
  | .v (.agg cs), .v (.int _ i) => if 0 ≤ i ∧ i < (len : Int) then toE (if ag then some (.agg (sub cs (i.toNat * sz) sz)) else cs[i.toNat * sz]?) else none
  | _, _ => none

def pIxS : Ent → Ent → Option Ent
  | .v (.string s), .v (.int _ i) => if 0 ≤ i then (match s[i.toNat]? with | some b => some (.v (.int .u8 b.toNat)) | none => none) else none
  | _, _ => none

def pAr (op : BinOp) : Ent → Ent → Option Ent
  | .v (.int k a), .v (.int k' b) => if k = k' then (match op with
    | .add => some (.v (.int k (k.wrap (a + b))))
    | .sub => some (.v (.int k (k.wrap (a - b))))
    | .mul => some (.v (.int k (k.wrap (a * b))))
    | _ => none) else none
  | _, _ => none

def pCm (op : BinOp) : Ent → Ent → Option Ent
  | .v (.int k a), .v (.int k' b) => if k = k' then (match op with
    | .eql => some (.v (.bool (a == b)))
    | .neq => some (.v (.bool (a != b)))
    | .lss => some (.v (.bool (decide (a < b))))
    | .leq => some (.v (.bool (decide (a ≤ b))))
    | .gtr => some (.v (.bool (decide (a > b))))
    | .geq => some (.v (.bool (decide (a ≥ b))))
    | _ => none) else none
  | _, _ => none

/-- Bit by bit. -/
def bits2 (op : BinOp) (k : IntKind) (x y : Int) : Option Int :=
  let a := BitVec.ofInt k.bits x
  let b := BitVec.ofInt k.bits y
  match op with
  | .and => some (k.wrap (a &&& b).toNat)
  | .or => some (k.wrap (a ||| b).toNat)
  | .xor => some (k.wrap (a ^^^ b).toNat)
  | .andNot => some (k.wrap (a &&& ~~~b).toNat)
  | _ => none

def pBt (op : BinOp) : Ent → Ent → Option Ent
  | .v (.int k a), .v (.int k' b) => if k = k' then (match bits2 op k a b with | some n => some (.v (.int k n)) | none => none) else none
  | _, _ => none

def pDv (op : BinOp) : Ent → Ent → Option Ent
  | .v (.int k a), .v (.int k' b) => if k = k' ∧ b ≠ 0 then (match op with
    | .quo => some (.v (.int k (k.wrap (a.tdiv b))))
    | .rem => some (.v (.int k (a.tmod b)))
    | _ => none) else none
  | _, _ => none

def pSh (op : BinOp) : Ent → Ent → Option Ent
  | .v (.int k a), .v (.int _ b) => if 0 ≤ b then (match op with
    | .shl => some (.v (.int k (k.wrap (a * 2 ^ (min b.toNat k.bits)))))
    | .shr => some (.v (.int k (a.fdiv (2 ^ (min b.toNat k.bits)))))
    | _ => none) else none
  | _, _ => none

def pSop (op : BinOp) : Ent → Ent → Option Ent
  | .v (.string a), .v (.string b) => match op with
    | .eql => some (.v (.bool (a == b)))
    | .neq => some (.v (.bool (!(a == b))))
    | _ => none
  | _, _ => none

/-- A plain block: cells, none of which is frozen. -/
def plainO : Option Obj → Bool
  | some (.cells _ _ (0, 0)) => true
  | _ => false

/-- Are two values of a type without parts the same? -/
def eqS (h : Hp) : EqS → Value → Value → Option Bool
  | .b, .bool a, .bool b => some (a == b)
  | .i, .int k a, .int k' b => if k = k' then some (a == b) else none
  | .s, .string a, .string b => some (a == b)
  | .p, .pointer none, .pointer b => some b.isNone
  | .p, .pointer (some _), .pointer none => some false
  | .p, .pointer (some a), .pointer (some b) => if plainO (h a.block) && plainO (h b.block) then some (decide (a = b)) else none
  | .sl, .slice none _ _, .slice b _ _ => some b.isNone
  | .sl, .slice (some _) _ _, .slice none _ _ => some false
  | .mp, .map none, .map b => some b.isNone
  | .mp, .map (some _), .map none => some false
  | .fn, .nilFunc, .nilFunc => some true
  | .fn, .func _ _ _, .nilFunc => some false
  | .fn, .nilFunc, .func _ _ _ => some false
  | _, _, _ => none

def eqL (h : Hp) (xs ys : Array Value) : List (Nat × EqS) → Option Bool
  | [] => some true
  | (o, e) :: l => match xs[o]?, ys[o]? with
    | some x, some y => match eqS h e x y, eqL h xs ys l with
      | some a, some b => some (a && b)
      | _, _ => none
    | _, _ => none

def eqV (h : Hp) : EqT → Value → Value → Option Bool
  | .one e, x, y => eqS h e x y
  | .ag l, .agg xs, .agg ys => eqL h xs ys l
  | _, _, _ => none

def pEq (neg : Bool) (t : EqT) (h : Hp) : Ent → Ent → Option Ent
  | .v x, .v y => match eqV h t x y with
    | some r => some (.v (.bool (if neg then !r else r)))
    | none => none
  | _, _ => none

def pUn (op : UnOp) : Ent → Option Ent
  | .v (.bool b) => match op with | .not => some (.v (.bool (!b))) | _ => none
  | .v (.int k n) => match op with | .neg => some (.v (.int k (k.wrap (0 - n)))) | .xor => (match bits2 .xor k (if k.signed then -1 else k.max) n with | some m => some (.v (.int k m)) | none => none) | _ => none
  | _ => none

def pCv (k : IntKind) : Ent → Option Ent
  | .v (.int _ n) => some (.v (.int k (k.wrap n)))
  | _ => none

def pExt (i : Nat) : Ent → Option Ent
  | .v (.tuple vs) => toE vs[i]?
  | _ => none

def mapO : Option Obj → Option (List MapEntry)
  | some (.map es _) => some es.toList
  | _ => none

def pLenS : Ent → Option Ent
  | .v (.slice _ n _) => some (.v (.int .i64 n))
  | _ => none
def pLenT : Ent → Option Ent
  | .v (.string s) => some (.v (.int .i64 s.size))
  | _ => none
def pLenM (h : Hp) : Ent → Option Ent
  | .v (.map none) => some (.v (.int .i64 0))
  | .v (.map (some r)) => match mapO (h r) with | some es => some (.v (.int .i64 es.length)) | none => none
  | _ => none

def pCap : Ent → Option Ent
  | .v (.slice _ _ n) => some (.v (.int .i64 n))
  | _ => none

def pMin2 : Ent → Ent → Option Ent
  | .v (.int k x), .v (.int k' y) => if k = k' then some (.v (.int k (if y < x then y else x))) else none
  | _, _ => none
def pMax2 : Ent → Ent → Option Ent
  | .v (.int k x), .v (.int k' y) => if k = k' then some (.v (.int k (if x < y then y else x))) else none
  | _, _ => none

/-- A bound of a slice expression: absent, or a number up to y. -/
def bnd (y : Nat) (d : Nat) : Option Ent → Option Nat
  | none => some d
  | some (.v (.int _ i)) => if 0 ≤ i ∧ i ≤ (y : Int) then some i.toNat else none
  | _ => none

def pSlS (esz : Nat) (lo hi mx : Option Ent) : Ent → Option Ent
  | .v (.slice a len cap) => match bnd cap cap mx with
    | none => none
    | some m => match bnd m (if mx.isSome then m else len) hi with
      | none => none
      | some h => if mx.isSome && hi.isNone then none else match bnd h 0 lo with
        | none => none
        | some l => match a with
          | none => some (.v (.slice none (h - l) (m - l)))
          | some ⟨b, o, none⟩ => some (.v (.slice (some ⟨b, if m = l then o else o + l * esz, none⟩) (h - l) (m - l)))
          | _ => none
  | _ => none

def pSlA (len esz : Nat) (lo hi : Option Ent) : Ent → Option Ent
  | .v (.pointer (some ⟨b, o, none⟩)) => match bnd len len hi with
    | none => none
    | some h => match bnd h 0 lo with
      | none => none
      | some l => some (.v (.slice (some ⟨b, if len = l then o else o + l * esz, none⟩) (h - l) (len - l)))
  | _ => none

def pSlT (lo hi : Option Ent) : Ent → Option Ent
  | .v (.string s) => match bnd s.size s.size hi with
    | none => none
    | some h => match bnd h 0 lo with
      | none => none
      | some l => some (.v (.string (s.extract l h)))
  | _ => none

/-- The entry of a key. -/
def find (h : Hp) (k : EqT) (x : Value) : List MapEntry → Option (Option Value)
  | [] => some none
  | e :: es => match eqV h k x e.key with
    | some true => some (some e.val)
    | some false => find h k x es
    | none => none

def pLook (k : EqT) (z : Value) (ok : Bool) (h : Hp) : Ent → Ent → Option Ent
  | .v (.map none), .v x => if (eqV h k x x).isSome then some (.v (if ok then .tuple #[z, .bool false] else z)) else none
  | .v (.map (some r)), .v x => match mapO (h r) with
    | none => none
    | some es => if (eqV h k x x).isNone then none else match find h k x es with
      | none => none
      | some none => some (.v (if ok then .tuple #[z, .bool false] else z))
      | some (some y) => some (.v (if ok then .tuple #[y, .bool true] else y))
  | _, _ => none

/-- Cells laid over cells. -/
def wrL : List Value → Nat → List Value → List Value
  | c, _, [] => c
  | c, o, v :: vs => wrL (c.set o v) (o + 1) vs

/-- The same, in a form that is cheap to look into. -/
def wrF (c : List Value) (o : Nat) : List Value → List Value
  | [] => c
  | [v] => c.set o v
  | v :: w :: vs => c.take o ++ (v :: w :: vs ++ c.drop (o + (vs.length + 2)))

theorem wrL_app : ∀ (vs c : List Value) (o : Nat), o + vs.length ≤ c.length → wrL c o vs = c.take o ++ (vs ++ c.drop (o + vs.length))
  | [], c, o, h => by simp [wrL]
  | v :: vs, c, o, h => by
    simp only [List.length_cons] at h
    have ho : o < c.length := by omega
    rw [wrL, wrL_app vs (c.set o v) (o + 1) (by simp; omega)]
    have e1 : (c.set o v).take (o + 1) = c.take o ++ [v] := by
      apply List.ext_getElem?
      intro i
      rw [List.getElem?_take, List.getElem?_set]
      by_cases h1 : i < o
      · rw [if_pos (by omega), if_neg (by omega), List.getElem?_append_left (by simp; omega), List.getElem?_take, if_pos h1]
      · by_cases h2 : i = o
        · subst h2
          rw [if_pos (by omega), if_pos rfl, if_pos ho, List.getElem?_append_right (by simp; omega)]
          simp [List.length_take, Nat.min_eq_left (by omega : i ≤ c.length)]
        · rw [if_neg (by omega), List.getElem?_eq_none]
          simp; omega
    have e2 : (c.set o v).drop (o + 1 + vs.length) = c.drop (o + (vs.length + 1)) := by
      rw [List.drop_set_of_lt (by omega)]; congr 1; omega
    rw [e1, e2]; simp

theorem wrF_eq {vs c : List Value} {o : Nat} (h : o + vs.length ≤ c.length) : wrF c o vs = wrL c o vs := by
  match vs with
  | [] => rfl
  | [v] => rfl
  | v :: w :: vs => rw [wrL_app _ _ _ h]; rfl

def fillL : List Value → List (Nat × Nat) → List Ent → Option (List Value)
  | c, [], [] => some c
  | c, (o, sz) :: pl, .v x :: es => if x.cells.size = sz ∧ o + sz ≤ c.length then fillL (wrF c o x.cells.toList) pl es else none
  | _, _, _ => none

def vals : List Ent → Option (List Value)
  | [] => some []
  | .v x :: es => match vals es with | some l => some (x :: l) | none => none
  | .l _ _ :: _ => none

def pMkf (fn : Fn) (n : Nat) (es : List Ent) : Option Ent := match vals es with
  | some l => some (.v (.func fn (l.take n).toArray (l.drop n).toArray))
  | none => none

def bytesOf : List Value → Option (List UInt8)
  | [] => some []
  | .int .u8 n :: l => match bytesOf l with | some r => some (UInt8.ofNat n.toNat :: r) | none => none
  | _ => none

def pB2s (h : Hp) : Ent → Option Ent
  | .v (.slice none _ _) => some (.v (.string .empty))
  | .v (.slice (some a) len _) => if len = 0 then some (.v (.string .empty)) else (match a with
    | ⟨b, o, none⟩ => (match h b with
      | some (.cells c _ _) => if o + len ≤ c.size then (match bytesOf (c.extract o (o + len)).toList with | some l => some (.v (.string ⟨l.toArray⟩)) | none => none) else none
      | _ => none)
    | _ => none)
  | _ => none

def opt1 (f : Bool) (es : List Ent) : Option (Option Ent × List Ent) :=
  if f then (match es with | e :: r => some (some e, r) | [] => none) else some (none, es)

def prv (h : Hp) (β : Bx) : Pr → List Ent → Option Ent
  | .mv, [e] => some e
  | .nilc, [e] => pNil e
  | .pick, [c, a, b] => pPick c a b
  | .fa off, [e] => pFa off e
  | .iaS esz, [x, i] => pIaS esz x i
  | .iaA len esz, [x, i] => pIaA len esz x i
  | .ld sz ag, [e] => pLd sz ag h β e
  | .fld off sz ag, [e] => pFld off sz ag e
  | .ixA len sz ag, [x, i] => pIxA len sz ag x i
  | .ixS, [x, i] => pIxS x i
  | .ar op, [x, y] => pAr op x y
  | .cm op, [x, y] => pCm op x y
  | .bt op, [x, y] => pBt op x y
  | .dv op, [x, y] => pDv op x y
  | .sh op, [x, y] => pSh op x y
  | .sop op, [x, y] => pSop op x y
  | .eq neg t, [x, y] => pEq neg t h x y
  | .un op, [x] => pUn op x
  | .cv k, [x] => pCv k x
  | .ext i, [x] => pExt i x
  | .lenS, [x] => pLenS x
  | .lenT, [x] => pLenT x
  | .lenM, [x] => pLenM h x
  | .cap, [x] => pCap x
  | .min2, [x, y] => pMin2 x y
  | .max2, [x, y] => pMax2 x y
  | .min3, [x, y, z] => (match pMin2 x y with | some u => pMin2 u z | none => none)
  | .max3, [x, y, z] => (match pMax2 x y with | some u => pMax2 u z | none => none)
  | .slS esz lo hi mx, e :: es => (match opt1 lo es with
    | some (l, r) => match opt1 hi r with
      | some (u, r) => match opt1 mx r with
        | some (m, []) => pSlS esz l u m e
        | _ => none
      | none => none
    | none => none)
  | .slA len esz lo hi, e :: es => (match opt1 lo es with
    | some (l, r) => match opt1 hi r with
      | some (u, []) => pSlA len esz l u e
      | _ => none
    | none => none)
  | .slT lo hi, e :: es => (match opt1 lo es with
    | some (l, r) => match opt1 hi r with
      | some (u, []) => pSlT l u e
      | _ => none
    | none => none)
  | .look k z ok, [m, x] => pLook k z ok h m x
  | .bld z pl, es => (match fillL z pl es with | some l => some (.v (.agg l.toArray)) | none => none)
  | .mkf fn n, es => pMkf fn n es
  | .mki t, [.v x] => some (.v (.iface t x))
  | .b2s, [x] => pB2s h x
  | _, _ => none

/-! ### The deeds -/

/-- Cells of an array laid over. -/
def wr : Array Value → Nat → List Value → Array Value
  | c, _, [] => c
  | c, o, v :: vs => wr (c.setIfInBounds o v) (o + 1) vs

def one (v : Value) : Bool := v.oneCell'

def stO (o sz : Nat) (x : Value) : Option Obj → Option Obj
  | some (.cells c ty z) => if x.cells.size = sz ∧ o + sz ≤ c.size ∧ (z.2 ≤ o ∨ o + sz ≤ z.1) ∧ x.cells.toList.all one = true then some (.cells (wr c o x.cells.toList) ty z) else none
  | _ => none

def stL (o sz : Nat) (x : Value) : Option (List Value) → Option (List Value)
  | some c => if x.cells.size = sz ∧ o + sz ≤ c.length ∧ x.cells.toList.all one = true then some (wrF c o x.cells.toList) else none
  | none => none

def pSt (sz : Nat) (h : Hp) (β : Bx) : Ent → Ent → Option (Hp × Bx)
  | .v (.pointer (some ⟨b, o, none⟩)), .v x => (match stO o sz x (h b) with | some ob => some (upd h b ob, β) | none => none)
  | .l r o, .v x => (match stL o sz x (lookB β r) with | some cs => some (h, (r, cs) :: β) | none => none)
  | _, _ => none

/-- A new block, wherever it lies. -/
@[irreducible] def fresh (h : Hp) (o : Obj) (K : Nat → Hp → Prop) : Prop := ∀ b, h b = none → K b (upd h b o)

theorem fresh.run {h : Hp} {o : Obj} {K : Nat → Hp → Prop} (hf : fresh h o K) : ∀ b, h b = none → K b (upd h b o) := by unfold fresh at hf; exact hf
theorem fresh.intro {h : Hp} {o : Obj} {K : Nat → Hp → Prop} (hf : ∀ b, h b = none → K b (upd h b o)) : fresh h o K := by unfold fresh; exact hf

def reps : Nat → List Value → List Value
  | 0, _ => []
  | n + 1, z => z ++ reps n z

def pairsUp : List Nat → List Ent → Nat → List Value → Option (List Value)
  | [], [], _, c => some c
  | i :: is, .v x :: es, esz, c => if x.cells.size = esz ∧ i * esz + esz ≤ c.length then pairsUp is es esz (wrL c (i * esz) x.cells.toList) else none
  | _, _, _, _ => none

def undefE : Ent := .v undef

def putE (d : Option Nat) (e : Ent) (ρ : Env) : Env := match d with | some d => (d, e) :: ρ | none => ρ

/-- Source cells of an append or a copy: n elements. -/
def srcCells (h : Hp) (n esz : Nat) : Ent → Option (List Value)
  | .v (.slice none _ _) => some []
  | .v (.slice (some a) _ _) => if n * esz = 0 then some [] else (match a with
    | ⟨b, o, none⟩ => (match h b with | some (.cells c _ _) => if o + n * esz ≤ c.size then some (c.extract o (o + n * esz)).toList else none | _ => none)
    | _ => none)
  | _ => none

theorem src_some {h : Hp} {n esz b o l cap : Nat} {c : Array Value} {ty : TypeId} {z : Nat × Nat} (hb : h b = some (.cells c ty z)) (hn : o + n * esz ≤ c.size) : srcCells h n esz (.v (.slice (some ⟨b, o, none⟩) l cap)) = some (c.extract o (o + n * esz)).toList := by
  by_cases h0 : n * esz = 0
  · simp only [srcCells]
    rw [if_pos h0, h0]; simp
  · simp only [srcCells, hb]
    rw [if_neg h0, if_pos hn]

def elen : Ent → Option Nat
  | .v (.slice _ n _) => some n
  | _ => none

/-- append: in place where there is room; else into a new block of whatever capacity. -/
@[irreducible] def appK (z : List Value) (ty : TypeId) (bytes : Nat) (h : Hp) (s x : Ent) (K : Ent → Hp → Prop) : Prop :=
  match s, elen x with
  | .v (.slice base n cap), some m => match srcCells h m z.length x with
    | none => False
    | some new => new.length = m * z.length ∧
      (if n + m ≤ cap then
        match base with
        | some ⟨b, o, none⟩ => (match h b with
          | some (.cells c ty' fz) => new.all one = true ∧ o + (n + m) * z.length ≤ c.size ∧ (fz.2 ≤ o + n * z.length ∨ o + (n + m) * z.length ≤ fz.1) ∧ K (.v (.slice (some ⟨b, o, none⟩) (n + m) cap)) (upd h b (.cells (wr c (o + n * z.length) new) ty' fz))
          | _ => False)
        | some _ => False
        | none => K (.v (.slice none (n + m) cap)) h
       else match srcCells h n z.length s with
        | none => False
        | some old => old.length = n * z.length ∧ 2 * (n + m) * bytes ≤ 2 ^ 48 ∧
          ∀ cap', n + m ≤ cap' → fresh h (.cells (old ++ new ++ reps (cap' - (n + m)) z).toArray ty (0, 0)) fun b h' => K (.v (.slice (some ⟨b, 0, none⟩) (n + m) cap')) h')
  | _, _ => False

/-- A function with a body. -/
def callable (P : Program) (k : FuncId) : Bool := match P.funcs[k]? with
  | some fn => !(fn.name == "runtime.NumGoroutine") && fn.body.isSome
  | none => false

def repl (k : EqT) (h : Hp) (x v : Value) : List MapEntry → Option (Option (List MapEntry))
  | [] => some none
  | e :: es => match eqV h k x e.key with
    | some true => if Instr.sameBits 10000 e.key x then some (some ({ e with key := x, val := v } :: es)) else none
    | some false => (match repl k h x v es with | some (some r) => some (some (e :: r)) | r => r)
    | none => none

def strk (k : EqT) (h : Hp) (x : Value) : List MapEntry → Option (Option (List MapEntry))
  | [] => some none
  | e :: es => match eqV h k x e.key with
    | some true => some (some es)
    | some false => (match strk k h x es with | some (some r) => some (some (e :: r)) | r => r)
    | none => none

@[irreducible] def mupK (k : EqT) (h : Hp) (m x v : Ent) (K : Ent → Hp → Prop) : Prop :=
  match m, x, v with
  | .v (.map (some r)), .v x, .v v => (eqV h k x x).isSome = true ∧ match h r with
    | some (.map es clock) => (match repl k h x v es.toList with
      | some (some l) => K undefE (upd h r (.map l.toArray clock))
      | some none => K undefE (upd h r (.map (es.push { key := x, val := v, born := clock }) (clock + 1)))
      | none => False)
    | _ => False
  | _, _, _ => False

@[irreducible] def mdelK (k : EqT) (h : Hp) (m x : Ent) (K : Ent → Hp → Prop) : Prop :=
  match m, x with
  | .v (.map none), .v x => (eqV h k x x).isSome = true ∧ K (.v (.tuple #[])) h
  | .v (.map (some r)), .v x => (eqV h k x x).isSome = true ∧ (match h r with
    | some (.map es clock) => (match strk k h x es.toList with
      | some (some l) => K (.v (.tuple #[])) (upd h r (.map l.toArray clock))
      | some none => K (.v (.tuple #[])) (upd h r (.map es clock))
      | none => False)
    | _ => False)
  | _, _ => False

@[irreducible] def clrMK (h : Hp) (m : Ent) (K : Ent → Hp → Prop) : Prop :=
  match m with
  | .v (.map none) => K (.v (.tuple #[])) h
  | .v (.map (some r)) => (match h r with
      | some (.map _ clock) => K (.v (.tuple #[])) (upd h r (.map #[] clock))
      | _ => False)
  | _ => False

@[irreducible] def clrSK (z : List Value) (h : Hp) (m : Ent) (K : Ent → Hp → Prop) : Prop :=
  match m with
  | .v (.slice none _ _) => K (.v (.tuple #[])) h
  | .v (.slice (some ⟨b, o, none⟩) n _) => (match h b with
      | some (.cells c ty fz) => o + n * z.length ≤ c.size ∧ (fz.2 ≤ o ∨ o + n * z.length ≤ fz.1) ∧ z.all one = true ∧ K (.v (.tuple #[])) (upd h b (.cells (wr c o (reps n z)) ty fz))
      | _ => False)
  | _ => False

@[irreducible] def cpyK (esz : Nat) (h : Hp) (d x : Ent) (K : Ent → Hp → Prop) : Prop :=
  match d, elen x with
  | .v (.slice base dl _), some m => (match srcCells h (min m dl) esz x with
      | none => False
      | some new => new.length = min m dl * esz ∧ new.all one = true ∧ (match base with
        | none => K (.v (.int .i64 (min m dl : Nat))) h
        | some ⟨b, o, none⟩ => (match h b with
          | some (.cells c ty fz) => o + min m dl * esz ≤ c.size ∧ (fz.2 ≤ o ∨ o + min m dl * esz ≤ fz.1) ∧ K (.v (.int .i64 (min m dl : Nat))) (upd h b (.cells (wr c o new) ty fz))
          | _ => False)
        | _ => False))
  | _, _ => False

def mksK (z : List Value) (ty : TypeId) (bytes : Nat) (h : Hp) (l c : Ent) (K : Ent → Hp → Prop) : Prop :=
  match l, c with
  | .v (.int _ l), .v (.int _ c) => 0 ≤ l ∧ l ≤ c ∧ c * bytes ≤ 2 ^ 48 ∧ c < 2 ^ 62 ∧
      fresh h (.cells (reps c.toNat z).toArray ty (0, 0)) fun b h' => K (.v (.slice (some ⟨b, 0, none⟩) l.toNat c.toNat)) h'
  | _, _ => False

def callvK (P : Program) (h : Hp) (g : Ent) (es : List Ent) (K : Ent → Hp → Prop) : Prop :=
  match g, vals es with
  | .v (.func (.func k) first cap), some vs => callable P k = true ∧ Ok P k (first.toList ++ vs ++ cap.toList) h fun v h' => K (.v v) h'
  | .v (.func (.yield l) first _), some vs => OkY P l (first.toList ++ vs) h fun v h' => K (.v v) h'
  | _, _ => False

/-- The start of a range over a map; a step of it; what it stands at. -/
@[irreducible] def rngK (h : Hp) (m : Ent) (K : Ent → Hp → Prop) : Prop :=
  match m with
  | .v (.map none) => fresh h (.mapIter none 0 #[] 0) fun b h' => K (.v (.pointer (some ⟨b, 0, none⟩))) h'
  | .v (.map (some r)) => (match h r with
    | some (.map _ clock) => fresh h (.mapIter (some r) clock #[] clock) fun b h' => K (.v (.pointer (some ⟨b, 0, none⟩))) h'
    | _ => False)
  | _ => False

@[irreducible] def nxtK (h : Hp) (it : Ent) (K : Ent → Hp → Prop) : Prop :=
  match it with
  | .v (.pointer (some ⟨r, 0, none⟩)) => (match h r with
    | some (.mapIter none _ _ _) => K (.v (.tuple #[.bool false])) h
    | some (.mapIter (some m) since seen last) => (match h m with
      | some (.map es clock) => (!seen.isEmpty && !es.isEmpty && es.all (·.born ≥ last)) = false ∧
          (∀ e ∈ es.toList, seen.contains e.born = false → K (.v (.tuple #[.bool true, e.key, e.val])) (upd h r (.mapIter (some m) since (seen.push e.born) clock))) ∧
          ((∀ e ∈ es.toList, seen.contains e.born = false → since ≤ e.born) → K (.v (.tuple #[.bool false])) h)
      | _ => False)
    | _ => False)
  | _ => False

def pEnt (h : Hp) : Ent → Option Ent
  | .v (.pointer (some ⟨r, 0, none⟩)) => (match h r with
    | some (.mapIter (some m) _ seen stepped) => (match seen.back?, h m with
      | some stamp, some (.map es clock) => if clock = stepped then (match es.find? (·.born == stamp) with | some e => some (.v (.tuple #[e.key, e.val])) | none => none) else none
      | _, _ => none)
    | _ => none)
  | _ => none

def optK {α : Type} : Option α → (α → Prop) → Prop
  | some x, K => K x
  | none, _ => False

theorem optK_spec {α : Type} {o : Option α} {K : α → Prop} (h : optK o K) : ∃ x, o = some x ∧ K x := by
  cases o with
  | none => cases h
  | some x => exact ⟨x, rfl, h⟩

def efK (P : Program) (h : Hp) (β : Bx) (K : Ent → Hp → Bx → Prop) : Ef → List Ent → Prop
  | .pr p, es => optK (prv h β p es) fun e => K e h β
  | .st sz, [a, x] => optK (pSt sz h β a x) fun | (h', β') => K undefE h' β'
  | .alh z ty, [] => fresh h (.cells z.toArray ty (0, 0)) fun b h' => K (.v (.pointer (some ⟨b, 0, none⟩))) h' β
  | .bxh ty, [.v x] => fresh h (.cells x.cells ty (0, 0)) fun b h' => K (.v (.pointer (some ⟨b, 0, none⟩))) h' β
  | .mks z ty bytes, [l, c] => mksK z ty bytes h l c fun e h' => K e h' β
  | .bsl z ty len esz pl, es => optK (pairsUp pl es esz (reps len z)) fun cs => fresh h (.cells cs.toArray ty (0, 0)) fun b h' => K (.v (.slice (some ⟨b, 0, none⟩) len len)) h' β
  | .mkm, [] => fresh h (.map #[] 0) fun b h' => K (.v (.map (some b))) h' β
  | .call k, es => optK (vals es) fun vs => Ok P k vs h fun v h' => K (.v v) h' β
  | .callv, g :: es => callvK P h g es fun e h' => K e h' β
  | .app z ty bytes, [s, x] => appK z ty bytes h s x fun e h' => K e h' β
  | .rng, [m] => rngK h m fun e h' => K e h' β
  | .nxt, [it] => nxtK h it fun e h' => K e h' β
  | .ent, [it] => optK (pEnt h it) fun e => K e h β
  | .mkmr, [.v (.int _ _)] => fresh h (.map #[] 0) fun b h' => K (.v (.map (some b))) h' β
  | .mup k, [m, x, v] => mupK k h m x v fun e h' => K e h' β
  | .mdel k, [m, x] => mdelK k h m x fun e h' => K e h' β
  | .clrM, [m] => clrMK h m fun e h' => K e h' β
  | .clrS z, [m] => clrSK z h m fun e h' => K e h' β
  | .cpy esz, [d, x] => cpyK esz h d x fun e h' => K e h' β
  | _, _ => False

def putK (d : Option Nat) (e : Ent) (ρ : Env) (K : Env → Prop) : Prop := match d with | some d => K ((d, e) :: ρ) | none => K ρ

theorem putK_eq (d : Option Nat) (e : Ent) (ρ : Env) (K : Env → Prop) : putK d e ρ K = K (putE d e ρ) := by cases d <;> rfl

def condK (c : Option Ent) (x y : Prop) : Prop := match c with
  | some (.v (.bool true)) => x
  | some (.v (.bool false)) => y
  | _ => False

def ifK : Bool → Prop → Prop
  | true, p => p
  | false, _ => False

theorem ifK_spec {b : Bool} {p : Prop} (h : ifK b p) : b = true ∧ p := by cases b <;> first | cases h | exact ⟨rfl, h⟩

theorem condK_spec {c : Option Ent} {x y : Prop} (h : condK c x y) : (c = some (.v (.bool true)) ∧ x) ∨ (c = some (.v (.bool false)) ∧ y) := by
  unfold condK at h
  split at h
  · exact .inl ⟨rfl, h⟩
  · exact .inr ⟨rfl, h⟩
  · cases h

def doI (P : Program) (i : I) (ρ : Env) (β : Bx) (h : Hp) (K : Env → Bx → Hp → Prop) : Prop :=
  optK (oxs ρ i.xs) fun es =>
    match i.o, i.d, es with
    | .al z, some d, [] => ifK (noLoc d ρ) (K ((d, .l d 0) :: ρ) ((d, z) :: β) h)
    | .bx, some d, [.v x] => ifK (noLoc d ρ) (K ((d, .l d 0) :: ρ) ((d, x.cells.toList) :: β) h)
    | o, d, es => efK P h β (fun e h β => putK d e ρ fun ρ => K ρ β h) o es

/-- A guard that was not wanted itself lets nothing in. -/
def gn (d : Bool) : Option Ent → Option Ent
  | some (.v (.tuple _)) => some (.v (.bool d))
  | e => e

theorem gn_spec {d b : Bool} {e : Option Ent} (h : gn d e = some (.v (.bool b))) : e = some (.v (.bool b)) ∨ (∃ vs, e = some (.v (.tuple vs))) ∧ b = d := by
  unfold gn at h
  split at h
  · cases h; exact .inr ⟨⟨_, rfl⟩, rfl⟩
  · exact .inl h

def stI (P : Program) (i : I) (ρ : Env) (β : Bx) (h : Hp) (K : Env → Bx → Hp → Prop) : Prop :=
  match i.g with
  | none => doI P i ρ β h K
  | some (t, true) => condK (gn false (look ρ t)) (doI P i ρ β h K) (putK i.d undefE ρ fun ρ => K ρ β h)
  | some (t, false) => condK (gn true (look ρ t)) (putK i.d undefE ρ fun ρ => K ρ β h) (doI P i ρ β h K)

def opsK (P : Program) (K : Env → Bx → Hp → Prop) : List I → Env → Bx → Hp → Prop
  | [], ρ, β, h => K ρ β h
  | i :: l, ρ, β, h => stI P i ρ β h (opsK P K l)

end Go.Proofs.YthpkgkoojhgedaaDoor.V

/- The language's operations out of the program's own, and that each does what is said of it. -/
namespace Go.Proofs.YthpkgkoojhgedaaDoor.V
set_option linter.unusedSectionVars false
set_option linter.unusedVariables false
set_option linter.unusedSimpArgs false
open Go

def cx : Operand → X
  | .tmp t => .t t
  | .const v => .c v
  | .global g => .c (.pointer (some ⟨g, 0, none⟩))
  | .func f => .c (.func (.func f) #[] #[])

def entV (B : Nat → Nat) : Ent → Value
  | .v x => x
  | .l r o => .pointer (some ⟨B r, o, none⟩)

structure St (n : Nat) (ds : List Deferred) (B : Nat → Nat) (ρ : Env) (β : Bx) (h : Hp) (f : Fm) (a : Act) (w : World) : Prop where
  size : a.tmps.size = n
  dfs : a.defers = ds
  env : ∀ t e, look ρ t = some e → a.tmps[t]? = some (entV B e)
  box : ∀ r cs, lookB β r = some cs → ∃ ty, w.heap[B r]? = some (.cells cs.toArray ty (0, 0)) ∧ h (B r) = none ∧ f (B r) = none
  inj : ∀ r s cs es, lookB β r = some cs → lookB β s = some es → B r = B s → r = s
  rep : Rep w h f

theorem St.ox {n : Nat} {ds : List Deferred} {B : Nat → Nat} {ρ : Env} {β : Bx} {h : Hp} {f : Fm} {a : Act} {w : World} (s : St n ds B ρ β h f a w) {x : Operand} {e : Ent}
    (hx : ox ρ (cx x) = some e) : a.eval x = entV B e := by
  cases x with
  | tmp t => have := s.env t e hx; simp [Act.eval, this]
  | const v => simp only [cx, V.ox, Option.some.injEq] at hx; subst hx; rfl
  | global g => simp only [cx, V.ox, Option.some.injEq] at hx; subst hx; rfl
  | func g => simp only [cx, V.ox, Option.some.injEq] at hx; subst hx; rfl

theorem St.oxs {n : Nat} {ds : List Deferred} {B : Nat → Nat} {ρ : Env} {β : Bx} {h : Hp} {f : Fm} {a : Act} {w : World} (s : St n ds B ρ β h f a w) : ∀ {xs : List Operand} {es : List Ent},
    oxs ρ (xs.map cx) = some es → xs.map a.eval = es.map (entV B)
  | [], es, hx => by simp only [List.map_nil, V.oxs, Option.some.injEq] at hx; subst hx; rfl
  | x :: xs, es, hx => by
    simp only [List.map_cons, V.oxs] at hx
    cases h1 : V.ox ρ (cx x) with
    | none => simp [h1] at hx
    | some e =>
      cases h2 : V.oxs ρ (xs.map cx) with
      | none => simp [h1, h2] at hx
      | some es' =>
        simp [h1, h2] at hx
        subst hx
        simp [s.ox h1, s.oxs h2]

/-! ### Types -/

def sc (P : Program) (t : TypeId) : Option EqS :=
  match P.underlying t with
  | some .bool => some .b
  | some (.int _) => some .i
  | some .string => some .s
  | some (.pointer e) => if P.cellsOf e = 0 then none else some .p
  | some (.slice _) => some .sl
  | some (.map _ _) => some .mp
  | some (.func _ _ _) => some .fn
  | _ => none

def allSome {α β : Type} (f : α → Option (List β)) : List α → Option (List β)
  | [] => some []
  | x :: xs => match f x, allSome f xs with
    | some l, some r => some (l ++ r)
    | _, _ => none

/-- The plain parts of a type, with their places; 'sz': what there is room for. -/
def flat (P : Program) : Nat → TypeId → Nat → Nat → Option (List (Nat × EqS))
  | 0, _, _, _ => none
  | d + 1, t, off, sz =>
    match P.underlying t with
    | some (.struct fs) => if P.stoodInHeld t then none else
        allSome (fun f : Field => if f.name = "_" || sz < f.offset + P.cellsOf f.type then none else flat P d f.type (off + f.offset) (P.cellsOf f.type)) fs.toList
    | some (.array n e) => if (P.info? e).isNone then none else
        allSome (fun i : Nat => if sz < i * P.cellsOf e + P.cellsOf e then none else flat P d e (off + i * P.cellsOf e) (P.cellsOf e)) (List.range n)
    | _ => if sz = 0 then none else match sc P t with
      | some e => some [(off, e)]
      | none => none

def isAg (P : Program) (t : TypeId) : Bool := match P.underlying t with
  | some (.struct _) | some (.array _ _) => true
  | _ => false

def eqT (P : Program) (t : TypeId) : Option EqT :=
  if isAg P t then (if P.eqGuardType P.depth t then none else (flat P 40 t 0 (P.cellsOf t)).map .ag) else (sc P t).map .one

def isIntT (P : Program) (t : TypeId) : Bool := match P.underlying t with | some (.int _) => true | _ => false
def isStrT (P : Program) (t : TypeId) : Bool := match P.underlying t with | some .string => true | _ => false

def isArith : BinOp → Bool | .add | .sub | .mul => true | _ => false
def isDiv : BinOp → Bool | .quo | .rem => true | _ => false
def isBits : BinOp → Bool | .and | .or | .xor | .andNot => true | _ => false
def isShift : BinOp → Bool | .shl | .shr => true | _ => false
def isCmp : BinOp → Bool | .eql | .neq | .lss | .leq | .gtr | .geq => true | _ => false
def isNeq : BinOp → Bool | .neq => true | _ => false
def isEq : BinOp → Bool | .eql | .neq => true | _ => false

def zeroCells (P : Program) (t : TypeId) : Option (List Value) := match P.info? t with
  | some i => (match i.zero with | some v => some v.cells.toList | none => none)
  | none => none

def plOf (P : Program) (t : TypeId) (i : Nat) : Option (Nat × Nat) := match P.underlying t with
  | some (.struct fs) => (match fs[i]? with | some f => if (P.info? f.type).isNone then none else some (f.offset, P.cellsOf f.type) | none => none)
  | some (.array _ e) => if (P.info? e).isNone then none else some (i * P.cellsOf e, P.cellsOf e)
  | _ => none

/-- Bounds that are there. -/
def optL (o : Option Operand) : List Operand := match o with | some x => [x] | none => []

def allPl (f : Nat → Option (Nat × Nat)) : List Nat → Option (List (Nat × Nat))
  | [] => some []
  | x :: xs => match f x, allPl f xs with
    | some l, some r => some (l :: r)
    | _, _ => none

/-- The looks. -/
def cpr (P : Program) (o : Oper) : Option (Pr × List Operand) :=
  match o.op with
  | .move x | .assign x => some (.mv, [x])
  | .pick c a b => some (.pick, [c, a, b])
  | .nilCheck x => some (.nilc, [x])
  | .fieldAddr s x k => (match P.underlying s with
    | some (.struct fs) => (match fs[k]? with
      | some f => if P.cellsOf f.type = 0 then none else some (.fa f.offset, [x])
      | none => none)
    | _ => none)
  | .indexAddr t x i => (match P.underlying t with
    | some (.slice e) => if (P.info? e).isNone then none else some (.iaS (P.cellsOf e), [x, i])
    | some (.array n e) => if (P.info? e).isNone then none else some (.iaA n (P.cellsOf e), [x, i])
    | _ => none)
  | .load t x => (match P.underlying t with
    | none => none
    | some _ => if (P.info? t).isNone then none else some (.ld (P.cellsOf t) (isAg P t), [x]))
  | .binOp op t x y _ =>
    if isIntT P t then
      (if isArith op then some (.ar op, [x, y]) else if isDiv op then some (.dv op, [x, y]) else if isBits op then some (.bt op, [x, y])
       else if isShift op then some (.sh op, [x, y]) else some (.cm op, [x, y]))
    else if isStrT P t then (if isEq op then some (.sop op, [x, y]) else none)
    else if isEq op then (match eqT P t with | some e => some (.eq (isNeq op) e, [x, y]) | none => none) else none
  | .unOp op _ x => some (.un op, [x])
  | .convert s d x => (match P.underlying d with
    | some (.int k) => if isIntT P s then some (.cv k, [x]) else none
    | some .string => (match P.underlying s with
      | some (.slice e) => (match P.underlying e with | some (.int .u8) => some (.b2s, [x]) | _ => none)
      | _ => none)
    | _ => none)
  | .slice t x lo hi mx => (match P.underlying t with
    | some (.array n e) => if mx.isSome || (P.info? e).isNone then none else some (.slA n (P.cellsOf e) lo.isSome hi.isSome, x :: (optL lo ++ optL hi))
    | some (.slice e) => if (P.info? e).isNone then none else some (.slS (P.cellsOf e) lo.isSome hi.isSome mx.isSome, x :: (optL lo ++ optL hi ++ optL mx))
    | some .string => if mx.isSome then none else some (.slT lo.isSome hi.isSome, x :: (optL lo ++ optL hi))
    | _ => none)
  | .call { callee := .builtin .cap, args, argTypes } => (match args.toList, argTypes[0]? with
    | [x], some t => (match P.underlying t with
      | some (.slice _) => some (.cap, [x])
      | _ => none)
    | _, _ => none)
  | .extract x i => some (.ext i, [x])
  | .field t x k => (match P.underlying t with
    | some (.struct fs) => (match fs[k]? with
      | some f => if (P.info? f.type).isNone || (P.underlying f.type).isNone then none else some (.fld f.offset (P.cellsOf f.type) (isAg P f.type), [x])
      | none => none)
    | _ => none)
  | .index t x i => (match P.underlying t with
    | some (.array n e) => if (P.info? e).isNone || (P.underlying e).isNone then none else some (.ixA n (P.cellsOf e) (isAg P e), [x, i])
    | _ => none)
  | .call { callee := .builtin .len, args, argTypes } => (match args.toList, argTypes[0]? with
    | [x], some t => (match P.underlying t with
      | some (.slice _) => some (.lenS, [x])
      | some .string => some (.lenT, [x])
      | some (.map _ _) => some (.lenM, [x])
      | _ => none)
    | _, _ => none)
  | .call { callee := .builtin .min, args, argTypes := _ } => (match args.toList with
    | [x, y] => some (.min2, [x, y])
    | [x, y, z] => some (.min3, [x, y, z])
    | _ => none)
  | .call { callee := .builtin .max, args, argTypes := _ } => (match args.toList with
    | [x, y] => some (.max2, [x, y])
    | [x, y, z] => some (.max3, [x, y, z])
    | _ => none)
  | .lookup t m k ok => (match P.underlying t with
    | some (.map kt et) => (match eqT P kt, P.info? et with
      | some e, some i => (match i.zero with | some z => some (.look e z ok, [m, k]) | none => none)
      | _, _ => none)
    | _ => none)
  | .build t parts => (match P.underlying t with
    | some (.struct fs) => if fs.all (fun f => (P.info? f.type).isSome) then (match zeroCells P t, allPl (plOf P t) (parts.toList.map (·.1)) with
      | some z, some pl => some (.bld z pl, parts.toList.map (·.2))
      | _, _ => none) else none
    | some (.array _ e) => if (P.info? e).isSome then (match zeroCells P t, allPl (plOf P t) (parts.toList.map (·.1)) with
      | some z, some pl => some (.bld z pl, parts.toList.map (·.2))
      | _, _ => none) else none
    | _ => none)
  | .makeFunc (.func fn) first cap => some (.mkf (.func fn) first.size, first.toList ++ cap.toList)
  | .makeInterface t x => (match P.underlying t with
    | some (.interface _) | none => none
    | _ => some (.mki t, [x]))
  | _ => none

/-! ### Each look is what it says -/

section
variable {P : Program} {w : World} {h : Hp} {f : Fm} {B : Nat → Nat} {β : Bx}

theorem run_typeInfo' {t : TypeId} {i : TypeInfo} (hi : P.info? t = some i) : (typeInfo t).run P w = .ok i w := by simp [typeInfo, hi]
theorem run_underlying' {t : TypeId} {d : TypeDesc} (hi : P.underlying t = some d) : (underlying t).run P w = .ok d w := by simp [underlying, hi]
theorem run_sizeOf' {t : TypeId} {i : TypeInfo} (hi : P.info? t = some i) : (sizeOf t).run P w = .ok i.size w := by simp [sizeOf, run_typeInfo' hi]
theorem run_sizeOf_c {t : TypeId} (hi : (P.info? t).isSome = true) : (sizeOf t).run P w = .ok (P.cellsOf t) w := by
  obtain ⟨i, hi⟩ := Option.isSome_iff_exists.1 hi
  rw [run_sizeOf' hi]; simp [Program.cellsOf, hi]
theorem run_isAgg' {t : TypeId} {d : TypeDesc} (hi : P.underlying t = some d) : (isAgg t).run P w = .ok (isAg P t) w := by
  simp only [isAgg, Sem.run_bind, run_underlying' hi, Result.andThen_ok, isAg, hi]
  cases d <;> rfl
theorem info_of_cells {t : TypeId} (hc : P.cellsOf t ≠ 0) : (P.info? t).isSome = true := by
  cases hi : P.info? t with
  | none => simp [Program.cellsOf, hi] at hc
  | some i => rfl

theorem add_mk (b o n : Nat) : (Addr.mk b o none).add n = ⟨b, o + n, none⟩ := by
  unfold Addr.add; split
  · rename_i e; subst e; rfl
  · rfl

theorem extract_toList (c : Array Value) (o n : Nat) : (c.extract o (o + n)).toList = (c.toList.drop o).take n := by
  simp

theorem sub_eq (c : Array Value) (o n : Nat) : sub c o n = c.extract o (o + n) := by
  unfold sub; rw [← extract_toList]

theorem run_loadCells_row {b o n : Nat} {c : Array Value} {ty : TypeId} {z : Nat × Nat} (hb : w.heap[b]? = some (.cells c ty z)) (hn : o + n ≤ c.size) :
    (loadCells ⟨b, o, none⟩ n).run P w = .ok (c.extract o (o + n)) w := by
  have hl : ((c.toList.drop o).take n).length = n := by simp; omega
  have := run_loadCells_list (P := P) (w := w) (a := ⟨b, o, none⟩) (cs := (c.toList.drop o).take n) (fun j v hj => by
    rw [add_mk, cell_of hb]
    rw [List.getElem?_take] at hj
    split at hj
    · rw [List.getElem?_drop] at hj; simpa using hj
    · cases hj)
  rw [hl] at this
  rw [this]
  congr 1
  rw [← extract_toList]

theorem run_load_cell {b o : Nat} {c : Array Value} {ty : TypeId} {z : Nat × Nat} {v : Value} (hb : w.heap[b]? = some (.cells c ty z)) (hv : c[o]? = some v) :
    (load ⟨b, o, none⟩).run P w = .ok v w := by
  rw [run_load, cell_of hb, hv]

theorem run_loadVar' {t : TypeId} {d : TypeDesc} {b o : Nat} {c : Array Value} {ty : TypeId} {z : Nat × Nat} {v : Value} (hd : P.underlying t = some d) (hi : (P.info? t).isSome = true)
    (hb : w.heap[b]? = some (.cells c ty z)) (hv : rd c o (P.cellsOf t) (isAg P t) = some v) : (loadVar t ⟨b, o, none⟩).run P w = .ok v w := by
  simp only [loadVar, Sem.run_bind, run_isAgg' hd, Result.andThen_ok]
  unfold rd at hv
  cases ha : isAg P t with
  | true =>
    rw [ha] at hv
    simp only [if_true] at hv ⊢
    split at hv
    · rename_i hn
      simp only [Option.some.injEq] at hv; subst hv
      simp only [Sem.run_bind, run_sizeOf_c hi, Result.andThen_ok, run_loadCells_row hb hn, Sem.run_pure, sub_eq]
    · cases hv
  | false =>
    rw [ha] at hv
    simp only [Bool.false_eq_true, if_false] at hv ⊢
    exact run_load_cell hb hv

theorem run_part' {t : TypeId} {d : TypeDesc} {cs : Array Value} {off : Nat} {v : Value} (hd : P.underlying t = some d) (hi : (P.info? t).isSome = true)
    (hv : (if isAg P t then some (.agg (cs.extract off (off + P.cellsOf t))) else cs[off]?) = some v) : (part t cs off).run P w = .ok v w := by
  simp only [part, Sem.run_bind, run_isAgg' hd, Result.andThen_ok]
  cases ha : isAg P t with
  | true =>
    rw [ha] at hv
    simp only [if_true, Option.some.injEq] at hv ⊢
    subst hv
    simp [run_sizeOf_c hi]
  | false =>
    rw [ha] at hv
    simp only [Bool.false_eq_true, if_false] at hv ⊢
    simp [hv]

theorem plainO_spec {o : Option Obj} (hp : plainO o = true) : ∃ c ty, o = some (.cells c ty (0, 0)) := by
  unfold plainO at hp
  split at hp
  · rename_i c ty; exact ⟨c, ty, rfl⟩
  · cases hp

theorem run_sameAddr {a b : Addr} (hr : Rep w h f) (ha : plainO (h a.block) = true) (hb : plainO (h b.block) = true) : (sameAddr a b).run P w = .ok (decide (a = b)) w := by
  obtain ⟨c, ty, ha⟩ := plainO_spec ha
  obtain ⟨c', ty', hb⟩ := plainO_spec hb
  have ha := hr.vis _ _ ha
  have hb := hr.vis _ _ hb
  by_cases e : a.block = b.block
  · simp [sameAddr, e]
    rfl
  · have hne : a ≠ b := fun h => e (by rw [h])
    have fa : ∀ o s, w.frozen? ⟨a.block, o, s⟩ = false := fun o s => by simp [World.frozen?, ha]
    have fb : ∀ o s, w.frozen? ⟨b.block, o, s⟩ = false := fun o s => by simp [World.frozen?, hb]
    have fa' : w.frozen? a = false := fa a.off a.spot
    have fb' : w.frozen? b = false := fb b.off b.spot
    have sa : w.shape? a.block = some (ty, c.size) := by simp [World.shape?, ha]
    have sb : w.shape? b.block = some (ty', c'.size) := by simp [World.shape?, hb]
    simp [sameAddr, e, fa', fb', noView, viewAt, sa, sb, mayBeOne, stringish, fa, fb, hne]

theorem sc_inv {t : TypeId} {e : EqS} (ht : sc P t = some e) : match e with
    | .b => P.underlying t = some .bool
    | .i => ∃ k, P.underlying t = some (.int k)
    | .s => P.underlying t = some .string
    | .p => ∃ el, P.underlying t = some (.pointer el) ∧ P.cellsOf el ≠ 0
    | .sl => ∃ el, P.underlying t = some (.slice el)
    | .mp => ∃ k el, P.underlying t = some (.map k el)
    | .fn => ∃ a b c, P.underlying t = some (.func a b c) := by
  unfold sc at ht
  split at ht <;> try (cases ht; done)
  all_goals first
    | (rename_i hu; cases ht; exact hu)
    | (rename_i k hu; cases ht; exact ⟨k, hu⟩)
    | (rename_i k l hu; cases ht; exact ⟨k, l, hu⟩)
    | (rename_i k l m hu; cases ht; exact ⟨k, l, m, hu⟩)
    | (rename_i el hu; split at ht <;> cases ht; rename_i hc; exact ⟨el, hu, hc⟩)

theorem eqS_run {t : TypeId} {e : EqS} {x y : Value} {r : Bool} {d : Nat} (hr : Rep w h f) (ht : sc P t = some e) (he : eqS h e x y = some r) : (Op.equalIn (d + 1) t x y).run P w = .ok r w := by
  have hi := sc_inv ht
  unfold eqS at he
  split at he
  · cases he; simp [Op.equalIn, run_underlying' hi]
  · obtain ⟨k, hi⟩ := hi
    split at he <;> cases he
    rename_i e; subst e; simp [Op.equalIn, run_underlying' hi]
  · cases he; simp [Op.equalIn, run_underlying' hi]
  · obtain ⟨k, hi, _⟩ := hi
    cases he; simp [Op.equalIn, run_underlying' hi]
  · obtain ⟨k, hi, _⟩ := hi
    cases he; simp [Op.equalIn, run_underlying' hi]
  · obtain ⟨k, hi, hc⟩ := hi
    split at he <;> cases he
    rename_i hpl
    simp only [Bool.and_eq_true] at hpl
    simp only [Op.equalIn, Sem.run_bind, run_underlying' hi, Result.andThen_ok, run_sizeOf_c (info_of_cells hc), ne_eq, hc, not_false_eq_true, if_true, run_sameAddr hr hpl.1 hpl.2]
  · obtain ⟨k, hi⟩ := hi
    cases he; simp [Op.equalIn, run_underlying' hi]
  · obtain ⟨k, hi⟩ := hi
    cases he; simp [Op.equalIn, run_underlying' hi]
  · obtain ⟨k, l, hi⟩ := hi
    cases he; simp [Op.equalIn, run_underlying' hi]
  · obtain ⟨k, l, hi⟩ := hi
    cases he; simp [Op.equalIn, run_underlying' hi]
  · obtain ⟨k, l, m, hi⟩ := hi
    cases he; simp [Op.equalIn, run_underlying' hi]
  · obtain ⟨k, l, m, hi⟩ := hi
    cases he; simp [Op.equalIn, run_underlying' hi]
  · obtain ⟨k, l, m, hi⟩ := hi
    cases he; simp [Op.equalIn, run_underlying' hi]
  · cases he

end

end Go.Proofs.YthpkgkoojhgedaaDoor.V

/- Equality of structs and arrays, part by part; and the looks, each as the program's own operation. -/
namespace Go.Proofs.YthpkgkoojhgedaaDoor.V
set_option linter.unusedSectionVars false
set_option linter.unusedVariables false
set_option linter.unusedSimpArgs false
open Go

section
variable {P : Program} {w : World} {h : Hp} {f : Fm} {B : Nat → Nat} {β : Bx}

theorem eqL_append {xs ys : Array Value} {r : Bool} : ∀ {l1 l2 : List (Nat × EqS)}, eqL h xs ys (l1 ++ l2) = some r →
    ∃ a b, eqL h xs ys l1 = some a ∧ eqL h xs ys l2 = some b ∧ r = (a && b)
  | [], l2, he => ⟨true, r, rfl, he, by simp⟩
  | (o, e) :: l1, l2, he => by
    simp only [List.cons_append, eqL] at he
    split at he
    · rename_i x y hx hy
      split at he
      · rename_i a b ha hb
        cases he
        obtain ⟨c, d, hc, hd, rfl⟩ := eqL_append hb
        exact ⟨a && c, d, by simp [eqL, hx, hy, ha, hc], hd, by simp [Bool.and_assoc]⟩
      · cases he
    · cases he

/-- x is the value of type t that lies at 'off' in X. -/
def AtX (P : Program) (X : Array Value) (off sz : Nat) (t : TypeId) (x : Value) : Prop :=
  if isAg P t then ∃ xs, x = .agg xs ∧ ∀ k, k < sz → xs[k]? = X[off + k]? else X[off]? = some x

theorem allSome_cons {α β : Type} {f : α → Option (List β)} {x : α} {xs : List α} {l : List β} (h : allSome f (x :: xs) = some l) :
    ∃ a b, f x = some a ∧ allSome f xs = some b ∧ l = a ++ b := by
  simp only [allSome] at h
  split at h
  · rename_i a b ha hb; cases h; exact ⟨a, b, ha, hb, rfl⟩
  · cases h

theorem part_at {t : TypeId} {d : TypeDesc} {X xs : Array Value} {off o sz : Nat} (hd : P.underlying t = some d) (hi : (P.info? t).isSome = true)
    (hxs : ∀ k, k < sz → xs[k]? = X[off + k]?) (ho : o + P.cellsOf t ≤ sz) (hx : isAg P t = false → P.cellsOf t ≠ 0 ∧ (X[off + o]?).isSome = true) :
    ∃ x, (part t xs o).run P w = .ok x w ∧ AtX P X (off + o) (P.cellsOf t) t x := by
  cases ha : isAg P t with
  | true =>
    refine ⟨_, run_part' hd hi (v := .agg (xs.extract o (o + P.cellsOf t))) (by simp [ha]), ?_⟩
    simp only [AtX, ha, if_true]
    refine ⟨_, rfl, fun k hk => ?_⟩
    rw [Array.getElem?_extract]
    have h1 : xs[o + k]? = X[off + o + k]? := by rw [hxs (o + k) (by omega), Nat.add_assoc]
    split
    · exact h1
    · rename_i hlt
      rw [← h1, Array.getElem?_eq_none]
      omega
  | false =>
    obtain ⟨hc, hs⟩ := hx ha
    obtain ⟨x, hx⟩ := Option.isSome_iff_exists.1 hs
    refine ⟨x, run_part' hd hi (v := x) (by simp only [ha, Bool.false_eq_true, if_false]; rw [hxs o (by omega)]; exact hx), ?_⟩
    simp [AtX, ha, hx]

theorem sc_info {t : TypeId} {e : EqS} (hs : sc P t = some e) : isAg P t = false := by
  have := sc_inv hs
  unfold isAg
  cases e <;> simp only at this
  · rw [this]
  · obtain ⟨_, h⟩ := this; rw [h]
  · rw [this]
  · obtain ⟨_, h, _⟩ := this; rw [h]
  · obtain ⟨_, h⟩ := this; rw [h]
  · obtain ⟨_, _, h⟩ := this; rw [h]
  · obtain ⟨_, _, _, h⟩ := this; rw [h]

theorem sc_und {t : TypeId} {e : EqS} (hs : sc P t = some e) : ∃ d, P.underlying t = some d := by
  unfold sc at hs
  split at hs <;> first | exact ⟨_, by assumption⟩ | cases hs

/-- What flat finds: the type is known; a type without parts has its one cell there. -/
theorem flat_known {d : Nat} {t : TypeId} {off sz : Nat} {l : List (Nat × EqS)} (hf : flat P d t off sz = some l) : ∃ u, P.underlying t = some u := by
  cases d with
  | zero => cases hf
  | succ d =>
    simp only [flat] at hf
    cases hu : P.underlying t with
    | some u => exact ⟨u, rfl⟩
    | none => simp [hu, sc] at hf

theorem flat_one {d : Nat} {t : TypeId} {off sz : Nat} {l : List (Nat × EqS)} (hf : flat P d t off sz = some l) (ha : isAg P t = false) :
    sz ≠ 0 ∧ ∃ e, sc P t = some e ∧ l = [(off, e)] := by
  cases d with
  | zero => cases hf
  | succ d =>
    simp only [flat] at hf
    split at hf
    · rename_i hu; simp [isAg, hu] at ha
    · rename_i hu; simp [isAg, hu] at ha
    · split at hf
      · cases hf
      · rename_i hz
        split at hf
        · rename_i e he; cases hf; exact ⟨hz, e, he, rfl⟩
        · cases hf

theorem eqL_single {X Y : Array Value} {off : Nat} {e : EqS} {r : Bool} (he : eqL h X Y [(off, e)] = some r) :
    ∃ x y, X[off]? = some x ∧ Y[off]? = some y ∧ eqS h e x y = some r := by
  simp only [eqL] at he
  split at he
  · rename_i x y hx hy
    split at he
    · rename_i a b ha hb
      cases hb; cases he
      exact ⟨x, y, hx, hy, by simpa using ha⟩
    · cases he
  · cases he

theorem und_info {t : TypeId} {u : TypeDesc} (hu : P.underlying t = some u) : (P.info? t).isSome = true := by
  cases hi : P.info? t with
  | some i => rfl
  | none => simp [Program.underlying, hi] at hu

theorem flat_run (hr : Rep w h f) : ∀ (d D : Nat) (t : TypeId) (off sz : Nat) (l : List (Nat × EqS)) (X Y : Array Value) (x y : Value) (r : Bool),
    flat P d t off sz = some l → eqL h X Y l = some r → AtX P X off sz t x → AtX P Y off sz t y → (Op.equalIn (d + D) t x y).run P w = .ok r w
  | 0, _, _, _, _, _, _, _, _, _, _, hf, _, _, _ => by cases hf
  | d + 1, D, t, off, sz, l, X, Y, x, y, r, hf, he, hx, hy => by
    have step : ∀ (u : TypeId) (o : Nat) (l' : List (Nat × EqS)) (xs ys : Array Value) (b : Bool), (∀ k, k < sz → xs[k]? = X[off + k]?) → (∀ k, k < sz → ys[k]? = Y[off + k]?) →
        o + P.cellsOf u ≤ sz → flat P d u (off + o) (P.cellsOf u) = some l' → eqL h X Y l' = some b →
        ∃ x y, (part u xs o).run P w = .ok x w ∧ (part u ys o).run P w = .ok y w ∧ (Op.equalIn (d + D) u x y).run P w = .ok b w := by
      intro u o l' xs ys b hxs hys ho hf' he'
      obtain ⟨du, hdu⟩ := flat_known hf'
      have hone : isAg P u = false → P.cellsOf u ≠ 0 ∧ (X[off + o]?).isSome = true ∧ (Y[off + o]?).isSome = true := fun ha => by
        obtain ⟨hz, e, _, rfl⟩ := flat_one hf' ha
        obtain ⟨x, y, h1, h2, _⟩ := eqL_single he'
        exact ⟨hz, by simp [h1], by simp [h2]⟩
      obtain ⟨x, p1, a1⟩ := part_at (w := w) hdu (und_info hdu) hxs ho (fun ha => ⟨(hone ha).1, (hone ha).2.1⟩)
      obtain ⟨y, p2, a2⟩ := part_at (w := w) hdu (und_info hdu) hys ho (fun ha => ⟨(hone ha).1, (hone ha).2.2⟩)
      exact ⟨x, y, p1, p2, flat_run hr d D u (off + o) (P.cellsOf u) l' X Y x y b hf' he' a1 a2⟩
    have hdD : d + 1 + D = (d + D) + 1 := by omega
    simp only [flat] at hf
    split at hf
    · rename_i fs hu
      split at hf
      · cases hf
      · rename_i hst
        have hag : isAg P t = true := by simp [isAg, hu]
        simp only [AtX, hag, if_true] at hx hy
        obtain ⟨xs, rfl, hxs⟩ := hx
        obtain ⟨ys, rfl, hys⟩ := hy
        rw [hdD, run_equalIn_struct w (d + D) t xs ys (by simp [Program.fieldsOf, hu]) (by simpa using hst)]
        have hfs : P.fieldsOf t = fs := by simp [Program.fieldsOf, hu]
        rw [hfs]
        generalize fs.toList = L at hf
        clear hu hfs
        induction L generalizing l r with
        | nil => simp only [allSome, Option.some.injEq] at hf; subst hf; simp only [eqL, Option.some.injEq] at he; subst he; simp [Op.eqFields]
        | cons fl L ih =>
          obtain ⟨l1, l2, h1, h2, rfl⟩ := allSome_cons hf
          obtain ⟨a, b, ha, hb, rfl⟩ := eqL_append he
          split at h1
          · cases h1
          · rename_i hc
            simp only [Bool.or_eq_true, decide_eq_true_eq, not_or] at hc
            obtain ⟨x, y, p1, p2, p3⟩ := step fl.type fl.offset l1 xs ys a hxs hys (by omega) h1 ha
            simp only [Op.eqFields, ne_eq, hc.1, not_false_eq_true, if_true, Sem.run_bind, p1, p2, p3, Result.andThen_ok]
            have := ih l2 b hb h2
            cases a
            · simp
            · simpa using this
    · rename_i n e hu
      split at hf
      · cases hf
      · rename_i hi
        obtain ⟨i, hi⟩ := Option.isSome_iff_exists.1 (by cases hx : P.info? e with | none => simp [hx] at hi | some i => rfl : (P.info? e).isSome = true)
        have hag : isAg P t = true := by simp [isAg, hu]
        simp only [AtX, hag, if_true] at hx hy
        obtain ⟨xs, rfl, hxs⟩ := hx
        obtain ⟨ys, rfl, hys⟩ := hy
        rw [hdD, run_equalIn_array w (d + D) xs ys hu hi]
        generalize List.range n = L at hf
        clear hu
        induction L generalizing l r with
        | nil => simp only [allSome, Option.some.injEq] at hf; subst hf; simp only [eqL, Option.some.injEq] at he; subst he; simp [Op.eqItems]
        | cons k L ih =>
          obtain ⟨l1, l2, h1, h2, rfl⟩ := allSome_cons hf
          obtain ⟨a, b, ha, hb, rfl⟩ := eqL_append he
          split at h1
          · cases h1
          · rename_i hc
            obtain ⟨x, y, p1, p2, p3⟩ := step e (k * P.cellsOf e) l1 xs ys a hxs hys (by omega) h1 ha
            simp only [Op.eqItems, Sem.run_bind, p1, p2, p3, Result.andThen_ok]
            have := ih l2 b hb h2
            cases a
            · simp
            · simpa using this
    · split at hf
      · cases hf
      · rename_i hz
        split at hf
        · rename_i e hs
          cases hf
          obtain ⟨x', y', h1, h2, h3⟩ := eqL_single he
          have hag := sc_info hs
          simp only [AtX, hag, Bool.false_eq_true, if_false] at hx hy
          rw [hx] at h1; rw [hy] at h2; cases h1; cases h2
          rw [hdD]; exact eqS_run hr hs h3
        · cases hf

theorem eqT_run {t : TypeId} {e : EqT} {x y : Value} {r : Bool} (hr : Rep w h f) (ht : eqT P t = some e) (he : eqV h e x y = some r) : (Op.equal t x y).run P w = .ok r w := by
  unfold eqT at ht
  split at ht
  · rename_i hag
    split at ht
    · cases ht
    · cases hf : flat P 40 t 0 (P.cellsOf t) with
      | none => simp [hf] at ht
      | some l =>
        simp only [hf, Option.map_some, Option.some.injEq] at ht
        subst ht
        unfold eqV at he
        split at he <;> try (cases he; done)
        · rename_i hc; cases hc
        · rename_i l' xs ys hc
          cases hc
          exact flat_run hr 40 9960 t 0 (P.cellsOf t) l xs ys _ _ r hf he (by simp [AtX, hag]) (by simp [AtX, hag])
  · cases hs : sc P t with
    | none => simp [hs] at ht
    | some s1 =>
      simp only [hs, Option.map_some, Option.some.injEq] at ht
      subst ht
      exact eqS_run (d := 9999) hr hs he

theorem eqGuard_run {op : BinOp} {t : TypeId} {e : EqT} {x y : Operand} {a b : Value} {r : Bool} (ht : eqT P t = some e) (he : eqV h e a b = some r) : (eqGuard op t x y a b).run P w = .ok () w := by
  unfold eqT at ht
  split at ht
  · split at ht
    · cases ht
    · rename_i hg
      cases hf : flat P 40 t 0 (P.cellsOf t) with
      | none => simp [hf] at ht
      | some l =>
        simp only [hf, Option.map_some, Option.some.injEq] at ht
        subst ht
        unfold eqV at he
        split at he <;> try (cases he; done)
        · rename_i hc; cases hc
        · exact run_eqGuard_agg w op t x y _ _ (by simpa using hg)
  · cases hs : sc P t with
    | none => simp [hs] at ht
    | some s1 =>
      simp only [hs, Option.map_some, Option.some.injEq] at ht
      subst ht
      simp only [eqV] at he
      unfold eqS at he
      split at he <;> first | (cases he; done) | (cases op <;> simp [eqGuard])

end

end Go.Proofs.YthpkgkoojhgedaaDoor.V

/- The looks: each is the program's own operation, and leaves the world. -/
namespace Go.Proofs.YthpkgkoojhgedaaDoor.V
set_option linter.unusedSectionVars false
set_option linter.unusedVariables false
set_option linter.unusedSimpArgs false
open Go

section
variable {P : Program} {w : World} {h : Hp} {f : Fm} {B : Nat → Nat} {β : Bx} {ρ : Operand → Value}

theorem map1 {x : Operand} {es : List Ent} (hm : [x].map ρ = es.map (entV B)) : ∃ e, es = [e] ∧ ρ x = entV B e := by
  cases es with
  | nil => simp at hm
  | cons e es => cases es with
    | nil => simp at hm; exact ⟨e, rfl, hm⟩
    | cons a b => simp at hm
theorem map2 {x y : Operand} {es : List Ent} (hm : [x, y].map ρ = es.map (entV B)) : ∃ e u, es = [e, u] ∧ ρ x = entV B e ∧ ρ y = entV B u := by
  cases es with
  | nil => simp at hm
  | cons e es =>
    simp only [List.map_cons, List.cons.injEq] at hm
    obtain ⟨u, rfl, hu⟩ := map1 (x := y) (ρ := ρ) (B := B) (es := es) (by simpa using hm.2)
    exact ⟨e, u, rfl, hm.1, hu⟩
theorem map3 {x y z : Operand} {es : List Ent} (hm : [x, y, z].map ρ = es.map (entV B)) : ∃ e u v, es = [e, u, v] ∧ ρ x = entV B e ∧ ρ y = entV B u ∧ ρ z = entV B v := by
  cases es with
  | nil => simp at hm
  | cons e es =>
    simp only [List.map_cons, List.cons.injEq] at hm
    obtain ⟨u, v, rfl, hu⟩ := map2 (x := y) (y := z) (ρ := ρ) (B := B) (es := es) (by simpa using hm.2)
    exact ⟨e, u, v, rfl, hm.1, hu⟩

theorem run_nilc {o : Oper} {x : Operand} {e e' : Ent} (ho : o.op = .nilCheck x) (hx : ρ x = entV B e) (hp : pNil e = some e') :
    (execOp ρ o).run P w = .ok (.value (entV B e')) w := by
  unfold pNil at hp
  split at hp <;> cases hp <;> simp [execOp, ho, hx, entV]

theorem run_fa {o : Oper} {s : TypeId} {x : Operand} {k : Nat} {fs : Array Field} {fl : Field} {e e' : Ent} (ho : o.op = .fieldAddr s x k) (hs : P.underlying s = some (.struct fs)) (hk : fs[k]? = some fl)
    (hz : P.cellsOf fl.type ≠ 0) (hx : ρ x = entV B e) (hp : pFa fl.offset e = some e') : (execOp ρ o).run P w = .ok (.value (entV B e')) w := by
  have key : ∀ b o, (Instr.fieldAt s (.pointer (some ⟨b, o, none⟩)) k).run P w = .ok (.pointer (some ⟨b, o + fl.offset, none⟩)) w := fun b o => by
    simp only [Instr.fieldAt, Sem.run_bind, run_underlying' hs, Result.andThen_ok, hk, Instr.sureAddr, Sem.run_pure, fieldPlace, run_sizeOf_c (info_of_cells hz), hz, if_false, Sem.run_ite, add_mk]
  unfold pFa at hp
  split at hp <;> cases hp <;> simp [execOp, ho, hx, entV, key]

theorem run_iaS {o : Oper} {t el : TypeId} {x i : Operand} {e u e' : Ent} (ho : o.op = .indexAddr t x i) (ht : P.underlying t = some (.slice el)) (hi : (P.info? el).isSome = true)
    (hx : ρ x = entV B e) (hu : ρ i = entV B u) (hp : pIaS (P.cellsOf el) e u = some e') : (execOp ρ o).run P w = .ok (.value (entV B e')) w := by
  unfold pIaS at hp
  split at hp
  · rename_i b o' len cap k n
    split at hp
    · rename_i hn
      cases hp
      simp only [execOp, ho, hx, hu, entV, Instr.indexAt, asIntOf, Sem.run_bind, Sem.run_pure, run_underlying' ht, Result.andThen_ok, Bool.and_false, Sem.run_ite, if_pos hn, run_sizeOf_c hi, add_mk]
    · cases hp
  · cases hp

theorem run_iaA {o : Oper} {t el : TypeId} {n : Nat} {x i : Operand} {e u e' : Ent} (ho : o.op = .indexAddr t x i) (ht : P.underlying t = some (.array n el)) (hi : (P.info? el).isSome = true)
    (hx : ρ x = entV B e) (hu : ρ i = entV B u) (hp : pIaA n (P.cellsOf el) e u = some e') : (execOp ρ o).run P w = .ok (.value (entV B e')) w := by
  have key : ∀ b o k (j : Int), 0 ≤ j ∧ j < (n : Int) → (Instr.indexAt t (.pointer (some ⟨b, o, none⟩)) (.int k j)).run P w = .ok (.pointer (some ⟨b, o + j.toNat * P.cellsOf el, none⟩)) w := fun b o k j hj => by
    simp only [Instr.indexAt, asIntOf, Sem.run_bind, Sem.run_pure, run_underlying' ht, Result.andThen_ok, Instr.sureAddr, Sem.run_ite, if_pos hj, run_sizeOf_c hi, add_mk]
  unfold pIaA at hp
  split at hp
  · split at hp <;> cases hp
    rename_i hn
    simp only [execOp, ho, hx, hu, entV, Sem.run_bind, key _ _ _ _ hn, Result.andThen_ok, Sem.run_pure]
  · split at hp <;> cases hp
    rename_i hn
    simp only [execOp, ho, hx, hu, entV, Sem.run_bind, key _ _ _ _ hn, Result.andThen_ok, Sem.run_pure]
  · cases hp

theorem run_ld {o : Oper} {t : TypeId} {d : TypeDesc} {x : Operand} {e e' : Ent} (hr : Rep w h f) (hβ : ∀ r cs, lookB β r = some cs → ∃ ty, w.heap[B r]? = some (.cells cs.toArray ty (0, 0)))
    (ho : o.op = .load t x) (ht : P.underlying t = some d) (hi : (P.info? t).isSome = true) (hx : ρ x = entV B e) (hp : pLd (P.cellsOf t) (isAg P t) h β e = some e') :
    (execOp ρ o).run P w = .ok (.value (entV B e')) w := by
  unfold pLd at hp
  split at hp
  · rename_i b o'
    cases hl : ldO o' (P.cellsOf t) (isAg P t) (h b) with
    | none => simp [hl, toE] at hp
    | some v =>
      simp only [hl, toE, Option.some.injEq] at hp
      subst hp
      unfold ldO at hl
      split at hl
      · rename_i c ty z hb
        simp only [execOp, ho, hx, entV, Instr.loadAt, Instr.sureAddr, Sem.run_bind, Sem.run_pure, Result.andThen_ok, run_loadVar' ht hi (hr.vis _ _ hb) hl]
      · cases hl
  · rename_i r o'
    cases hl : ldL o' (P.cellsOf t) (isAg P t) (lookB β r) with
    | none => simp [hl, toE] at hp
    | some v =>
      simp only [hl, toE, Option.some.injEq] at hp
      subst hp
      unfold ldL at hl
      split at hl
      · rename_i cs hb
        obtain ⟨ty, hB⟩ := hβ _ _ hb
        simp only [execOp, ho, hx, entV, Instr.loadAt, Instr.sureAddr, Sem.run_bind, Sem.run_pure, Result.andThen_ok, run_loadVar' ht hi hB hl]
      · cases hl
  · cases hp

theorem run_fld {o : Oper} {t : TypeId} {d : TypeDesc} {x : Operand} {k : Nat} {fs : Array Field} {fl : Field} {e e' : Ent} (ho : o.op = .field t x k) (hs : P.underlying t = some (.struct fs)) (hk : fs[k]? = some fl)
    (hi : (P.info? fl.type).isSome = true) (hd : P.underlying fl.type = some d) (hx : ρ x = entV B e) (hp : pFld fl.offset (P.cellsOf fl.type) (isAg P fl.type) e = some e') :
    (execOp ρ o).run P w = .ok (.value (entV B e')) w := by
  unfold pFld at hp
  split at hp
  · rename_i cs
    generalize hl : (if isAg P fl.type then some (.agg (sub cs fl.offset (P.cellsOf fl.type))) else cs[fl.offset]?) = r at hp
    rw [sub_eq] at hl
    cases r with
    | none => simp [toE] at hp
    | some v =>
      simp only [toE, Option.some.injEq] at hp
      subst hp
      simp only [execOp, ho, hx, entV, Instr.field, asAgg, Sem.run_bind, Sem.run_pure, run_underlying' hs, hk, Result.andThen_ok, run_part' hd hi hl]
  · cases hp

theorem run_ixA {o : Oper} {t el : TypeId} {d : TypeDesc} {x i : Operand} {n : Nat} {e u e' : Ent} (ho : o.op = .index t x i) (ht : P.underlying t = some (.array n el))
    (hi : (P.info? el).isSome = true) (hd : P.underlying el = some d) (hx : ρ x = entV B e) (hu : ρ i = entV B u) (hp : pIxA n (P.cellsOf el) (isAg P el) e u = some e') :
    (execOp ρ o).run P w = .ok (.value (entV B e')) w := by
  unfold pIxA at hp
  split at hp
  · rename_i cs k j
    split at hp
    · rename_i hn
      generalize hl : (if isAg P el then some (.agg (sub cs (j.toNat * P.cellsOf el) (P.cellsOf el))) else cs[j.toNat * P.cellsOf el]?) = r at hp
      rw [sub_eq] at hl
      cases r with
      | none => simp [toE] at hp
      | some v =>
        simp only [toE, Option.some.injEq] at hp
        subst hp
        simp only [execOp, ho, hx, hu, entV, Instr.index, asIntOf, asAgg, Sem.run_bind, Sem.run_pure, run_underlying' ht, Result.andThen_ok, Sem.run_ite, if_pos hn, run_sizeOf_c hi, run_part' hd hi hl]
    · cases hp
  · cases hp

theorem run_bin {o : Oper} {op : BinOp} {t yt : TypeId} {x y : Operand} {e u : Ent} {v : Value} (ho : o.op = .binOp op t x y yt) (hx : ρ x = entV B e) (hu : ρ y = entV B u)
    (hg : (eqGuard op t x y (entV B e) (entV B u)).run P w = .ok () w) (hb : (binOp op t (entV B e) (entV B u)).run P w = .ok v w) : (execOp ρ o).run P w = .ok (.value v) w := by
  simp only [execOp, ho, hx, hu, Sem.run_bind, hg, hb, Result.andThen_ok, Sem.run_pure]

theorem guard_int {op : BinOp} {t : TypeId} {x y : Operand} {k k' : IntKind} {a b : Int} : (eqGuard op t x y (.int k a) (.int k' b)).run P w = .ok () w := by cases op <;> simp [eqGuard]
theorem guard_str {op : BinOp} {t : TypeId} {x y : Operand} {a b : ByteArray} : (eqGuard op t x y (.string a) (.string b)).run P w = .ok () w := by cases op <;> simp [eqGuard]

theorem run_ar {o : Oper} {op : BinOp} {t yt : TypeId} {x y : Operand} {e u e' : Ent} (ho : o.op = .binOp op t x y yt) (hx : ρ x = entV B e) (hu : ρ y = entV B u) (hp : pAr op e u = some e') :
    (execOp ρ o).run P w = .ok (.value (entV B e')) w := by
  unfold pAr at hp
  split at hp
  · split at hp
    · rename_i hk; subst hk
      split at hp <;> cases hp <;> exact run_bin ho hx hu guard_int (by simp [binOp, entV, Op.intArith])
    · cases hp
  · cases hp

theorem run_cm {o : Oper} {op : BinOp} {t yt : TypeId} {x y : Operand} {e u e' : Ent} (ho : o.op = .binOp op t x y yt) (hx : ρ x = entV B e) (hu : ρ y = entV B u) (hp : pCm op e u = some e') :
    (execOp ρ o).run P w = .ok (.value (entV B e')) w := by
  unfold pCm at hp
  split at hp
  · split at hp
    · rename_i hk; subst hk
      split at hp <;> cases hp <;> exact run_bin ho hx hu guard_int (by simp [binOp, entV, Op.intCmp])
    · cases hp
  · cases hp

theorem run_bt {o : Oper} {op : BinOp} {t yt : TypeId} {x y : Operand} {e u e' : Ent} (ho : o.op = .binOp op t x y yt) (hx : ρ x = entV B e) (hu : ρ y = entV B u) (hp : pBt op e u = some e') :
    (execOp ρ o).run P w = .ok (.value (entV B e')) w := by
  unfold pBt at hp
  split at hp
  · split at hp
    · rename_i hk; subst hk
      split at hp
      · rename_i n hn
        cases hp
        unfold bits2 at hn
        split at hn <;> cases hn <;> exact run_bin ho hx hu guard_int (by simp [binOp, entV, Op.intBits])
      · cases hp
    · cases hp
  · cases hp

theorem run_dv {o : Oper} {op : BinOp} {t yt : TypeId} {x y : Operand} {e u e' : Ent} (ho : o.op = .binOp op t x y yt) (hx : ρ x = entV B e) (hu : ρ y = entV B u) (hp : pDv op e u = some e') :
    (execOp ρ o).run P w = .ok (.value (entV B e')) w := by
  unfold pDv at hp
  split at hp
  · split at hp
    · rename_i hk; obtain ⟨hk, hb⟩ := hk; subst hk
      split at hp <;> cases hp <;> exact run_bin ho hx hu guard_int (by simp [binOp, entV, Op.intDiv, hb])
    · cases hp
  · cases hp

theorem run_sh {o : Oper} {op : BinOp} {t yt : TypeId} {x y : Operand} {e u e' : Ent} (ho : o.op = .binOp op t x y yt) (hx : ρ x = entV B e) (hu : ρ y = entV B u) (hp : pSh op e u = some e') :
    (execOp ρ o).run P w = .ok (.value (entV B e')) w := by
  unfold pSh at hp
  split at hp
  · split at hp
    · rename_i hb
      have hb' : ¬ (_ : Int) < 0 := Int.not_lt.2 hb
      split at hp <;> cases hp <;> exact run_bin ho hx hu guard_int (by simp [binOp, entV, Op.shift, hb'])
    · cases hp
  · cases hp

theorem run_sop {o : Oper} {op : BinOp} {t yt : TypeId} {x y : Operand} {e u e' : Ent} (ho : o.op = .binOp op t x y yt) (hx : ρ x = entV B e) (hu : ρ y = entV B u) (hp : pSop op e u = some e') :
    (execOp ρ o).run P w = .ok (.value (entV B e')) w := by
  unfold pSop at hp
  split at hp
  · split at hp <;> cases hp <;> exact run_bin ho hx hu guard_str (by simp [binOp, entV, Op.stringOp, beq_toListBytes])
  · cases hp

theorem bin_eql {t : TypeId} {a b : Value} {e : EqT} {r : Bool} (hr : Rep w h f) (hn : isIntT P t = false) (hs : isStrT P t = false) (ht : eqT P t = some e) (he : eqV h e a b = some r) :
    (binOp .eql t a b).run P w = .ok (.bool r) w ∧ (binOp .neq t a b).run P w = .ok (.bool (!r)) w := by
  have hq := eqT_run hr ht he
  have hne : (∀ k n, a ≠ .int k n) ∧ (∀ s, a ≠ .string s) ∧ (∀ k n, a ≠ .float k n) ∧ (∀ k n m, a ≠ .complex k n m) := by
    have notint : e ≠ .one .i := fun hc => by
      subst hc
      unfold eqT at ht
      split at ht
      · split at ht
        · cases ht
        · cases hf : flat P 40 t 0 (P.cellsOf t) <;> simp [hf] at ht
      · cases hsc : sc P t with
        | none => simp [hsc] at ht
        | some q =>
          simp [hsc] at ht; subst ht
          obtain ⟨k, hk⟩ := sc_inv hsc
          simp [isIntT, hk] at hn
    have notstr : e ≠ .one .s := fun hc => by
      subst hc
      unfold eqT at ht
      split at ht
      · split at ht
        · cases ht
        · cases hf : flat P 40 t 0 (P.cellsOf t) <;> simp [hf] at ht
      · cases hsc : sc P t with
        | none => simp [hsc] at ht
        | some q =>
          simp [hsc] at ht; subst ht
          have hk := sc_inv hsc
          simp [isStrT, hk] at hs
    unfold eqV at he
    split at he
    · rename_i q x y
      unfold eqS at he
      split at he <;> first | exact absurd rfl notint | exact absurd rfl notstr | (cases he; done) | exact ⟨fun _ _ => by simp, fun _ => by simp, fun _ _ => by simp, fun _ _ _ => by simp⟩
    · exact ⟨fun _ _ => by simp, fun _ => by simp, fun _ _ => by simp, fun _ _ _ => by simp⟩
    · cases he
  obtain ⟨h1, h2, h3, h4⟩ := hne
  constructor
  · cases a <;> first | exact absurd rfl (h1 _ _) | exact absurd rfl (h2 _) | exact absurd rfl (h3 _ _) | exact absurd rfl (h4 _ _ _) | (cases b <;> simp [binOp, hq])
  · cases a <;> first | exact absurd rfl (h1 _ _) | exact absurd rfl (h2 _) | exact absurd rfl (h3 _ _) | exact absurd rfl (h4 _ _ _) | (cases b <;> simp [binOp, hq])

theorem run_eq {o : Oper} {op : BinOp} {t yt : TypeId} {x y : Operand} {e u e' : Ent} {q : EqT} (hr : Rep w h f) (ho : o.op = .binOp op t x y yt) (hop : isEq op = true) (hn : isIntT P t = false) (hs : isStrT P t = false)
    (ht : eqT P t = some q) (hx : ρ x = entV B e) (hu : ρ y = entV B u) (hp : pEq (isNeq op) q h e u = some e') : (execOp ρ o).run P w = .ok (.value (entV B e')) w := by
  unfold pEq at hp
  split at hp
  · rename_i a b
    split at hp
    · rename_i r he
      cases hp
      refine run_bin ho hx hu (eqGuard_run ht he) ?_
      obtain ⟨h1, h2⟩ := bin_eql (w := w) hr hn hs ht he
      cases op <;> simp [isEq] at hop
      · simpa [entV, isNeq] using h1
      · simpa [entV, isNeq] using h2
    · cases hp
  · cases hp

theorem run_un {o : Oper} {op : UnOp} {t : TypeId} {x : Operand} {e e' : Ent} (ho : o.op = .unOp op t x) (hx : ρ x = entV B e) (hp : pUn op e = some e') :
    (execOp ρ o).run P w = .ok (.value (entV B e')) w := by
  unfold pUn at hp
  split at hp
  · split at hp <;> cases hp
    simp [execOp, ho, hx, entV, Op.unary]
  · split at hp
    · cases hp; simp [execOp, ho, hx, entV, Op.unary, Op.intArith]
    · split at hp
      · rename_i m hm
        cases hp
        simp only [bits2, Option.some.injEq] at hm
        rw [← hm]
        simp only [execOp, ho, hx, entV, Op.unary, Op.intBits, Sem.run_bind, Sem.run_pure, Result.andThen_ok]
      · cases hp
    · cases hp
  · cases hp

theorem run_cv {o : Oper} {s d : TypeId} {k : IntKind} {x : Operand} {e e' : Ent} (ho : o.op = .convert s d x) (hs : isIntT P s = true) (hd : P.underlying d = some (.int k)) (hx : ρ x = entV B e) (hp : pCv k e = some e') :
    (execOp ρ o).run P w = .ok (.value (entV B e')) w := by
  unfold isIntT at hs
  split at hs
  · rename_i k' hk
    unfold pCv at hp
    split at hp <;> cases hp
    simp only [execOp, ho, hx, entV, convert, Sem.run_bind, run_underlying' hk, run_underlying' hd, Result.andThen_ok, Conv.intToInt, Sem.run_pure]
  · cases hs

theorem run_ext {o : Oper} {x : Operand} {i : Nat} {e e' : Ent} (ho : o.op = .extract x i) (hx : ρ x = entV B e) (hp : pExt i e = some e') :
    (execOp ρ o).run P w = .ok (.value (entV B e')) w := by
  unfold pExt at hp
  split at hp
  · rename_i vs
    cases hv : vs[i]? with
    | none => simp [hv, toE] at hp
    | some v => simp only [hv, toE, Option.some.injEq] at hp; subst hp; simp [execOp, ho, hx, entV, Instr.extract, hv]
  · cases hp

theorem run_builtin {o : Oper} {b : Builtin} {args : Array Operand} {ts : Array TypeId} (ho : o.op = .call { callee := .builtin b, args := args, argTypes := ts }) :
    (execOp ρ o).run P w = (builtin b ts o.type (args.map fun | .const _ => true | _ => false) (args.map ρ)).run P w := by
  simp only [execOp, ho, resolve, Sem.run_bind, Sem.run_pure, Result.andThen_ok, invoke]
  rfl

theorem mapO_spec {ob : Option Obj} {es : List MapEntry} (hm : mapO ob = some es) : ∃ a c, ob = some (.map a c) ∧ es = a.toList := by
  unfold mapO at hm
  split at hm
  · rename_i a c; cases hm; exact ⟨a, c, rfl, rfl⟩
  · cases hm

theorem run_getObj_map {r : Nat} {a : Array MapEntry} {c : Nat} (hb : w.heap[r]? = some (.map a c)) : (getObj r).run P w = .ok (.map a c) w := by
  simp [getObj, Sem.run, hb]

theorem run_lenS {o : Oper} {t el : TypeId} {x : Operand} {args : Array Operand} {ts : Array TypeId} {e e' : Ent} (ho : o.op = .call { callee := .builtin .len, args := args, argTypes := ts })
    (ha : args.toList = [x]) (ht : ts[0]? = some t) (hu : P.underlying t = some (.slice el)) (hx : ρ x = entV B e) (hp : pLenS e = some e') :
    (execOp ρ o).run P w = .ok (.value (entV B e')) w := by
  have hargs : args = #[x] := by rw [← Array.toArray_toList (xs := args), ha]
  subst hargs
  rw [run_builtin ho]
  unfold pLenS at hp
  split at hp <;> cases hp
  simp [builtin, Builtin.len_, ht, hx, entV, run_underlying' hu, goInt]

theorem run_lenT {o : Oper} {t : TypeId} {x : Operand} {args : Array Operand} {ts : Array TypeId} {e e' : Ent} (ho : o.op = .call { callee := .builtin .len, args := args, argTypes := ts })
    (ha : args.toList = [x]) (ht : ts[0]? = some t) (hu : P.underlying t = some .string) (hx : ρ x = entV B e) (hp : pLenT e = some e') :
    (execOp ρ o).run P w = .ok (.value (entV B e')) w := by
  have hargs : args = #[x] := by rw [← Array.toArray_toList (xs := args), ha]
  subst hargs
  rw [run_builtin ho]
  unfold pLenT at hp
  split at hp <;> cases hp
  simp [builtin, Builtin.len_, ht, hx, entV, run_underlying' hu, goInt]

theorem run_lenM {o : Oper} {t k el : TypeId} {x : Operand} {args : Array Operand} {ts : Array TypeId} {e e' : Ent} (hr : Rep w h f) (ho : o.op = .call { callee := .builtin .len, args := args, argTypes := ts })
    (ha : args.toList = [x]) (ht : ts[0]? = some t) (hu : P.underlying t = some (.map k el)) (hx : ρ x = entV B e) (hp : pLenM h e = some e') :
    (execOp ρ o).run P w = .ok (.value (entV B e')) w := by
  have hargs : args = #[x] := by rw [← Array.toArray_toList (xs := args), ha]
  subst hargs
  rw [run_builtin ho]
  unfold pLenM at hp
  split at hp
  · cases hp
    simp [builtin, Builtin.len_, ht, hx, entV, run_underlying' hu, goInt]
  · split at hp
    · rename_i r es hm
      cases hp
      obtain ⟨a, c, hob, rfl⟩ := mapO_spec hm
      simp [builtin, Builtin.len_, ht, hx, entV, run_underlying' hu, goInt, run_getObj_map (hr.vis _ _ hob)]
    · cases hp
  · cases hp

theorem run_minmax {o : Oper} {x y : Operand} {args : Array Operand} {ts : Array TypeId} {e u e' : Ent} {mx : Bool} (ho : o.op = .call { callee := .builtin (if mx then .max else .min), args := args, argTypes := ts })
    (ha : args.toList = [x, y]) (hx : ρ x = entV B e) (hu : ρ y = entV B u) (hp : (if mx then pMax2 e u else pMin2 e u) = some e') :
    (execOp ρ o).run P w = .ok (.value (entV B e')) w := by
  have hargs : args = #[x, y] := by rw [← Array.toArray_toList (xs := args), ha]
  subst hargs
  rw [run_builtin ho]
  cases mx
  · simp only [Bool.false_eq_true, if_false] at hp ⊢
    unfold pMin2 at hp
    split at hp
    · split at hp
      · rename_i hk; subst hk; cases hp
        simp [builtin, Builtin.min_, hx, hu, entV, Builtin.min2]
      · cases hp
    · cases hp
  · simp only [if_true] at hp ⊢
    unfold pMax2 at hp
    split at hp
    · split at hp
      · rename_i hk; subst hk; cases hp
        simp [builtin, Builtin.max_, hx, hu, entV, Builtin.max2]
      · cases hp
    · cases hp

theorem run_minmax3 {o : Oper} {x y z : Operand} {args : Array Operand} {ts : Array TypeId} {e u v e1 e' : Ent} {mx : Bool} (ho : o.op = .call { callee := .builtin (if mx then .max else .min), args := args, argTypes := ts })
    (ha : args.toList = [x, y, z]) (hx : ρ x = entV B e) (hu : ρ y = entV B u) (hv : ρ z = entV B v) (hp1 : (if mx then pMax2 e u else pMin2 e u) = some e1) (hp : (if mx then pMax2 e1 v else pMin2 e1 v) = some e') :
    (execOp ρ o).run P w = .ok (.value (entV B e')) w := by
  have hargs : args = #[x, y, z] := by rw [← Array.toArray_toList (xs := args), ha]
  subst hargs
  rw [run_builtin ho]
  cases mx
  · simp only [Bool.false_eq_true, if_false] at hp hp1 ⊢
    unfold pMin2 at hp1
    split at hp1
    · split at hp1
      · rename_i hk; subst hk; cases hp1
        unfold pMin2 at hp
        split at hp
        · split at hp
          · rename_i hk; subst hk; cases hp; have heq := ‹Ent.v (Value.int _ (ite _ _ _)) = _›; cases heq
            simp [builtin, Builtin.min_, hx, hu, hv, entV, Builtin.min2]
          · cases hp
        · cases hp
      · cases hp1
    · cases hp1
  · simp only [if_true] at hp hp1 ⊢
    unfold pMax2 at hp1
    split at hp1
    · split at hp1
      · rename_i hk; subst hk; cases hp1
        unfold pMax2 at hp
        split at hp
        · split at hp
          · rename_i hk; subst hk; cases hp; have heq := ‹Ent.v (Value.int _ (ite _ _ _)) = _›; cases heq
            simp [builtin, Builtin.max_, hx, hu, hv, entV, Builtin.max2]
          · cases hp
        · cases hp
      · cases hp1
    · cases hp1

end

end Go.Proofs.YthpkgkoojhgedaaDoor.V

/- Maps: looking a key up, and what the model does for it. -/
namespace Go.Proofs.YthpkgkoojhgedaaDoor.V
set_option linter.unusedSectionVars false
set_option linter.unusedVariables false
set_option linter.unusedSimpArgs false
open Go

section
variable {P : Program} {w : World} {h : Hp} {f : Fm} {B : Nat → Nat} {β : Bx} {ρ : Operand → Value}

theorem chk_sc {t : TypeId} {e : EqS} {x : Value} {b : Bool} {d : Nat} (ht : sc P t = some e) : (Instr.checkKey b (d + 1) t x).run P w = .ok () w := by
  have hi := sc_inv ht
  cases e <;> simp only at hi
  · simp [Instr.checkKey, run_underlying' hi]
  · obtain ⟨k, hi⟩ := hi; simp [Instr.checkKey, run_underlying' hi]
  · simp [Instr.checkKey, run_underlying' hi]
  · obtain ⟨k, hi, _⟩ := hi; simp [Instr.checkKey, run_underlying' hi]
  · obtain ⟨k, hi⟩ := hi; simp [Instr.checkKey, run_underlying' hi]
  · obtain ⟨k, l, hi⟩ := hi; simp [Instr.checkKey, run_underlying' hi]
  · obtain ⟨k, l, m, hi⟩ := hi; simp [Instr.checkKey, run_underlying' hi]

theorem chk_flat : ∀ (d D : Nat) (t : TypeId) (off sz : Nat) (l : List (Nat × EqS)) (X : Array Value) (x : Value) (r b : Bool),
    flat P d t off sz = some l → eqL h X X l = some r → AtX P X off sz t x → (Instr.checkKey b (d + D) t x).run P w = .ok () w
  | 0, _, _, _, _, _, _, _, _, _, hf, _, _ => by cases hf
  | d + 1, D, t, off, sz, l, X, x, r, b, hf, he, hx => by
    have step : ∀ (u : TypeId) (o : Nat) (l' : List (Nat × EqS)) (xs : Array Value) (q : Bool), (∀ k, k < sz → xs[k]? = X[off + k]?) →
        o + P.cellsOf u ≤ sz → flat P d u (off + o) (P.cellsOf u) = some l' → eqL h X X l' = some q →
        ∃ x, (part u xs o).run P w = .ok x w ∧ (Instr.checkKey b (d + D) u x).run P w = .ok () w := by
      intro u o l' xs q hxs ho hf' he'
      obtain ⟨du, hdu⟩ := flat_known hf'
      have hone : isAg P u = false → P.cellsOf u ≠ 0 ∧ (X[off + o]?).isSome = true := fun ha => by
        obtain ⟨hz, e, _, rfl⟩ := flat_one hf' ha
        obtain ⟨x, y, h1, h2, _⟩ := eqL_single he'
        exact ⟨hz, by simp [h1]⟩
      obtain ⟨x, p1, a1⟩ := part_at (w := w) hdu (und_info hdu) hxs ho hone
      exact ⟨x, p1, chk_flat d D u (off + o) (P.cellsOf u) l' X x q b hf' he' a1⟩
    have hdD : d + 1 + D = (d + D) + 1 := by omega
    simp only [flat] at hf
    split at hf
    · rename_i fs hu
      split at hf
      · cases hf
      · have hag : isAg P t = true := by simp [isAg, hu]
        simp only [AtX, hag, if_true] at hx
        obtain ⟨xs, rfl, hxs⟩ := hx
        rw [hdD]
        simp only [Instr.checkKey, Sem.run_bind, run_underlying' hu, Result.andThen_ok]
        rw [← Array.forIn_toList]
        generalize fs.toList = L at hf
        clear hu
        induction L generalizing l r with
        | nil => simp
        | cons fl L ih =>
          obtain ⟨l1, l2, h1, h2, rfl⟩ := allSome_cons hf
          obtain ⟨a, c, ha, hc', rfl⟩ := eqL_append he
          split at h1
          · cases h1
          · rename_i hc
            simp only [Bool.or_eq_true, decide_eq_true_eq, not_or] at hc
            obtain ⟨x, p1, p3⟩ := step fl.type fl.offset l1 xs a hxs (by omega) h1 ha
            have := ih l2 c hc' h2
            simp only [List.forIn_cons, Sem.run_bind, ne_eq, hc.1, not_false_eq_true, if_true, p1, p3, Result.andThen_ok, Sem.run_pure]
            exact this
    · rename_i n e hu
      split at hf
      · cases hf
      · rename_i hi
        obtain ⟨i, hi⟩ := Option.isSome_iff_exists.1 (by cases hx : P.info? e with | none => simp [hx] at hi | some i => rfl : (P.info? e).isSome = true)
        have hag : isAg P t = true := by simp [isAg, hu]
        simp only [AtX, hag, if_true] at hx
        obtain ⟨xs, rfl, hxs⟩ := hx
        rw [hdD]
        simp only [Instr.checkKey, Sem.run_bind, run_underlying' hu, Result.andThen_ok]
        simp only [Std.Legacy.Range.forIn_eq_forIn_range', Std.Legacy.Range.size, Nat.sub_zero, Nat.add_one_sub_one, Nat.div_one]
        rw [List.range_eq_range'] at hf
        generalize List.range' 0 n = L at hf
        clear hu
        induction L generalizing l r with
        | nil => simp
        | cons k L ih =>
          obtain ⟨l1, l2, h1, h2, rfl⟩ := allSome_cons hf
          obtain ⟨a, c, ha, hc', rfl⟩ := eqL_append he
          split at h1
          · cases h1
          · rename_i hc
            obtain ⟨x, p1, p3⟩ := step e (k * P.cellsOf e) l1 xs a hxs (by omega) h1 ha
            have := ih l2 c hc' h2
            simp only [List.forIn_cons, Sem.run_bind, run_sizeOf' hi, show i.size = P.cellsOf e from by simp [Program.cellsOf, hi], p1, p3, Result.andThen_ok, Sem.run_pure]
            exact this
    · split at hf
      · cases hf
      · split at hf
        · rename_i e hs
          rw [hdD]; exact chk_sc hs
        · cases hf

theorem chk_run {t : TypeId} {e : EqT} {x : Value} {b : Bool} (ht : eqT P t = some e) (he : (eqV h e x x).isSome = true) : (Instr.checkKey b 10000 t x).run P w = .ok () w := by
  obtain ⟨r, he⟩ := Option.isSome_iff_exists.1 he
  unfold eqT at ht
  split at ht
  · rename_i hag
    split at ht
    · cases ht
    · cases hf : flat P 40 t 0 (P.cellsOf t) with
      | none => simp [hf] at ht
      | some l =>
        simp only [hf, Option.map_some, Option.some.injEq] at ht
        subst ht
        cases x with
        | agg xs => exact chk_flat 40 9960 t 0 (P.cellsOf t) l xs _ _ b hf he (by simp [AtX, hag])
        | _ => simp [eqV] at he
  · cases hs : sc P t with
    | none => simp [hs] at ht
    | some s1 => exact chk_sc (d := 9999) hs

/-- Where the key stands. -/
def scan (h : Hp) (k : EqT) (x : Value) : List MapEntry → Option (Option Nat)
  | [] => some none
  | e :: es => match eqV h k x e.key with
    | some true => some (some 0)
    | some false => (match scan h k x es with | some (some i) => some (some (i + 1)) | r => r)
    | none => none

def outI (es : List MapEntry) (j : Nat) : Option Nat → Option (Nat × Value)
  | none => none
  | some i => (es[i]?).map fun e => (i + j, e.val)

theorem outI_cons (e : MapEntry) (es : List MapEntry) (j i : Nat) : outI (e :: es) j (some (i + 1)) = outI es (j + 1) (some i) := by
  simp [outI, Nat.add_assoc, Nat.add_comm 1 j]

theorem scan_asking (hr : Rep w h f) {t : TypeId} {k : EqT} {x : Value} (ht : eqT P t = some k) : ∀ {es : List MapEntry} {r : Option Nat} (j : Nat), scan h k x es = some r →
    (Instr.findAsking t x es j).run P w = .ok (outI es j r) w
  | [], r, j, hs => by simp only [scan, Option.some.injEq] at hs; subst hs; simp [Instr.findAsking, outI]
  | e :: es, r, j, hs => by
    simp only [scan] at hs
    split at hs
    · rename_i he
      cases hs
      simp [Instr.findAsking, eqT_run hr ht he, outI]
    · rename_i he
      split at hs
      · rename_i i hi
        cases hs
        have := scan_asking hr ht (j + 1) hi
        rw [outI_cons]
        simp only [Instr.findAsking, Sem.run_bind, eqT_run hr ht he, Result.andThen_ok, Bool.false_eq_true, if_false, this]
      · cases r with
        | none =>
          have := scan_asking hr ht (j + 1) hs
          simp only [Instr.findAsking, Sem.run_bind, eqT_run hr ht he, Result.andThen_ok, Bool.false_eq_true, if_false, this, outI]
        | some i => rename_i hne; exact absurd hs (hne i)
    · cases hs

theorem scan_now {u : TypeDesc} {k : EqT} {x : Value} (hsame : ∀ y r, eqV h k x y = some r → Instr.sameNow u x y = some r) : ∀ {es : List MapEntry} {r : Option Nat} (j : Nat), scan h k x es = some r →
    Instr.findNow u x es j = some (outI es j r)
  | [], r, j, hs => by simp only [scan, Option.some.injEq] at hs; subst hs; simp [Instr.findNow, outI]
  | e :: es, r, j, hs => by
    simp only [scan] at hs
    split at hs
    · rename_i he
      cases hs
      simp [Instr.findNow, hsame _ _ he, outI]
    · rename_i he
      split at hs
      · rename_i i hi
        cases hs
        have := scan_now hsame (j + 1) hi
        rw [outI_cons]
        simp only [Instr.findNow, hsame _ _ he, this]
      · cases r with
        | none =>
          have := scan_now hsame (j + 1) hs
          simp only [Instr.findNow, hsame _ _ he, this, outI]
        | some i => rename_i hne; exact absurd hs (hne i)
    · cases hs

theorem scan_run (hr : Rep w h f) {t : TypeId} {k : EqT} {x : Value} (ht : eqT P t = some k) {es : List MapEntry} {r : Option Nat} (hs : scan h k x es = some r) :
    (Instr.findKey t x es).run P w = .ok (outI es 0 r) w := by
  have hu : ∃ u, P.underlying t = some u := by
    unfold eqT at ht
    split at ht
    · split at ht
      · cases ht
      · cases hf : flat P 40 t 0 (P.cellsOf t) with
        | none => simp [hf] at ht
        | some l => exact flat_known hf
    · cases hs : sc P t with
      | none => simp [hs] at ht
      | some q => exact sc_und hs
  obtain ⟨u, hu⟩ := hu
  simp only [Instr.findKey, Sem.run_bind, run_underlying' hu, Result.andThen_ok]
  cases hn : Instr.findNow u x es 0 with
  | none =>
    exact scan_asking (P := P) (w := w) hr ht 0 hs
  | some q =>
    simp only [Sem.run_pure]
    cases es with
    | nil =>
      simp only [scan, Option.some.injEq] at hs; subst hs
      simp only [Instr.findNow, Option.some.injEq] at hn; subst hn; rfl
    | cons e0 es0 =>
      -- the first key was compared at once: a type of one of three kinds
      have hsame : ∀ y r, eqV h k x y = some r → Instr.sameNow u x y = some r := by
        have hkind : (∃ q, u = .int q) ∨ u = .string ∨ u = .bool := by
          simp only [Instr.findNow] at hn
          cases hsn : Instr.sameNow u x e0.key with
          | none => simp [hsn] at hn
          | some b =>
            unfold Instr.sameNow at hsn
            split at hsn <;> first | exact .inl ⟨_, rfl⟩ | exact .inr (.inl rfl) | exact .inr (.inr rfl) | cases hsn
        intro y r he
        have hk : k = .one (match u with | .int _ => .i | .string => .s | _ => .b) := by
          unfold eqT at ht
          have hag : isAg P t = false := by unfold isAg; rw [hu]; rcases hkind with ⟨q, rfl⟩ | rfl | rfl <;> rfl
          simp only [hag, Bool.false_eq_true, if_false] at ht
          rcases hkind with ⟨q, rfl⟩ | rfl | rfl <;> simp [sc, hu] at ht <;> exact ht.symm
        have same_of : ∀ q : EqS, eqS h q x y = some r → (match q with | .i => ∀ z, Instr.sameNow (.int z) x y = some r | .s => Instr.sameNow .string x y = some r | .b => Instr.sameNow .bool x y = some r | _ => True) := by
          intro q he
          unfold eqS at he
          split at he <;> first | trivial | (cases he; done) | (intro z; simpa [Instr.sameNow] using he) | (simpa [Instr.sameNow] using he)
        rcases hkind with ⟨q, rfl⟩ | rfl | rfl <;> subst hk <;> simp only [eqV] at he
        · exact same_of .i he q
        · exact same_of .s he
        · exact same_of .b he
      have := scan_now hsame 0 hs
      rw [hn] at this
      rw [Option.some.inj this]

theorem find_scan {k : EqT} {x : Value} : ∀ {es : List MapEntry} {r : Option Value}, find h k x es = some r →
    ∃ i, scan h k x es = some i ∧ r = (match i with | none => none | some i => (es[i]?).map (·.val)) ∧ ∀ j, i = some j → j < es.length
  | [], r, hf => by simp only [find, Option.some.injEq] at hf; subst hf; exact ⟨none, rfl, rfl, fun j hj => by cases hj⟩
  | e :: es, r, hf => by
    simp only [find] at hf
    split at hf
    · rename_i he; cases hf; exact ⟨some 0, by simp [scan, he], by simp, fun j hj => by cases hj; simp⟩
    · rename_i he
      obtain ⟨i, hi, hr, hl⟩ := find_scan hf
      cases i with
      | none => exact ⟨none, by simp [scan, he, hi], hr, fun j hj => by cases hj⟩
      | some i => exact ⟨some (i + 1), by simp [scan, he, hi], by simpa using hr, fun j hj => by cases hj; simpa using hl i rfl⟩
    · cases hf

theorem repl_scan {k : EqT} {x v : Value} : ∀ {es : List MapEntry} {r : Option (List MapEntry)}, repl k h x v es = some r →
    ∃ i, scan h k x es = some i ∧ (match i with | none => r = none | some i => ∃ hi : i < es.length, Instr.sameBits 10000 es[i].key x = true ∧ r = some (es.set i { es[i] with key := x, val := v }))
  | [], r, hf => by simp only [repl, Option.some.injEq] at hf; subst hf; exact ⟨none, rfl, rfl⟩
  | e :: es, r, hf => by
    simp only [repl] at hf
    split at hf
    · rename_i he
      split at hf
      · rename_i hb; cases hf; exact ⟨some 0, by simp [scan, he], by simp, by simpa using hb, by simp⟩
      · cases hf
    · rename_i he
      split at hf
      · rename_i l hl
        cases hf
        obtain ⟨i, hi, hr⟩ := repl_scan hl
        cases i with
        | none => cases hr
        | some i =>
          obtain ⟨h1, h2, h3⟩ := hr
          cases h3
          exact ⟨some (i + 1), by simp [scan, he, hi], by simpa using h1, by simpa using h2, by simp⟩
      · cases r with
        | none =>
          obtain ⟨i, hi, hr⟩ := repl_scan hf
          cases i with
          | none => exact ⟨none, by simp [scan, he, hi], rfl⟩
          | some i => obtain ⟨_, _, h3⟩ := hr; cases h3
        | some l => rename_i hne; exact absurd hf (hne l)
    · cases hf

theorem strk_scan {k : EqT} {x : Value} : ∀ {es : List MapEntry} {r : Option (List MapEntry)}, strk k h x es = some r →
    ∃ i, scan h k x es = some i ∧ (match i with | none => r = none | some i => i < es.length ∧ r = some (es.eraseIdx i))
  | [], r, hf => by simp only [strk, Option.some.injEq] at hf; subst hf; exact ⟨none, rfl, rfl⟩
  | e :: es, r, hf => by
    simp only [strk] at hf
    split at hf
    · rename_i he; cases hf; exact ⟨some 0, by simp [scan, he], by simp, by simp⟩
    · rename_i he
      split at hf
      · rename_i l hl
        cases hf
        obtain ⟨i, hi, hr⟩ := strk_scan hl
        cases i with
        | none => cases hr
        | some i =>
          obtain ⟨h1, h3⟩ := hr
          cases h3
          exact ⟨some (i + 1), by simp [scan, he, hi], by simpa using h1, by simp⟩
      · cases r with
        | none =>
          obtain ⟨i, hi, hr⟩ := strk_scan hf
          cases i with
          | none => exact ⟨none, by simp [scan, he, hi], rfl⟩
          | some i => obtain ⟨_, h3⟩ := hr; cases h3
        | some l => rename_i hne; exact absurd hf (hne l)
    · cases hf

theorem run_zero {t : TypeId} {i : TypeInfo} {z : Value} (hi : P.info? t = some i) (hz : i.zero = some z) : (zeroValue t).run P w = .ok z w := by
  simp [zeroValue, run_typeInfo' hi, hz]

theorem run_look {o : Oper} {t kt et : TypeId} {k : EqT} {i : TypeInfo} {z : Value} {ok : Bool} {m x : Operand} {e u e' : Ent} (hr : Rep w h f) (ho : o.op = .lookup t m x ok) (ht : P.underlying t = some (.map kt et))
    (hk : eqT P kt = some k) (hi : P.info? et = some i) (hz : i.zero = some z) (hx : ρ m = entV B e) (hu : ρ x = entV B u) (hp : pLook k z ok h e u = some e') :
    (execOp ρ o).run P w = .ok (.value (entV B e')) w := by
  unfold pLook at hp
  split at hp
  · rename_i y
    split at hp
    · rename_i hs
      cases hp
      have hfk := scan_run (w := w) (x := y) (es := []) (r := none) hr hk rfl
      simp only [outI] at hfk
      have hck : (Instr.checkKey true 10000 kt y).run P w = .ok () w := chk_run hk hs
      cases ok <;> simp only [execOp, ho, hx, hu, entV, Instr.lookup, Sem.run_bind, run_underlying' ht, Result.andThen_ok, Sem.run_pure, show (#[] : Array MapEntry).isEmpty = true from rfl, hck, hfk, run_zero hi hz, Bool.false_eq_true, if_false, if_true]
    · cases hp
  · rename_i r y
    split at hp
    · cases hp
    · rename_i es hm
      obtain ⟨a, c, hob, rfl⟩ := mapO_spec hm
      split at hp
      · cases hp
      · rename_i hs
        have hs : (eqV h k y y).isSome = true := by cases hq : eqV h k y y <;> simp [hq] at hs ⊢
        have hck : (Instr.checkKey a.isEmpty 10000 kt y).run P w = .ok () w := chk_run hk hs
        split at hp
        · cases hp
        · rename_i hf
          cases hp
          obtain ⟨i', hsc, hv, hl⟩ := find_scan hf
          have hfk := scan_run (w := w) hr hk hsc
          cases i' with
          | none =>
            simp only [outI] at hfk
            cases ok <;> simp only [execOp, ho, hx, hu, entV, Instr.lookup, Sem.run_bind, run_underlying' ht, Result.andThen_ok, Sem.run_pure, run_getObj_map (hr.vis _ _ hob), hck, hfk, run_zero hi hz, Bool.false_eq_true, if_false, if_true]
          | some j =>
            have hj := hl j rfl
            simp only [List.getElem?_eq_getElem hj, Option.map_some] at hv
            cases hv
        · rename_i v hf
          cases hp
          obtain ⟨i', hsc, hv, hl⟩ := find_scan hf
          have hfk := scan_run (w := w) hr hk hsc
          cases i' with
          | none => cases hv
          | some j =>
            have hj := hl j rfl
            have hg : a.toList[j]? = some a.toList[j] := List.getElem?_eq_getElem hj
            simp only [outI, hg, Option.map_some, Option.some.injEq] at hv hfk
            subst hv
            cases ok <;> simp only [execOp, ho, hx, hu, entV, Instr.lookup, Sem.run_bind, run_underlying' ht, Result.andThen_ok, Sem.run_pure, run_getObj_map (hr.vis _ _ hob), hck, hfk, Bool.false_eq_true, if_false, if_true]
  · cases hp

end

end Go.Proofs.YthpkgkoojhgedaaDoor.V

/- Structs and slices of values, functions as values; and all looks together. -/
namespace Go.Proofs.YthpkgkoojhgedaaDoor.V
set_option linter.unusedSectionVars false
set_option linter.unusedVariables false
set_option linter.unusedSimpArgs false
open Go

section
variable {P : Program} {w : World} {h : Hp} {f : Fm} {B : Nat → Nat} {β : Bx} {ρ : Operand → Value}

theorem wrL_length : ∀ (l : List Value) (c : List Value) (o : Nat), (wrL c o l).length = c.length
  | [], _, _ => rfl
  | v :: l, c, o => by simp [wrL, wrL_length l]

theorem foldl_wrL : ∀ (l : List Value) (c : Array Value) (o : Nat), l.zipIdx.foldl (fun cs (p : Value × Nat) => cs.setIfInBounds (o + p.2) p.1) c = (wrL c.toList o l).toArray
  | [], c, o => by simp [wrL]
  | v :: l, c, o => by
    have key : ∀ (l : List Value) (k : Nat) (c : Array Value) (o : Nat), (l.zipIdx (k + 1)).foldl (fun cs (p : Value × Nat) => cs.setIfInBounds (o + p.2) p.1) c =
        (l.zipIdx k).foldl (fun cs (p : Value × Nat) => cs.setIfInBounds (o + 1 + p.2) p.1) c := by
      intro l
      induction l with
      | nil => intros; rfl
      | cons a l ih =>
        intro k c o
        simp only [List.zipIdx_cons, List.foldl_cons]
        rw [show o + (k + 1) = o + 1 + k from by omega, ih]
    simp only [List.zipIdx_cons, List.foldl_cons, Nat.add_zero]
    rw [key l 0, foldl_wrL l _ (o + 1)]
    simp [wrL]

theorem fill_fillL {place : Nat → Option (Nat × Nat)} : ∀ (ps : List (Nat × Value)) (pl : List (Nat × Nat)) (es : List Ent) (c l : List Value),
    allPl place (ps.map (·.1)) = some pl → ps.map (·.2) = es.map (entV B) → fillL c pl es = some l → Instr.fill place c.toArray ps = some l.toArray
  | [], pl, es, c, l, h1, h2, h3 => by
    simp only [List.map_nil, allPl, Option.some.injEq] at h1
    subst h1
    cases es with
    | nil => simp only [fillL, Option.some.injEq] at h3; subst h3; rfl
    | cons a b => simp at h2
  | (i, v) :: ps, pl, es, c, l, h1, h2, h3 => by
    simp only [List.map_cons, allPl] at h1
    split at h1
    · rename_i p pl' hp hpl
      cases h1
      obtain ⟨o, sz⟩ := p
      cases es with
      | nil => simp at h2
      | cons e es =>
        simp only [List.map_cons, List.cons.injEq] at h2
        cases e with
        | l r q => simp [fillL] at h3
        | v x =>
          simp only [fillL] at h3
          split at h3
          · rename_i hc
            have hx : v = x := h2.1
            subst hx
            simp only [Instr.fill, hp]
            rw [if_neg (by simp [hc.1]; omega)]
            rw [wrF_eq (by simp [hc.1]; omega)] at h3
            have := fill_fillL ps pl' es _ _ hpl h2.2 h3
            rw [← this]
            congr 1
            rw [← Array.foldl_toList, Array.toList_zipIdx, foldl_wrL]
          · cases h3
    · cases h1

theorem run_mapM_pure {α β : Type} {g : α → Sem β} {k : α → β} : ∀ (l : List α), (∀ x ∈ l, (g x).run P w = .ok (k x) w) → (l.mapM g).run P w = .ok (l.map k) w
  | [], _ => rfl
  | x :: l, hx => by
    rw [List.mapM_cons]
    simp only [Sem.run_bind, hx x (by simp), run_mapM_pure l (fun y hy => hx y (by simp [hy])), Result.andThen_ok, Sem.run_pure, List.map_cons]

theorem run_mapM_pureA {α β : Type} {g : α → Sem β} {k : α → β} (l : Array α) (hx : ∀ x ∈ l.toList, (g x).run P w = .ok (k x) w) : (l.mapM g).run P w = .ok (l.map k) w := by
  rw [Array.mapM_eq_mapM_toList]
  simp only [Sem.run_map, run_mapM_pure l.toList hx, Result.andThen_ok]
  exact congrArg (fun q => Result.ok q w) (by apply Array.ext'; rw [Array.toList_map])

theorem zero_run {t : TypeId} {z : List Value} (hz : zeroCells P t = some z) : ∃ v, (zeroValue t).run P w = .ok v w ∧ v.cells = z.toArray := by
  unfold zeroCells at hz
  split at hz
  · rename_i i hi
    split at hz
    · rename_i v hv
      cases hz
      exact ⟨v, run_zero hi hv, by simp⟩
    · cases hz
  · cases hz

theorem run_bld {o : Oper} {t : TypeId} {parts : Array (Nat × Operand)} {z : List Value} {pl : List (Nat × Nat)} {es : List Ent} {l : List Value}
    (ho : o.op = .build t parts) (ht : (∃ fs, P.underlying t = some (.struct fs) ∧ fs.all (fun f => (P.info? f.type).isSome) = true) ∨ ∃ n e, P.underlying t = some (.array n e) ∧ (P.info? e).isSome = true)
    (hz : zeroCells P t = some z) (hpl : allPl (plOf P t) (parts.toList.map (·.1)) = some pl) (hes : (parts.toList.map (·.2)).map ρ = es.map (entV B)) (hf : fillL z pl es = some l) :
    (execOp ρ o).run P w = .ok (.value (.agg l.toArray)) w := by
  obtain ⟨v, hv, hvc⟩ := zero_run (w := w) hz
  have hps : ∀ place : Nat → Option (Nat × Nat), allPl place (parts.toList.map (·.1)) = some pl → Instr.fill place v.cells (parts.map fun (i, x) => (i, ρ x)).toList = some l.toArray := by
    intro place hp
    rw [hvc]
    refine fill_fillL (B := B) _ pl es z l ?_ ?_ hf
    · rw [← hp]; congr 1; simp
    · rw [← hes]; simp
  have hexec : (execOp ρ o).run P w = ((Instr.build t (parts.map fun (i, x) => (i, ρ x))).run P w).andThen fun a w' => .ok (.value a) w' := by
    simp only [execOp, ho, Sem.run_bind, Sem.run_pure]
  rw [hexec]
  simp only [Instr.build, Sem.run_bind, hv, Result.andThen_ok]
  rcases ht with ⟨fs, hu, hall⟩ | ⟨n, e, hu, hie⟩
  · rw [run_underlying' hu]
    simp only [Result.andThen_ok, Sem.run_bind]
    rw [run_mapM_pureA (k := fun fl : Field => (fl.offset, P.cellsOf fl.type)) fs (fun fl hfl => by
      have : (P.info? fl.type).isSome = true := by
        have := Array.all_eq_true.1 hall
        obtain ⟨i, hi, rfl⟩ := List.mem_iff_getElem.1 hfl
        exact this i (by simpa using hi)
      simp [run_sizeOf_c this])]
    simp only [Result.andThen_ok]
    have h1 : allPl (fun i => (fs.map fun fl : Field => (fl.offset, P.cellsOf fl.type))[i]?) (parts.toList.map (·.1)) = some pl := by
      have key : ∀ (L : List Nat) (pl : List (Nat × Nat)), allPl (plOf P t) L = some pl → allPl (fun i => (fs.map fun fl : Field => (fl.offset, P.cellsOf fl.type))[i]?) L = some pl := by
        intro L
        induction L with
        | nil => intro pl hpl; exact hpl
        | cons i L ih =>
          intro pl hpl
          simp only [allPl] at hpl ⊢
          split at hpl
          · rename_i a b ha hb
            cases hpl
            have hh : (fs.map fun fl : Field => (fl.offset, P.cellsOf fl.type))[i]? = some a := by
              simp only [plOf, hu] at ha
              split at ha
              · rename_i fl hfl
                split at ha
                · cases ha
                · cases ha; simp [hfl]
              · cases ha
            rw [hh, ih _ hb]
          · cases hpl
      exact key _ _ hpl
    rw [hps _ h1]
    rfl
  · rw [run_underlying' hu]
    simp only [Result.andThen_ok, Sem.run_bind]
    rw [run_sizeOf_c hie]
    simp only [Result.andThen_ok]
    have h1 : allPl (fun i => some (i * P.cellsOf e, P.cellsOf e)) (parts.toList.map (·.1)) = some pl := by
      have key : ∀ (L : List Nat) (pl : List (Nat × Nat)), allPl (plOf P t) L = some pl → allPl (fun i => some (i * P.cellsOf e, P.cellsOf e)) L = some pl := by
        intro L
        induction L with
        | nil => intro pl hpl; exact hpl
        | cons i L ih =>
          intro pl hpl
          simp only [allPl] at hpl ⊢
          split at hpl
          · rename_i a b ha hb
            cases hpl
            have hn : (P.info? e).isNone = false := by cases hx : P.info? e with | none => simp [hx] at hie | some _ => rfl
            simp only [plOf, hu, hn, Bool.false_eq_true, if_false, Option.some.injEq] at ha
            rw [ha, ih _ hb]
          · cases hpl
      exact key _ _ hpl
    rw [hps _ h1]
    rfl

theorem vals_spec : ∀ {es : List Ent} {l : List Value}, vals es = some l → es = l.map .v
  | [], l, h => by simp only [vals, Option.some.injEq] at h; subst h; rfl
  | .v x :: es, l, h => by
    simp only [vals] at h
    split at h
    · rename_i l' hl; cases h; rw [vals_spec hl]; rfl
    · cases h
  | .l _ _ :: es, l, h => by simp [vals] at h

theorem vals_entV {es : List Ent} {l : List Value} (h : vals es = some l) : es.map (entV B) = l := by
  rw [vals_spec h]; simp [entV, Function.comp_def]

theorem run_mkf {o : Oper} {fn : FuncId} {first cap : Array Operand} {es : List Ent} {e' : Ent} (ho : o.op = .makeFunc (.func fn) first cap) (hes : (first.toList ++ cap.toList).map ρ = es.map (entV B))
    (hp : pMkf (.func fn) first.size es = some e') : (execOp ρ o).run P w = .ok (.value (entV B e')) w := by
  unfold pMkf at hp
  split at hp
  · rename_i l hl
    cases hp
    rw [vals_entV hl] at hes
    have hlen : (first.toList.map ρ).length = first.size := by simp
    have h1 : (l.take first.size).toArray = first.map ρ := by
      rw [← hes, List.map_append, List.take_left' hlen]; apply Array.ext'; rw [Array.toList_map]
    have h2 : (l.drop first.size).toArray = cap.map ρ := by
      rw [← hes, List.map_append, List.drop_left' hlen]; apply Array.ext'; rw [Array.toList_map]
    simp only [execOp, ho, Instr.makeFunc, Sem.run_bind, Sem.run_pure, Result.andThen_ok, entV, h1, h2]
  · cases hp

theorem run_mki {o : Oper} {t : TypeId} {x : Operand} {d : TypeDesc} {v : Value} (ho : o.op = .makeInterface t x) (hd : P.underlying t = some d) (hn : ∀ ms, d ≠ .interface ms) (hx : ρ x = v) :
    (execOp ρ o).run P w = .ok (.value (.iface t v)) w := by
  simp only [execOp, ho, Instr.makeInterface, Sem.run_bind, run_underlying' hd, Result.andThen_ok, hx]
  cases d <;> first | exact absurd rfl (hn _) | rfl

/-! ### Slices of slices, arrays and strings -/

theorem bnd_some {y d n : Nat} {e : Ent} (hb : bnd y d (some e) = some n) : ∃ k i, e = .v (.int k i) ∧ 0 ≤ i ∧ i ≤ (y : Int) ∧ n = i.toNat := by
  unfold bnd at hb
  split at hb
  · rename_i hn; cases hn
  · rename_i hn
    cases hn
    split at hb
    · rename_i hc; cases hb; exact ⟨_, _, rfl, hc.1, hc.2, rfl⟩
    · cases hb
  · cases hb

theorem sb_run {y : Nat} {k : IntKind} {i : Int} {code : BoundsCode} (h0 : 0 ≤ i) (h1 : i ≤ (y : Int)) : (Instr.sliceBound (.int k i) y code).run P w = .ok i.toNat w := by
  simp [Instr.sliceBound, asIntOf, h0, h1]

theorem bounds_run {isS : Bool} {len cap l u m : Nat} {lo hi mx : Option Ent} {lo' hi' mx' : Option Value} (h1 : lo' = lo.map (entV B)) (h2 : hi' = hi.map (entV B)) (h3 : mx' = mx.map (entV B))
    (hm : bnd cap cap mx = some m) (hh : bnd m (if mx.isSome then m else len) hi = some u) (hmh : (mx.isSome && hi.isNone) = false) (hl : bnd u 0 lo = some l) :
    (Instr.sliceBounds isS len cap lo' hi' mx').run P w = .ok (l, u, m) w := by
  subst h1; subst h2; subst h3
  cases mx with
  | none =>
    simp only [bnd, Option.some.injEq] at hm
    subst hm
    cases hi with
    | none =>
      simp only [bnd, Option.isSome_none, Bool.false_eq_true, if_false, Option.some.injEq] at hh
      subst hh
      cases lo with
      | none => simp only [bnd, Option.some.injEq] at hl; subst hl; rfl
      | some e =>
        obtain ⟨k, i, rfl, g0, g1, rfl⟩ := bnd_some hl
        simp only [Instr.sliceBounds, Option.map_none, Option.map_some, entV, Sem.run_bind, Sem.run_pure, Result.andThen_ok, sb_run g0 g1]
    | some a =>
      obtain ⟨k, i, rfl, g0, g1, rfl⟩ := bnd_some hh
      cases lo with
      | none => simp only [bnd, Option.some.injEq] at hl; subst hl; simp only [Instr.sliceBounds, Option.map_none, Option.map_some, entV, Sem.run_bind, Sem.run_pure, Result.andThen_ok, sb_run g0 g1]
      | some e =>
        obtain ⟨k', i', rfl, g2, g3, rfl⟩ := bnd_some hl
        simp only [Instr.sliceBounds, Option.map_none, Option.map_some, entV, Sem.run_bind, Sem.run_pure, Result.andThen_ok, sb_run g0 g1, sb_run g2 g3]
  | some b =>
    obtain ⟨k0, i0, rfl, f0, f1, rfl⟩ := bnd_some hm
    cases hi with
    | none => simp at hmh
    | some a =>
      obtain ⟨k, i, rfl, g0, g1, rfl⟩ := bnd_some hh
      cases lo with
      | none => simp only [bnd, Option.some.injEq] at hl; subst hl; simp only [Instr.sliceBounds, Option.map_none, Option.map_some, entV, Sem.run_bind, Sem.run_pure, Result.andThen_ok, sb_run f0 f1, sb_run g0 g1]
      | some e =>
        obtain ⟨k', i', rfl, g2, g3, rfl⟩ := bnd_some hl
        simp only [Instr.sliceBounds, Option.map_none, Option.map_some, entV, Sem.run_bind, Sem.run_pure, Result.andThen_ok, sb_run f0 f1, sb_run g0 g1, sb_run g2 g3]

theorem opt_split {x : Option Operand} {rest : List Operand} {es : List Ent} (hes : (optL x ++ rest).map ρ = es.map (entV B)) {u : Option Ent} {r : List Ent} (ho : opt1 x.isSome es = some (u, r)) :
    x.map ρ = u.map (entV B) ∧ rest.map ρ = r.map (entV B) := by
  cases x with
  | none => simp only [Option.isSome_none, opt1, Bool.false_eq_true, if_false, Option.some.injEq, Prod.mk.injEq] at ho; obtain ⟨rfl, rfl⟩ := ho; exact ⟨rfl, by simpa [optL] using hes⟩
  | some x =>
    simp only [Option.isSome_some, opt1, if_true] at ho
    cases es with
    | nil => cases ho
    | cons e es =>
      simp only [Option.some.injEq, Prod.mk.injEq] at ho
      obtain ⟨rfl, rfl⟩ := ho
      simp only [optL, List.cons_append, List.nil_append, List.map_cons, List.cons.injEq] at hes
      exact ⟨by simp [hes.1], hes.2⟩

theorem opt1_isSome {b : Bool} {es r : List Ent} {u : Option Ent} (ho : opt1 b es = some (u, r)) : u.isSome = b := by
  cases b with
  | false => simp [opt1] at ho; rw [← ho.1]; rfl
  | true =>
    cases es with
    | nil => simp [opt1] at ho
    | cons e es => simp [opt1] at ho; rw [← ho.1]; rfl

theorem run_slS {o : Oper} {t el : TypeId} {x : Operand} {lo hi mx : Option Operand} {e e' : Ent} {lo' hi' mx' : Option Ent} (ho : o.op = .slice t x lo hi mx) (ht : P.underlying t = some (.slice el)) (hi0 : (P.info? el).isSome = true)
    (hx : ρ x = entV B e) (h1 : lo.map ρ = lo'.map (entV B)) (h2 : hi.map ρ = hi'.map (entV B)) (h3 : mx.map ρ = mx'.map (entV B)) (hp : pSlS (P.cellsOf el) lo' hi' mx' e = some e') :
    (execOp ρ o).run P w = .ok (.value (entV B e')) w := by
  unfold pSlS at hp
  split at hp
  · rename_i a len cap
    split at hp
    · cases hp
    · rename_i m hm
      split at hp
      · cases hp
      · rename_i u hu
        split at hp
        · cases hp
        · rename_i hmh
          split at hp
          · cases hp
          · rename_i l hl
            have hb := bounds_run (P := P) (w := w) (B := B) (isS := true) h1 h2 h3 hm hu (by simpa only [Bool.not_eq_true] using hmh) hl
            split at hp
            · cases hp
              simp only [execOp, ho, hx, entV, Instr.sliceAt, Instr.slice, Sem.run_bind, run_underlying' ht, Result.andThen_ok, hb, run_sizeOf_c hi0, Sem.run_pure, Option.map_none, ite_self]
            · cases hp
              simp only [execOp, ho, hx, entV, Instr.sliceAt, Instr.slice, Sem.run_bind, run_underlying' ht, Result.andThen_ok, hb, run_sizeOf_c hi0, Sem.run_pure, Option.map_some, add_mk]
              split <;> rfl
            · cases hp
  · cases hp

theorem run_slA {o : Oper} {t el : TypeId} {n : Nat} {x : Operand} {lo hi : Option Operand} {e e' : Ent} {lo' hi' : Option Ent} (ho : o.op = .slice t x lo hi none) (ht : P.underlying t = some (.array n el)) (hi0 : (P.info? el).isSome = true)
    (hx : ρ x = entV B e) (h1 : lo.map ρ = lo'.map (entV B)) (h2 : hi.map ρ = hi'.map (entV B)) (hp : pSlA n (P.cellsOf el) lo' hi' e = some e') :
    (execOp ρ o).run P w = .ok (.value (entV B e')) w := by
  unfold pSlA at hp
  split at hp
  · split at hp
    · cases hp
    · rename_i u hu
      split at hp
      · cases hp
      · rename_i l hl
        cases hp
        have hb := bounds_run (P := P) (w := w) (B := B) (isS := false) (mx := none) (mx' := none) (m := n) (len := n) (cap := n) h1 h2 rfl rfl (by simpa using hu) rfl hl
        simp only [execOp, ho, hx, entV, Instr.sliceAt, Instr.sureAddr, Sem.run_bind, Sem.run_pure, run_underlying' ht, Result.andThen_ok, Option.map_none, hb, run_sizeOf_c hi0, add_mk]
        split <;> rfl
  · cases hp

theorem run_slT {o : Oper} {t : TypeId} {x : Operand} {lo hi : Option Operand} {e e' : Ent} {lo' hi' : Option Ent} (ho : o.op = .slice t x lo hi none) (ht : P.underlying t = some .string)
    (hx : ρ x = entV B e) (h1 : lo.map ρ = lo'.map (entV B)) (h2 : hi.map ρ = hi'.map (entV B)) (hp : pSlT lo' hi' e = some e') :
    (execOp ρ o).run P w = .ok (.value (entV B e')) w := by
  unfold pSlT at hp
  split at hp
  · rename_i s
    split at hp
    · cases hp
    · rename_i u hu
      split at hp
      · cases hp
      · rename_i l hl
        cases hp
        have hb := bounds_run (P := P) (w := w) (B := B) (isS := false) (mx := none) (mx' := none) (m := s.size) (len := s.size) (cap := s.size) h1 h2 rfl rfl (by simpa using hu) rfl hl
        simp only [execOp, ho, hx, entV, Instr.sliceAt, Instr.slice, Sem.run_bind, Sem.run_pure, run_underlying' ht, Result.andThen_ok, Option.map_none, Option.isSome_none, Bool.false_eq_true, if_false, hb]
  · cases hp

theorem run_cap {o : Oper} {t el : TypeId} {x : Operand} {args : Array Operand} {ts : Array TypeId} {e e' : Ent} (ho : o.op = .call { callee := .builtin .cap, args := args, argTypes := ts })
    (ha : args.toList = [x]) (ht : ts[0]? = some t) (hu : P.underlying t = some (.slice el)) (hx : ρ x = entV B e) (hp : pCap e = some e') :
    (execOp ρ o).run P w = .ok (.value (entV B e')) w := by
  have hargs : args = #[x] := by rw [← Array.toArray_toList (xs := args), ha]
  subst hargs
  rw [run_builtin ho]
  unfold pCap at hp
  split at hp <;> cases hp
  simp [builtin, Builtin.cap_, ht, hx, entV, run_underlying' hu, goInt]

theorem bytes_run : ∀ (l : List Value) (r : List UInt8) (s : ByteArray), bytesOf l = some r →
    (forIn l s (fun (c : Value) (s : ByteArray) => match c with | .int .u8 n => (pure (ForInStep.yield (s.push (UInt8.ofNat n.toNat))) : Sem (ForInStep ByteArray)) | _ => stuck "bytesToString: byte expected")).run P w = .ok ⟨s.data ++ r.toArray⟩ w
  | [], r, s, h => by
    simp only [bytesOf, Option.some.injEq] at h; subst h
    simp
  | v :: l, r, s, h => by
    unfold bytesOf at h
    split at h
    · rename_i hc; cases hc
    · rename_i n l' hc
      cases hc
      split at h
      · rename_i r' hr
        cases h
        have := bytes_run l r' (s.push (UInt8.ofNat n.toNat)) hr
        simp only [List.forIn_cons, Sem.run_bind, Sem.run_pure, Result.andThen_ok]
        rw [this]
        congr 2
        apply Array.ext'
        simp [ByteArray.push]
      · cases h
    · cases h

theorem run_b2s {o : Oper} {s d el : TypeId} {x : Operand} {e e' : Ent} (hr : Rep w h f) (ho : o.op = .convert s d x) (hs : P.underlying s = some (.slice el)) (hel : P.underlying el = some (.int .u8)) (hd : P.underlying d = some .string)
    (hx : ρ x = entV B e) (hp : pB2s h e = some e') : (execOp ρ o).run P w = .ok (.value (entV B e')) w := by
  unfold pB2s at hp
  split at hp
  · cases hp
    simp only [execOp, ho, hx, entV, convert, Sem.run_bind, run_underlying' hs, run_underlying' hd, run_underlying' hel, Result.andThen_ok, Conv.bytesToString, Sem.run_pure]
  · split at hp
    · rename_i h0
      subst h0
      cases hp
      simp only [execOp, ho, hx, entV, convert, Sem.run_bind, run_underlying' hs, run_underlying' hd, run_underlying' hel, Result.andThen_ok, Conv.bytesToString, loadCells, loadCellsFrom, Sem.run_pure]
      rfl
    · split at hp
      · split at hp
        · rename_i c ty z hb
          split at hp
          · rename_i hn
            split at hp
            · rename_i l hl
              cases hp
              have hlc := run_loadCells_row (P := P) (w := w) (hr.vis _ _ hb) hn
              simp only [execOp, ho, hx, entV, convert, Sem.run_bind, run_underlying' hs, run_underlying' hd, run_underlying' hel, Result.andThen_ok, Conv.bytesToString, hlc]
              rw [← Array.forIn_toList]
              have := bytes_run (P := P) (w := w) _ _ ByteArray.empty hl
              erw [this]
              simp [ByteArray.empty, ByteArray.emptyWithCapacity]
              rfl
            · cases hp
          · cases hp
        · cases hp
      · cases hp
  · cases hp

/-- ALL LOOKS TOGETHER. -/
theorem run_pr {o : Oper} {p : Pr} {xs : List Operand} {es : List Ent} {e : Ent} (hr : Rep w h f) (hβ : ∀ r cs, lookB β r = some cs → ∃ ty, w.heap[B r]? = some (.cells cs.toArray ty (0, 0)))
    (hc : cpr P o = some (p, xs)) (hes : xs.map ρ = es.map (entV B)) (hp : prv h β p es = some e) : (execOp ρ o).run P w = .ok (.value (entV B e)) w := by
  unfold cpr at hc
  split at hc
  · rename_i x ho; cases hc
    obtain ⟨e1, rfl, h1⟩ := map1 hes
    simp only [prv, Option.some.injEq] at hp; subst hp
    simp [execOp, ho, h1]
  · rename_i x ho; cases hc
    obtain ⟨e1, rfl, h1⟩ := map1 hes
    simp only [prv, Option.some.injEq] at hp; subst hp
    simp [execOp, ho, h1]
  · rename_i c a b ho; cases hc
    obtain ⟨e1, e2, e3, rfl, h1, h2, h3⟩ := map3 hes
    simp only [prv] at hp
    unfold pPick at hp
    split at hp <;> cases hp
    rename_i t
    cases t <;> simp [execOp, ho, h1, h2, h3, entV, asBool]
  · rename_i x ho; cases hc
    obtain ⟨e1, rfl, h1⟩ := map1 hes
    exact run_nilc ho h1 hp
  · rename_i s x k ho
    split at hc
    · rename_i fs hs
      split at hc
      · rename_i fl hk
        split at hc
        · cases hc
        · rename_i hz
          cases hc
          obtain ⟨e1, rfl, h1⟩ := map1 hes
          exact run_fa ho hs hk hz h1 hp
      · cases hc
    · cases hc
  · rename_i t x i ho
    split at hc
    · rename_i el ht
      split at hc
      · cases hc
      · rename_i hi
        cases hc
        obtain ⟨e1, e2, rfl, h1, h2⟩ := map2 hes
        exact run_iaS ho ht (by cases hq : P.info? el <;> simp [hq] at hi ⊢) h1 h2 hp
    · rename_i n el ht
      split at hc
      · cases hc
      · rename_i hi
        cases hc
        obtain ⟨e1, e2, rfl, h1, h2⟩ := map2 hes
        exact run_iaA ho ht (by cases hq : P.info? el <;> simp [hq] at hi ⊢) h1 h2 hp
    · cases hc
  · rename_i t x ho
    split at hc
    · cases hc
    · rename_i d ht
      split at hc
      · cases hc
      · rename_i hi
        cases hc
        obtain ⟨e1, rfl, h1⟩ := map1 hes
        exact run_ld hr hβ ho ht (by cases hq : P.info? t <;> simp [hq] at hi ⊢) h1 hp
  · rename_i op t x y yt ho
    split at hc
    · split at hc
      · cases hc; obtain ⟨e1, e2, rfl, h1, h2⟩ := map2 hes; exact run_ar ho h1 h2 hp
      · split at hc
        · cases hc; obtain ⟨e1, e2, rfl, h1, h2⟩ := map2 hes; exact run_dv ho h1 h2 hp
        · split at hc
          · cases hc; obtain ⟨e1, e2, rfl, h1, h2⟩ := map2 hes; exact run_bt ho h1 h2 hp
          · split at hc
            · cases hc; obtain ⟨e1, e2, rfl, h1, h2⟩ := map2 hes; exact run_sh ho h1 h2 hp
            · cases hc; obtain ⟨e1, e2, rfl, h1, h2⟩ := map2 hes; exact run_cm ho h1 h2 hp
    · rename_i hn
      split at hc
      · split at hc
        · cases hc; obtain ⟨e1, e2, rfl, h1, h2⟩ := map2 hes; exact run_sop ho h1 h2 hp
        · cases hc
      · rename_i hs
        split at hc
        · rename_i hq
          split at hc
          · rename_i q ht
            cases hc; obtain ⟨e1, e2, rfl, h1, h2⟩ := map2 hes
            exact run_eq hr ho hq (by simpa using hn) (by simpa using hs) ht h1 h2 hp
          · cases hc
        · cases hc
  · rename_i op t x ho; cases hc
    obtain ⟨e1, rfl, h1⟩ := map1 hes
    exact run_un ho h1 hp
  · rename_i s d x ho
    split at hc
    · rename_i k hd
      split at hc
      · rename_i hs
        cases hc
        obtain ⟨e1, rfl, h1⟩ := map1 hes
        exact run_cv ho hs hd h1 hp
      · cases hc
    · rename_i hd
      split at hc
      · rename_i el hs
        split at hc
        · rename_i hel
          cases hc
          obtain ⟨e1, rfl, h1⟩ := map1 hes
          exact run_b2s hr ho hs hel hd h1 hp
        · cases hc
      · cases hc
    · cases hc
  · rename_i t x lo hi mx ho
    split at hc
    · rename_i n el ht
      split at hc
      · cases hc
      · rename_i hcond
        simp only [Bool.or_eq_true, not_or, Bool.not_eq_true] at hcond
        cases hc
        cases es with
        | nil => simp at hes
        | cons e1 es =>
          simp only [List.map_cons, List.cons.injEq] at hes
          simp only [prv] at hp
          split at hp
          · rename_i l r hl
            split at hp
            · rename_i u hu
              obtain ⟨h1, hr1⟩ := opt_split hes.2 hl
              obtain ⟨h2, hr2⟩ := opt_split (x := hi) (rest := []) (by simpa using hr1) hu
              have hmx : mx = none := by cases mx <;> simp at hcond ⊢
              subst hmx
              exact run_slA ho ht (by cases hq : P.info? el <;> simp [hq] at hcond ⊢) hes.1 h1 h2 hp
            · cases hp
          · cases hp
    · rename_i el ht
      split at hc
      · cases hc
      · rename_i hcond
        cases hc
        cases es with
        | nil => simp at hes
        | cons e1 es =>
          simp only [List.map_cons, List.cons.injEq] at hes
          simp only [prv] at hp
          split at hp
          · rename_i l r hl
            split at hp
            · rename_i u r2 hu
              split at hp
              · rename_i m hm
                obtain ⟨h1, hr1⟩ := opt_split (x := lo) (rest := optL hi ++ optL mx) (by simpa using hes.2) hl
                obtain ⟨h2, hr2⟩ := opt_split hr1 hu
                obtain ⟨h3, hr3⟩ := opt_split (x := mx) (rest := []) (by simpa using hr2) hm
                exact run_slS ho ht (by cases hq : P.info? el <;> simp [hq] at hcond ⊢) hes.1 h1 h2 h3 hp
              · cases hp
            · cases hp
          · cases hp
    · rename_i ht
      split at hc
      · cases hc
      · rename_i hcond
        cases hc
        cases es with
        | nil => simp at hes
        | cons e1 es =>
          simp only [List.map_cons, List.cons.injEq] at hes
          simp only [prv] at hp
          split at hp
          · rename_i l r hl
            split at hp
            · rename_i u hu
              obtain ⟨h1, hr1⟩ := opt_split hes.2 hl
              obtain ⟨h2, hr2⟩ := opt_split (x := hi) (rest := []) (by simpa using hr1) hu
              have hmx : mx = none := by cases mx <;> simp at hcond ⊢
              subst hmx
              exact run_slT ho ht hes.1 h1 h2 hp
            · cases hp
          · cases hp
    · cases hc
  · rename_i args ts ho
    split at hc
    · rename_i x t ha ht
      split at hc
      · rename_i el hu
        cases hc
        obtain ⟨e1, rfl, h1⟩ := map1 hes
        exact run_cap ho ha ht hu h1 hp
      · cases hc
    · cases hc
  · rename_i x i ho; cases hc
    obtain ⟨e1, rfl, h1⟩ := map1 hes
    exact run_ext ho h1 hp
  · rename_i t x k ho
    split at hc
    · rename_i fs hs
      split at hc
      · rename_i fl hk
        split at hc
        · cases hc
        · rename_i hi
          simp only [Bool.or_eq_true, not_or, Bool.not_eq_true] at hi
          cases hc
          obtain ⟨e1, rfl, h1⟩ := map1 hes
          obtain ⟨d, hd⟩ := Option.isSome_iff_exists.1 (by cases hq : P.underlying fl.type <;> simp [hq] at hi ⊢ : (P.underlying fl.type).isSome = true)
          exact run_fld ho hs hk (by cases hq : P.info? fl.type <;> simp [hq] at hi ⊢) hd h1 hp
      · cases hc
    · cases hc
  · rename_i t x i ho
    split at hc
    · rename_i n el ht
      split at hc
      · cases hc
      · rename_i hi
        simp only [Bool.or_eq_true, not_or, Bool.not_eq_true] at hi
        cases hc
        obtain ⟨e1, e2, rfl, h1, h2⟩ := map2 hes
        obtain ⟨d, hd⟩ := Option.isSome_iff_exists.1 (by cases hq : P.underlying el <;> simp [hq] at hi ⊢ : (P.underlying el).isSome = true)
        exact run_ixA ho ht (by cases hq : P.info? el <;> simp [hq] at hi ⊢) hd h1 h2 hp
    · cases hc
  · rename_i args ts ho
    split at hc
    · rename_i x t ha ht
      split at hc
      · rename_i el hu; cases hc; obtain ⟨e1, rfl, h1⟩ := map1 hes; exact run_lenS ho ha ht hu h1 hp
      · rename_i hu; cases hc; obtain ⟨e1, rfl, h1⟩ := map1 hes; exact run_lenT ho ha ht hu h1 hp
      · rename_i k el hu; cases hc; obtain ⟨e1, rfl, h1⟩ := map1 hes; exact run_lenM hr ho ha ht hu h1 hp
      · cases hc
    · cases hc
  · rename_i args ts ho
    split at hc
    · rename_i x y ha; cases hc; obtain ⟨e1, e2, rfl, h1, h2⟩ := map2 hes; exact run_minmax (mx := false) ho ha h1 h2 hp
    · rename_i x y z ha; cases hc; obtain ⟨e1, e2, e3, rfl, h1, h2, h3⟩ := map3 hes
      simp only [prv] at hp
      split at hp
      · rename_i u hu; exact run_minmax3 (mx := false) ho ha h1 h2 h3 hu hp
      · cases hp
    · cases hc
  · rename_i args ts ho
    split at hc
    · rename_i x y ha; cases hc; obtain ⟨e1, e2, rfl, h1, h2⟩ := map2 hes; exact run_minmax (mx := true) ho ha h1 h2 hp
    · rename_i x y z ha; cases hc; obtain ⟨e1, e2, e3, rfl, h1, h2, h3⟩ := map3 hes
      simp only [prv] at hp
      split at hp
      · rename_i u hu; exact run_minmax3 (mx := true) ho ha h1 h2 h3 hu hp
      · cases hp
    · cases hc
  · rename_i t m k ok ho
    split at hc
    · rename_i kt et ht
      split at hc
      · rename_i q i hq hi
        split at hc
        · rename_i z hz
          cases hc
          obtain ⟨e1, e2, rfl, h1, h2⟩ := map2 hes
          exact run_look hr ho ht hq hi hz h1 h2 hp
        · cases hc
      · cases hc
    · cases hc
  · rename_i t parts ho
    split at hc
    · rename_i fs hu
      split at hc
      · rename_i hall
        split at hc
        · rename_i z pl hz hpl
          cases hc
          simp only [prv] at hp
          split at hp
          · rename_i l hl; cases hp; exact run_bld ho (.inl ⟨fs, hu, hall⟩) hz hpl hes hl
          · cases hp
        · cases hc
      · cases hc
    · rename_i n el hu
      split at hc
      · rename_i hie
        split at hc
        · rename_i z pl hz hpl
          cases hc
          simp only [prv] at hp
          split at hp
          · rename_i l hl; cases hp; exact run_bld ho (.inr ⟨n, el, hu, hie⟩) hz hpl hes hl
          · cases hp
        · cases hc
      · cases hc
    · cases hc
  · rename_i fn first cap ho; cases hc
    exact run_mkf ho hes hp
  · rename_i t x ho
    split at hc
    · cases hc
    · cases hc
    · rename_i hn1 hn2
      cases hc
      obtain ⟨e1, rfl, h1⟩ := map1 hes
      cases e1 with
      | l r q => simp [prv] at hp
      | v y =>
        simp only [prv, Option.some.injEq] at hp
        subst hp
        cases hd : P.underlying t with
        | none => exact absurd hd hn2
        | some d => exact run_mki ho hd (fun ms hms => hn1 ms (by rw [hd, hms])) h1
  · cases hc

end

end Go.Proofs.YthpkgkoojhgedaaDoor.V

/- The deeds: each is the program's own operation. -/
namespace Go.Proofs.YthpkgkoojhgedaaDoor.V
set_option linter.unusedSectionVars false
set_option linter.unusedVariables false
set_option linter.unusedSimpArgs false
open Go

/-- The world's part of what is known. -/
structure Wd (B : Nat → Nat) (β : Bx) (h : Hp) (f : Fm) (w : World) : Prop where
  box : ∀ r cs, lookB β r = some cs → ∃ ty, w.heap[B r]? = some (.cells cs.toArray ty (0, 0)) ∧ h (B r) = none ∧ f (B r) = none
  inj : ∀ r s cs es, lookB β r = some cs → lookB β s = some es → B r = B s → r = s
  rep : Rep w h f

/-- The deeds. -/
def cef (P : Program) (prom : List Nat) (o : Oper) : Option (Ef × List Operand) :=
  match cpr P o with
  | some (p, xs) => some (.pr p, xs)
  | none => match o.op with
    | .store t a v => if (P.info? t).isNone then none else some (.st (P.cellsOf t), [a, v])
    | .alloc t => (match zeroCells P t with
      | some z => if z.length = 0 then none else if prom.contains (o.dst.getD 0) && o.dst.isSome then some (.al z, []) else some (.alh z t, [])
      | none => none)
    | .box t v => if prom.contains (o.dst.getD 0) && o.dst.isSome then some (.bx, [v]) else some (.bxh t, [v])
    | .makeSlice t l c => (match P.underlying t with
      | some (.slice e) => (match P.info? e, zeroCells P e with
        | some i, some z => if z.length = i.size && z.length != 0 then some (.mks z e i.bytes, [l, c]) else none
        | _, _ => none)
      | _ => none)
    | .buildSlice t len parts => (match P.underlying t with
      | some (.slice e) => (match P.info? e, zeroCells P e with
        | some i, some z => if z.length = i.size && z.length != 0 && len * i.size ≤ 2 ^ 24 then some (.bsl z e len i.size (parts.toList.map (·.1)), parts.toList.map (·.2)) else none
        | _, _ => none)
      | _ => none)
    | .makeMap _ none => some (.mkm, [])
    | .makeMap t (some r) => (match P.underlying t with | some (.map _ _) => some (.mkmr, [r]) | _ => none)
    | .range t m => (match P.underlying t with | some (.map _ _) => some (.rng, [m]) | _ => none)
    | .next it false => some (.nxt, [it])
    | .entry it => some (.ent, [it])
    | .mapUpdate t m k v | .insert t m k v => (match P.underlying t with
      | some (.map kt _) => (match eqT P kt with | some e => some (.mup e, [m, k, v]) | none => none)
      | _ => none)
    | .call { callee := .value (.func k), args, argTypes := _ } => if callable P k then some (.call k, args.toList) else none
    | .call { callee := .value (.tmp t), args, argTypes := _ } => some (.callv, .tmp t :: args.toList)
    | .call { callee := .builtin .append, args, argTypes } => (match args.toList, argTypes.toList with
      | [s, x], [t, u] => (match P.underlying t, P.underlying u with
        | some (.slice e), some (.slice _) => (match P.info? e, zeroCells P e with
          | some i, some z => if z.length = i.size && z.length != 0 && i.bytes != 0 then some (.app z e i.bytes, [s, x]) else none
          | _, _ => none)
        | _, _ => none)
      | _, _ => none)
    | .call { callee := .builtin .delete, args, argTypes } => (match args.toList, argTypes[0]? with
      | [m, k], some t => (match P.underlying t with
        | some (.map kt _) => (match eqT P kt with | some e => some (.mdel e, [m, k]) | none => none)
        | _ => none)
      | _, _ => none)
    | .call { callee := .builtin .clear, args, argTypes } => (match args.toList, argTypes[0]? with
      | [m], some t => (match P.underlying t with
        | some (.map _ _) => some (.clrM, [m])
        | some (.slice e) => (match P.info? e, zeroCells P e with
          | some i, some z => if z.length = i.size && z.length != 0 then some (.clrS z, [m]) else none
          | _, _ => none)
        | _ => none)
      | _, _ => none)
    | .call { callee := .builtin .copy, args, argTypes } => (match args.toList, argTypes[0]? with
      | [d, s], some t => (match P.underlying t with
        | some (.slice e) => if (P.info? e).isNone then none else some (.cpy (P.cellsOf e), [d, s])
        | _ => none)
      | _, _ => none)
    | _ => none

section
variable {P : Program} {w : World} {h : Hp} {f : Fm} {B : Nat → Nat} {β : Bx} {ρ : Operand → Value}

theorem Wd.boxes (hw : Wd B β h f w) : ∀ r cs, lookB β r = some cs → ∃ ty, w.heap[B r]? = some (.cells cs.toArray ty (0, 0)) := fun r cs hl =>
  let ⟨ty, h1, _⟩ := hw.box r cs hl; ⟨ty, h1⟩

theorem Wd.ne_box (hw : Wd B β h f w) {b : Nat} {o : Obj} (hb : h b = some o) {r : Nat} {cs : List Value} (hl : lookB β r = some cs) : B r ≠ b := fun e => by
  obtain ⟨_, _, h2, _⟩ := hw.box r cs hl
  rw [e, hb] at h2; cases h2

/-- The heap changed at a block in sight. -/
theorem Wd.set (hw : Wd B β h f w) {w' : World} {b : Nat} {o o' : Obj} (hb : h b = some o) (hu : Upd w w' b o') : Wd B β (upd h b o') f w' := by
  have he := hu.get
  refine ⟨fun r cs hl => ?_, hw.inj, hw.rep.set hb hu⟩
  obtain ⟨ty, h1, h2, h3⟩ := hw.box r cs hl
  exact ⟨ty, by rw [he, if_neg (hw.ne_box hb hl)]; exact h1, by rw [upd_other (hw.ne_box hb hl)]; exact h2, h3⟩

theorem Wd.push (hw : Wd B β h f w) {w' : World} {o : Obj} (he : w'.heap = w.heap.push o) (hs : Still w w' := by exact ⟨rfl, rfl, rfl⟩) : Wd B β (upd h w.heap.size o) f w' := by
  have hlt : ∀ r cs, lookB β r = some cs → B r ≠ w.heap.size := fun r cs hl e => by
    obtain ⟨ty, h1, _⟩ := hw.box r cs hl
    rw [e] at h1; simp at h1
  refine ⟨fun r cs hl => ?_, hw.inj, hw.rep.push he hs⟩
  obtain ⟨ty, h1, h2, h3⟩ := hw.box r cs hl
  exact ⟨ty, by rw [he, push_get, if_neg (hlt r cs hl)]; exact h1, by rw [upd_other (hlt r cs hl)]; exact h2, h3⟩

theorem Wd.heap (hw : Wd B β h f w) {w' : World} (he : w'.heap = w.heap) (hs : Still w w' := by exact ⟨rfl, rfl, rfl⟩) : Wd B β h f w' :=
  ⟨fun r cs hl => by rw [he]; exact hw.box r cs hl, hw.inj, hw.rep.heap he hs⟩

/-- What is hidden from a callee: the frame and the boxes. -/
def frH (B : Nat → Nat) (β : Bx) (f : Fm) (w : World) : Hp := fun b => (f b).or (if β.any (fun p => B p.1 == b) then w.heap[b]? else none)

def frB (B : Nat → Nat) (β : Bx) (f : Fm) (w : World) : Fm := { f with hid := frH B β f w }

theorem lookB_any : ∀ {β : Bx} {r : Nat} {cs : List Value}, lookB β r = some cs → ∃ p ∈ β, p.1 = r
  | [], _, _, h => by cases h
  | (k, e) :: β, r, cs, h => by
    simp only [lookB] at h
    split at h
    · rename_i hk; exact ⟨(k, e), by simp, hk⟩
    · obtain ⟨p, hp, hr⟩ := lookB_any h; exact ⟨p, by simp [hp], hr⟩

theorem any_lookB : ∀ {β : Bx} {p : Nat × List Value}, p ∈ β → ∃ cs, lookB β p.1 = some cs
  | (k, e) :: β, p, h => by
    simp only [lookB]
    split
    · exact ⟨_, rfl⟩
    · rename_i hk
      rcases List.mem_cons.1 h with h | h
      · subst h; exact absurd rfl hk
      · exact any_lookB h

theorem Wd.frame (hw : Wd B β h f w) : Rep w h (frB B β f w) := by
  refine ⟨hw.rep.vis, fun b o hb => ?_, fun b o hb => ?_, hw.rep.kp⟩
  · replace hb : frH B β f w b = some o := hb
    unfold frH at hb
    cases hf : f b with
    | some q => rw [hf] at hb; simp at hb; subst hb; exact hw.rep.hid b _ hf
    | none => rw [hf] at hb; simp only [Option.none_or] at hb; split at hb <;> first | exact hb | cases hb
  · show frH B β f w b = none
    unfold frH
    rw [hw.rep.dis b o hb]
    simp only [Option.none_or]
    split
    · rename_i ha
      obtain ⟨p, hp, hpb⟩ := List.any_eq_true.1 ha
      obtain ⟨cs, hl⟩ := any_lookB hp
      exact absurd (by simpa using hpb) (hw.ne_box hb hl)
    · rfl

theorem Wd.back (hw : Wd B β h f w) {w' : World} {h' : Hp} (hr : Rep w' h' (frB B β f w)) : Wd B β h' f w' := by
  have hbx : ∀ r cs, lookB β r = some cs → ∃ ty, frB B β f w (B r) = some (.cells cs.toArray ty (0, 0)) := fun r cs hl => by
    obtain ⟨ty, h1, _, h3⟩ := hw.box r cs hl
    refine ⟨ty, ?_⟩
    show frH B β f w (B r) = _
    unfold frH
    obtain ⟨p, hp, hpr⟩ := lookB_any hl
    rw [h3, Option.none_or, if_pos (List.any_eq_true.2 ⟨p, hp, by simp [hpr]⟩), h1]
  refine ⟨fun r cs hl => ?_, hw.inj, ⟨hr.vis, fun b o hb => hr.hid b o (by show frH B β f w b = _; unfold frH; rw [hb]; rfl), fun b o hb => ?_, hr.kp⟩⟩
  · obtain ⟨ty, h1⟩ := hbx r cs hl
    obtain ⟨_, _, _, h3⟩ := hw.box r cs hl
    refine ⟨ty, hr.hid _ _ h1, ?_, h3⟩
    cases hh : h' (B r) with
    | none => rfl
    | some o => rw [hr.dis _ _ hh] at h1; cases h1
  · have : frH B β f w b = none := hr.dis b o hb
    unfold frH at this
    cases hf : f b with
    | none => rfl
    | some q => rw [hf] at this; simp at this

theorem wr_length : ∀ (l : List Value) (c : Array Value) (o : Nat), (wr c o l).size = c.size
  | [], _, _ => rfl
  | v :: l, c, o => by simp [wr, wr_length l]

theorem wr_wrL : ∀ (l : List Value) (c : List Value) (o : Nat), wr c.toArray o l = (wrL c o l).toArray
  | [], _, _ => rfl
  | v :: l, c, o => by
    simp only [wr, wrL, List.setIfInBounds_toArray]
    exact wr_wrL l _ _

theorem run_storeCells {b o : Nat} {ty : TypeId} {z : Nat × Nat} : ∀ (vs : List Value) (i : Nat) (c : Array Value) (w : World), w.heap[b]? = some (.cells c ty z) → o + i + vs.length ≤ c.size →
    (z.2 ≤ o + i ∨ o + i + vs.length ≤ z.1) → vs.all one = true →
    ∃ w', (storeCells ⟨b, o, none⟩ vs i).run P w = .ok () w' ∧ Upd w w' b (.cells (wr c (o + i) vs) ty z)
  | [], i, c, w, hb, _, _, _ => ⟨w, rfl, fun x => (by split <;> first | (rename_i e; subst e; exact hb) | rfl), ⟨rfl, rfl, rfl⟩⟩
  | v :: vs, i, c, w, hb, hn, hz, h1 => by
    simp only [List.all_cons, Bool.and_eq_true] at h1
    simp only [List.length_cons] at hn hz
    have hcell : w.cell? ⟨b, o + i, none⟩ = some c[o + i] := by rw [cell_of hb]; exact Array.getElem?_eq_getElem (by omega)
    have hfr : w.frozen? ⟨b, o + i, none⟩ = false := by
      rw [frozen_of hb]
      rcases hz with hz | hz
      · have : ¬ (o + i < z.2) := by omega
        simp [this]
      · have : ¬ (z.1 ≤ o + i) := by omega
        simp [this]
    have hst : (store (Addr.add ⟨b, o, none⟩ i) v).run P w = .ok () (w.setCell ⟨b, o + i, none⟩ v) := by
      rw [add_mk, run_store P w _ v _ h1.1, hcell]
      simp [hfr]
    have hb' : (w.setCell ⟨b, o + i, none⟩ v).heap[b]? = some (.cells (c.setIfInBounds (o + i) v) ty z) := by rw [setCell_get hb]; simp
    obtain ⟨w', hr, hx⟩ := run_storeCells (ty := ty) (z := z) (o := o) vs (i + 1) (c.setIfInBounds (o + i) v) (w.setCell ⟨b, o + i, none⟩ v) hb' (by simp only [Array.size_setIfInBounds]; omega) (by omega) h1.2
    refine ⟨w', ?_, fun x => ?_, Still.trans (b := w.setCell ⟨b, o + i, none⟩ v) ⟨rfl, rfl, rfl⟩ hx.still⟩
    · simp only [storeCells, Sem.run_bind, hst, Result.andThen_ok]; exact hr
    · rw [hx.get, setCell_get hb]
      split
      · rfl
      · rfl

theorem run_storeVar {t : TypeId} {b o : Nat} {c : Array Value} {ty : TypeId} {z : Nat × Nat} {x : Value} (hi : (P.info? t).isSome = true) (hb : w.heap[b]? = some (.cells c ty z)) (hsz : x.cells.size = P.cellsOf t)
    (hn : o + P.cellsOf t ≤ c.size) (hz : z.2 ≤ o ∨ o + P.cellsOf t ≤ z.1) (h1 : x.cells.toList.all one = true) :
    ∃ w', (storeVar t ⟨b, o, none⟩ x).run P w = .ok () w' ∧ Upd w w' b (.cells (wr c o x.cells.toList) ty z) := by
  have hlen : x.cells.toList.length = P.cellsOf t := by simpa using hsz
  obtain ⟨w', hr, hx⟩ := run_storeCells (P := P) (o := o) x.cells.toList 0 c w hb (by omega) (by omega) h1
  refine ⟨w', ?_, by simpa using hx⟩
  simp only [storeVar, Sem.run_bind, run_sizeOf_c hi, Result.andThen_ok, hsz, ne_eq, not_true_eq_false, if_false]
  exact hr

theorem Rep.elsewhere {w' : World} {b : Nat} {o' : Obj} (hr : Rep w h f) (hb : h b = none) (hf : f b = none) (hu : Upd w w' b o') : Rep w' h f :=
  ⟨fun c p hc => by rw [hu.get, if_neg (fun e => by subst e; rw [hb] at hc; cases hc)]; exact hr.vis c p hc,
   fun c p hc => by rw [hu.get, if_neg (fun e => by subst e; rw [hf] at hc; cases hc)]; exact hr.hid c p hc, hr.dis, hr.kp.trans hu.still⟩

theorem Wd.setBox (hw : Wd B β h f w) {w' : World} {r : Nat} {cs cs' : List Value} (hl : lookB β r = some cs) (hu : ∀ ty, w.heap[B r]? = some (.cells cs.toArray ty (0, 0)) → Upd w w' (B r) (.cells cs'.toArray ty (0, 0))) :
    Wd B ((r, cs') :: β) h f w' := by
  obtain ⟨ty, h1, h2, h3⟩ := hw.box r cs hl
  have hu := hu ty h1
  have he := hu.get
  refine ⟨fun s es hs => ?_, fun s u es es' hs hu hB => ?_, hw.rep.elsewhere h2 h3 hu⟩
  · simp only [lookB] at hs
    split at hs
    · rename_i e; subst e; cases hs
      exact ⟨ty, by rw [he]; simp, h2, h3⟩
    · rename_i e
      obtain ⟨ty', g1, g2, g3⟩ := hw.box s es hs
      exact ⟨ty', by rw [he, if_neg (fun hB => e (hw.inj r s cs es hl hs hB.symm))]; exact g1, g2, g3⟩
  · have g : ∀ s es, lookB ((r, cs') :: β) s = some es → ∃ es', lookB β s = some es' := fun s es hs => by
      simp only [lookB] at hs
      split at hs
      · rename_i e; subst e; exact ⟨cs, hl⟩
      · exact ⟨es, hs⟩
    obtain ⟨a, ha⟩ := g s es hs
    obtain ⟨b, hb⟩ := g u es' hu
    exact hw.inj s u a b ha hb hB

theorem st_sound {o : Oper} {t : TypeId} {a x : Operand} {ea ex : Ent} {h' : Hp} {β' : Bx} (hw : Wd B β h f w) (ho : o.op = .store t a x) (hi : (P.info? t).isSome = true) (ha : ρ a = entV B ea) (hx : ρ x = entV B ex)
    (hp : pSt (P.cellsOf t) h β ea ex = some (h', β')) : ∃ w', (execOp ρ o).run P w = .ok .skip w' ∧ Wd B β' h' f w' := by
  unfold pSt at hp
  split at hp
  · rename_i b o' v
    cases hs : stO o' (P.cellsOf t) v (h b) with
    | none => simp [hs] at hp
    | some ob =>
      simp only [hs, Option.some.injEq, Prod.mk.injEq] at hp
      obtain ⟨rfl, rfl⟩ := hp
      unfold stO at hs
      split at hs
      · rename_i c ty z hb
        split at hs
        · rename_i hc
          cases hs
          obtain ⟨w', hr, he⟩ := run_storeVar (P := P) hi (hw.rep.vis _ _ hb) hc.1 hc.2.1 hc.2.2.1 hc.2.2.2
          refine ⟨w', ?_, hw.set hb he⟩
          simp only [execOp, ho, ha, hx, entV, Instr.storeAt, Instr.sureAddr, Sem.run_bind, Sem.run_pure, Result.andThen_ok, hr]
        · cases hs
      · cases hs
  · rename_i r o' v
    cases hs : stL o' (P.cellsOf t) v (lookB β r) with
    | none => simp [hs] at hp
    | some cs' =>
      simp only [hs, Option.some.injEq, Prod.mk.injEq] at hp
      obtain ⟨rfl, rfl⟩ := hp
      unfold stL at hs
      split at hs
      · rename_i cs hl
        split at hs
        · rename_i hc
          cases hs
          obtain ⟨ty, h1, h2, h3⟩ := hw.box r cs hl
          obtain ⟨w', hr, he⟩ := run_storeVar (P := P) hi h1 hc.1 (by simpa using hc.2.1) (.inl (Nat.zero_le _)) hc.2.2
          refine ⟨w', ?_, hw.setBox hl (fun ty' hty => ?_)⟩
          · simp only [execOp, ho, ha, hx, entV, Instr.storeAt, Instr.sureAddr, Sem.run_bind, Sem.run_pure, Result.andThen_ok, hr]
          · rw [h1] at hty; cases hty
            rw [wr_wrL, ← wrF_eq (by simp [hc.1]; omega)] at he; exact he
        · cases hs
      · cases hs
  · cases hp

end

end Go.Proofs.YthpkgkoojhgedaaDoor.V
