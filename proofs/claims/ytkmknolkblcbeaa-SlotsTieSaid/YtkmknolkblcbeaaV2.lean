/- Heaps as partial functions, and what a world has of them: a part that is spoken of and a part that stays. -/
import Derived.Test.YtkmknolkblcbeaaV1
namespace Go.Proofs.Ytkmknolkblcbeaa.V
set_option linter.unusedSectionVars false
set_option linter.unusedVariables false
set_option linter.unusedSimpArgs false
open Go

abbrev Hp := Nat → Option Obj

@[irreducible] def upd (h : Hp) (b : Nat) (o : Obj) : Hp := fun x => if x = b then some o else h x

theorem upd_same (h : Hp) (b : Nat) (o : Obj) : upd h b o b = some o := by simp [upd]
theorem upd_other {h : Hp} {b c : Nat} {o : Obj} (hc : c ≠ b) : upd h b o c = h c := by simp [upd, hc]
theorem upd_upd (h : Hp) (b : Nat) (o p : Obj) : upd (upd h b o) b p = upd h b p := by funext x; simp [upd]; split <;> rfl

/-- The streams are as they were. -/
structure Still (w w' : World) : Prop where
  os : w'.os = w.os
  tape : w'.tape = w.tape
  output : w'.output = w.output

theorem Still.trans {a b c : World} (h : Still a b) (k : Still b c) : Still a c := ⟨k.os.trans h.os, k.tape.trans h.tape, k.output.trans h.output⟩

/-- What stays: hidden blocks, and the streams of a world. -/
structure Fm where
  hid : Hp
  base : World

instance : CoeFun Fm (fun _ => Nat → Option Obj) := ⟨Fm.hid⟩

/-- w has h, and f beside it. -/
structure Rep (w : World) (h : Hp) (f : Fm) : Prop where
  vis : ∀ b o, h b = some o → w.heap[b]? = some o
  hid : ∀ b o, f b = some o → w.heap[b]? = some o
  dis : ∀ b o, h b = some o → f b = none
  kp : Still f.base w

/-- One block turned. -/
structure Upd (w w' : World) (b : Nat) (o : Obj) : Prop where
  get : ∀ x, w'.heap[x]? = if x = b then some o else w.heap[x]?
  still : Still w w'

theorem Rep.heap {w w' : World} {h : Hp} {f : Fm} (hr : Rep w h f) (he : w'.heap = w.heap) (hs : Still w w' := by exact ⟨rfl, rfl, rfl⟩) : Rep w' h f :=
  ⟨fun b o hb => by rw [he]; exact hr.vis b o hb, fun b o hb => by rw [he]; exact hr.hid b o hb, hr.dis, hr.kp.trans hs⟩

theorem Rep.drew {w : World} {h : Hp} {f : Fm} (hr : Rep w h f) : Rep { w with drawn := w.drawn + 1 } h f := hr.heap rfl

theorem Rep.set {w w' : World} {h : Hp} {f : Fm} {b : Nat} {o o' : Obj} (hr : Rep w h f) (hb : h b = some o)
    (hu : Upd w w' b o') : Rep w' (upd h b o') f := by
  have he := hu.get
  refine ⟨fun c p hc => ?_, fun c p hc => ?_, fun c p hc => ?_, hr.kp.trans hu.still⟩
  · rw [he]
    unfold upd at hc
    split
    · rename_i e; rw [if_pos e] at hc; exact hc
    · rename_i e; rw [if_neg e] at hc; exact hr.vis c p hc
  · rw [he]
    have hne : c ≠ b := fun e => by subst e; rw [hr.dis c o hb] at hc; cases hc
    rw [if_neg hne]; exact hr.hid c p hc
  · unfold upd at hc
    split at hc
    · rename_i e; subst e; exact hr.dis c o hb
    · exact hr.dis c p hc

theorem Rep.fresh_vis {w : World} {h : Hp} {f : Fm} (hr : Rep w h f) : h w.heap.size = none := by
  cases hh : h w.heap.size with
  | none => rfl
  | some o => have := hr.vis _ _ hh; simp at this

theorem Rep.fresh_hid {w : World} {h : Hp} {f : Fm} (hr : Rep w h f) : f w.heap.size = none := by
  cases hh : f w.heap.size with
  | none => rfl
  | some o => have := hr.hid _ _ hh; simp at this

theorem push_get {w : World} {o : Obj} (x : Nat) : (w.heap.push o)[x]? = if x = w.heap.size then some o else w.heap[x]? := by
  rw [Array.getElem?_push]

theorem Rep.push {w w' : World} {h : Hp} {f : Fm} {o : Obj} (hr : Rep w h f) (he : w'.heap = w.heap.push o) (hs : Still w w' := by exact ⟨rfl, rfl, rfl⟩) : Rep w' (upd h w.heap.size o) f := by
  refine ⟨fun c p hc => ?_, fun c p hc => ?_, fun c p hc => ?_, hr.kp.trans hs⟩
  · rw [he, push_get]
    unfold upd at hc
    split
    · rename_i e; rw [if_pos e] at hc; exact hc
    · rename_i e; rw [if_neg e] at hc; exact hr.vis c p hc
  · rw [he, push_get]
    have hne : c ≠ w.heap.size := fun e => by subst e; rw [hr.fresh_hid] at hc; cases hc
    rw [if_neg hne]; exact hr.hid c p hc
  · unfold upd at hc
    split at hc
    · rename_i e; subst e; exact hr.fresh_hid
    · exact hr.dis c p hc

/-- A new block that is kept out of sight. -/
theorem Rep.push_hid {w w' : World} {h : Hp} {f : Fm} {o : Obj} (hr : Rep w h f) (he : w'.heap = w.heap.push o) (hs : Still w w' := by exact ⟨rfl, rfl, rfl⟩) : Rep w' h { f with hid := upd f.hid w.heap.size o } := by
  refine ⟨fun c p hc => ?_, fun c p hc => ?_, fun c p hc => ?_, hr.kp.trans hs⟩
  · rw [he, push_get]
    have hne : c ≠ w.heap.size := fun e => by subst e; rw [hr.fresh_vis] at hc; cases hc
    rw [if_neg hne]; exact hr.vis c p hc
  · rw [he, push_get]
    replace hc : upd f.hid w.heap.size o c = some p := hc
    unfold upd at hc
    split
    · rename_i e; rw [if_pos e] at hc; exact hc
    · rename_i e; rw [if_neg e] at hc; exact hr.hid c p hc
  · have hne : c ≠ w.heap.size := fun e => by subst e; rw [hr.fresh_vis] at hc; cases hc
    show upd f.hid w.heap.size o c = none
    rw [upd_other hne]; exact hr.dis c p hc

/-- A call: whatever else there is stays. -/
@[irreducible] def Ok (P : Program) (f : FuncId) (args : List Value) (h : Hp) (Q : Value → Hp → Prop) : Prop :=
  ∀ w fr, Rep w h fr → Calls P f args.toArray w (fun e w' => ∃ v h', e = .returned v ∧ Q v h' ∧ Rep w' h' fr)

theorem Ok.run {P : Program} {f : FuncId} {args : List Value} {h : Hp} {Q : Value → Hp → Prop} (hok : Ok P f args h Q) :
    ∀ w fr, Rep w h fr → Calls P f args.toArray w (fun e w' => ∃ v h', e = .returned v ∧ Q v h' ∧ Rep w' h' fr) := by unfold Ok at hok; exact hok

theorem Ok.intro {P : Program} {f : FuncId} {args : List Value} {h : Hp} {Q : Value → Hp → Prop}
    (hok : ∀ w fr, Rep w h fr → Calls P f args.toArray w (fun e w' => ∃ v h', e = .returned v ∧ Q v h' ∧ Rep w' h' fr)) : Ok P f args h Q := by unfold Ok; exact hok

theorem Ok.mono {P : Program} {f : FuncId} {args : List Value} {h : Hp} {Q Q' : Value → Hp → Prop} (hok : Ok P f args h Q) (hq : ∀ v h', Q v h' → Q' v h') : Ok P f args h Q' :=
  .intro fun w fr hr => (hok.run w fr hr).mono fun e w' ⟨v, h', he, hv, hr'⟩ => ⟨v, h', he, hq _ _ hv, hr'⟩

/-- A round of the loop l, as its iterator asks for it. -/
@[irreducible] def OkY (P : Program) (l : Nat) (vs : List Value) (h : Hp) (Q : Value → Hp → Prop) : Prop :=
  ∀ w fr, Rep w h fr → ∃ f tmps assign body w', (Instr.yield l vs.toArray).run P w = .ok (.round l f tmps assign body) w' ∧
    RoundIn (FW none) 0 P l f tmps assign body w' (fun e w'' => ∃ v h', e = .returned v ∧ Q v h' ∧ Rep w'' h' fr)

theorem OkY.run {P : Program} {l : Nat} {vs : List Value} {h : Hp} {Q : Value → Hp → Prop} (hok : OkY P l vs h Q) :
    ∀ w fr, Rep w h fr → ∃ f tmps assign body w', (Instr.yield l vs.toArray).run P w = .ok (.round l f tmps assign body) w' ∧
      RoundIn (FW none) 0 P l f tmps assign body w' (fun e w'' => ∃ v h', e = .returned v ∧ Q v h' ∧ Rep w'' h' fr) := by unfold OkY at hok; exact hok

theorem OkY.intro {P : Program} {l : Nat} {vs : List Value} {h : Hp} {Q : Value → Hp → Prop}
    (hok : ∀ w fr, Rep w h fr → ∃ f tmps assign body w', (Instr.yield l vs.toArray).run P w = .ok (.round l f tmps assign body) w' ∧
      RoundIn (FW none) 0 P l f tmps assign body w' (fun e w'' => ∃ v h', e = .returned v ∧ Q v h' ∧ Rep w'' h' fr)) : OkY P l vs h Q := by unfold OkY; exact hok

theorem OkY.mono {P : Program} {l : Nat} {vs : List Value} {h : Hp} {Q Q' : Value → Hp → Prop} (hok : OkY P l vs h Q) (hq : ∀ v h', Q v h' → Q' v h') : OkY P l vs h Q' :=
  .intro fun w fr hr => let ⟨f, tmps, assign, body, w', h1, h2⟩ := hok.run w fr hr
    ⟨f, tmps, assign, body, w', h1, h2.mono fun e w'' ⟨v, h', he, hv, hr'⟩ => ⟨v, h', he, hq _ _ hv, hr'⟩⟩

/-- Two heaps side by side. -/
def join (h g : Hp) : Hp := fun b => (h b).or (g b)
def Apart (h g : Hp) : Prop := ∀ b o, h b = some o → g b = none

theorem join_left {h g : Hp} {b : Nat} {o : Obj} (hb : h b = some o) : join h g b = some o := by simp [join, hb]
theorem join_right {h g : Hp} {b : Nat} (hb : h b = none) : join h g b = g b := by simp [join, hb]

/-- The frame's rule. -/
theorem Ok.frame {P : Program} {f : FuncId} {args : List Value} {h g : Hp} {Q : Value → Hp → Prop} (hok : Ok P f args h Q) (ha : Apart h g) :
    Ok P f args (join h g) (fun v h' => ∃ h1, h' = join h1 g ∧ Apart h1 g ∧ Q v h1) := by
  refine .intro fun w fr hr => ?_
  have h1 : Rep w h { fr with hid := join g fr.hid } := by
    refine ⟨fun b o hb => hr.vis b o (join_left hb), fun b o hb => ?_, fun b o hb => ?_, hr.kp⟩
    · replace hb : join g fr.hid b = some o := hb
      unfold join at hb
      cases hg : g b with
      | none => rw [hg] at hb; exact hr.hid b o (by simpa using hb)
      | some p =>
        rw [hg] at hb
        simp at hb; subst hb
        refine hr.vis b p ?_
        cases hh : h b with
        | none => rw [join_right hh]; exact hg
        | some q => rw [ha b q hh] at hg; cases hg
    · have := hr.dis b o (join_left hb)
      show join g fr.hid b = none
      rw [join, ha b o hb, this]; rfl
  refine (hok.run w _ h1).mono fun e w' ⟨v, h', he, hv, hr'⟩ => ⟨v, join h' g, he, ⟨h', rfl, ?_, hv⟩, ?_⟩
  · intro b o hb
    have : join g fr.hid b = none := hr'.dis b o hb
    unfold join at this
    cases hg : g b with
    | none => rfl
    | some p => rw [hg] at this; simp at this
  · refine ⟨fun b o hb => ?_, fun b o hb => ?_, fun b o hb => ?_, hr'.kp⟩
    · cases hh : h' b with
      | some q => rw [join_left hh] at hb; cases hb; exact hr'.vis b _ hh
      | none => rw [join_right hh] at hb; exact hr'.hid b o (show join g fr.hid b = some o from join_left hb)
    · cases hg : g b with
      | none => exact hr'.hid b o (show join g fr.hid b = some o by rw [join_right hg]; exact hb)
      | some p =>
        have : join h g b = some p := by
          cases hh : h b with
          | none => rw [join_right hh]; exact hg
          | some q => rw [ha b q hh] at hg; cases hg
        rw [hr.dis b p this] at hb; cases hb
    · cases hf : fr b with
      | none => rfl
      | some p =>
        exfalso
        cases hh : h' b with
        | some q =>
          have : join g fr.hid b = none := hr'.dis b q hh
          cases hg : g b with
          | none => rw [join_right hg, hf] at this; cases this
          | some u => rw [join_left hg] at this; cases this
        | none =>
          rw [join_right hh] at hb
          have : join h g b = some o := by
            cases hh2 : h b with
            | none => rw [join_right hh2]; exact hb
            | some q => rw [ha b q hh2] at hb; cases hb
          rw [hr.dis b o this] at hf; cases hf

/-! ### Cells -/

theorem Rep.cell {w : World} {h : Hp} {f : Fm} (hr : Rep w h f) {b o : Nat} {c : Array Value} {ty : TypeId} {z : Nat × Nat} (hb : h b = some (.cells c ty z)) :
    w.cell? ⟨b, o, none⟩ = c[o]? := by simp [World.cell?, hr.vis b _ hb]

theorem cell_of {w : World} {b o : Nat} {c : Array Value} {ty : TypeId} {z : Nat × Nat} (hb : w.heap[b]? = some (.cells c ty z)) :
    w.cell? ⟨b, o, none⟩ = c[o]? := by simp [World.cell?, hb]

theorem frozen_of {w : World} {b o : Nat} {c : Array Value} {ty : TypeId} {z : Nat × Nat} (hb : w.heap[b]? = some (.cells c ty z)) :
    w.frozen? ⟨b, o, none⟩ = (decide (z.1 ≤ o) && decide (o < z.2)) := by obtain ⟨lo, hi⟩ := z; simp [World.frozen?, hb]

theorem setCell_get {w : World} {b o : Nat} {c : Array Value} {ty : TypeId} {z : Nat × Nat} {v : Value} (hb : w.heap[b]? = some (.cells c ty z)) (x : Nat) :
    (w.setCell ⟨b, o, none⟩ v).heap[x]? = if x = b then some (.cells (c.setIfInBounds o v) ty z) else w.heap[x]? := by
  simp only [World.setCell, Array.getElem?_modify]
  split
  · rename_i e; subst e; simp [hb]
  · rename_i e; rw [if_neg (fun h => e h.symm)]

end Go.Proofs.Ytkmknolkblcbeaa.V
