/- Seat 09: records of environments, and where they lie. -/
import Derived.Test.YtljenppmdhldbaaH2
namespace Go.Proofs.Ytljenppmdhldbaa.V
set_option linter.unusedVariables false
set_option linter.unusedSimpArgs false
set_option linter.unusedSectionVars false
set_option linter.unusedSectionVars false
open Go

abbrev Q3 := Int × Int × Int
def q3 (q : Q3) : List Value := [iv q.1, iv q.2.1, iv q.2.2]
def u32v (n : Int) : Value := .int .u32 n

/-- An environment. -/
structure Rec where
  serial : Int
  parent : Int
  state : Int
  code : Int
  bits : Int
  frozen : Bool
  regs : List Int
  pc : Int
  whole : Q3
  paid : Q3
  carved : Q3
  kids : List Int

/-- A record's 31 cells; s: its children's slice. -/
def recC (r : Rec) (s : Value) : List Value :=
  [iv r.serial, iv r.parent, iv r.state, iv r.code, iv r.bits, .bool r.frozen] ++ r.regs.map u32v ++ [u32v r.pc] ++ q3 (0, 0, 0) ++ q3 (0, 0, 0) ++ q3 r.whole ++ q3 r.paid ++ q3 r.carved ++ [s]

section
variable {h : Hp} {Q : Value → Hp → Prop} {b : Nat} {l : List (Option Nat)}

def ptrO : Option Nat → Value
  | some v => ptr v
  | none => .pointer none

theorem at56 (hT : TabP rowP b l h) (e : Int) (hq : Q (ptrO (got l e)) h) : Ok PR 56 [.agg #[ptr b], iv e] h Q := by
  obtain ⟨d, hT⟩ := hT
  refine e56 rfl ?_
  refine seq_step fun K hK => ?_
  conv => whnf
  refine hK _ _ _ (seq_step fun K1 hK1 => ?_)
  conv => whnf
  refine get92 hT e (fun v hv => ?_) (fun hv => ?_)
  · rw [hv] at hq
    conv => whnf
    refine hK1 _ _ _ ?_
    conv => whnf
    exact hq
  · rw [hv] at hq
    conv => whnf
    refine hK1 _ _ _ ?_
    conv => whnf
    exact hq

def recA : Option (Nat × Rec × Value) → List As
  | none => []
  | some (b, r, s) => [Pt b (.cells (recC r s).toArray 103 (0, 0)), WnP 1 s r.kids.length (r.kids.map iv)]

def RecsP (xs : List (Option (Nat × Rec × Value))) : As := Has (xs.flatMap recA)

theorem recs_perm {xs : List (Option (Nat × Rec × Value))} {n : Nat} {x : Option (Nat × Rec × Value)} (hx : xs[n]? = some x) : (xs.flatMap recA).Perm (recA x ++ (xs.set n none).flatMap recA) := by
  have hn := (List.getElem?_eq_some_iff.1 hx).1
  have hv := (List.getElem?_eq_some_iff.1 hx).2
  have e1 : xs = xs.take n ++ x :: xs.drop (n + 1) := by
    conv => lhs; rw [← List.take_append_drop n xs, List.drop_eq_getElem_cons hn, hv]
  have e2 : xs.set n none = xs.take n ++ none :: xs.drop (n + 1) := by
    rw [List.set_eq_take_append_cons_drop, if_pos hn]
  rw [e2]
  conv => lhs; rw [e1]
  rw [List.flatMap_append, List.flatMap_append, List.flatMap_cons, List.flatMap_cons]
  show ((xs.take n).flatMap recA ++ (recA x ++ (xs.drop (n + 1)).flatMap recA)).Perm (recA x ++ ((xs.take n).flatMap recA ++ (xs.drop (n + 1)).flatMap recA))
  rw [← List.append_assoc, ← List.append_assoc]
  exact List.perm_append_comm.append_right _

variable {L : List As}

theorem RecsP.focus {xs : List (Option (Nat × Rec × Value))} {n : Nat} {x : Option (Nat × Rec × Value)} (hh : Has (RecsP xs :: L) h) (hx : xs[n]? = some x) : Has (recA x ++ RecsP (xs.set n none) :: L) h := by
  obtain ⟨h1, h2, e, ap, hd, hL⟩ := hh
  have h3 : Has (((xs.set n none).flatMap recA ++ recA x) ++ L) h := Has.flat ⟨h1, h2, e, ap, Has.perm ((recs_perm hx).trans List.perm_append_comm) hd, hL⟩
  rw [List.append_assoc] at h3
  have h4 : Has (RecsP (xs.set n none) :: (recA x ++ L)) h := Has.group h3
  exact h4.perm List.perm_middle.symm

theorem RecsP.unfocus {xs : List (Option (Nat × Rec × Value))} {n : Nat} {x : Option (Nat × Rec × Value)} (hn : n < xs.length) (hh : Has (recA x ++ RecsP (xs.set n none) :: L) h) : Has (RecsP (xs.set n x) :: L) h := by
  have h4 : Has (RecsP (xs.set n none) :: (recA x ++ L)) h := hh.perm List.perm_middle
  obtain ⟨h1, h2, e, ap, hd, hL⟩ := h4
  have h3 : Has ((xs.set n none).flatMap recA ++ (recA x ++ L)) h := Has.flat ⟨h1, h2, e, ap, hd, hL⟩
  rw [← List.append_assoc] at h3
  have hp := recs_perm (xs := xs.set n x) (n := n) (x := x) (by rw [List.getElem?_set_self hn])
  rw [List.set_set] at hp
  exact Has.group (h3.perm (((hp.trans List.perm_append_comm).symm).append_right L))

end
end Go.Proofs.Ytljenppmdhldbaa.V
