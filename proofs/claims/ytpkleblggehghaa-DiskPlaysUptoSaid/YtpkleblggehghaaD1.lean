/- Seat 04: the zero disk. -/
import Derived.Test.YtpkleblggehghaaVP
namespace Go.Proofs.Ytpkleblggehghaa.V
set_option linter.unusedVariables false
set_option linter.unusedSimpArgs false
set_option linter.unusedSectionVars false
open Go

def u0 : Value := .int .u8 0
def tl5 : List Value := [.slice none 0 0, .bool false, .int .i64 0, .bool false, .int .i64 0]

theorem zr_app (m n : Nat) (x : Value) : List.append (List.replicate m x) (List.replicate n x) = List.replicate (m + n) x := by
  show List.replicate m x ++ List.replicate n x = _
  simp
theorem zr_app2 (m n : Nat) (x : Value) (r : List Value) : List.append (List.replicate m x) (List.append (List.replicate n x) r) = List.append (List.replicate (m + n) x) r := by
  show List.replicate m x ++ (List.replicate n x ++ r) = _ ++ r
  rw [← List.append_assoc]; simp
theorem zr_cons (n : Nat) : List.cons (Value.int .u8 0) (List.replicate n (Value.int .u8 0)) = List.replicate (n + 1) (Value.int .u8 0) := rfl
theorem zr_one : [Value.int .u8 0] = List.replicate 1 (Value.int .u8 0) := rfl
theorem zr_tl : List.cons (Value.int .u8 0) [.slice none 0 0, .bool false, .int .i64 0, .bool false, .int .i64 0] = List.append (List.replicate 1 (Value.int .u8 0)) tl5 := rfl
theorem zr_tl2 (n : Nat) : List.cons (Value.int .u8 0) (List.append (List.replicate n (Value.int .u8 0)) tl5) = List.append (List.replicate (n + 1) (Value.int .u8 0)) tl5 := rfl

theorem zero84 : zeroCells PR 84 = some (List.append (List.replicate 131072 (Value.int .u8 0)) tl5) := by
  unfold zeroCells
  rw [show PR.info? 84 = some Try.t84 from Try.type84]
  simp only [Try.t84, Value.cells, zr_cons, zr_one, zr_tl, zr_tl2, zr_app, zr_app2, Nat.reduceAdd]

noncomputable def z84 : List Value := (zeroCells PR 84).getD []
theorem z84_eq : z84 = List.append (List.replicate 131072 (Value.int .u8 0)) tl5 := by unfold z84; rw [zero84]; rfl

noncomputable def c37 : IC := IC.seq (IC.ops [I.mk none (some 0) (Ef.pr Pr.mv) [X.c (Value.pointer none)]]) (IC.seq (IC.ops [I.mk none (some 1) (Ef.pr (Pr.bld z84 [])) [], I.mk none (some 2) (Ef.bxh 84) [X.t 1], I.mk none (some 0) (Ef.pr Pr.mv) [X.t 2]]) IC.ret)

theorem k37 : Go.Proofs.Try.f37.body.bind (comp Go.Proofs.Try.prog 3 [] []) = some c37 := by kernel_rfl
end Go.Proofs.Ytpkleblggehghaa.V
