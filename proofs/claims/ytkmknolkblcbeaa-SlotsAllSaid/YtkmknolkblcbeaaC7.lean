/- The functions 22, 23, 24, 25, 26, 77, 79, 81, 82, 83, 84, 86, 108, 109, 4, resolved. -/
import Derived.Test.YtkmknolkblcbeaaVP
namespace Go.Proofs.Ytkmknolkblcbeaa.V
set_option linter.unusedVariables false
set_option linter.unusedSimpArgs false
set_option linter.unusedSectionVars false
open Go
set_option maxRecDepth 100000

def c22 : IC := IC.seq (IC.ops [I.mk none (some 1) Ef.bx [X.t 0], I.mk none (some 2) (Ef.pr Pr.mv) [X.c (Value.bool false)]]) 
  (IC.seq (IC.ops [I.mk none (some 3) (Ef.pr (Pr.fa 0)) [X.t 1], I.mk none (some 4) (Ef.pr (Pr.ld 1 false)) [X.t 3], I.mk none (some 5) (Ef.pr Pr.mv) [X.t 4], I.mk (some (5, true)) (some 6) (Ef.pr (Pr.fa 2)) [X.t 1], I.mk (some (5, true)) (some 7) (Ef.pr (Pr.ld 1 false)) [X.t 6], I.mk (some (5, true)) (some 8) (Ef.pr (Pr.eq false (EqT.one EqS.p))) [X.t 7, X.c (Value.pointer none)], I.mk none (some 9) (Ef.pr Pr.pick) [X.t 5, X.t 8, X.c (Value.bool false)], I.mk none (some 10) (Ef.pr Pr.mv) [X.t 9], I.mk (some (10, false)) (some 11) (Ef.pr (Pr.fa 0)) [X.t 1], I.mk (some (10, false)) (some 12) (Ef.pr (Pr.ld 1 false)) [X.t 11], I.mk (some (10, false)) (some 13) (Ef.pr (Pr.un UnOp.not)) [X.t 12], I.mk (some (10, false)) (some 14) (Ef.pr Pr.mv) [X.t 13], I.mk (some (14, true)) (some 15) (Ef.pr (Pr.fa 1)) [X.t 1], I.mk (some (14, true)) (some 16) (Ef.pr (Pr.ld 1 false)) [X.t 15], I.mk (some (14, true)) (some 17) (Ef.pr (Pr.eq false (EqT.one EqS.p))) [X.t 16, X.c (Value.pointer none)], I.mk (some (10, false)) (some 18) (Ef.pr Pr.pick) [X.t 14, X.t 17, X.c (Value.bool false)], I.mk none (some 19) (Ef.pr Pr.pick) [X.t 10, X.c (Value.bool true), X.t 18], I.mk none (some 2) (Ef.pr Pr.mv) [X.t 19]]) IC.ret)

theorem k22 : Go.Proofs.Try.f22.body.bind (comp Go.Proofs.Try.prog 20 [1] []) = some c22 := by kernel_rfl

theorem r22 : cRVs Go.Proofs.Try.prog Go.Proofs.Try.f22.results.toList = some [RV.t 2] := by kernel_rfl

theorem e22 {args : List Value} {h : Hp} {Q : Value → Hp → Prop} (hl : Nat.ble args.length 20 = true) (hk : codeK PR none c22 (retK Q [RV.t 2]) (fun _ _ _ _ => False) (retK Q [RV.t 2]) (argsE 0 args) [] h) : Ok PR 22 args h Q :=
  Ok.of mixed Go.Proofs.Try.func22 rfl k22 r22 hl hk

def c23 : IC := IC.seq (IC.ops [I.mk none (some 4) (Ef.pr Pr.mv) [X.c (Value.int IntKind.i64 0)]]) 
  (IC.seq (IC.ops [I.mk none (some 6) (Ef.pr Pr.mv) [X.t 0], I.mk none (some 7) (Ef.pr Pr.mv) [X.t 1], I.mk none (some 8) (Ef.pr (Pr.dv BinOp.rem)) [X.t 6, X.t 7], I.mk none (some 5) (Ef.pr Pr.mv) [X.t 8]]) 
  (IC.seq 
  (IC.seq (IC.ops [I.mk none (some 9) (Ef.pr Pr.mv) [X.t 5], I.mk none (some 10) (Ef.pr (Pr.cm BinOp.lss)) [X.t 9, X.c (Value.int IntKind.i64 0)]]) 
  (IC.cond (X.t 10) (IC.ops [I.mk none (some 11) (Ef.pr Pr.mv) [X.t 5], I.mk none (some 12) (Ef.pr Pr.mv) [X.t 1], I.mk none (some 13) (Ef.pr (Pr.ar BinOp.add)) [X.t 11, X.t 12], I.mk none (some 5) (Ef.pr Pr.mv) [X.t 13]]) IC.skip)) 
  (IC.seq (IC.ops [I.mk none (some 14) (Ef.pr Pr.mv) [X.t 5], I.mk none (some 4) (Ef.pr Pr.mv) [X.t 14]]) IC.ret)))

theorem k23 : Go.Proofs.Try.f23.body.bind (comp Go.Proofs.Try.prog 15 [] []) = some c23 := by kernel_rfl

theorem r23 : cRVs Go.Proofs.Try.prog Go.Proofs.Try.f23.results.toList = some [RV.t 4] := by kernel_rfl

theorem e23 {args : List Value} {h : Hp} {Q : Value → Hp → Prop} (hl : Nat.ble args.length 15 = true) (hk : codeK PR none c23 (retK Q [RV.t 4]) (fun _ _ _ _ => False) (retK Q [RV.t 4]) (argsE 0 args) [] h) : Ok PR 23 args h Q :=
  Ok.of mixed Go.Proofs.Try.func23 rfl k23 r23 hl hk

def c24 : IC := IC.seq (IC.ops [I.mk none (some 2) Ef.bx [X.t 0], I.mk none (some 3) Ef.bx [X.t 1], I.mk none (some 4) (Ef.pr Pr.mv) [X.c (Value.bool false)]]) 
  (IC.seq 
  (IC.seq (IC.ops [I.mk none (some 7) (Ef.pr (Pr.fa 0)) [X.t 3], I.mk none (some 8) (Ef.pr (Pr.ld 1 false)) [X.t 7], I.mk none (some 9) (Ef.pr (Pr.cm BinOp.eql)) [X.t 8, X.c (Value.int IntKind.i64 1)]]) 
  (IC.cond (X.t 9) 
  (IC.seq (IC.ops [I.mk none (some 10) (Ef.pr (Pr.fa 3)) [X.t 2], I.mk none (some 11) (Ef.pr (Pr.ld 1 false)) [X.t 10], I.mk none (some 12) (Ef.pr (Pr.fa 2)) [X.t 3], I.mk none (some 13) (Ef.pr (Pr.ld 1 false)) [X.t 12], I.mk none (some 14) (Ef.pr (Pr.fa 3)) [X.t 3], I.mk none (some 15) (Ef.pr (Pr.ld 1 false)) [X.t 14], I.mk none (some 16) (Ef.call 77) [X.t 11, X.t 13, X.t 15], I.mk none (some 5) (Ef.pr Pr.mv) [X.t 16]]) 
  (IC.seq 
  (IC.seq (IC.ops [I.mk none (some 17) (Ef.pr (Pr.fa 0)) [X.t 2], I.mk none (some 18) (Ef.pr (Pr.ld 1 false)) [X.t 17]]) 
  (IC.cond (X.t 18) 
  (IC.seq (IC.plan (Plan.q (I.mk none (some 19) (Ef.pr (Pr.fa 2)) [X.t 2]) (Plan.q (I.mk none (some 20) (Ef.pr (Pr.ld 1 false)) [X.t 19]) (Plan.q (I.mk none (some 21) (Ef.pr (Pr.fa 2)) [X.t 3]) (Plan.q (I.mk none (some 22) (Ef.pr (Pr.ld 1 false)) [X.t 21]) (Plan.q (I.mk none (some 24) (Ef.pr (Pr.fa 3)) [X.t 3]) (Plan.q (I.mk none (some 25) (Ef.pr (Pr.ld 1 false)) [X.t 24]) (Plan.q (I.mk none (some 27) (Ef.pr Pr.mv) [X.t 5]) (Plan.br (PlanL.cons true false (I.mk none (some 23) (Ef.call 28) [X.t 22]) (Plan.br (PlanL.cons false false (I.mk none (some 26) (Ef.call 78) [X.t 20, X.t 23, X.t 25]) (Plan.q (I.mk none (some 28) (Ef.pr (Pr.eq false (EqT.one EqS.b))) [X.t 26, X.t 27]) (Plan.q (I.mk none (some 4) (Ef.pr Pr.mv) [X.t 28]) Plan.done)) PlanL.nil)) PlanL.nil)))))))))) IC.ret) IC.skip)) 
  (IC.seq (IC.plan (Plan.q (I.mk none (some 29) (Ef.pr (Pr.fa 1)) [X.t 2]) (Plan.q (I.mk none (some 30) (Ef.pr (Pr.ld 1 false)) [X.t 29]) (Plan.q (I.mk none (some 31) (Ef.pr (Pr.fa 2)) [X.t 3]) (Plan.q (I.mk none (some 32) (Ef.pr (Pr.ld 1 false)) [X.t 31]) (Plan.q (I.mk none (some 33) (Ef.pr (Pr.fa 3)) [X.t 3]) (Plan.q (I.mk none (some 34) (Ef.pr (Pr.ld 1 false)) [X.t 33]) (Plan.q (I.mk none (some 37) (Ef.pr Pr.mv) [X.t 5]) (Plan.br (PlanL.cons true false (I.mk none (some 35) (Ef.call 28) [X.t 34]) (Plan.br (PlanL.cons false false (I.mk none (some 36) (Ef.call 27) [X.t 30, X.t 32, X.t 35]) (Plan.q (I.mk none (some 38) (Ef.pr (Pr.eq false (EqT.one EqS.b))) [X.t 36, X.t 37]) (Plan.q (I.mk none (some 4) (Ef.pr Pr.mv) [X.t 38]) Plan.done)) PlanL.nil)) PlanL.nil)))))))))) IC.ret))) IC.skip)) 
  (IC.seq (IC.ops [I.mk none (some 39) (Ef.pr (Pr.fa 3)) [X.t 2], I.mk none (some 40) (Ef.pr (Pr.ld 1 false)) [X.t 39], I.mk none (some 41) (Ef.pr (Pr.fa 2)) [X.t 3], I.mk none (some 42) (Ef.pr (Pr.ld 1 false)) [X.t 41], I.mk none (some 43) (Ef.call 79) [X.t 40, X.t 42], I.mk none (some 6) (Ef.pr Pr.mv) [X.t 43]]) 
  (IC.seq 
  (IC.seq (IC.ops [I.mk none (some 44) (Ef.pr (Pr.fa 0)) [X.t 2], I.mk none (some 45) (Ef.pr (Pr.ld 1 false)) [X.t 44]]) 
  (IC.cond (X.t 45) 
  (IC.seq (IC.plan (Plan.q (I.mk none (some 46) (Ef.pr (Pr.fa 2)) [X.t 2]) (Plan.q (I.mk none (some 47) (Ef.pr (Pr.ld 1 false)) [X.t 46]) (Plan.q (I.mk none (some 48) (Ef.pr (Pr.fa 2)) [X.t 3]) (Plan.q (I.mk none (some 49) (Ef.pr (Pr.ld 1 false)) [X.t 48]) (Plan.q (I.mk none (some 52) (Ef.pr Pr.mv) [X.t 6]) (Plan.br (PlanL.cons true false (I.mk none (some 50) (Ef.call 28) [X.t 49]) (Plan.br (PlanL.cons false false (I.mk none (some 51) (Ef.call 80) [X.t 47, X.t 50]) (Plan.q (I.mk none (some 53) (Ef.pr (Pr.eq false (EqT.one EqS.b))) [X.t 51, X.t 52]) (Plan.q (I.mk none (some 4) (Ef.pr Pr.mv) [X.t 53]) Plan.done)) PlanL.nil)) PlanL.nil)))))))) IC.ret) IC.skip)) 
  (IC.seq (IC.ops [I.mk none (some 54) (Ef.pr (Pr.fa 1)) [X.t 2], I.mk none (some 55) (Ef.pr (Pr.ld 1 false)) [X.t 54], I.mk none (some 56) (Ef.pr (Pr.fa 2)) [X.t 3], I.mk none (some 57) (Ef.pr (Pr.ld 1 false)) [X.t 56], I.mk none (some 58) (Ef.call 29) [X.t 55, X.t 57], I.mk none (some 59) (Ef.pr Pr.mv) [X.t 6], I.mk none (some 60) (Ef.pr (Pr.eq false (EqT.one EqS.b))) [X.t 58, X.t 59], I.mk none (some 4) (Ef.pr Pr.mv) [X.t 60]]) IC.ret))))

theorem k24 : Go.Proofs.Try.f24.body.bind (comp Go.Proofs.Try.prog 61 [2, 3] []) = some c24 := by kernel_rfl

theorem r24 : cRVs Go.Proofs.Try.prog Go.Proofs.Try.f24.results.toList = some [RV.t 4] := by kernel_rfl

theorem e24 {args : List Value} {h : Hp} {Q : Value → Hp → Prop} (hl : Nat.ble args.length 61 = true) (hk : codeK PR none c24 (retK Q [RV.t 4]) (fun _ _ _ _ => False) (retK Q [RV.t 4]) (argsE 0 args) [] h) : Ok PR 24 args h Q :=
  Ok.of mixed Go.Proofs.Try.func24 rfl k24 r24 hl hk

def c25 : IC := IC.seq (IC.ops [I.mk none (some 2) Ef.bx [X.t 0], I.mk none (some 3) Ef.bx [X.t 1], I.mk none (some 4) (Ef.pr Pr.mv) [X.c (Value.bool false)]]) 
  (IC.seq 
  (IC.seq (IC.ops [I.mk none (some 17) (Ef.pr (Pr.fa 0)) [X.t 3], I.mk none (some 18) (Ef.pr (Pr.ld 1 false)) [X.t 17]]) 
  (IC.block 0 
  (IC.seq (IC.ops [I.mk none (some 20) (Ef.pr (Pr.cm BinOp.eql)) [X.t 18, X.c (Value.int IntKind.i64 2)], I.mk none (some 19) (Ef.pr Pr.mv) [X.t 20]]) 
  (IC.cond (X.t 19) 
  (IC.seq (IC.ops [I.mk none (some 22) (Ef.pr (Pr.fa 3)) [X.t 2], I.mk none (some 23) (Ef.pr (Pr.ld 1 false)) [X.t 22], I.mk none (some 24) (Ef.pr (Pr.fa 2)) [X.t 3], I.mk none (some 25) (Ef.pr (Pr.ld 1 false)) [X.t 24], I.mk none (some 26) (Ef.call 81) [X.t 23, X.t 25], I.mk none (some 21) (Ef.pr Pr.mv) [X.t 26], I.mk none (some 27) (Ef.pr (Pr.ext 0)) [X.t 21], I.mk none (some 28) (Ef.pr (Pr.ext 1)) [X.t 21], I.mk none (some 5) (Ef.pr Pr.mv) [X.t 27], I.mk none (some 6) (Ef.pr Pr.mv) [X.t 28]]) 
  (IC.seq 
  (IC.seq (IC.ops [I.mk none (some 29) (Ef.pr (Pr.fa 0)) [X.t 2], I.mk none (some 30) (Ef.pr (Pr.ld 1 false)) [X.t 29]]) 
  (IC.cond (X.t 30) 
  (IC.seq (IC.plan (Plan.q (I.mk none (some 32) (Ef.pr (Pr.fa 2)) [X.t 2]) (Plan.q (I.mk none (some 33) (Ef.pr (Pr.ld 1 false)) [X.t 32]) (Plan.q (I.mk none (some 34) (Ef.pr (Pr.fa 2)) [X.t 3]) (Plan.q (I.mk none (some 35) (Ef.pr (Pr.ld 1 false)) [X.t 34]) (Plan.br (PlanL.cons true false (I.mk none (some 36) (Ef.call 28) [X.t 35]) (Plan.br (PlanL.cons false false (I.mk none (some 37) (Ef.call 35) [X.t 33, X.t 36]) (Plan.q (I.mk none (some 31) (Ef.pr Pr.mv) [X.t 37]) (Plan.q (I.mk none (some 38) (Ef.pr (Pr.ext 0)) [X.t 31]) (Plan.q (I.mk none (some 39) (Ef.pr (Pr.ext 1)) [X.t 31]) (Plan.q (I.mk none (some 7) (Ef.pr Pr.mv) [X.t 38]) (Plan.q (I.mk none (some 8) (Ef.pr Pr.mv) [X.t 39]) Plan.done))))) PlanL.nil)) PlanL.nil))))))) 
  (IC.seq (IC.ops [I.mk none (some 40) (Ef.pr Pr.mv) [X.t 7], I.mk none (some 41) (Ef.pr Pr.mv) [X.t 8], I.mk none (some 42) (Ef.pr Pr.mv) [X.t 5], I.mk none (some 43) (Ef.pr Pr.mv) [X.t 6], I.mk none (some 44) (Ef.call 82) [X.t 40, X.t 41, X.t 42, X.t 43], I.mk none (some 4) (Ef.pr Pr.mv) [X.t 44]]) IC.ret)) IC.skip)) 
  (IC.seq (IC.ops [I.mk none (some 46) (Ef.pr (Pr.fa 1)) [X.t 2], I.mk none (some 47) (Ef.pr (Pr.ld 1 false)) [X.t 46], I.mk none (some 48) (Ef.pr (Pr.fa 2)) [X.t 3], I.mk none (some 49) (Ef.pr (Pr.ld 1 false)) [X.t 48], I.mk none (some 50) (Ef.call 34) [X.t 47, X.t 49], I.mk none (some 45) (Ef.pr Pr.mv) [X.t 50], I.mk none (some 51) (Ef.pr (Pr.ext 0)) [X.t 45], I.mk none (some 52) (Ef.pr (Pr.ext 1)) [X.t 45], I.mk none (some 9) (Ef.al [Value.string (ByteArray.mk (Array.mk [])), Value.int IntKind.i64 0, Value.int IntKind.i64 0]) [], I.mk none none (Ef.st 3) [X.t 9, X.t 51], I.mk none (some 10) (Ef.pr Pr.mv) [X.t 52]]) 
  (IC.seq (IC.ops [I.mk none (some 53) (Ef.pr (Pr.ld 3 true)) [X.t 9], I.mk none (some 54) (Ef.pr Pr.mv) [X.t 10], I.mk none (some 55) (Ef.pr Pr.mv) [X.t 5], I.mk none (some 56) (Ef.pr Pr.mv) [X.t 6], I.mk none (some 57) (Ef.call 83) [X.t 53, X.t 54, X.t 55, X.t 56], I.mk none (some 4) (Ef.pr Pr.mv) [X.t 57]]) IC.ret)))) 
  (IC.seq (IC.ops [I.mk none (some 59) (Ef.pr (Pr.cm BinOp.eql)) [X.t 18, X.c (Value.int IntKind.i64 3)], I.mk none (some 58) (Ef.pr Pr.mv) [X.t 59]]) 
  (IC.cond (X.t 58) 
  (IC.seq (IC.ops [I.mk none (some 61) (Ef.pr (Pr.fa 3)) [X.t 2], I.mk none (some 62) (Ef.pr (Pr.ld 1 false)) [X.t 61], I.mk none (some 63) (Ef.pr (Pr.fa 3)) [X.t 3], I.mk none (some 64) (Ef.pr (Pr.ld 1 false)) [X.t 63], I.mk none (some 65) (Ef.call 84) [X.t 62, X.t 64], I.mk none (some 60) (Ef.pr Pr.mv) [X.t 65], I.mk none (some 66) (Ef.pr (Pr.ext 0)) [X.t 60], I.mk none (some 67) (Ef.pr (Pr.ext 1)) [X.t 60], I.mk none (some 11) (Ef.pr Pr.mv) [X.t 66], I.mk none (some 12) (Ef.pr Pr.mv) [X.t 67]]) 
  (IC.seq 
  (IC.seq (IC.ops [I.mk none (some 68) (Ef.pr (Pr.fa 0)) [X.t 2], I.mk none (some 69) (Ef.pr (Pr.ld 1 false)) [X.t 68]]) 
  (IC.cond (X.t 69) 
  (IC.seq (IC.ops [I.mk none (some 71) (Ef.pr (Pr.fa 2)) [X.t 2], I.mk none (some 72) (Ef.pr (Pr.ld 1 false)) [X.t 71], I.mk none (some 73) (Ef.pr (Pr.fa 3)) [X.t 3], I.mk none (some 74) (Ef.pr (Pr.ld 1 false)) [X.t 73], I.mk none (some 75) (Ef.call 36) [X.t 72, X.t 74], I.mk none (some 70) (Ef.pr Pr.mv) [X.t 75], I.mk none (some 76) (Ef.pr (Pr.ext 0)) [X.t 70], I.mk none (some 77) (Ef.pr (Pr.ext 1)) [X.t 70], I.mk none (some 13) (Ef.al [Value.string (ByteArray.mk (Array.mk [])), Value.int IntKind.i64 0, Value.int IntKind.i64 0]) [], I.mk none none (Ef.st 3) [X.t 13, X.t 76], I.mk none (some 14) (Ef.pr Pr.mv) [X.t 77]]) 
  (IC.seq (IC.ops [I.mk none (some 78) (Ef.pr (Pr.ld 3 true)) [X.t 13], I.mk none (some 79) (Ef.pr Pr.mv) [X.t 14], I.mk none (some 80) (Ef.pr Pr.mv) [X.t 11], I.mk none (some 81) (Ef.pr Pr.mv) [X.t 12], I.mk none (some 82) (Ef.call 83) [X.t 78, X.t 79, X.t 80, X.t 81], I.mk none (some 4) (Ef.pr Pr.mv) [X.t 82]]) IC.ret)) IC.skip)) 
  (IC.seq (IC.plan (Plan.q (I.mk none (some 84) (Ef.pr (Pr.fa 1)) [X.t 2]) (Plan.q (I.mk none (some 85) (Ef.pr (Pr.ld 1 false)) [X.t 84]) (Plan.q (I.mk none (some 86) (Ef.pr (Pr.fa 3)) [X.t 3]) (Plan.q (I.mk none (some 87) (Ef.pr (Pr.ld 1 false)) [X.t 86]) (Plan.br (PlanL.cons true false (I.mk none (some 88) (Ef.call 28) [X.t 87]) (Plan.br (PlanL.cons false false (I.mk none (some 89) (Ef.call 85) [X.t 85, X.t 88]) (Plan.q (I.mk none (some 83) (Ef.pr Pr.mv) [X.t 89]) (Plan.q (I.mk none (some 90) (Ef.pr (Pr.ext 0)) [X.t 83]) (Plan.q (I.mk none (some 91) (Ef.pr (Pr.ext 1)) [X.t 83]) (Plan.q (I.mk none (some 15) (Ef.pr Pr.mv) [X.t 90]) (Plan.q (I.mk none (some 16) (Ef.pr Pr.mv) [X.t 91]) Plan.done))))) PlanL.nil)) PlanL.nil))))))) 
  (IC.seq (IC.ops [I.mk none (some 92) (Ef.pr Pr.mv) [X.t 15], I.mk none (some 93) (Ef.pr Pr.mv) [X.t 16], I.mk none (some 94) (Ef.pr Pr.mv) [X.t 11], I.mk none (some 95) (Ef.pr Pr.mv) [X.t 12], I.mk none (some 96) (Ef.call 82) [X.t 92, X.t 93, X.t 94, X.t 95], I.mk none (some 4) (Ef.pr Pr.mv) [X.t 96]]) IC.ret)))) IC.skip)))))) 
  (IC.seq 
  (IC.seq (IC.ops [I.mk none (some 97) (Ef.pr (Pr.fa 0)) [X.t 2], I.mk none (some 98) (Ef.pr (Pr.ld 1 false)) [X.t 97]]) 
  (IC.cond (X.t 98) 
  (IC.seq (IC.plan (Plan.q (I.mk none (some 99) (Ef.pr (Pr.fa 2)) [X.t 2]) (Plan.q (I.mk none (some 100) (Ef.pr (Pr.ld 1 false)) [X.t 99]) (Plan.q (I.mk none (some 102) (Ef.pr (Pr.fa 3)) [X.t 2]) (Plan.q (I.mk none (some 103) (Ef.pr (Pr.ld 1 false)) [X.t 102]) (Plan.q (I.mk none (some 104) (Ef.pr Pr.nilc) [X.t 103]) (Plan.q (I.mk none (some 105) (Ef.pr (Pr.fa 0)) [X.t 104]) (Plan.q (I.mk none (some 106) (Ef.pr (Pr.ld 1 false)) [X.t 105]) (Plan.q (I.mk none (some 107) (Ef.pr Pr.lenS) [X.t 106]) (Plan.br (PlanL.cons true false (I.mk none (some 101) (Ef.call 31) [X.t 100]) (Plan.q (I.mk none (some 108) (Ef.pr (Pr.cm BinOp.eql)) [X.t 101, X.t 107]) (Plan.q (I.mk none (some 4) (Ef.pr Pr.mv) [X.t 108]) Plan.done)) PlanL.nil))))))))))) IC.ret) IC.skip)) 
  (IC.seq (IC.plan (Plan.q (I.mk none (some 109) (Ef.pr (Pr.fa 1)) [X.t 2]) (Plan.q (I.mk none (some 110) (Ef.pr (Pr.ld 1 false)) [X.t 109]) (Plan.q (I.mk none (some 112) (Ef.pr (Pr.fa 3)) [X.t 2]) (Plan.q (I.mk none (some 113) (Ef.pr (Pr.ld 1 false)) [X.t 112]) (Plan.q (I.mk none (some 114) (Ef.pr Pr.nilc) [X.t 113]) (Plan.q (I.mk none (some 115) (Ef.pr (Pr.fa 0)) [X.t 114]) (Plan.q (I.mk none (some 116) (Ef.pr (Pr.ld 1 false)) [X.t 115]) (Plan.q (I.mk none (some 117) (Ef.pr Pr.lenS) [X.t 116]) (Plan.br (PlanL.cons true false (I.mk none (some 111) (Ef.call 32) [X.t 110]) (Plan.q (I.mk none (some 118) (Ef.pr (Pr.cm BinOp.eql)) [X.t 111, X.t 117]) (Plan.q (I.mk none (some 4) (Ef.pr Pr.mv) [X.t 118]) Plan.done)) PlanL.nil))))))))))) IC.ret)))

theorem k25 : Go.Proofs.Try.f25.body.bind (comp Go.Proofs.Try.prog 119 [2, 3, 9, 13] []) = some c25 := by kernel_rfl

theorem r25 : cRVs Go.Proofs.Try.prog Go.Proofs.Try.f25.results.toList = some [RV.t 4] := by kernel_rfl

theorem e25 {args : List Value} {h : Hp} {Q : Value → Hp → Prop} (hl : Nat.ble args.length 119 = true) (hk : codeK PR none c25 (retK Q [RV.t 4]) (fun _ _ _ _ => False) (retK Q [RV.t 4]) (argsE 0 args) [] h) : Ok PR 25 args h Q :=
  Ok.of mixed Go.Proofs.Try.func25 rfl k25 r25 hl hk

def c26 : IC := IC.seq (IC.ops [I.mk none (some 1) Ef.bx [X.t 0], I.mk none (some 2) (Ef.al [Value.bool false, Value.pointer none, Value.pointer none, Value.pointer none]) []]) 
  (IC.seq 
  (IC.seq (IC.ops [I.mk none (some 3) (Ef.pr (Pr.fa 0)) [X.t 1], I.mk none (some 4) (Ef.pr (Pr.ld 1 false)) [X.t 3]]) 
  (IC.cond (X.t 4) 
  (IC.seq (IC.plan (Plan.q (I.mk none (some 5) (Ef.pr (Pr.fa 2)) [X.t 1]) (Plan.q (I.mk none (some 6) (Ef.pr (Pr.ld 1 false)) [X.t 5]) (Plan.q (I.mk none (some 8) (Ef.pr (Pr.fa 3)) [X.t 1]) (Plan.q (I.mk none (some 9) (Ef.pr (Pr.ld 1 false)) [X.t 8]) (Plan.br (PlanL.cons true false (I.mk none (some 7) (Ef.call 33) [X.t 6]) (Plan.br (PlanL.cons false false (I.mk none (some 10) (Ef.call 86) [X.t 9]) (Plan.q (I.mk none (some 11) (Ef.pr (Pr.bld [Value.bool false, Value.pointer none, Value.pointer none, Value.pointer none] [(0, 1), (1, 1), (3, 1)])) [X.c (Value.bool false), X.t 7, X.t 10]) (Plan.br (PlanL.cons false false (I.mk none none (Ef.st 4) [X.t 2, X.t 11]) Plan.done PlanL.nil))) PlanL.nil)) PlanL.nil))))))) IC.ret) IC.skip)) 
  (IC.seq (IC.plan (Plan.q (I.mk none (some 12) (Ef.pr (Pr.fa 1)) [X.t 1]) (Plan.q (I.mk none (some 13) (Ef.pr (Pr.ld 1 false)) [X.t 12]) (Plan.q (I.mk none (some 15) (Ef.pr (Pr.fa 3)) [X.t 1]) (Plan.q (I.mk none (some 16) (Ef.pr (Pr.ld 1 false)) [X.t 15]) (Plan.br (PlanL.cons true false (I.mk none (some 14) (Ef.call 30) [X.t 13]) (Plan.br (PlanL.cons false false (I.mk none (some 17) (Ef.call 86) [X.t 16]) (Plan.q (I.mk none (some 18) (Ef.pr (Pr.bld [Value.bool false, Value.pointer none, Value.pointer none, Value.pointer none] [(0, 1), (2, 1), (3, 1)])) [X.c (Value.bool true), X.t 14, X.t 17]) (Plan.br (PlanL.cons false false (I.mk none none (Ef.st 4) [X.t 2, X.t 18]) Plan.done PlanL.nil))) PlanL.nil)) PlanL.nil))))))) IC.ret))

theorem k26 : Go.Proofs.Try.f26.body.bind (comp Go.Proofs.Try.prog 19 [1, 2] []) = some c26 := by kernel_rfl

theorem r26 : cRVs Go.Proofs.Try.prog Go.Proofs.Try.f26.results.toList = some [RV.c 2 4 true] := by kernel_rfl

theorem e26 {args : List Value} {h : Hp} {Q : Value → Hp → Prop} (hl : Nat.ble args.length 19 = true) (hk : codeK PR none c26 (retK Q [RV.c 2 4 true]) (fun _ _ _ _ => False) (retK Q [RV.c 2 4 true]) (argsE 0 args) [] h) : Ok PR 26 args h Q :=
  Ok.of mixed Go.Proofs.Try.func26 rfl k26 r26 hl hk

def c77 : IC := IC.seq (IC.ops [I.mk none (some 6) (Ef.pr Pr.mv) [X.c (Value.bool false)]]) 
  (IC.seq (IC.ops [I.mk none (some 9) (Ef.pr Pr.mv) [X.t 0], I.mk none (some 10) (Ef.pr Pr.mv) [X.t 1], I.mk none (some 11) (Ef.call 108) [X.t 9, X.t 10], I.mk none (some 7) (Ef.pr Pr.mv) [X.t 11]]) 
  (IC.seq (IC.ops [I.mk none (some 12) (Ef.pr Pr.mv) [X.t 0], I.mk none (some 13) (Ef.pr Pr.mv) [X.t 2], I.mk none (some 14) (Ef.call 109) [X.t 12, X.t 13], I.mk none (some 8) (Ef.pr Pr.mv) [X.t 14]]) 
  (IC.seq 
  (IC.seq (IC.ops [I.mk none (some 15) (Ef.pr Pr.mv) [X.t 7], I.mk none (some 16) (Ef.pr (Pr.cm BinOp.geq)) [X.t 15, X.c (Value.int IntKind.i64 0)], I.mk none (some 17) (Ef.pr Pr.mv) [X.t 16], I.mk (some (17, false)) (some 18) (Ef.pr Pr.mv) [X.t 8], I.mk (some (17, false)) (some 19) (Ef.pr (Pr.cm BinOp.geq)) [X.t 18, X.c (Value.int IntKind.i64 0)], I.mk none (some 20) (Ef.pr Pr.pick) [X.t 17, X.c (Value.bool true), X.t 19]]) 
  (IC.cond (X.t 20) 
  (IC.seq (IC.ops [I.mk none (some 21) (Ef.pr Pr.mv) [X.t 7], I.mk none (some 22) (Ef.pr Pr.mv) [X.t 8], I.mk none (some 23) (Ef.pr (Pr.cm BinOp.eql)) [X.t 21, X.t 22], I.mk none (some 6) (Ef.pr Pr.mv) [X.t 23]]) IC.ret) IC.skip)) 
  (IC.seq (IC.ops [I.mk none (some 24) (Ef.pr Pr.mv) [X.t 0], I.mk none (some 25) (Ef.pr Pr.mv) [X.t 0], I.mk none (some 26) (Ef.pr Pr.nilc) [X.t 25], I.mk none (some 27) (Ef.pr (Pr.fa 0)) [X.t 26], I.mk none (some 28) (Ef.pr (Pr.ld 1 false)) [X.t 27], I.mk none (some 29) (Ef.pr Pr.mv) [X.t 1], I.mk none (some 30) (Ef.pr Pr.mv) [X.t 2], I.mk none (some 31) (Ef.pr (Pr.bld [Value.int IntKind.i64 0, Value.int IntKind.i64 0] [(0, 1), (1, 1)])) [X.t 29, X.t 30], I.mk none (some 32) (Ef.bsl [Value.int IntKind.i64 0, Value.int IntKind.i64 0] 148 1 2 [0]) [X.t 31], I.mk none (some 33) (Ef.app [Value.int IntKind.i64 0, Value.int IntKind.i64 0] 148 16) [X.t 28, X.t 32], I.mk none (some 34) (Ef.pr Pr.nilc) [X.t 24], I.mk none (some 35) (Ef.pr (Pr.fa 0)) [X.t 34], I.mk none none (Ef.st 1) [X.t 35, X.t 33]]) 
  (IC.seq (IC.ops [I.mk none (some 6) (Ef.pr Pr.mv) [X.c (Value.bool true)]]) IC.ret)))))

theorem k77 : Go.Proofs.Try.f77.body.bind (comp Go.Proofs.Try.prog 36 [] []) = some c77 := by kernel_rfl

theorem r77 : cRVs Go.Proofs.Try.prog Go.Proofs.Try.f77.results.toList = some [RV.t 6] := by kernel_rfl

theorem e77 {args : List Value} {h : Hp} {Q : Value → Hp → Prop} (hl : Nat.ble args.length 36 = true) (hk : codeK PR none c77 (retK Q [RV.t 6]) (fun _ _ _ _ => False) (retK Q [RV.t 6]) (argsE 0 args) [] h) : Ok PR 77 args h Q :=
  Ok.of mixed Go.Proofs.Try.func77 rfl k77 r77 hl hk

def c79 : IC := IC.seq (IC.ops [I.mk none (some 4) (Ef.pr Pr.mv) [X.c (Value.bool false)]]) 
  (IC.seq (IC.ops [I.mk none (some 8) (Ef.pr Pr.mv) [X.t 0], I.mk none (some 9) (Ef.pr Pr.mv) [X.t 1], I.mk none (some 10) (Ef.call 108) [X.t 8, X.t 9], I.mk none (some 5) (Ef.pr Pr.mv) [X.t 10]]) 
  (IC.seq 
  (IC.seq (IC.ops [I.mk none (some 11) (Ef.pr Pr.mv) [X.t 5], I.mk none (some 12) (Ef.pr (Pr.cm BinOp.lss)) [X.t 11, X.c (Value.int IntKind.i64 0)]]) 
  (IC.cond (X.t 12) 
  (IC.seq (IC.ops [I.mk none (some 4) (Ef.pr Pr.mv) [X.c (Value.bool false)]]) IC.ret) IC.skip)) 
  (IC.seq (IC.ops [I.mk none (some 6) (Ef.pr Pr.mv) [X.c (Value.slice none 0 0)]]) 
  (IC.seq 
  (IC.seq (IC.ops [I.mk none (some 7) (Ef.pr Pr.mv) [X.c (Value.int IntKind.i64 0)]]) 
  (IC.block 0 
  (IC.loop 
  (IC.seq 
  (IC.seq (IC.ops [I.mk none (some 13) (Ef.pr Pr.mv) [X.t 7], I.mk none (some 14) (Ef.pr Pr.mv) [X.t 0], I.mk none (some 15) (Ef.pr Pr.nilc) [X.t 14], I.mk none (some 16) (Ef.pr (Pr.fa 0)) [X.t 15], I.mk none (some 17) (Ef.pr (Pr.ld 1 false)) [X.t 16], I.mk none (some 18) (Ef.pr Pr.lenS) [X.t 17], I.mk none (some 19) (Ef.pr (Pr.cm BinOp.lss)) [X.t 13, X.t 18]]) 
  (IC.cond (X.t 19) IC.skip (IC.exit 0))) 
  (IC.seq 
  (IC.block 1 
  (IC.seq (IC.ops [I.mk none (some 22) (Ef.pr Pr.mv) [X.t 7], I.mk none (some 23) (Ef.pr Pr.mv) [X.t 5], I.mk none (some 24) (Ef.pr (Pr.cm BinOp.neq)) [X.t 22, X.t 23]]) 
  (IC.cond (X.t 24) (IC.ops [I.mk none (some 25) (Ef.pr Pr.mv) [X.t 6], I.mk none (some 26) (Ef.pr Pr.mv) [X.t 0], I.mk none (some 27) (Ef.pr Pr.nilc) [X.t 26], I.mk none (some 28) (Ef.pr (Pr.fa 0)) [X.t 27], I.mk none (some 29) (Ef.pr (Pr.ld 1 false)) [X.t 28], I.mk none (some 30) (Ef.pr Pr.mv) [X.t 7], I.mk none (some 31) (Ef.pr (Pr.iaS 2)) [X.t 29, X.t 30], I.mk none (some 32) (Ef.pr (Pr.ld 2 true)) [X.t 31], I.mk none (some 33) (Ef.bsl [Value.int IntKind.i64 0, Value.int IntKind.i64 0] 148 1 2 [0]) [X.t 32], I.mk none (some 34) (Ef.app [Value.int IntKind.i64 0, Value.int IntKind.i64 0] 148 16) [X.t 25, X.t 33], I.mk none (some 6) (Ef.pr Pr.mv) [X.t 34]]) IC.skip))) (IC.ops [I.mk none (some 20) (Ef.pr Pr.mv) [X.t 7], I.mk none (some 21) (Ef.pr (Pr.ar BinOp.add)) [X.t 20, X.c (Value.int IntKind.i64 1)], I.mk none (some 7) (Ef.pr Pr.mv) [X.t 21]])))))) 
  (IC.seq (IC.ops [I.mk none (some 35) (Ef.pr Pr.mv) [X.t 0], I.mk none (some 36) (Ef.pr Pr.mv) [X.t 6], I.mk none (some 37) (Ef.pr Pr.nilc) [X.t 35], I.mk none (some 38) (Ef.pr (Pr.fa 0)) [X.t 37], I.mk none none (Ef.st 1) [X.t 38, X.t 36]]) 
  (IC.seq (IC.ops [I.mk none (some 4) (Ef.pr Pr.mv) [X.c (Value.bool true)]]) IC.ret))))))

theorem k79 : Go.Proofs.Try.f79.body.bind (comp Go.Proofs.Try.prog 39 [] []) = some c79 := by kernel_rfl

theorem r79 : cRVs Go.Proofs.Try.prog Go.Proofs.Try.f79.results.toList = some [RV.t 4] := by kernel_rfl

theorem e79 {args : List Value} {h : Hp} {Q : Value → Hp → Prop} (hl : Nat.ble args.length 39 = true) (hk : codeK PR none c79 (retK Q [RV.t 4]) (fun _ _ _ _ => False) (retK Q [RV.t 4]) (argsE 0 args) [] h) : Ok PR 79 args h Q :=
  Ok.of mixed Go.Proofs.Try.func79 rfl k79 r79 hl hk

def c81 : IC := IC.seq (IC.ops [I.mk none (some 4) (Ef.pr Pr.mv) [X.c (Value.int IntKind.i64 0)], I.mk none (some 5) (Ef.pr Pr.mv) [X.c (Value.bool false)]]) 
  (IC.seq (IC.ops [I.mk none (some 7) (Ef.pr Pr.mv) [X.t 0], I.mk none (some 8) (Ef.pr Pr.mv) [X.t 1], I.mk none (some 9) (Ef.call 108) [X.t 7, X.t 8], I.mk none (some 6) (Ef.pr Pr.mv) [X.t 9]]) 
  (IC.seq 
  (IC.seq (IC.ops [I.mk none (some 10) (Ef.pr Pr.mv) [X.t 6], I.mk none (some 11) (Ef.pr (Pr.cm BinOp.lss)) [X.t 10, X.c (Value.int IntKind.i64 0)]]) 
  (IC.cond (X.t 11) 
  (IC.seq (IC.ops [I.mk none (some 4) (Ef.pr Pr.mv) [X.c (Value.int IntKind.i64 0)], I.mk none (some 5) (Ef.pr Pr.mv) [X.c (Value.bool false)]]) IC.ret) IC.skip)) 
  (IC.seq (IC.ops [I.mk none (some 12) (Ef.pr Pr.mv) [X.t 0], I.mk none (some 13) (Ef.pr Pr.nilc) [X.t 12], I.mk none (some 14) (Ef.pr (Pr.fa 0)) [X.t 13], I.mk none (some 15) (Ef.pr (Pr.ld 1 false)) [X.t 14], I.mk none (some 16) (Ef.pr Pr.mv) [X.t 6], I.mk none (some 17) (Ef.pr (Pr.iaS 2)) [X.t 15, X.t 16], I.mk none (some 18) (Ef.pr (Pr.fa 1)) [X.t 17], I.mk none (some 19) (Ef.pr (Pr.ld 1 false)) [X.t 18], I.mk none (some 4) (Ef.pr Pr.mv) [X.t 19], I.mk none (some 5) (Ef.pr Pr.mv) [X.c (Value.bool true)]]) IC.ret)))

theorem k81 : Go.Proofs.Try.f81.body.bind (comp Go.Proofs.Try.prog 20 [] []) = some c81 := by kernel_rfl

theorem r81 : cRVs Go.Proofs.Try.prog Go.Proofs.Try.f81.results.toList = some [RV.t 4, RV.t 5] := by kernel_rfl

theorem e81 {args : List Value} {h : Hp} {Q : Value → Hp → Prop} (hl : Nat.ble args.length 20 = true) (hk : codeK PR none c81 (retK Q [RV.t 4, RV.t 5]) (fun _ _ _ _ => False) (retK Q [RV.t 4, RV.t 5]) (argsE 0 args) [] h) : Ok PR 81 args h Q :=
  Ok.of mixed Go.Proofs.Try.func81 rfl k81 r81 hl hk

def c82 : IC := IC.seq (IC.ops [I.mk none (some 8) (Ef.pr Pr.mv) [X.c (Value.bool false)]]) 
  (IC.seq (IC.ops [I.mk none (some 9) (Ef.pr Pr.mv) [X.t 1], I.mk none (some 10) (Ef.pr Pr.mv) [X.t 3], I.mk none (some 11) (Ef.pr (Pr.eq false (EqT.one EqS.b))) [X.t 9, X.t 10], I.mk none (some 12) (Ef.pr Pr.mv) [X.t 11], I.mk (some (12, true)) (some 13) (Ef.pr Pr.mv) [X.t 3], I.mk (some (12, true)) (some 14) (Ef.pr Pr.mv) [X.t 13], I.mk (some (14, true)) (some 15) (Ef.pr Pr.mv) [X.t 0], I.mk (some (14, true)) (some 16) (Ef.pr Pr.mv) [X.t 2], I.mk (some (14, true)) (some 17) (Ef.pr (Pr.cm BinOp.eql)) [X.t 15, X.t 16], I.mk (some (12, true)) (some 18) (Ef.pr Pr.pick) [X.t 14, X.t 17, X.c (Value.bool false)], I.mk (some (12, true)) (some 19) (Ef.pr Pr.mv) [X.t 18], I.mk (some (19, false)) (some 20) (Ef.pr Pr.mv) [X.t 3], I.mk (some (19, false)) (some 21) (Ef.pr (Pr.un UnOp.not)) [X.t 20], I.mk (some (19, false)) (some 22) (Ef.pr Pr.mv) [X.t 21], I.mk (some (22, true)) (some 23) (Ef.pr Pr.mv) [X.t 0], I.mk (some (22, true)) (some 24) (Ef.pr (Pr.cm BinOp.eql)) [X.t 23, X.c (Value.int IntKind.i64 0)], I.mk (some (19, false)) (some 25) (Ef.pr Pr.pick) [X.t 22, X.t 24, X.c (Value.bool false)], I.mk (some (12, true)) (some 26) (Ef.pr Pr.pick) [X.t 19, X.c (Value.bool true), X.t 25], I.mk none (some 27) (Ef.pr Pr.pick) [X.t 12, X.t 26, X.c (Value.bool false)], I.mk none (some 8) (Ef.pr Pr.mv) [X.t 27]]) IC.ret)

theorem k82 : Go.Proofs.Try.f82.body.bind (comp Go.Proofs.Try.prog 28 [] []) = some c82 := by kernel_rfl

theorem r82 : cRVs Go.Proofs.Try.prog Go.Proofs.Try.f82.results.toList = some [RV.t 8] := by kernel_rfl

theorem e82 {args : List Value} {h : Hp} {Q : Value → Hp → Prop} (hl : Nat.ble args.length 28 = true) (hk : codeK PR none c82 (retK Q [RV.t 8]) (fun _ _ _ _ => False) (retK Q [RV.t 8]) (argsE 0 args) [] h) : Ok PR 82 args h Q :=
  Ok.of mixed Go.Proofs.Try.func82 rfl k82 r82 hl hk

def c83 : IC := IC.seq (IC.ops [I.mk none (some 4) Ef.bx [X.t 0], I.mk none (some 8) (Ef.pr Pr.mv) [X.c (Value.bool false)]]) 
  (IC.seq (IC.plan (Plan.q (I.mk none (some 9) (Ef.pr Pr.mv) [X.t 1]) (Plan.q (I.mk none (some 10) (Ef.pr Pr.mv) [X.t 3]) (Plan.q (I.mk none (some 11) (Ef.pr (Pr.eq false (EqT.one EqS.b))) [X.t 9, X.t 10]) (Plan.q (I.mk none (some 12) (Ef.pr Pr.mv) [X.t 11]) (Plan.q (I.mk (some (12, true)) (some 13) (Ef.pr Pr.mv) [X.t 3]) (Plan.q (I.mk (some (12, true)) (some 14) (Ef.pr Pr.mv) [X.t 13]) (Plan.q (I.mk (some (14, true)) (some 15) (Ef.pr (Pr.ld 3 true)) [X.t 4]) (Plan.q (I.mk (some (14, true)) (some 16) (Ef.pr Pr.mv) [X.t 2]) (Plan.br (PlanL.cons true false (I.mk (some (14, true)) (some 17) (Ef.call 28) [X.t 16]) (Plan.q (I.mk (some (14, true)) (some 18) (Ef.pr (Pr.eq false (EqT.ag [(0, EqS.s), (1, EqS.i), (2, EqS.i)]))) [X.t 15, X.t 17]) (Plan.q (I.mk (some (12, true)) (some 19) (Ef.pr Pr.pick) [X.t 14, X.t 18, X.c (Value.bool false)]) (Plan.q (I.mk (some (12, true)) (some 20) (Ef.pr Pr.mv) [X.t 19]) (Plan.q (I.mk (some (20, false)) (some 21) (Ef.pr Pr.mv) [X.t 3]) (Plan.q (I.mk (some (20, false)) (some 22) (Ef.pr (Pr.un UnOp.not)) [X.t 21]) (Plan.q (I.mk (some (20, false)) (some 23) (Ef.pr Pr.mv) [X.t 22]) (Plan.q (I.mk (some (23, true)) (some 24) (Ef.pr (Pr.ld 3 true)) [X.t 4]) (Plan.q (I.mk (some (23, true)) (some 25) (Ef.pr (Pr.bld [Value.string (ByteArray.mk (Array.mk [])), Value.int IntKind.i64 0, Value.int IntKind.i64 0] [])) []) (Plan.q (I.mk (some (23, true)) (some 26) (Ef.pr (Pr.eq false (EqT.ag [(0, EqS.s), (1, EqS.i), (2, EqS.i)]))) [X.t 24, X.t 25]) (Plan.q (I.mk (some (20, false)) (some 27) (Ef.pr Pr.pick) [X.t 23, X.t 26, X.c (Value.bool false)]) (Plan.q (I.mk (some (12, true)) (some 28) (Ef.pr Pr.pick) [X.t 20, X.c (Value.bool true), X.t 27]) (Plan.q (I.mk none (some 29) (Ef.pr Pr.pick) [X.t 12, X.t 28, X.c (Value.bool false)]) (Plan.q (I.mk none (some 8) (Ef.pr Pr.mv) [X.t 29]) Plan.done))))))))))))) PlanL.nil))))))))))) IC.ret)

theorem k83 : Go.Proofs.Try.f83.body.bind (comp Go.Proofs.Try.prog 30 [4] []) = some c83 := by kernel_rfl

theorem r83 : cRVs Go.Proofs.Try.prog Go.Proofs.Try.f83.results.toList = some [RV.t 8] := by kernel_rfl

theorem e83 {args : List Value} {h : Hp} {Q : Value → Hp → Prop} (hl : Nat.ble args.length 30 = true) (hk : codeK PR none c83 (retK Q [RV.t 8]) (fun _ _ _ _ => False) (retK Q [RV.t 8]) (argsE 0 args) [] h) : Ok PR 83 args h Q :=
  Ok.of mixed Go.Proofs.Try.func83 rfl k83 r83 hl hk

def c84 : IC := IC.seq (IC.ops [I.mk none (some 4) (Ef.pr Pr.mv) [X.c (Value.int IntKind.i64 0)], I.mk none (some 5) (Ef.pr Pr.mv) [X.c (Value.bool false)]]) 
  (IC.seq (IC.ops [I.mk none (some 7) (Ef.pr Pr.mv) [X.t 0], I.mk none (some 8) (Ef.pr Pr.mv) [X.t 1], I.mk none (some 9) (Ef.call 109) [X.t 7, X.t 8], I.mk none (some 6) (Ef.pr Pr.mv) [X.t 9]]) 
  (IC.seq 
  (IC.seq (IC.ops [I.mk none (some 10) (Ef.pr Pr.mv) [X.t 6], I.mk none (some 11) (Ef.pr (Pr.cm BinOp.lss)) [X.t 10, X.c (Value.int IntKind.i64 0)]]) 
  (IC.cond (X.t 11) 
  (IC.seq (IC.ops [I.mk none (some 4) (Ef.pr Pr.mv) [X.c (Value.int IntKind.i64 0)], I.mk none (some 5) (Ef.pr Pr.mv) [X.c (Value.bool false)]]) IC.ret) IC.skip)) 
  (IC.seq (IC.ops [I.mk none (some 12) (Ef.pr Pr.mv) [X.t 0], I.mk none (some 13) (Ef.pr Pr.nilc) [X.t 12], I.mk none (some 14) (Ef.pr (Pr.fa 0)) [X.t 13], I.mk none (some 15) (Ef.pr (Pr.ld 1 false)) [X.t 14], I.mk none (some 16) (Ef.pr Pr.mv) [X.t 6], I.mk none (some 17) (Ef.pr (Pr.iaS 2)) [X.t 15, X.t 16], I.mk none (some 18) (Ef.pr (Pr.fa 0)) [X.t 17], I.mk none (some 19) (Ef.pr (Pr.ld 1 false)) [X.t 18], I.mk none (some 4) (Ef.pr Pr.mv) [X.t 19], I.mk none (some 5) (Ef.pr Pr.mv) [X.c (Value.bool true)]]) IC.ret)))

theorem k84 : Go.Proofs.Try.f84.body.bind (comp Go.Proofs.Try.prog 20 [] []) = some c84 := by kernel_rfl

theorem r84 : cRVs Go.Proofs.Try.prog Go.Proofs.Try.f84.results.toList = some [RV.t 4, RV.t 5] := by kernel_rfl

theorem e84 {args : List Value} {h : Hp} {Q : Value → Hp → Prop} (hl : Nat.ble args.length 20 = true) (hk : codeK PR none c84 (retK Q [RV.t 4, RV.t 5]) (fun _ _ _ _ => False) (retK Q [RV.t 4, RV.t 5]) (argsE 0 args) [] h) : Ok PR 84 args h Q :=
  Ok.of mixed Go.Proofs.Try.func84 rfl k84 r84 hl hk

def c86 : IC := IC.seq (IC.ops [I.mk none (some 2) (Ef.pr Pr.mv) [X.c (Value.pointer none)]]) 
  (IC.seq (IC.ops [I.mk none (some 5) (Ef.pr (Pr.bld [Value.slice none 0 0] [])) [], I.mk none (some 6) (Ef.bxh 43) [X.t 5], I.mk none (some 3) (Ef.pr Pr.mv) [X.t 6]]) 
  (IC.seq 
  (IC.seq (IC.ops [I.mk none (some 4) (Ef.pr Pr.mv) [X.c (Value.int IntKind.i64 0)]]) 
  (IC.block 0 
  (IC.loop 
  (IC.seq 
  (IC.seq (IC.ops [I.mk none (some 7) (Ef.pr Pr.mv) [X.t 4], I.mk none (some 8) (Ef.pr Pr.mv) [X.t 0], I.mk none (some 9) (Ef.pr Pr.nilc) [X.t 8], I.mk none (some 10) (Ef.pr (Pr.fa 0)) [X.t 9], I.mk none (some 11) (Ef.pr (Pr.ld 1 false)) [X.t 10], I.mk none (some 12) (Ef.pr Pr.lenS) [X.t 11], I.mk none (some 13) (Ef.pr (Pr.cm BinOp.lss)) [X.t 7, X.t 12]]) 
  (IC.cond (X.t 13) IC.skip (IC.exit 0))) 
  (IC.seq 
  (IC.block 1 (IC.plan (Plan.q (I.mk none (some 16) (Ef.pr Pr.mv) [X.t 3]) (Plan.q (I.mk none (some 17) (Ef.pr Pr.mv) [X.t 3]) (Plan.q (I.mk none (some 18) (Ef.pr Pr.nilc) [X.t 17]) (Plan.q (I.mk none (some 19) (Ef.pr (Pr.fa 0)) [X.t 18]) (Plan.q (I.mk none (some 20) (Ef.pr (Pr.ld 1 false)) [X.t 19]) (Plan.q (I.mk none (some 21) (Ef.pr Pr.mv) [X.t 0]) (Plan.q (I.mk none (some 22) (Ef.pr Pr.nilc) [X.t 21]) (Plan.q (I.mk none (some 23) (Ef.pr (Pr.fa 0)) [X.t 22]) (Plan.q (I.mk none (some 24) (Ef.pr (Pr.ld 1 false)) [X.t 23]) (Plan.q (I.mk none (some 25) (Ef.pr Pr.mv) [X.t 4]) (Plan.q (I.mk none (some 26) (Ef.pr (Pr.iaS 2)) [X.t 24, X.t 25]) (Plan.q (I.mk none (some 27) (Ef.pr (Pr.fa 1)) [X.t 26]) (Plan.q (I.mk none (some 28) (Ef.pr (Pr.ld 1 false)) [X.t 27]) (Plan.q (I.mk none (some 29) (Ef.pr Pr.mv) [X.t 0]) (Plan.q (I.mk none (some 30) (Ef.pr Pr.nilc) [X.t 29]) (Plan.q (I.mk none (some 31) (Ef.pr (Pr.fa 0)) [X.t 30]) (Plan.q (I.mk none (some 32) (Ef.pr (Pr.ld 1 false)) [X.t 31]) (Plan.q (I.mk none (some 33) (Ef.pr Pr.mv) [X.t 4]) (Plan.q (I.mk none (some 34) (Ef.pr (Pr.iaS 2)) [X.t 32, X.t 33]) (Plan.q (I.mk none (some 35) (Ef.pr (Pr.fa 0)) [X.t 34]) (Plan.q (I.mk none (some 36) (Ef.pr (Pr.ld 1 false)) [X.t 35]) (Plan.q (I.mk none (some 37) (Ef.pr (Pr.bld [Value.int IntKind.i64 0, Value.int IntKind.i64 0] [(0, 1), (1, 1)])) [X.t 28, X.t 36]) (Plan.br (PlanL.cons true false (I.mk none (some 38) (Ef.bsl [Value.int IntKind.i64 0, Value.int IntKind.i64 0] 148 1 2 [0]) [X.t 37]) (Plan.br (PlanL.cons false false (I.mk none (some 39) (Ef.app [Value.int IntKind.i64 0, Value.int IntKind.i64 0] 148 16) [X.t 20, X.t 38]) (Plan.q (I.mk none (some 40) (Ef.pr Pr.nilc) [X.t 16]) (Plan.q (I.mk none (some 41) (Ef.pr (Pr.fa 0)) [X.t 40]) (Plan.br (PlanL.cons false false (I.mk none none (Ef.st 1) [X.t 41, X.t 39]) Plan.done PlanL.nil)))) PlanL.nil)) PlanL.nil)))))))))))))))))))))))))) (IC.ops [I.mk none (some 14) (Ef.pr Pr.mv) [X.t 4], I.mk none (some 15) (Ef.pr (Pr.ar BinOp.add)) [X.t 14, X.c (Value.int IntKind.i64 1)], I.mk none (some 4) (Ef.pr Pr.mv) [X.t 15]])))))) 
  (IC.seq (IC.ops [I.mk none (some 42) (Ef.pr Pr.mv) [X.t 3], I.mk none (some 2) (Ef.pr Pr.mv) [X.t 42]]) IC.ret)))

theorem k86 : Go.Proofs.Try.f86.body.bind (comp Go.Proofs.Try.prog 43 [] []) = some c86 := by kernel_rfl

theorem r86 : cRVs Go.Proofs.Try.prog Go.Proofs.Try.f86.results.toList = some [RV.t 2] := by kernel_rfl

theorem e86 {args : List Value} {h : Hp} {Q : Value → Hp → Prop} (hl : Nat.ble args.length 43 = true) (hk : codeK PR none c86 (retK Q [RV.t 2]) (fun _ _ _ _ => False) (retK Q [RV.t 2]) (argsE 0 args) [] h) : Ok PR 86 args h Q :=
  Ok.of mixed Go.Proofs.Try.func86 rfl k86 r86 hl hk

def c108 : IC := IC.seq (IC.ops [I.mk none (some 4) (Ef.pr Pr.mv) [X.c (Value.int IntKind.i64 0)]]) 
  (IC.seq 
  (IC.seq (IC.ops [I.mk none (some 5) (Ef.pr Pr.mv) [X.c (Value.int IntKind.i64 0)]]) 
  (IC.block 0 
  (IC.loop 
  (IC.seq 
  (IC.seq (IC.ops [I.mk none (some 6) (Ef.pr Pr.mv) [X.t 5], I.mk none (some 7) (Ef.pr Pr.mv) [X.t 0], I.mk none (some 8) (Ef.pr Pr.nilc) [X.t 7], I.mk none (some 9) (Ef.pr (Pr.fa 0)) [X.t 8], I.mk none (some 10) (Ef.pr (Pr.ld 1 false)) [X.t 9], I.mk none (some 11) (Ef.pr Pr.lenS) [X.t 10], I.mk none (some 12) (Ef.pr (Pr.cm BinOp.lss)) [X.t 6, X.t 11]]) 
  (IC.cond (X.t 12) IC.skip (IC.exit 0))) 
  (IC.seq 
  (IC.block 1 
  (IC.seq (IC.ops [I.mk none (some 15) (Ef.pr Pr.mv) [X.t 0], I.mk none (some 16) (Ef.pr Pr.nilc) [X.t 15], I.mk none (some 17) (Ef.pr (Pr.fa 0)) [X.t 16], I.mk none (some 18) (Ef.pr (Pr.ld 1 false)) [X.t 17], I.mk none (some 19) (Ef.pr Pr.mv) [X.t 5], I.mk none (some 20) (Ef.pr (Pr.iaS 2)) [X.t 18, X.t 19], I.mk none (some 21) (Ef.pr (Pr.fa 0)) [X.t 20], I.mk none (some 22) (Ef.pr (Pr.ld 1 false)) [X.t 21], I.mk none (some 23) (Ef.pr Pr.mv) [X.t 1], I.mk none (some 24) (Ef.pr (Pr.cm BinOp.eql)) [X.t 22, X.t 23]]) 
  (IC.cond (X.t 24) 
  (IC.seq (IC.ops [I.mk none (some 25) (Ef.pr Pr.mv) [X.t 5], I.mk none (some 4) (Ef.pr Pr.mv) [X.t 25]]) IC.ret) IC.skip))) (IC.ops [I.mk none (some 13) (Ef.pr Pr.mv) [X.t 5], I.mk none (some 14) (Ef.pr (Pr.ar BinOp.add)) [X.t 13, X.c (Value.int IntKind.i64 1)], I.mk none (some 5) (Ef.pr Pr.mv) [X.t 14]])))))) 
  (IC.seq (IC.ops [I.mk none (some 4) (Ef.pr Pr.mv) [X.c (Value.int IntKind.i64 (-1))]]) IC.ret))

theorem k108 : Go.Proofs.Try.f108.body.bind (comp Go.Proofs.Try.prog 26 [] []) = some c108 := by kernel_rfl

theorem r108 : cRVs Go.Proofs.Try.prog Go.Proofs.Try.f108.results.toList = some [RV.t 4] := by kernel_rfl

theorem e108 {args : List Value} {h : Hp} {Q : Value → Hp → Prop} (hl : Nat.ble args.length 26 = true) (hk : codeK PR none c108 (retK Q [RV.t 4]) (fun _ _ _ _ => False) (retK Q [RV.t 4]) (argsE 0 args) [] h) : Ok PR 108 args h Q :=
  Ok.of mixed Go.Proofs.Try.func108 rfl k108 r108 hl hk

def c109 : IC := IC.seq (IC.ops [I.mk none (some 4) (Ef.pr Pr.mv) [X.c (Value.int IntKind.i64 0)]]) 
  (IC.seq 
  (IC.seq (IC.ops [I.mk none (some 5) (Ef.pr Pr.mv) [X.c (Value.int IntKind.i64 0)]]) 
  (IC.block 0 
  (IC.loop 
  (IC.seq 
  (IC.seq (IC.ops [I.mk none (some 6) (Ef.pr Pr.mv) [X.t 5], I.mk none (some 7) (Ef.pr Pr.mv) [X.t 0], I.mk none (some 8) (Ef.pr Pr.nilc) [X.t 7], I.mk none (some 9) (Ef.pr (Pr.fa 0)) [X.t 8], I.mk none (some 10) (Ef.pr (Pr.ld 1 false)) [X.t 9], I.mk none (some 11) (Ef.pr Pr.lenS) [X.t 10], I.mk none (some 12) (Ef.pr (Pr.cm BinOp.lss)) [X.t 6, X.t 11]]) 
  (IC.cond (X.t 12) IC.skip (IC.exit 0))) 
  (IC.seq 
  (IC.block 1 
  (IC.seq (IC.ops [I.mk none (some 15) (Ef.pr Pr.mv) [X.t 0], I.mk none (some 16) (Ef.pr Pr.nilc) [X.t 15], I.mk none (some 17) (Ef.pr (Pr.fa 0)) [X.t 16], I.mk none (some 18) (Ef.pr (Pr.ld 1 false)) [X.t 17], I.mk none (some 19) (Ef.pr Pr.mv) [X.t 5], I.mk none (some 20) (Ef.pr (Pr.iaS 2)) [X.t 18, X.t 19], I.mk none (some 21) (Ef.pr (Pr.fa 1)) [X.t 20], I.mk none (some 22) (Ef.pr (Pr.ld 1 false)) [X.t 21], I.mk none (some 23) (Ef.pr Pr.mv) [X.t 1], I.mk none (some 24) (Ef.pr (Pr.cm BinOp.eql)) [X.t 22, X.t 23]]) 
  (IC.cond (X.t 24) 
  (IC.seq (IC.ops [I.mk none (some 25) (Ef.pr Pr.mv) [X.t 5], I.mk none (some 4) (Ef.pr Pr.mv) [X.t 25]]) IC.ret) IC.skip))) (IC.ops [I.mk none (some 13) (Ef.pr Pr.mv) [X.t 5], I.mk none (some 14) (Ef.pr (Pr.ar BinOp.add)) [X.t 13, X.c (Value.int IntKind.i64 1)], I.mk none (some 5) (Ef.pr Pr.mv) [X.t 14]])))))) 
  (IC.seq (IC.ops [I.mk none (some 4) (Ef.pr Pr.mv) [X.c (Value.int IntKind.i64 (-1))]]) IC.ret))

theorem k109 : Go.Proofs.Try.f109.body.bind (comp Go.Proofs.Try.prog 26 [] []) = some c109 := by kernel_rfl

theorem r109 : cRVs Go.Proofs.Try.prog Go.Proofs.Try.f109.results.toList = some [RV.t 4] := by kernel_rfl

theorem e109 {args : List Value} {h : Hp} {Q : Value → Hp → Prop} (hl : Nat.ble args.length 26 = true) (hk : codeK PR none c109 (retK Q [RV.t 4]) (fun _ _ _ _ => False) (retK Q [RV.t 4]) (argsE 0 args) [] h) : Ok PR 109 args h Q :=
  Ok.of mixed Go.Proofs.Try.func109 rfl k109 r109 hl hk

def c4 : IC := IC.seq (IC.ops [I.mk none (some 2) (Ef.pr Pr.mv) [X.c (Value.bool false)]]) 
  (IC.seq 
  (IC.seq (IC.ops [I.mk none (some 9) (Ef.call 12) [], I.mk none (some 10) (Ef.pr (Pr.un UnOp.not)) [X.t 9]]) 
  (IC.cond (X.t 10) 
  (IC.seq (IC.ops [I.mk none (some 2) (Ef.pr Pr.mv) [X.c (Value.bool false)]]) IC.ret) IC.skip)) 
  (IC.seq (IC.ops [I.mk none (some 11) (Ef.call 20) [], I.mk none (some 12) (Ef.pr (Pr.bld [Value.slice none 0 0] [])) [], I.mk none (some 13) (Ef.bxh 43) [X.t 12], I.mk none (some 14) (Ef.pr (Pr.bld [Value.bool false, Value.pointer none, Value.pointer none, Value.pointer none] [(0, 1), (1, 1), (3, 1)])) [X.c (Value.bool false), X.t 11, X.t 13], I.mk none (some 15) (Ef.call 21) [], I.mk none (some 16) (Ef.pr (Pr.bld [Value.slice none 0 0] [])) [], I.mk none (some 17) (Ef.bxh 43) [X.t 16], I.mk none (some 18) (Ef.pr (Pr.bld [Value.bool false, Value.pointer none, Value.pointer none, Value.pointer none] [(0, 1), (2, 1), (3, 1)])) [X.c (Value.bool true), X.t 15, X.t 17], I.mk none (some 19) (Ef.bsl [Value.bool false, Value.pointer none, Value.pointer none, Value.pointer none] 46 2 4 [0, 1]) [X.t 14, X.t 18], I.mk none (some 3) (Ef.pr Pr.mv) [X.t 19]]) 
  (IC.seq 
  (IC.seq (IC.ops [I.mk none (some 20) (Ef.pr Pr.mv) [X.t 3], I.mk none (some 21) (Ef.pr (Pr.iaS 4)) [X.t 20, X.c (Value.int IntKind.i64 0)], I.mk none (some 22) (Ef.pr (Pr.ld 4 true)) [X.t 21], I.mk none (some 23) (Ef.call 22) [X.t 22], I.mk none (some 24) (Ef.pr Pr.mv) [X.t 23], I.mk (some (24, false)) (some 25) (Ef.pr Pr.mv) [X.t 3], I.mk (some (24, false)) (some 26) (Ef.pr (Pr.iaS 4)) [X.t 25, X.c (Value.int IntKind.i64 1)], I.mk (some (24, false)) (some 27) (Ef.pr (Pr.ld 4 true)) [X.t 26], I.mk (some (24, false)) (some 28) (Ef.call 22) [X.t 27], I.mk none (some 29) (Ef.pr Pr.pick) [X.t 24, X.c (Value.bool true), X.t 28]]) 
  (IC.cond (X.t 29) 
  (IC.seq (IC.ops [I.mk none (some 2) (Ef.pr Pr.mv) [X.c (Value.bool false)]]) IC.ret) IC.skip)) 
  (IC.seq 
  (IC.seq (IC.ops [I.mk none (some 4) (Ef.pr Pr.mv) [X.c (Value.int IntKind.i64 0)]]) 
  (IC.block 0 
  (IC.loop 
  (IC.seq 
  (IC.seq (IC.ops [I.mk none (some 30) (Ef.pr Pr.mv) [X.t 4], I.mk none (some 31) (Ef.pr Pr.mv) [X.t 0], I.mk none (some 32) (Ef.pr Pr.lenS) [X.t 31], I.mk none (some 33) (Ef.pr (Pr.cm BinOp.lss)) [X.t 30, X.t 32]]) 
  (IC.cond (X.t 33) IC.skip (IC.exit 0))) 
  (IC.seq 
  (IC.block 1 
  (IC.seq (IC.ops [I.mk none (some 36) (Ef.pr Pr.mv) [X.t 0], I.mk none (some 37) (Ef.pr Pr.mv) [X.t 4], I.mk none (some 38) (Ef.pr (Pr.iaS 4)) [X.t 36, X.t 37], I.mk none (some 39) (Ef.pr (Pr.ld 4 true)) [X.t 38], I.mk none (some 5) (Ef.al [Value.int IntKind.i64 0, Value.int IntKind.i64 0, Value.int IntKind.i64 0, Value.int IntKind.i64 0]) [], I.mk none none (Ef.st 4) [X.t 5, X.t 39]]) 
  (IC.seq (IC.ops [I.mk none (some 40) (Ef.pr Pr.mv) [X.t 3], I.mk none (some 41) (Ef.pr (Pr.fa 1)) [X.t 5], I.mk none (some 42) (Ef.pr (Pr.ld 1 false)) [X.t 41], I.mk none (some 43) (Ef.pr Pr.mv) [X.t 3], I.mk none (some 44) (Ef.pr Pr.lenS) [X.t 43], I.mk none (some 45) (Ef.call 23) [X.t 42, X.t 44], I.mk none (some 46) (Ef.pr (Pr.iaS 4)) [X.t 40, X.t 45], I.mk none (some 47) (Ef.pr (Pr.ld 4 true)) [X.t 46], I.mk none (some 6) (Ef.al [Value.bool false, Value.pointer none, Value.pointer none, Value.pointer none]) [], I.mk none none (Ef.st 4) [X.t 6, X.t 47]]) 
  (IC.seq (IC.ops [I.mk none (some 7) (Ef.pr Pr.mv) [X.c (Value.bool true)]]) 
  (IC.seq 
  (IC.seq (IC.ops [I.mk none (some 48) (Ef.pr (Pr.fa 0)) [X.t 5], I.mk none (some 49) (Ef.pr (Pr.ld 1 false)) [X.t 48]]) 
  (IC.block 2 
  (IC.seq 
  (IC.seq (IC.ops [I.mk none (some 51) (Ef.pr (Pr.cm BinOp.eql)) [X.t 49, X.c (Value.int IntKind.i64 1)], I.mk none (some 50) (Ef.pr Pr.mv) [X.t 51]]) 
  (IC.cond (X.t 50) IC.skip (IC.ops [I.mk none (some 52) (Ef.pr (Pr.cm BinOp.eql)) [X.t 49, X.c (Value.int IntKind.i64 4)], I.mk none (some 50) (Ef.pr Pr.mv) [X.t 52]]))) 
  (IC.cond (X.t 50) (IC.ops [I.mk none (some 53) (Ef.pr (Pr.ld 4 true)) [X.t 6], I.mk none (some 54) (Ef.pr (Pr.ld 4 true)) [X.t 5], I.mk none (some 55) (Ef.call 24) [X.t 53, X.t 54], I.mk none (some 7) (Ef.pr Pr.mv) [X.t 55]]) 
  (IC.seq 
  (IC.seq (IC.ops [I.mk none (some 57) (Ef.pr (Pr.cm BinOp.eql)) [X.t 49, X.c (Value.int IntKind.i64 2)], I.mk none (some 56) (Ef.pr Pr.mv) [X.t 57]]) 
  (IC.cond (X.t 56) IC.skip 
  (IC.seq (IC.ops [I.mk none (some 58) (Ef.pr (Pr.cm BinOp.eql)) [X.t 49, X.c (Value.int IntKind.i64 3)], I.mk none (some 56) (Ef.pr Pr.mv) [X.t 58]]) 
  (IC.cond (X.t 56) IC.skip (IC.ops [I.mk none (some 59) (Ef.pr (Pr.cm BinOp.eql)) [X.t 49, X.c (Value.int IntKind.i64 5)], I.mk none (some 56) (Ef.pr Pr.mv) [X.t 59]]))))) 
  (IC.cond (X.t 56) (IC.ops [I.mk none (some 60) (Ef.pr (Pr.ld 4 true)) [X.t 6], I.mk none (some 61) (Ef.pr (Pr.ld 4 true)) [X.t 5], I.mk none (some 62) (Ef.call 25) [X.t 60, X.t 61], I.mk none (some 7) (Ef.pr Pr.mv) [X.t 62]]) 
  (IC.seq (IC.ops [I.mk none (some 64) (Ef.pr (Pr.cm BinOp.eql)) [X.t 49, X.c (Value.int IntKind.i64 6)], I.mk none (some 63) (Ef.pr Pr.mv) [X.t 64]]) 
  (IC.cond (X.t 63) 
  (IC.seq (IC.ops [I.mk none (some 65) (Ef.pr Pr.mv) [X.t 3], I.mk none (some 66) (Ef.pr Pr.lenS) [X.t 65], I.mk none (some 67) (Ef.pr (Pr.cm BinOp.lss)) [X.t 66, X.c (Value.int IntKind.i64 6)]]) 
  (IC.cond (X.t 67) 
  (IC.seq (IC.ops [I.mk none (some 68) (Ef.pr (Pr.ld 4 true)) [X.t 6], I.mk none (some 69) (Ef.call 26) [X.t 68], I.mk none (some 8) (Ef.al [Value.bool false, Value.pointer none, Value.pointer none, Value.pointer none]) [], I.mk none none (Ef.st 4) [X.t 8, X.t 69]]) 
  (IC.seq 
  (IC.seq (IC.ops [I.mk none (some 70) (Ef.pr (Pr.ld 4 true)) [X.t 8], I.mk none (some 71) (Ef.call 22) [X.t 70]]) 
  (IC.cond (X.t 71) 
  (IC.seq (IC.ops [I.mk none (some 2) (Ef.pr Pr.mv) [X.c (Value.bool false)]]) IC.ret) IC.skip)) (IC.ops [I.mk none (some 72) (Ef.pr Pr.mv) [X.t 3], I.mk none (some 73) (Ef.pr (Pr.ld 4 true)) [X.t 8], I.mk none (some 74) (Ef.bsl [Value.bool false, Value.pointer none, Value.pointer none, Value.pointer none] 46 1 4 [0]) [X.t 73], I.mk none (some 75) (Ef.app [Value.bool false, Value.pointer none, Value.pointer none, Value.pointer none] 46 32) [X.t 72, X.t 74], I.mk none (some 3) (Ef.pr Pr.mv) [X.t 75]]))) IC.skip)) IC.skip)))))))) 
  (IC.seq (IC.ops [I.mk none (some 76) (Ef.pr Pr.mv) [X.t 7], I.mk none (some 77) (Ef.pr (Pr.un UnOp.not)) [X.t 76]]) 
  (IC.cond (X.t 77) 
  (IC.seq (IC.ops [I.mk none (some 2) (Ef.pr Pr.mv) [X.c (Value.bool false)]]) IC.ret) IC.skip))))))) (IC.ops [I.mk none (some 34) (Ef.pr Pr.mv) [X.t 4], I.mk none (some 35) (Ef.pr (Pr.ar BinOp.add)) [X.t 34, X.c (Value.int IntKind.i64 1)], I.mk none (some 4) (Ef.pr Pr.mv) [X.t 35]])))))) 
  (IC.seq (IC.ops [I.mk none (some 2) (Ef.pr Pr.mv) [X.c (Value.bool true)]]) IC.ret)))))

theorem k4 : Go.Proofs.Try.f4.body.bind (comp Go.Proofs.Try.prog 78 [5, 6, 8] []) = some c4 := by kernel_rfl

theorem r4 : cRVs Go.Proofs.Try.prog Go.Proofs.Try.f4.results.toList = some [RV.t 2] := by kernel_rfl

theorem e4 {args : List Value} {h : Hp} {Q : Value → Hp → Prop} (hl : Nat.ble args.length 78 = true) (hk : codeK PR none c4 (retK Q [RV.t 2]) (fun _ _ _ _ => False) (retK Q [RV.t 2]) (argsE 0 args) [] h) : Ok PR 4 args h Q :=
  Ok.of mixed Go.Proofs.Try.func4 rfl k4 r4 hl hk

end Go.Proofs.Ytkmknolkblcbeaa.V
