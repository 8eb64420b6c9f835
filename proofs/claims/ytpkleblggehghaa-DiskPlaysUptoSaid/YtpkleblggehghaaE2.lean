/- The functions 30, 31, 32, 33, 34, 35, 36, 44, 45, 46, 47, 48, 49, 50, 52, resolved. -/
import Derived.Test.YtpkleblggehghaaVP
namespace Go.Proofs.Ytpkleblggehghaa.V
set_option linter.unusedVariables false
set_option linter.unusedSimpArgs false
set_option linter.unusedSectionVars false
open Go
set_option maxRecDepth 100000

def c30 : IC := IC.seq (IC.ops [I.mk none (some 4) (Ef.pr Pr.mv) [X.c (Value.slice none 0 0)]]) 
  (IC.seq (IC.ops [I.mk none (some 5) (Ef.pr Pr.mv) [X.c (Value.slice none 0 0)]]) 
  (IC.seq 
  (IC.seq (IC.ops [I.mk none (some 6) (Ef.pr Pr.mv) [X.c (Value.int IntKind.i64 0)]]) 
  (IC.block 0 
  (IC.loop 
  (IC.seq 
  (IC.seq (IC.ops [I.mk none (some 9) (Ef.pr Pr.mv) [X.t 6], I.mk none (some 10) (Ef.pr Pr.mv) [X.t 1], I.mk none (some 11) (Ef.pr Pr.lenS) [X.t 10], I.mk none (some 12) (Ef.pr (Pr.cm BinOp.lss)) [X.t 9, X.t 11]]) 
  (IC.cond (X.t 12) IC.skip (IC.exit 0))) 
  (IC.seq 
  (IC.block 1 
  (IC.seq (IC.ops [I.mk none (some 16) (Ef.pr Pr.mv) [X.t 0], I.mk none (some 17) (Ef.pr Pr.mv) [X.t 1], I.mk none (some 18) (Ef.pr Pr.mv) [X.t 6], I.mk none (some 19) (Ef.pr (Pr.iaS 2)) [X.t 17, X.t 18], I.mk none (some 20) (Ef.pr (Pr.fa 0)) [X.t 19], I.mk none (some 21) (Ef.pr (Pr.ld 1 false)) [X.t 20], I.mk none (some 22) (Ef.call 16) [X.t 21], I.mk none (some 23) (Ef.call 25) [X.t 16, X.t 22], I.mk none (some 15) (Ef.pr Pr.mv) [X.t 23], I.mk none (some 24) (Ef.pr (Pr.ext 0)) [X.t 15], I.mk none (some 25) (Ef.pr (Pr.ext 1)) [X.t 15], I.mk none (some 7) (Ef.pr Pr.mv) [X.t 24], I.mk none (some 8) (Ef.pr Pr.mv) [X.t 25]]) (IC.ops [I.mk none (some 26) (Ef.pr Pr.mv) [X.t 5], I.mk none (some 27) (Ef.pr Pr.mv) [X.t 7], I.mk none (some 28) (Ef.bsl [Value.slice none 0 0] 34 1 1 [0]) [X.t 27], I.mk none (some 29) (Ef.app [Value.slice none 0 0] 34 24) [X.t 26, X.t 28], I.mk none (some 5) (Ef.pr Pr.mv) [X.t 29]]))) (IC.ops [I.mk none (some 13) (Ef.pr Pr.mv) [X.t 6], I.mk none (some 14) (Ef.pr (Pr.ar BinOp.add)) [X.t 13, X.c (Value.int IntKind.i64 1)], I.mk none (some 6) (Ef.pr Pr.mv) [X.t 14]])))))) 
  (IC.seq (IC.ops [I.mk none (some 30) (Ef.pr Pr.mv) [X.t 5], I.mk none (some 4) (Ef.pr Pr.mv) [X.t 30]]) IC.ret)))

theorem k30 : Go.Proofs.Try.f30.body.bind (comp Go.Proofs.Try.prog 31 [] []) = some c30 := by kernel_rfl

theorem r30 : cRVs Go.Proofs.Try.prog Go.Proofs.Try.f30.results.toList = some [RV.t 4] := by kernel_rfl

theorem e30 {args : List Value} {h : Hp} {Q : Value → Hp → Prop} (hl : Nat.ble args.length 31 = true) (hk : codeK PR none c30 (retK Q [RV.t 4]) (fun _ _ _ _ => False) (retK Q [RV.t 4]) (argsE 0 args) [] h) : Ok PR 30 args h Q :=
  Ok.of mixed Go.Proofs.Try.func30 rfl k30 r30 hl hk

def c31 : IC := IC.seq (IC.ops [I.mk none (some 2) (Ef.pr Pr.mv) [X.c (Value.slice none 0 0)]]) 
  (IC.seq (IC.ops [I.mk none (some 3) (Ef.pr Pr.mv) [X.c (Value.slice none 0 0)]]) 
  (IC.seq 
  (IC.seq (IC.ops [I.mk none (some 4) (Ef.pr Pr.mv) [X.c (Value.int IntKind.i64 0)]]) 
  (IC.block 0 
  (IC.loop 
  (IC.seq 
  (IC.seq (IC.ops [I.mk none (some 5) (Ef.pr Pr.mv) [X.t 4], I.mk none (some 6) (Ef.pr Pr.mv) [X.t 0], I.mk none (some 7) (Ef.pr Pr.lenS) [X.t 6], I.mk none (some 8) (Ef.pr (Pr.cm BinOp.lss)) [X.t 5, X.t 7]]) 
  (IC.cond (X.t 8) IC.skip (IC.exit 0))) 
  (IC.seq 
  (IC.block 1 (IC.ops [I.mk none (some 11) (Ef.pr Pr.mv) [X.t 3], I.mk none (some 12) (Ef.pr Pr.mv) [X.t 0], I.mk none (some 13) (Ef.pr Pr.mv) [X.t 4], I.mk none (some 14) (Ef.pr (Pr.iaS 2)) [X.t 12, X.t 13], I.mk none (some 15) (Ef.pr (Pr.fa 0)) [X.t 14], I.mk none (some 16) (Ef.pr (Pr.ld 1 false)) [X.t 15], I.mk none (some 17) (Ef.call 16) [X.t 16], I.mk none (some 18) (Ef.pr (Pr.ar BinOp.add)) [X.t 17, X.c (Value.int IntKind.i64 1)], I.mk none (some 19) (Ef.pr (Pr.bld [Value.int IntKind.i64 0, Value.int IntKind.u8 0] [(0, 1)])) [X.t 18], I.mk none (some 20) (Ef.bsl [Value.int IntKind.i64 0, Value.int IntKind.u8 0] 30 1 2 [0]) [X.t 19], I.mk none (some 21) (Ef.app [Value.int IntKind.i64 0, Value.int IntKind.u8 0] 30 16) [X.t 11, X.t 20], I.mk none (some 3) (Ef.pr Pr.mv) [X.t 21]])) (IC.ops [I.mk none (some 9) (Ef.pr Pr.mv) [X.t 4], I.mk none (some 10) (Ef.pr (Pr.ar BinOp.add)) [X.t 9, X.c (Value.int IntKind.i64 1)], I.mk none (some 4) (Ef.pr Pr.mv) [X.t 10]])))))) 
  (IC.seq (IC.ops [I.mk none (some 22) (Ef.pr Pr.mv) [X.t 3], I.mk none (some 2) (Ef.pr Pr.mv) [X.t 22]]) IC.ret)))

theorem k31 : Go.Proofs.Try.f31.body.bind (comp Go.Proofs.Try.prog 23 [] []) = some c31 := by kernel_rfl

theorem r31 : cRVs Go.Proofs.Try.prog Go.Proofs.Try.f31.results.toList = some [RV.t 2] := by kernel_rfl

theorem e31 {args : List Value} {h : Hp} {Q : Value → Hp → Prop} (hl : Nat.ble args.length 23 = true) (hk : codeK PR none c31 (retK Q [RV.t 2]) (fun _ _ _ _ => False) (retK Q [RV.t 2]) (argsE 0 args) [] h) : Ok PR 31 args h Q :=
  Ok.of mixed Go.Proofs.Try.func31 rfl k31 r31 hl hk

def c32 : IC := IC.seq (IC.ops [I.mk none (some 6) (Ef.pr Pr.mv) [X.c (Value.int IntKind.i64 0)]]) 
  (IC.seq (IC.ops [I.mk none (some 7) (Ef.pr Pr.mv) [X.c (Value.int IntKind.i64 (-1))]]) 
  (IC.seq 
  (IC.seq (IC.ops [I.mk none (some 8) (Ef.pr Pr.mv) [X.c (Value.int IntKind.i64 0)]]) 
  (IC.block 0 
  (IC.loop 
  (IC.seq 
  (IC.seq (IC.ops [I.mk none (some 9) (Ef.pr Pr.mv) [X.t 8], I.mk none (some 10) (Ef.pr Pr.mv) [X.t 0], I.mk none (some 11) (Ef.pr Pr.lenS) [X.t 10], I.mk none (some 12) (Ef.pr (Pr.cm BinOp.lss)) [X.t 9, X.t 11], I.mk none (some 13) (Ef.pr Pr.mv) [X.t 12], I.mk (some (13, true)) (some 14) (Ef.pr Pr.mv) [X.t 8], I.mk (some (13, true)) (some 15) (Ef.pr Pr.mv) [X.t 1], I.mk (some (13, true)) (some 16) (Ef.pr Pr.lenS) [X.t 15], I.mk (some (13, true)) (some 17) (Ef.pr (Pr.cm BinOp.lss)) [X.t 14, X.t 16], I.mk none (some 18) (Ef.pr Pr.pick) [X.t 13, X.t 17, X.c (Value.bool false)]]) 
  (IC.cond (X.t 18) IC.skip (IC.exit 0))) 
  (IC.seq 
  (IC.block 1 
  (IC.seq (IC.plan (Plan.q (I.mk none (some 21) (Ef.pr Pr.mv) [X.t 1]) (Plan.q (I.mk none (some 22) (Ef.pr Pr.mv) [X.t 8]) (Plan.q (I.mk none (some 23) (Ef.pr (Pr.iaS 1)) [X.t 21, X.t 22]) (Plan.q (I.mk none (some 24) (Ef.pr (Pr.ld 1 false)) [X.t 23]) (Plan.q (I.mk none (some 25) (Ef.pr Pr.mv) [X.t 24]) (Plan.q (I.mk (some (25, true)) (some 26) (Ef.pr Pr.mv) [X.t 0]) (Plan.q (I.mk (some (25, true)) (some 27) (Ef.pr Pr.mv) [X.t 8]) (Plan.q (I.mk (some (25, true)) (some 28) (Ef.pr (Pr.iaS 2)) [X.t 26, X.t 27]) (Plan.q (I.mk (some (25, true)) (some 29) (Ef.pr (Pr.fa 0)) [X.t 28]) (Plan.q (I.mk (some (25, true)) (some 30) (Ef.pr (Pr.ld 1 false)) [X.t 29]) (Plan.q (I.mk (some (25, true)) (some 32) (Ef.pr Pr.mv) [X.t 0]) (Plan.q (I.mk (some (25, true)) (some 33) (Ef.pr Pr.mv) [X.t 2]) (Plan.q (I.mk (some (25, true)) (some 34) (Ef.pr (Pr.iaS 2)) [X.t 32, X.t 33]) (Plan.q (I.mk (some (25, true)) (some 35) (Ef.pr (Pr.fa 0)) [X.t 34]) (Plan.q (I.mk (some (25, true)) (some 36) (Ef.pr (Pr.ld 1 false)) [X.t 35]) (Plan.br (PlanL.cons true false (I.mk (some (25, true)) (some 31) (Ef.call 16) [X.t 30]) (Plan.br (PlanL.cons false false (I.mk (some (25, true)) (some 37) (Ef.call 16) [X.t 36]) (Plan.q (I.mk (some (25, true)) (some 38) (Ef.pr (Pr.cm BinOp.eql)) [X.t 31, X.t 37]) (Plan.q (I.mk none (some 39) (Ef.pr Pr.pick) [X.t 25, X.t 38, X.c (Value.bool false)]) Plan.done)) PlanL.nil)) PlanL.nil)))))))))))))))))) 
  (IC.cond (X.t 39) (IC.ops [I.mk none (some 40) (Ef.pr Pr.mv) [X.t 8], I.mk none (some 7) (Ef.pr Pr.mv) [X.t 40]]) IC.skip))) (IC.ops [I.mk none (some 19) (Ef.pr Pr.mv) [X.t 8], I.mk none (some 20) (Ef.pr (Pr.ar BinOp.add)) [X.t 19, X.c (Value.int IntKind.i64 1)], I.mk none (some 8) (Ef.pr Pr.mv) [X.t 20]])))))) 
  (IC.seq (IC.ops [I.mk none (some 41) (Ef.pr Pr.mv) [X.t 7], I.mk none (some 6) (Ef.pr Pr.mv) [X.t 41]]) IC.ret)))

theorem k32 : Go.Proofs.Try.f32.body.bind (comp Go.Proofs.Try.prog 42 [] []) = some c32 := by kernel_rfl

theorem r32 : cRVs Go.Proofs.Try.prog Go.Proofs.Try.f32.results.toList = some [RV.t 6] := by kernel_rfl

theorem e32 {args : List Value} {h : Hp} {Q : Value → Hp → Prop} (hl : Nat.ble args.length 42 = true) (hk : codeK PR none c32 (retK Q [RV.t 6]) (fun _ _ _ _ => False) (retK Q [RV.t 6]) (argsE 0 args) [] h) : Ok PR 32 args h Q :=
  Ok.of mixed Go.Proofs.Try.func32 rfl k32 r32 hl hk

def c33 : IC := IC.seq (IC.ops [I.mk none (some 4) (Ef.pr Pr.mv) [X.c (Value.bool false)]]) 
  (IC.seq 
  (IC.seq (IC.ops [I.mk none (some 5) (Ef.pr Pr.mv) [X.c (Value.int IntKind.i64 0)]]) 
  (IC.block 0 
  (IC.loop 
  (IC.seq 
  (IC.seq (IC.ops [I.mk none (some 6) (Ef.pr Pr.mv) [X.t 5], I.mk none (some 7) (Ef.pr Pr.mv) [X.t 0], I.mk none (some 8) (Ef.pr Pr.lenS) [X.t 7], I.mk none (some 9) (Ef.pr (Pr.cm BinOp.lss)) [X.t 6, X.t 8]]) 
  (IC.cond (X.t 9) IC.skip (IC.exit 0))) 
  (IC.seq 
  (IC.block 1 
  (IC.seq (IC.ops [I.mk none (some 12) (Ef.pr Pr.mv) [X.t 0], I.mk none (some 13) (Ef.pr Pr.mv) [X.t 5], I.mk none (some 14) (Ef.pr (Pr.iaS 2)) [X.t 12, X.t 13], I.mk none (some 15) (Ef.pr (Pr.fa 0)) [X.t 14], I.mk none (some 16) (Ef.pr (Pr.ld 1 false)) [X.t 15], I.mk none (some 17) (Ef.call 16) [X.t 16], I.mk none (some 18) (Ef.pr Pr.mv) [X.t 1], I.mk none (some 19) (Ef.pr (Pr.cm BinOp.eql)) [X.t 17, X.t 18]]) 
  (IC.cond (X.t 19) 
  (IC.seq (IC.ops [I.mk none (some 4) (Ef.pr Pr.mv) [X.c (Value.bool true)]]) IC.ret) IC.skip))) (IC.ops [I.mk none (some 10) (Ef.pr Pr.mv) [X.t 5], I.mk none (some 11) (Ef.pr (Pr.ar BinOp.add)) [X.t 10, X.c (Value.int IntKind.i64 1)], I.mk none (some 5) (Ef.pr Pr.mv) [X.t 11]])))))) 
  (IC.seq (IC.ops [I.mk none (some 4) (Ef.pr Pr.mv) [X.c (Value.bool false)]]) IC.ret))

theorem k33 : Go.Proofs.Try.f33.body.bind (comp Go.Proofs.Try.prog 20 [] []) = some c33 := by kernel_rfl

theorem r33 : cRVs Go.Proofs.Try.prog Go.Proofs.Try.f33.results.toList = some [RV.t 4] := by kernel_rfl

theorem e33 {args : List Value} {h : Hp} {Q : Value → Hp → Prop} (hl : Nat.ble args.length 20 = true) (hk : codeK PR none c33 (retK Q [RV.t 4]) (fun _ _ _ _ => False) (retK Q [RV.t 4]) (argsE 0 args) [] h) : Ok PR 33 args h Q :=
  Ok.of mixed Go.Proofs.Try.func33 rfl k33 r33 hl hk

def c34 : IC := IC.seq (IC.ops [I.mk none (some 6) (Ef.pr Pr.mv) [X.c (Value.int IntKind.i64 0)], I.mk none (some 7) (Ef.pr Pr.mv) [X.c (Value.int IntKind.i64 0)]]) 
  (IC.seq 
  (IC.seq (IC.ops [I.mk none (some 12) (Ef.pr Pr.mv) [X.t 1]]) 
  (IC.block 0 
  (IC.seq (IC.ops [I.mk none (some 14) (Ef.pr (Pr.cm BinOp.eql)) [X.t 12, X.c (Value.int IntKind.i64 0)], I.mk none (some 13) (Ef.pr Pr.mv) [X.t 14]]) 
  (IC.cond (X.t 13) 
  (IC.seq (IC.ops [I.mk none (some 15) (Ef.pr Pr.mv) [X.t 0], I.mk none (some 16) (Ef.call 17) [X.c (Value.int IntKind.u8 1)], I.mk none (some 17) (Ef.call 15) [X.t 15, X.c (Value.int IntKind.i64 1024), X.t 16], I.mk none (some 6) (Ef.pr Pr.mv) [X.t 17], I.mk none (some 7) (Ef.pr Pr.mv) [X.c (Value.int IntKind.i64 40)]]) IC.ret) 
  (IC.seq (IC.ops [I.mk none (some 19) (Ef.pr (Pr.cm BinOp.eql)) [X.t 12, X.c (Value.int IntKind.i64 1)], I.mk none (some 18) (Ef.pr Pr.mv) [X.t 19]]) 
  (IC.cond (X.t 18) 
  (IC.seq (IC.ops [I.mk none (some 20) (Ef.pr Pr.mv) [X.t 0], I.mk none (some 21) (Ef.call 15) [X.t 20, X.c (Value.int IntKind.i64 (-1)), X.c (Value.slice none 0 0)], I.mk none (some 6) (Ef.pr Pr.mv) [X.t 21], I.mk none (some 7) (Ef.pr Pr.mv) [X.c (Value.int IntKind.i64 40)]]) IC.ret) 
  (IC.seq (IC.ops [I.mk none (some 23) (Ef.pr (Pr.cm BinOp.eql)) [X.t 12, X.c (Value.int IntKind.i64 2)], I.mk none (some 22) (Ef.pr Pr.mv) [X.t 23]]) 
  (IC.cond (X.t 22) 
  (IC.seq (IC.ops [I.mk none (some 24) (Ef.pr Pr.mv) [X.t 0], I.mk none (some 25) (Ef.pr Pr.mv) [X.t 2], I.mk none (some 26) (Ef.call 17) [X.c (Value.int IntKind.u8 1)], I.mk none (some 27) (Ef.pr (Pr.slS 1 false true false)) [X.t 26, X.c (Value.int IntKind.i64 127)], I.mk none (some 28) (Ef.call 15) [X.t 24, X.t 25, X.t 27], I.mk none (some 6) (Ef.pr Pr.mv) [X.t 28], I.mk none (some 7) (Ef.pr Pr.mv) [X.c (Value.int IntKind.i64 41)]]) IC.ret) 
  (IC.seq (IC.ops [I.mk none (some 30) (Ef.pr (Pr.cm BinOp.eql)) [X.t 12, X.c (Value.int IntKind.i64 3)], I.mk none (some 29) (Ef.pr Pr.mv) [X.t 30]]) 
  (IC.cond (X.t 29) 
  (IC.seq (IC.ops [I.mk none (some 31) (Ef.pr Pr.mv) [X.t 0], I.mk none (some 32) (Ef.pr Pr.mv) [X.t 2], I.mk none (some 33) (Ef.call 17) [X.c (Value.int IntKind.u8 1)], I.mk none (some 34) (Ef.bsl [Value.int IntKind.u8 0] 5 1 1 [0]) [X.c (Value.int IntKind.u8 1)], I.mk none (some 35) (Ef.app [Value.int IntKind.u8 0] 5 1) [X.t 33, X.t 34], I.mk none (some 36) (Ef.call 15) [X.t 31, X.t 32, X.t 35], I.mk none (some 6) (Ef.pr Pr.mv) [X.t 36], I.mk none (some 7) (Ef.pr Pr.mv) [X.c (Value.int IntKind.i64 41)]]) IC.ret) 
  (IC.seq (IC.ops [I.mk none (some 38) (Ef.pr (Pr.cm BinOp.eql)) [X.t 12, X.c (Value.int IntKind.i64 4)], I.mk none (some 37) (Ef.pr Pr.mv) [X.t 38]]) 
  (IC.cond (X.t 37) 
  (IC.seq (IC.ops [I.mk none (some 39) (Ef.pr Pr.mv) [X.t 0], I.mk none (some 40) (Ef.pr Pr.mv) [X.t 2], I.mk none (some 41) (Ef.bsl [Value.int IntKind.u8 0] 5 2 1 [0, 1]) [X.c (Value.int IntKind.u8 1), X.c (Value.int IntKind.u8 2)], I.mk none (some 42) (Ef.call 28) [X.t 39, X.t 40, X.c (Value.int IntKind.i64 127), X.t 41], I.mk none (some 6) (Ef.pr Pr.mv) [X.t 42], I.mk none (some 7) (Ef.pr Pr.mv) [X.c (Value.int IntKind.i64 1)]]) IC.ret) 
  (IC.seq (IC.ops [I.mk none (some 44) (Ef.pr (Pr.cm BinOp.eql)) [X.t 12, X.c (Value.int IntKind.i64 5)], I.mk none (some 43) (Ef.pr Pr.mv) [X.t 44]]) 
  (IC.cond (X.t 43) 
  (IC.seq (IC.ops [I.mk none (some 45) (Ef.pr Pr.mv) [X.t 0], I.mk none (some 46) (Ef.pr Pr.mv) [X.t 2], I.mk none (some 47) (Ef.bsl [Value.int IntKind.u8 0] 5 1 1 [0]) [X.c (Value.int IntKind.u8 1)], I.mk none (some 48) (Ef.call 28) [X.t 45, X.t 46, X.c (Value.int IntKind.i64 (-1)), X.t 47], I.mk none (some 6) (Ef.pr Pr.mv) [X.t 48], I.mk none (some 7) (Ef.pr Pr.mv) [X.c (Value.int IntKind.i64 1)]]) IC.ret) 
  (IC.seq (IC.ops [I.mk none (some 50) (Ef.pr (Pr.cm BinOp.eql)) [X.t 12, X.c (Value.int IntKind.i64 6)], I.mk none (some 49) (Ef.pr Pr.mv) [X.t 50]]) 
  (IC.cond (X.t 49) 
  (IC.seq (IC.ops [I.mk none (some 51) (Ef.pr Pr.mv) [X.t 0], I.mk none (some 52) (Ef.call 28) [X.t 51, X.c (Value.int IntKind.i64 1024), X.c (Value.int IntKind.i64 (-1)), X.c (Value.slice none 0 0)], I.mk none (some 6) (Ef.pr Pr.mv) [X.t 52], I.mk none (some 7) (Ef.pr Pr.mv) [X.c (Value.int IntKind.i64 40)]]) IC.ret) 
  (IC.seq (IC.ops [I.mk none (some 54) (Ef.pr (Pr.cm BinOp.eql)) [X.t 12, X.c (Value.int IntKind.i64 7)], I.mk none (some 53) (Ef.pr Pr.mv) [X.t 54]]) 
  (IC.cond (X.t 53) 
  (IC.seq (IC.ops [I.mk none (some 55) (Ef.pr Pr.mv) [X.t 0], I.mk none (some 56) (Ef.call 12) [X.t 55, X.c (Value.int IntKind.i64 (-1))], I.mk none (some 6) (Ef.pr Pr.mv) [X.t 56], I.mk none (some 7) (Ef.pr Pr.mv) [X.c (Value.int IntKind.i64 1)]]) IC.ret) 
  (IC.seq (IC.ops [I.mk none (some 58) (Ef.pr (Pr.cm BinOp.eql)) [X.t 12, X.c (Value.int IntKind.i64 8)], I.mk none (some 57) (Ef.pr Pr.mv) [X.t 58]]) 
  (IC.cond (X.t 57) 
  (IC.seq (IC.ops [I.mk none (some 60) (Ef.pr Pr.mv) [X.t 0], I.mk none (some 61) (Ef.call 22) [X.t 60, X.c (Value.int IntKind.i64 1024)], I.mk none (some 59) (Ef.pr Pr.mv) [X.t 61], I.mk none (some 62) (Ef.pr (Pr.ext 0)) [X.t 59], I.mk none (some 63) (Ef.pr (Pr.ext 1)) [X.t 59], I.mk none (some 8) (Ef.pr Pr.mv) [X.t 62], I.mk none (some 9) (Ef.pr Pr.mv) [X.t 63]]) 
  (IC.seq (IC.ops [I.mk none (some 64) (Ef.pr Pr.mv) [X.t 9], I.mk none (some 6) (Ef.pr Pr.mv) [X.t 64], I.mk none (some 7) (Ef.pr Pr.mv) [X.c (Value.int IntKind.i64 40)]]) IC.ret)) 
  (IC.seq (IC.ops [I.mk none (some 66) (Ef.pr (Pr.cm BinOp.eql)) [X.t 12, X.c (Value.int IntKind.i64 9)], I.mk none (some 65) (Ef.pr Pr.mv) [X.t 66]]) 
  (IC.cond (X.t 65) 
  (IC.seq (IC.ops [I.mk none (some 68) (Ef.pr Pr.mv) [X.t 0], I.mk none (some 69) (Ef.call 25) [X.t 68, X.c (Value.int IntKind.i64 (-1))], I.mk none (some 67) (Ef.pr Pr.mv) [X.t 69], I.mk none (some 70) (Ef.pr (Pr.ext 0)) [X.t 67], I.mk none (some 71) (Ef.pr (Pr.ext 1)) [X.t 67], I.mk none (some 10) (Ef.pr Pr.mv) [X.t 70], I.mk none (some 11) (Ef.pr Pr.mv) [X.t 71]]) 
  (IC.seq (IC.ops [I.mk none (some 72) (Ef.pr Pr.mv) [X.t 11], I.mk none (some 6) (Ef.pr Pr.mv) [X.t 72], I.mk none (some 7) (Ef.pr Pr.mv) [X.c (Value.int IntKind.i64 40)]]) IC.ret)) IC.skip)))))))))))))))))))))) 
  (IC.seq (IC.ops [I.mk none (some 73) (Ef.pr Pr.mv) [X.t 0], I.mk none (some 74) (Ef.pr Pr.mv) [X.t 2], I.mk none (some 75) (Ef.call 28) [X.t 73, X.t 74, X.c (Value.int IntKind.i64 129), X.c (Value.slice none 0 0)], I.mk none (some 6) (Ef.pr Pr.mv) [X.t 75], I.mk none (some 7) (Ef.pr Pr.mv) [X.c (Value.int IntKind.i64 1)]]) IC.ret))

theorem k34 : Go.Proofs.Try.f34.body.bind (comp Go.Proofs.Try.prog 76 [] []) = some c34 := by kernel_rfl

theorem r34 : cRVs Go.Proofs.Try.prog Go.Proofs.Try.f34.results.toList = some [RV.t 6, RV.t 7] := by kernel_rfl

theorem e34 {args : List Value} {h : Hp} {Q : Value → Hp → Prop} (hl : Nat.ble args.length 76 = true) (hk : codeK PR none c34 (retK Q [RV.t 6, RV.t 7]) (fun _ _ _ _ => False) (retK Q [RV.t 6, RV.t 7]) (argsE 0 args) [] h) : Ok PR 34 args h Q :=
  Ok.of mixed Go.Proofs.Try.func34 rfl k34 r34 hl hk

def c35 : IC := IC.seq (IC.ops [I.mk none (some 2) (Ef.pr Pr.mv) [X.c (Value.slice none 0 0)]]) 
  (IC.seq (IC.ops [I.mk none (some 5) (Ef.mks [Value.slice none 0 0] 34 24) [X.c (Value.int IntKind.i64 1024), X.c (Value.int IntKind.i64 1024)], I.mk none (some 3) (Ef.pr Pr.mv) [X.t 5]]) 
  (IC.seq 
  (IC.seq (IC.ops [I.mk none (some 6) (Ef.pr Pr.mv) [X.c (Value.int IntKind.i64 0)]]) 
  (IC.block 0 
  (IC.loop 
  (IC.seq (IC.ops [I.mk none (some 7) (Ef.pr (Pr.cm BinOp.lss)) [X.t 6, X.c (Value.int IntKind.i64 1024)]]) 
  (IC.seq 
  (IC.cond (X.t 7) IC.skip (IC.exit 0)) 
  (IC.seq 
  (IC.block 1 
  (IC.seq (IC.ops [I.mk none (some 8) (Ef.pr Pr.mv) [X.t 6], I.mk none (some 4) (Ef.pr Pr.mv) [X.t 8]]) (IC.ops [I.mk none (some 9) (Ef.pr Pr.mv) [X.t 3], I.mk none (some 10) (Ef.pr Pr.mv) [X.t 4], I.mk none (some 11) (Ef.pr Pr.mv) [X.t 0], I.mk none (some 12) (Ef.pr Pr.mv) [X.t 4], I.mk none (some 13) (Ef.pr Pr.nilc) [X.t 11], I.mk none (some 14) (Ef.pr (Pr.fa 0)) [X.t 13], I.mk none (some 15) (Ef.pr (Pr.iaA 1024 128)) [X.t 14, X.t 12], I.mk none (some 16) (Ef.pr (Pr.slA 128 1 false false)) [X.t 15], I.mk none (some 17) (Ef.pr (Pr.iaS 1)) [X.t 9, X.t 10], I.mk none none (Ef.st 1) [X.t 17, X.t 16]]))) (IC.ops [I.mk none (some 18) (Ef.pr (Pr.ar BinOp.add)) [X.t 6, X.c (Value.int IntKind.i64 1)], I.mk none (some 6) (Ef.pr Pr.mv) [X.t 18]]))))))) 
  (IC.seq (IC.ops [I.mk none (some 19) (Ef.pr Pr.mv) [X.t 3], I.mk none (some 20) (Ef.call 50) [X.t 19], I.mk none (some 2) (Ef.pr Pr.mv) [X.t 20]]) IC.ret)))

theorem k35 : Go.Proofs.Try.f35.body.bind (comp Go.Proofs.Try.prog 21 [] []) = some c35 := by kernel_rfl

theorem r35 : cRVs Go.Proofs.Try.prog Go.Proofs.Try.f35.results.toList = some [RV.t 2] := by kernel_rfl

theorem e35 {args : List Value} {h : Hp} {Q : Value → Hp → Prop} (hl : Nat.ble args.length 21 = true) (hk : codeK PR none c35 (retK Q [RV.t 2]) (fun _ _ _ _ => False) (retK Q [RV.t 2]) (argsE 0 args) [] h) : Ok PR 35 args h Q :=
  Ok.of mixed Go.Proofs.Try.func35 rfl k35 r35 hl hk

def c36 : IC := IC.seq (IC.ops [I.mk none (some 2) (Ef.pr Pr.mv) [X.c (Value.pointer none)], I.mk none (some 3) (Ef.pr Pr.mv) [X.c (Value.int IntKind.i64 0)]]) 
  (IC.seq 
  (IC.seq (IC.ops [I.mk none (some 6) (Ef.pr Pr.mv) [X.t 0], I.mk none (some 7) (Ef.pr Pr.lenS) [X.t 6], I.mk none (some 8) (Ef.pr (Pr.cm BinOp.neq)) [X.t 7, X.c (Value.int IntKind.i64 131072)]]) 
  (IC.cond (X.t 8) 
  (IC.seq (IC.ops [I.mk none (some 2) (Ef.pr Pr.mv) [X.c (Value.pointer none)], I.mk none (some 3) (Ef.pr Pr.mv) [X.c (Value.int IntKind.i64 41)]]) IC.ret) IC.skip)) 
  (IC.seq (IC.ops [I.mk none (some 9) (Ef.call 37) [], I.mk none (some 4) (Ef.pr Pr.mv) [X.t 9]]) 
  (IC.seq 
  (IC.seq (IC.ops [I.mk none (some 10) (Ef.pr Pr.mv) [X.c (Value.int IntKind.i64 0)]]) 
  (IC.block 0 
  (IC.loop 
  (IC.seq (IC.ops [I.mk none (some 11) (Ef.pr (Pr.cm BinOp.lss)) [X.t 10, X.c (Value.int IntKind.i64 1024)]]) 
  (IC.seq 
  (IC.cond (X.t 11) IC.skip (IC.exit 0)) 
  (IC.seq 
  (IC.block 1 
  (IC.seq (IC.ops [I.mk none (some 12) (Ef.pr Pr.mv) [X.t 10], I.mk none (some 5) (Ef.pr Pr.mv) [X.t 12]]) (IC.plan (Plan.q (I.mk none (some 13) (Ef.pr Pr.mv) [X.t 4]) (Plan.q (I.mk none (some 14) (Ef.pr Pr.mv) [X.t 5]) (Plan.q (I.mk none (some 15) (Ef.pr Pr.nilc) [X.t 13]) (Plan.q (I.mk none (some 16) (Ef.pr (Pr.fa 0)) [X.t 15]) (Plan.q (I.mk none (some 17) (Ef.pr (Pr.iaA 1024 128)) [X.t 16, X.t 14]) (Plan.q (I.mk none (some 18) (Ef.pr (Pr.slA 128 1 false false)) [X.t 17]) (Plan.q (I.mk none (some 19) (Ef.pr Pr.mv) [X.t 0]) (Plan.q (I.mk none (some 20) (Ef.pr Pr.mv) [X.t 5]) (Plan.q (I.mk none (some 21) (Ef.pr (Pr.ar BinOp.mul)) [X.t 20, X.c (Value.int IntKind.i64 128)]) (Plan.q (I.mk none (some 22) (Ef.pr (Pr.slS 1 true false false)) [X.t 19, X.t 21]) (Plan.br (PlanL.cons false false (I.mk none (some 23) (Ef.cpy 1) [X.t 18, X.t 22]) Plan.done PlanL.nil))))))))))))))) (IC.ops [I.mk none (some 24) (Ef.pr (Pr.ar BinOp.add)) [X.t 10, X.c (Value.int IntKind.i64 1)], I.mk none (some 10) (Ef.pr Pr.mv) [X.t 24]]))))))) 
  (IC.seq (IC.ops [I.mk none (some 25) (Ef.pr Pr.mv) [X.t 4], I.mk none (some 2) (Ef.pr Pr.mv) [X.t 25], I.mk none (some 3) (Ef.pr Pr.mv) [X.c (Value.int IntKind.i64 0)]]) IC.ret))))

theorem k36 : Go.Proofs.Try.f36.body.bind (comp Go.Proofs.Try.prog 26 [] []) = some c36 := by kernel_rfl

theorem r36 : cRVs Go.Proofs.Try.prog Go.Proofs.Try.f36.results.toList = some [RV.t 2, RV.t 3] := by kernel_rfl

theorem e36 {args : List Value} {h : Hp} {Q : Value → Hp → Prop} (hl : Nat.ble args.length 26 = true) (hk : codeK PR none c36 (retK Q [RV.t 2, RV.t 3]) (fun _ _ _ _ => False) (retK Q [RV.t 2, RV.t 3]) (argsE 0 args) [] h) : Ok PR 36 args h Q :=
  Ok.of mixed Go.Proofs.Try.func36 rfl k36 r36 hl hk

def c44 : IC := IC.seq (IC.ops [I.mk none (some 2) (Ef.pr Pr.mv) [X.c (Value.bool false)]]) 
  (IC.seq 
  (IC.seq (IC.ops [I.mk none (some 3) (Ef.pr Pr.mv) [X.t 0], I.mk none (some 4) (Ef.pr Pr.nilc) [X.t 3], I.mk none (some 5) (Ef.pr (Pr.fa 131075)) [X.t 4], I.mk none (some 6) (Ef.pr (Pr.ld 1 false)) [X.t 5]]) 
  (IC.cond (X.t 6) 
  (IC.seq (IC.ops [I.mk none (some 2) (Ef.pr Pr.mv) [X.c (Value.bool false)]]) IC.ret) IC.skip)) 
  (IC.seq 
  (IC.seq (IC.ops [I.mk none (some 7) (Ef.pr Pr.mv) [X.t 0], I.mk none (some 8) (Ef.pr Pr.nilc) [X.t 7], I.mk none (some 9) (Ef.pr (Pr.fa 131073)) [X.t 8], I.mk none (some 10) (Ef.pr (Pr.ld 1 false)) [X.t 9]]) 
  (IC.cond (X.t 10) 
  (IC.seq 
  (IC.seq (IC.ops [I.mk none (some 11) (Ef.pr Pr.mv) [X.t 0], I.mk none (some 12) (Ef.pr Pr.nilc) [X.t 11], I.mk none (some 13) (Ef.pr (Pr.fa 131074)) [X.t 12], I.mk none (some 14) (Ef.pr (Pr.ld 1 false)) [X.t 13], I.mk none (some 15) (Ef.pr (Pr.cm BinOp.eql)) [X.t 14, X.c (Value.int IntKind.i64 0)]]) 
  (IC.cond (X.t 15) 
  (IC.seq (IC.ops [I.mk none (some 16) (Ef.pr Pr.mv) [X.t 0], I.mk none (some 17) (Ef.pr Pr.nilc) [X.t 16], I.mk none (some 18) (Ef.pr (Pr.fa 131075)) [X.t 17], I.mk none none (Ef.st 1) [X.t 18, X.c (Value.bool true)]]) 
  (IC.seq (IC.ops [I.mk none (some 2) (Ef.pr Pr.mv) [X.c (Value.bool false)]]) IC.ret)) IC.skip)) (IC.ops [I.mk none (some 19) (Ef.pr Pr.mv) [X.t 0], I.mk none (some 20) (Ef.pr Pr.nilc) [X.t 19], I.mk none (some 21) (Ef.pr (Pr.fa 131074)) [X.t 20], I.mk none (some 22) (Ef.pr (Pr.ld 1 false)) [X.t 21], I.mk none (some 23) (Ef.pr (Pr.ar BinOp.sub)) [X.t 22, X.c (Value.int IntKind.i64 1)], I.mk none (some 24) (Ef.pr Pr.nilc) [X.t 19], I.mk none (some 25) (Ef.pr (Pr.fa 131074)) [X.t 24], I.mk none none (Ef.st 1) [X.t 25, X.t 23]])) IC.skip)) 
  (IC.seq (IC.ops [I.mk none (some 26) (Ef.pr Pr.mv) [X.t 0], I.mk none (some 27) (Ef.pr Pr.nilc) [X.t 26], I.mk none (some 28) (Ef.pr (Pr.fa 131076)) [X.t 27], I.mk none (some 29) (Ef.pr (Pr.ld 1 false)) [X.t 28], I.mk none (some 30) (Ef.pr (Pr.ar BinOp.add)) [X.t 29, X.c (Value.int IntKind.i64 1)], I.mk none (some 31) (Ef.pr Pr.nilc) [X.t 26], I.mk none (some 32) (Ef.pr (Pr.fa 131076)) [X.t 31], I.mk none none (Ef.st 1) [X.t 32, X.t 30]]) 
  (IC.seq (IC.ops [I.mk none (some 2) (Ef.pr Pr.mv) [X.c (Value.bool true)]]) IC.ret))))

theorem k44 : Go.Proofs.Try.f44.body.bind (comp Go.Proofs.Try.prog 33 [] []) = some c44 := by kernel_rfl

theorem r44 : cRVs Go.Proofs.Try.prog Go.Proofs.Try.f44.results.toList = some [RV.t 2] := by kernel_rfl

theorem e44 {args : List Value} {h : Hp} {Q : Value → Hp → Prop} (hl : Nat.ble args.length 33 = true) (hk : codeK PR none c44 (retK Q [RV.t 2]) (fun _ _ _ _ => False) (retK Q [RV.t 2]) (argsE 0 args) [] h) : Ok PR 44 args h Q :=
  Ok.of mixed Go.Proofs.Try.func44 rfl k44 r44 hl hk

def c45 : IC := IC.seq (IC.ops [I.mk none (some 4) (Ef.pr Pr.mv) [X.c (Value.int IntKind.i64 0)]]) 
  (IC.seq (IC.ops [I.mk none (some 5) (Ef.pr Pr.mv) [X.c (Value.int IntKind.i64 0)]]) 
  (IC.seq 
  (IC.seq (IC.ops [I.mk none (some 8) (Ef.pr Pr.mv) [X.t 0], I.mk none (some 9) (Ef.pr Pr.nilc) [X.t 8], I.mk none (some 10) (Ef.pr (Pr.fa 131072)) [X.t 9], I.mk none (some 11) (Ef.pr (Pr.ld 1 false)) [X.t 10], I.mk none (some 12) (Ef.pr Pr.lenS) [X.t 11], I.mk none (some 13) (Ef.pr Pr.mv) [X.c (Value.int IntKind.i64 0)]]) 
  (IC.block 0 
  (IC.loop 
  (IC.seq (IC.ops [I.mk none (some 14) (Ef.pr (Pr.cm BinOp.lss)) [X.t 13, X.t 12]]) 
  (IC.seq 
  (IC.cond (X.t 14) IC.skip (IC.exit 0)) 
  (IC.seq 
  (IC.block 1 
  (IC.seq (IC.ops [I.mk none (some 15) (Ef.pr Pr.mv) [X.t 13], I.mk none (some 16) (Ef.pr (Pr.iaS 129)) [X.t 11, X.t 13], I.mk none (some 17) (Ef.pr (Pr.ld 129 true)) [X.t 16], I.mk none (some 7) (Ef.al [Value.int IntKind.i64 0, Value.int IntKind.u8 0, Value.int IntKind.u8 0, Value.int IntKind.u8 0, Value.int IntKind.u8 0, Value.int IntKind.u8 0, Value.int IntKind.u8 0, Value.int IntKind.u8 0, Value.int IntKind.u8 0, Value.int IntKind.u8 0, Value.int IntKind.u8 0, Value.int IntKind.u8 0, Value.int IntKind.u8 0, Value.int IntKind.u8 0, Value.int IntKind.u8 0, Value.int IntKind.u8 0, Value.int IntKind.u8 0, Value.int IntKind.u8 0, Value.int IntKind.u8 0, Value.int IntKind.u8 0, Value.int IntKind.u8 0, Value.int IntKind.u8 0, Value.int IntKind.u8 0, Value.int IntKind.u8 0, Value.int IntKind.u8 0, Value.int IntKind.u8 0, Value.int IntKind.u8 0, Value.int IntKind.u8 0, Value.int IntKind.u8 0, Value.int IntKind.u8 0, Value.int IntKind.u8 0, Value.int IntKind.u8 0, Value.int IntKind.u8 0, Value.int IntKind.u8 0, Value.int IntKind.u8 0, Value.int IntKind.u8 0, Value.int IntKind.u8 0, Value.int IntKind.u8 0, Value.int IntKind.u8 0, Value.int IntKind.u8 0, Value.int IntKind.u8 0, Value.int IntKind.u8 0, Value.int IntKind.u8 0, Value.int IntKind.u8 0, Value.int IntKind.u8 0, Value.int IntKind.u8 0, Value.int IntKind.u8 0, Value.int IntKind.u8 0, Value.int IntKind.u8 0, Value.int IntKind.u8 0, Value.int IntKind.u8 0, Value.int IntKind.u8 0, Value.int IntKind.u8 0, Value.int IntKind.u8 0, Value.int IntKind.u8 0, Value.int IntKind.u8 0, Value.int IntKind.u8 0, Value.int IntKind.u8 0, Value.int IntKind.u8 0, Value.int IntKind.u8 0, Value.int IntKind.u8 0, Value.int IntKind.u8 0, Value.int IntKind.u8 0, Value.int IntKind.u8 0, Value.int IntKind.u8 0, Value.int IntKind.u8 0, Value.int IntKind.u8 0, Value.int IntKind.u8 0, Value.int IntKind.u8 0, Value.int IntKind.u8 0, Value.int IntKind.u8 0, Value.int IntKind.u8 0, Value.int IntKind.u8 0, Value.int IntKind.u8 0, Value.int IntKind.u8 0, Value.int IntKind.u8 0, Value.int IntKind.u8 0, Value.int IntKind.u8 0, Value.int IntKind.u8 0, Value.int IntKind.u8 0, Value.int IntKind.u8 0, Value.int IntKind.u8 0, Value.int IntKind.u8 0, Value.int IntKind.u8 0, Value.int IntKind.u8 0, Value.int IntKind.u8 0, Value.int IntKind.u8 0, Value.int IntKind.u8 0, Value.int IntKind.u8 0, Value.int IntKind.u8 0, Value.int IntKind.u8 0, Value.int IntKind.u8 0, Value.int IntKind.u8 0, Value.int IntKind.u8 0, Value.int IntKind.u8 0, Value.int IntKind.u8 0, Value.int IntKind.u8 0, Value.int IntKind.u8 0, Value.int IntKind.u8 0, Value.int IntKind.u8 0, Value.int IntKind.u8 0, Value.int IntKind.u8 0, Value.int IntKind.u8 0, Value.int IntKind.u8 0, Value.int IntKind.u8 0, Value.int IntKind.u8 0, Value.int IntKind.u8 0, Value.int IntKind.u8 0, Value.int IntKind.u8 0, Value.int IntKind.u8 0, Value.int IntKind.u8 0, Value.int IntKind.u8 0, Value.int IntKind.u8 0, Value.int IntKind.u8 0, Value.int IntKind.u8 0, Value.int IntKind.u8 0, Value.int IntKind.u8 0, Value.int IntKind.u8 0, Value.int IntKind.u8 0, Value.int IntKind.u8 0, Value.int IntKind.u8 0, Value.int IntKind.u8 0, Value.int IntKind.u8 0, Value.int IntKind.u8 0, Value.int IntKind.u8 0, Value.int IntKind.u8 0, Value.int IntKind.u8 0, Value.int IntKind.u8 0, Value.int IntKind.u8 0]) [], I.mk none (some 6) (Ef.pr Pr.mv) [X.t 15], I.mk none none (Ef.st 129) [X.t 7, X.t 17]]) 
  (IC.seq (IC.ops [I.mk none (some 18) (Ef.pr Pr.mv) [X.t 1], I.mk none (some 19) (Ef.pr Pr.mv) [X.t 6], I.mk none (some 20) Ef.callv [X.t 18, X.t 19]]) 
  (IC.cond (X.t 20) 
  (IC.seq (IC.plan (Plan.q (I.mk none (some 21) (Ef.pr Pr.mv) [X.t 0]) (Plan.q (I.mk none (some 22) (Ef.pr (Pr.fa 0)) [X.t 7]) (Plan.q (I.mk none (some 23) (Ef.pr (Pr.ld 1 false)) [X.t 22]) (Plan.q (I.mk none (some 24) (Ef.pr (Pr.fa 1)) [X.t 7]) (Plan.q (I.mk none (some 25) (Ef.pr (Pr.ld 128 true)) [X.t 24]) (Plan.q (I.mk none (some 26) (Ef.pr Pr.nilc) [X.t 21]) (Plan.q (I.mk none (some 27) (Ef.pr (Pr.fa 0)) [X.t 26]) (Plan.q (I.mk none (some 28) (Ef.pr (Pr.iaA 1024 128)) [X.t 27, X.t 23]) (Plan.br (PlanL.cons false false (I.mk none none (Ef.st 128) [X.t 28, X.t 25]) Plan.done PlanL.nil))))))))))) (IC.ops [I.mk none (some 29) (Ef.pr Pr.mv) [X.t 5], I.mk none (some 30) (Ef.pr (Pr.ar BinOp.add)) [X.t 29, X.c (Value.int IntKind.i64 1)], I.mk none (some 5) (Ef.pr Pr.mv) [X.t 30]])) IC.skip)))) (IC.ops [I.mk none (some 31) (Ef.pr (Pr.ar BinOp.add)) [X.t 13, X.c (Value.int IntKind.i64 1)], I.mk none (some 13) (Ef.pr Pr.mv) [X.t 31]]))))))) 
  (IC.seq (IC.ops [I.mk none (some 32) (Ef.pr Pr.mv) [X.t 0], I.mk none (some 33) (Ef.pr Pr.nilc) [X.t 32], I.mk none (some 34) (Ef.pr (Pr.fa 131072)) [X.t 33], I.mk none none (Ef.st 1) [X.t 34, X.c (Value.slice none 0 0)]]) 
  (IC.seq (IC.ops [I.mk none (some 35) (Ef.pr Pr.mv) [X.t 5], I.mk none (some 4) (Ef.pr Pr.mv) [X.t 35]]) IC.ret))))

theorem k45 : Go.Proofs.Try.f45.body.bind (comp Go.Proofs.Try.prog 36 [7] []) = some c45 := by kernel_rfl

theorem r45 : cRVs Go.Proofs.Try.prog Go.Proofs.Try.f45.results.toList = some [RV.t 4] := by kernel_rfl

theorem e45 {args : List Value} {h : Hp} {Q : Value → Hp → Prop} (hl : Nat.ble args.length 36 = true) (hk : codeK PR none c45 (retK Q [RV.t 4]) (fun _ _ _ _ => False) (retK Q [RV.t 4]) (argsE 0 args) [] h) : Ok PR 45 args h Q :=
  Ok.of mixed Go.Proofs.Try.func45 rfl k45 r45 hl hk

def c46 : IC := IC.seq (IC.ops [I.mk none (some 2) (Ef.pr Pr.mv) [X.c (Value.bool false)]]) 
  (IC.seq (IC.ops [I.mk none (some 2) (Ef.pr Pr.mv) [X.c (Value.bool true)]]) IC.ret)

theorem k46 : Go.Proofs.Try.f46.body.bind (comp Go.Proofs.Try.prog 3 [] []) = some c46 := by kernel_rfl

theorem r46 : cRVs Go.Proofs.Try.prog Go.Proofs.Try.f46.results.toList = some [RV.t 2] := by kernel_rfl

theorem e46 {args : List Value} {h : Hp} {Q : Value → Hp → Prop} (hl : Nat.ble args.length 3 = true) (hk : codeK PR none c46 (retK Q [RV.t 2]) (fun _ _ _ _ => False) (retK Q [RV.t 2]) (argsE 0 args) [] h) : Ok PR 46 args h Q :=
  Ok.of mixed Go.Proofs.Try.func46 rfl k46 r46 hl hk

def c47 : IC := IC.seq (IC.ops [I.mk none (some 2) (Ef.pr Pr.mv) [X.c (Value.bool false)]]) 
  (IC.seq (IC.ops [I.mk none (some 3) (Ef.pr Pr.mv) [X.t 0], I.mk none (some 4) (Ef.pr (Pr.cm BinOp.geq)) [X.t 3, X.c (Value.int IntKind.i64 0)], I.mk none (some 5) (Ef.pr Pr.mv) [X.t 4], I.mk (some (5, true)) (some 6) (Ef.pr Pr.mv) [X.t 0], I.mk (some (5, true)) (some 7) (Ef.pr (Pr.cm BinOp.lss)) [X.t 6, X.c (Value.int IntKind.i64 1024)], I.mk none (some 8) (Ef.pr Pr.pick) [X.t 5, X.t 7, X.c (Value.bool false)], I.mk none (some 2) (Ef.pr Pr.mv) [X.t 8]]) IC.ret)

theorem k47 : Go.Proofs.Try.f47.body.bind (comp Go.Proofs.Try.prog 9 [] []) = some c47 := by kernel_rfl

theorem r47 : cRVs Go.Proofs.Try.prog Go.Proofs.Try.f47.results.toList = some [RV.t 2] := by kernel_rfl

theorem e47 {args : List Value} {h : Hp} {Q : Value → Hp → Prop} (hl : Nat.ble args.length 9 = true) (hk : codeK PR none c47 (retK Q [RV.t 2]) (fun _ _ _ _ => False) (retK Q [RV.t 2]) (argsE 0 args) [] h) : Ok PR 47 args h Q :=
  Ok.of mixed Go.Proofs.Try.func47 rfl k47 r47 hl hk

def c48 : IC := IC.seq (IC.ops [I.mk none (some 2) (Ef.pr Pr.mv) [X.c (Value.slice none 0 0)]]) 
  (IC.seq (IC.ops [I.mk none (some 5) (Ef.pr Pr.mv) [X.t 0], I.mk none (some 6) (Ef.call 27) [X.t 5], I.mk none (some 3) (Ef.pr Pr.mv) [X.t 6]]) 
  (IC.seq (IC.ops [I.mk none (some 4) (Ef.pr Pr.mv) [X.c (Value.int IntKind.u8 7)]]) 
  (IC.seq 
  (IC.seq (IC.ops [I.mk none (some 7) (Ef.pr Pr.mv) [X.t 3], I.mk none (some 8) (Ef.pr Pr.lenS) [X.t 7], I.mk none (some 9) (Ef.pr (Pr.cm BinOp.gtr)) [X.t 8, X.c (Value.int IntKind.i64 0)]]) 
  (IC.cond (X.t 9) (IC.ops [I.mk none (some 10) (Ef.pr Pr.mv) [X.t 3], I.mk none (some 11) (Ef.pr Pr.mv) [X.t 3], I.mk none (some 12) (Ef.pr Pr.lenS) [X.t 11], I.mk none (some 13) (Ef.pr (Pr.ar BinOp.sub)) [X.t 12, X.c (Value.int IntKind.i64 1)], I.mk none (some 14) (Ef.pr (Pr.iaS 1)) [X.t 10, X.t 13], I.mk none (some 15) (Ef.pr (Pr.ld 1 false)) [X.t 14], I.mk none (some 4) (Ef.pr Pr.mv) [X.t 15]]) IC.skip)) 
  (IC.seq 
  (IC.block 0 
  (IC.loop 
  (IC.seq 
  (IC.seq (IC.ops [I.mk none (some 16) (Ef.pr Pr.mv) [X.t 3], I.mk none (some 17) (Ef.pr Pr.lenS) [X.t 16], I.mk none (some 18) (Ef.pr (Pr.cm BinOp.lss)) [X.t 17, X.c (Value.int IntKind.i64 128)]]) 
  (IC.cond (X.t 18) IC.skip (IC.exit 0))) 
  (IC.block 1 (IC.ops [I.mk none (some 19) (Ef.pr Pr.mv) [X.t 3], I.mk none (some 20) (Ef.pr Pr.mv) [X.t 4], I.mk none (some 21) (Ef.bsl [Value.int IntKind.u8 0] 5 1 1 [0]) [X.t 20], I.mk none (some 22) (Ef.app [Value.int IntKind.u8 0] 5 1) [X.t 19, X.t 21], I.mk none (some 3) (Ef.pr Pr.mv) [X.t 22]]))))) 
  (IC.seq (IC.ops [I.mk none (some 23) (Ef.pr Pr.mv) [X.t 3], I.mk none (some 24) (Ef.pr (Pr.slS 1 false true false)) [X.t 23, X.c (Value.int IntKind.i64 128)], I.mk none (some 2) (Ef.pr Pr.mv) [X.t 24]]) IC.ret)))))

theorem k48 : Go.Proofs.Try.f48.body.bind (comp Go.Proofs.Try.prog 25 [] []) = some c48 := by kernel_rfl

theorem r48 : cRVs Go.Proofs.Try.prog Go.Proofs.Try.f48.results.toList = some [RV.t 2] := by kernel_rfl

theorem e48 {args : List Value} {h : Hp} {Q : Value → Hp → Prop} (hl : Nat.ble args.length 25 = true) (hk : codeK PR none c48 (retK Q [RV.t 2]) (fun _ _ _ _ => False) (retK Q [RV.t 2]) (argsE 0 args) [] h) : Ok PR 48 args h Q :=
  Ok.of mixed Go.Proofs.Try.func48 rfl k48 r48 hl hk

def c49 : IC := IC.seq (IC.ops [I.mk none (some 3) (Ef.pr Pr.mv) [X.c (Value.bool false)]]) 
  (IC.seq (IC.ops [I.mk none (some 4) (Ef.pr Pr.mv) [X.t 0], I.mk none (some 5) (Ef.pr (Pr.ld 1 false)) [X.t 1], I.mk none (some 6) (Ef.pr Pr.lenS) [X.t 5], I.mk none (some 7) (Ef.pr (Pr.cm BinOp.lss)) [X.t 4, X.t 6], I.mk none (some 8) (Ef.pr Pr.mv) [X.t 7], I.mk (some (8, true)) (some 9) (Ef.pr (Pr.ld 1 false)) [X.t 1], I.mk (some (8, true)) (some 10) (Ef.pr Pr.mv) [X.t 0], I.mk (some (8, true)) (some 11) (Ef.pr (Pr.iaS 1)) [X.t 9, X.t 10], I.mk (some (8, true)) (some 12) (Ef.pr (Pr.ld 1 false)) [X.t 11], I.mk none (some 13) (Ef.pr Pr.pick) [X.t 8, X.t 12, X.c (Value.bool false)], I.mk none (some 3) (Ef.pr Pr.mv) [X.t 13]]) IC.ret)

theorem k49 : Go.Proofs.Try.f49.body.bind (comp Go.Proofs.Try.prog 14 [] []) = some c49 := by kernel_rfl

theorem r49 : cRVs Go.Proofs.Try.prog Go.Proofs.Try.f49.results.toList = some [RV.t 3] := by kernel_rfl

theorem e49 {args : List Value} {h : Hp} {Q : Value → Hp → Prop} (hl : Nat.ble args.length 14 = true) (hk : codeK PR none c49 (retK Q [RV.t 3]) (fun _ _ _ _ => False) (retK Q [RV.t 3]) (argsE 0 args) [] h) : Ok PR 49 args h Q :=
  Ok.of mixed Go.Proofs.Try.func49 rfl k49 r49 hl hk

def c50 : IC := IC.seq (IC.ops [I.mk none (some 2) (Ef.pr Pr.mv) [X.c (Value.slice none 0 0)]]) 
  (IC.seq (IC.ops [I.mk none (some 3) (Ef.pr Pr.mv) [X.c (Value.int IntKind.i64 0)]]) 
  (IC.seq 
  (IC.seq (IC.ops [I.mk none (some 10) (Ef.pr Pr.mv) [X.t 0], I.mk none (some 11) (Ef.pr Pr.lenS) [X.t 10], I.mk none (some 12) (Ef.pr Pr.mv) [X.c (Value.int IntKind.i64 0)]]) 
  (IC.block 0 
  (IC.loop 
  (IC.seq (IC.ops [I.mk none (some 13) (Ef.pr (Pr.cm BinOp.lss)) [X.t 12, X.t 11]]) 
  (IC.seq 
  (IC.cond (X.t 13) IC.skip (IC.exit 0)) 
  (IC.seq 
  (IC.block 1 
  (IC.seq (IC.ops [I.mk none (some 14) (Ef.pr (Pr.iaS 1)) [X.t 10, X.t 12], I.mk none (some 15) (Ef.pr (Pr.ld 1 false)) [X.t 14], I.mk none (some 5) (Ef.pr Pr.mv) [X.t 15]]) (IC.ops [I.mk none (some 16) (Ef.pr Pr.mv) [X.t 3], I.mk none (some 17) (Ef.pr Pr.mv) [X.t 5], I.mk none (some 18) (Ef.pr Pr.lenS) [X.t 17], I.mk none (some 19) (Ef.pr (Pr.ar BinOp.add)) [X.t 16, X.t 18], I.mk none (some 3) (Ef.pr Pr.mv) [X.t 19]]))) (IC.ops [I.mk none (some 20) (Ef.pr (Pr.ar BinOp.add)) [X.t 12, X.c (Value.int IntKind.i64 1)], I.mk none (some 12) (Ef.pr Pr.mv) [X.t 20]]))))))) 
  (IC.seq (IC.ops [I.mk none (some 21) (Ef.pr Pr.mv) [X.t 3], I.mk none (some 22) (Ef.mks [Value.int IntKind.u8 0] 5 1) [X.t 21, X.t 21], I.mk none (some 6) (Ef.pr Pr.mv) [X.t 22]]) 
  (IC.seq (IC.ops [I.mk none (some 7) (Ef.pr Pr.mv) [X.c (Value.int IntKind.i64 0)]]) 
  (IC.seq 
  (IC.seq (IC.ops [I.mk none (some 23) (Ef.pr Pr.mv) [X.t 0], I.mk none (some 24) (Ef.pr Pr.lenS) [X.t 23], I.mk none (some 25) (Ef.pr Pr.mv) [X.c (Value.int IntKind.i64 0)]]) 
  (IC.block 2 
  (IC.loop 
  (IC.seq (IC.ops [I.mk none (some 26) (Ef.pr (Pr.cm BinOp.lss)) [X.t 25, X.t 24]]) 
  (IC.seq 
  (IC.cond (X.t 26) IC.skip (IC.exit 2)) 
  (IC.seq 
  (IC.block 3 
  (IC.seq (IC.ops [I.mk none (some 27) (Ef.pr (Pr.iaS 1)) [X.t 23, X.t 25], I.mk none (some 28) (Ef.pr (Pr.ld 1 false)) [X.t 27], I.mk none (some 9) (Ef.pr Pr.mv) [X.t 28]]) (IC.ops [I.mk none (some 29) (Ef.pr Pr.mv) [X.t 7], I.mk none (some 30) (Ef.pr Pr.mv) [X.t 6], I.mk none (some 31) (Ef.pr Pr.mv) [X.t 7], I.mk none (some 32) (Ef.pr (Pr.slS 1 true false false)) [X.t 30, X.t 31], I.mk none (some 33) (Ef.pr Pr.mv) [X.t 9], I.mk none (some 34) (Ef.cpy 1) [X.t 32, X.t 33], I.mk none (some 35) (Ef.pr (Pr.ar BinOp.add)) [X.t 29, X.t 34], I.mk none (some 7) (Ef.pr Pr.mv) [X.t 35]]))) (IC.ops [I.mk none (some 36) (Ef.pr (Pr.ar BinOp.add)) [X.t 25, X.c (Value.int IntKind.i64 1)], I.mk none (some 25) (Ef.pr Pr.mv) [X.t 36]]))))))) 
  (IC.seq (IC.ops [I.mk none (some 37) (Ef.pr Pr.mv) [X.t 6], I.mk none (some 2) (Ef.pr Pr.mv) [X.t 37]]) IC.ret))))))

theorem k50 : Go.Proofs.Try.f50.body.bind (comp Go.Proofs.Try.prog 38 [] []) = some c50 := by kernel_rfl

theorem r50 : cRVs Go.Proofs.Try.prog Go.Proofs.Try.f50.results.toList = some [RV.t 2] := by kernel_rfl

theorem e50 {args : List Value} {h : Hp} {Q : Value → Hp → Prop} (hl : Nat.ble args.length 38 = true) (hk : codeK PR none c50 (retK Q [RV.t 2]) (fun _ _ _ _ => False) (retK Q [RV.t 2]) (argsE 0 args) [] h) : Ok PR 50 args h Q :=
  Ok.of mixed Go.Proofs.Try.func50 rfl k50 r50 hl hk

def c52 : IC := IC.seq (IC.ops [I.mk none (some 1) Ef.bx [X.t 0], I.mk none (some 2) (Ef.pr Pr.mv) [X.c (Value.slice none 0 0)]]) 
  (IC.seq 
  (IC.seq (IC.ops [I.mk none (some 3) (Ef.pr (Pr.fa 5)) [X.t 1], I.mk none (some 4) (Ef.pr (Pr.ld 1 false)) [X.t 3]]) 
  (IC.cond (X.t 4) 
  (IC.seq (IC.ops [I.mk none (some 5) (Ef.pr (Pr.fa 4)) [X.t 1], I.mk none (some 6) (Ef.pr (Pr.ld 1 false)) [X.t 5], I.mk none (some 7) (Ef.call 48) [X.t 6], I.mk none (some 2) (Ef.pr Pr.mv) [X.t 7]]) IC.ret) IC.skip)) 
  (IC.seq (IC.ops [I.mk none (some 8) (Ef.pr (Pr.fa 4)) [X.t 1], I.mk none (some 9) (Ef.pr (Pr.ld 1 false)) [X.t 8], I.mk none (some 10) (Ef.call 27) [X.t 9], I.mk none (some 2) (Ef.pr Pr.mv) [X.t 10]]) IC.ret))

theorem k52 : Go.Proofs.Try.f52.body.bind (comp Go.Proofs.Try.prog 11 [1] []) = some c52 := by kernel_rfl

theorem r52 : cRVs Go.Proofs.Try.prog Go.Proofs.Try.f52.results.toList = some [RV.t 2] := by kernel_rfl

theorem e52 {args : List Value} {h : Hp} {Q : Value → Hp → Prop} (hl : Nat.ble args.length 11 = true) (hk : codeK PR none c52 (retK Q [RV.t 2]) (fun _ _ _ _ => False) (retK Q [RV.t 2]) (argsE 0 args) [] h) : Ok PR 52 args h Q :=
  Ok.of mixed Go.Proofs.Try.func52 rfl k52 r52 hl hk

end Go.Proofs.Ytpkleblggehghaa.V
