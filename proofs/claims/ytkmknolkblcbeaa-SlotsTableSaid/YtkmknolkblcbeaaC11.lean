/- The functions 11, 70, 71, 72, 73, 104, resolved. -/
import Derived.Test.YtkmknolkblcbeaaVP
namespace Go.Proofs.Ytkmknolkblcbeaa.V
set_option linter.unusedVariables false
open Go
set_option maxRecDepth 100000

def c11 : IC := IC.seq (IC.ops [I.mk none (some 6) (Ef.pr Pr.mv) [X.c (Value.bool false)]]) 
  (IC.seq 
  (IC.seq (IC.ops [I.mk none (some 15) (Ef.call 39) [], I.mk none (some 16) (Ef.pr (Pr.un UnOp.not)) [X.t 15]]) 
  (IC.cond (X.t 16) 
  (IC.seq (IC.ops [I.mk none (some 6) (Ef.pr Pr.mv) [X.c (Value.bool false)]]) IC.ret) IC.skip)) 
  (IC.seq (IC.ops [I.mk none (some 17) (Ef.pr Pr.mv) [X.t 0], I.mk none (some 18) (Ef.call 70) [X.t 17], I.mk none (some 19) (Ef.pr Pr.mv) [X.t 1], I.mk none (some 20) (Ef.call 70) [X.t 19], I.mk none (some 21) (Ef.bsl [Value.pointer none, Value.pointer none, Value.pointer none] 100 2 3 [0, 1]) [X.t 18, X.t 20], I.mk none (some 7) (Ef.pr Pr.mv) [X.t 21]]) 
  (IC.seq 
  (IC.seq (IC.ops [I.mk none (some 22) (Ef.pr Pr.mv) [X.t 7], I.mk none (some 23) (Ef.pr (Pr.iaS 3)) [X.t 22, X.c (Value.int IntKind.i64 0)], I.mk none (some 24) (Ef.pr (Pr.ld 3 true)) [X.t 23], I.mk none (some 25) (Ef.call 71) [X.t 24], I.mk none (some 26) (Ef.pr (Pr.un UnOp.not)) [X.t 25], I.mk none (some 27) (Ef.pr Pr.mv) [X.t 26], I.mk (some (27, false)) (some 28) (Ef.pr Pr.mv) [X.t 7], I.mk (some (27, false)) (some 29) (Ef.pr (Pr.iaS 3)) [X.t 28, X.c (Value.int IntKind.i64 1)], I.mk (some (27, false)) (some 30) (Ef.pr (Pr.ld 3 true)) [X.t 29], I.mk (some (27, false)) (some 31) (Ef.call 71) [X.t 30], I.mk (some (27, false)) (some 32) (Ef.pr (Pr.un UnOp.not)) [X.t 31], I.mk none (some 33) (Ef.pr Pr.pick) [X.t 27, X.c (Value.bool true), X.t 32]]) 
  (IC.cond (X.t 33) 
  (IC.seq (IC.ops [I.mk none (some 6) (Ef.pr Pr.mv) [X.c (Value.bool false)]]) IC.ret) IC.skip)) 
  (IC.seq 
  (IC.seq (IC.ops [I.mk none (some 8) (Ef.pr Pr.mv) [X.c (Value.int IntKind.i64 0)]]) 
  (IC.block 0 
  (IC.loop 
  (IC.seq 
  (IC.seq (IC.ops [I.mk none (some 34) (Ef.pr Pr.mv) [X.t 8], I.mk none (some 35) (Ef.pr Pr.mv) [X.t 2], I.mk none (some 36) (Ef.pr Pr.lenS) [X.t 35], I.mk none (some 37) (Ef.pr (Pr.cm BinOp.lss)) [X.t 34, X.t 36]]) 
  (IC.cond (X.t 37) IC.skip (IC.exit 0))) 
  (IC.seq 
  (IC.block 1 
  (IC.seq (IC.ops [I.mk none (some 40) (Ef.pr Pr.mv) [X.t 2], I.mk none (some 41) (Ef.pr Pr.mv) [X.t 8], I.mk none (some 42) (Ef.pr (Pr.iaS 4)) [X.t 40, X.t 41], I.mk none (some 43) (Ef.pr (Pr.ld 4 true)) [X.t 42], I.mk none (some 9) (Ef.al [Value.int IntKind.i64 0, Value.int IntKind.i64 0, Value.int IntKind.i64 0, Value.int IntKind.i64 0]) [], I.mk none none (Ef.st 4) [X.t 9, X.t 43]]) 
  (IC.seq (IC.ops [I.mk none (some 44) (Ef.pr Pr.mv) [X.t 7], I.mk none (some 45) (Ef.pr (Pr.fa 1)) [X.t 9], I.mk none (some 46) (Ef.pr (Pr.ld 1 false)) [X.t 45], I.mk none (some 47) (Ef.pr Pr.mv) [X.t 7], I.mk none (some 48) (Ef.pr Pr.lenS) [X.t 47], I.mk none (some 49) (Ef.call 23) [X.t 46, X.t 48], I.mk none (some 50) (Ef.pr (Pr.iaS 3)) [X.t 44, X.t 49], I.mk none (some 51) (Ef.pr (Pr.ld 3 true)) [X.t 50], I.mk none (some 10) (Ef.al [Value.pointer none, Value.pointer none, Value.pointer none]) [], I.mk none none (Ef.st 3) [X.t 10, X.t 51]]) 
  (IC.seq (IC.ops [I.mk none (some 11) (Ef.pr Pr.mv) [X.c (Value.bool true)]]) 
  (IC.cut 
  (IC.seq (IC.ops [I.mk none (some 52) (Ef.pr (Pr.fa 0)) [X.t 9], I.mk none (some 53) (Ef.pr (Pr.ld 1 false)) [X.t 52]]) 
  (IC.block 2 
  (IC.seq 
  (IC.seq (IC.ops [I.mk none (some 55) (Ef.pr (Pr.cm BinOp.eql)) [X.t 53, X.c (Value.int IntKind.i64 1)], I.mk none (some 54) (Ef.pr Pr.mv) [X.t 55]]) 
  (IC.cond (X.t 54) IC.skip 
  (IC.seq (IC.ops [I.mk none (some 56) (Ef.pr (Pr.cm BinOp.eql)) [X.t 53, X.c (Value.int IntKind.i64 2)], I.mk none (some 54) (Ef.pr Pr.mv) [X.t 56]]) 
  (IC.cond (X.t 54) IC.skip (IC.ops [I.mk none (some 57) (Ef.pr (Pr.cm BinOp.eql)) [X.t 53, X.c (Value.int IntKind.i64 4)], I.mk none (some 54) (Ef.pr Pr.mv) [X.t 57]]))))) 
  (IC.cond (X.t 54) (IC.ops [I.mk none (some 58) (Ef.pr (Pr.ld 3 true)) [X.t 10], I.mk none (some 59) (Ef.pr (Pr.ld 4 true)) [X.t 9], I.mk none (some 60) (Ef.call 72) [X.t 58, X.t 59], I.mk none (some 11) (Ef.pr Pr.mv) [X.t 60]]) 
  (IC.seq 
  (IC.seq (IC.ops [I.mk none (some 62) (Ef.pr (Pr.cm BinOp.eql)) [X.t 53, X.c (Value.int IntKind.i64 3)], I.mk none (some 61) (Ef.pr Pr.mv) [X.t 62]]) 
  (IC.cond (X.t 61) IC.skip 
  (IC.seq (IC.ops [I.mk none (some 63) (Ef.pr (Pr.cm BinOp.eql)) [X.t 53, X.c (Value.int IntKind.i64 5)], I.mk none (some 61) (Ef.pr Pr.mv) [X.t 63]]) 
  (IC.cond (X.t 61) IC.skip 
  (IC.seq (IC.ops [I.mk none (some 64) (Ef.pr (Pr.cm BinOp.eql)) [X.t 53, X.c (Value.int IntKind.i64 6)], I.mk none (some 61) (Ef.pr Pr.mv) [X.t 64]]) 
  (IC.cond (X.t 61) IC.skip 
  (IC.seq (IC.ops [I.mk none (some 65) (Ef.pr (Pr.cm BinOp.eql)) [X.t 53, X.c (Value.int IntKind.i64 8)], I.mk none (some 61) (Ef.pr Pr.mv) [X.t 65]]) 
  (IC.cond (X.t 61) IC.skip (IC.ops [I.mk none (some 66) (Ef.pr (Pr.cm BinOp.eql)) [X.t 53, X.c (Value.int IntKind.i64 7)], I.mk none (some 61) (Ef.pr Pr.mv) [X.t 66]]))))))))) 
  (IC.cond (X.t 61) (IC.ops [I.mk none (some 67) (Ef.pr (Pr.ld 3 true)) [X.t 10], I.mk none (some 68) (Ef.pr (Pr.ld 4 true)) [X.t 9], I.mk none (some 69) (Ef.call 73) [X.t 67, X.t 68], I.mk none (some 11) (Ef.pr Pr.mv) [X.t 69]]) 
  (IC.seq (IC.ops [I.mk none (some 71) (Ef.pr (Pr.cm BinOp.eql)) [X.t 53, X.c (Value.int IntKind.i64 10)], I.mk none (some 70) (Ef.pr Pr.mv) [X.t 71]]) 
  (IC.cond (X.t 70) (IC.ops [I.mk none (some 72) (Ef.pr (Pr.ld 3 true)) [X.t 10], I.mk none (some 73) (Ef.call 71) [X.t 72], I.mk none (some 11) (Ef.pr Pr.mv) [X.t 73]]) 
  (IC.seq (IC.ops [I.mk none (some 75) (Ef.pr (Pr.cm BinOp.eql)) [X.t 53, X.c (Value.int IntKind.i64 9)], I.mk none (some 74) (Ef.pr Pr.mv) [X.t 75]]) 
  (IC.cond (X.t 74) 
  (IC.seq (IC.ops [I.mk none (some 76) (Ef.pr Pr.mv) [X.t 7], I.mk none (some 77) (Ef.pr Pr.lenS) [X.t 76], I.mk none (some 78) (Ef.pr (Pr.cm BinOp.lss)) [X.t 77, X.c (Value.int IntKind.i64 6)]]) 
  (IC.cond (X.t 78) 
  (IC.seq (IC.plan (Plan.q (I.mk none (some 79) (Ef.pr (Pr.fa 0)) [X.t 10]) (Plan.q (I.mk none (some 80) (Ef.pr (Pr.ld 1 false)) [X.t 79]) (Plan.q (I.mk none (some 82) (Ef.pr (Pr.fa 1)) [X.t 10]) (Plan.q (I.mk none (some 83) (Ef.pr (Pr.ld 1 false)) [X.t 82]) (Plan.q (I.mk none (some 85) (Ef.pr (Pr.fa 2)) [X.t 10]) (Plan.q (I.mk none (some 86) (Ef.pr (Pr.ld 1 false)) [X.t 85]) (Plan.br (PlanL.cons true true (I.mk none (some 81) (Ef.call 62) [X.t 80]) (Plan.br (PlanL.cons true true (I.mk none (some 84) (Ef.call 74) [X.t 83]) (Plan.br (PlanL.cons false true (I.mk none (some 87) (Ef.call 52) [X.t 86]) (Plan.q (I.mk none (some 88) (Ef.pr (Pr.bld [Value.pointer none, Value.pointer none, Value.pointer none] [(0, 1), (1, 1), (2, 1)])) [X.t 81, X.t 84, X.t 87]) (Plan.br (PlanL.cons true false (I.mk none (some 12) (Ef.al [Value.pointer none, Value.pointer none, Value.pointer none]) []) (Plan.br (PlanL.cons false false (I.mk none none (Ef.st 3) [X.t 12, X.t 88]) Plan.done PlanL.nil)) PlanL.nil))) (PlanL.cons true false (I.mk none (some 12) (Ef.al [Value.pointer none, Value.pointer none, Value.pointer none]) []) (Plan.br (PlanL.cons false false (I.mk none (some 87) (Ef.call 52) [X.t 86]) (Plan.q (I.mk none (some 88) (Ef.pr (Pr.bld [Value.pointer none, Value.pointer none, Value.pointer none] [(0, 1), (1, 1), (2, 1)])) [X.t 81, X.t 84, X.t 87]) (Plan.br (PlanL.cons false false (I.mk none none (Ef.st 3) [X.t 12, X.t 88]) Plan.done PlanL.nil))) PlanL.nil)) PlanL.nil))) (PlanL.cons true true (I.mk none (some 12) (Ef.al [Value.pointer none, Value.pointer none, Value.pointer none]) []) (Plan.br (PlanL.cons true false (I.mk none (some 84) (Ef.call 74) [X.t 83]) (Plan.br (PlanL.cons false false (I.mk none (some 87) (Ef.call 52) [X.t 86]) (Plan.q (I.mk none (some 88) (Ef.pr (Pr.bld [Value.pointer none, Value.pointer none, Value.pointer none] [(0, 1), (1, 1), (2, 1)])) [X.t 81, X.t 84, X.t 87]) (Plan.br (PlanL.cons false false (I.mk none none (Ef.st 3) [X.t 12, X.t 88]) Plan.done PlanL.nil))) PlanL.nil)) PlanL.nil)) PlanL.nil))) (PlanL.cons true true (I.mk none (some 12) (Ef.al [Value.pointer none, Value.pointer none, Value.pointer none]) []) (Plan.br (PlanL.cons true true (I.mk none (some 81) (Ef.call 62) [X.t 80]) (Plan.br (PlanL.cons true false (I.mk none (some 84) (Ef.call 74) [X.t 83]) (Plan.br (PlanL.cons false false (I.mk none (some 87) (Ef.call 52) [X.t 86]) (Plan.q (I.mk none (some 88) (Ef.pr (Pr.bld [Value.pointer none, Value.pointer none, Value.pointer none] [(0, 1), (1, 1), (2, 1)])) [X.t 81, X.t 84, X.t 87]) (Plan.br (PlanL.cons false false (I.mk none none (Ef.st 3) [X.t 12, X.t 88]) Plan.done PlanL.nil))) PlanL.nil)) PlanL.nil)) PlanL.nil)) PlanL.nil)))))))))) 
  (IC.seq (IC.ops [I.mk none (some 89) (Ef.pr (Pr.ld 3 true)) [X.t 12], I.mk none (some 90) (Ef.call 71) [X.t 89], I.mk none (some 11) (Ef.pr Pr.mv) [X.t 90]]) (IC.ops [I.mk none (some 91) (Ef.pr Pr.mv) [X.t 7], I.mk none (some 92) (Ef.pr (Pr.ld 3 true)) [X.t 12], I.mk none (some 93) (Ef.bsl [Value.pointer none, Value.pointer none, Value.pointer none] 100 1 3 [0]) [X.t 92], I.mk none (some 94) (Ef.app [Value.pointer none, Value.pointer none, Value.pointer none] 100 24) [X.t 91, X.t 93], I.mk none (some 7) (Ef.pr Pr.mv) [X.t 94]]))) IC.skip)) IC.skip)))))))))) 
  (IC.seq (IC.ops [I.mk none (some 95) (Ef.pr Pr.mv) [X.t 11], I.mk none (some 96) (Ef.pr (Pr.un UnOp.not)) [X.t 95]]) 
  (IC.cond (X.t 96) 
  (IC.seq (IC.ops [I.mk none (some 6) (Ef.pr Pr.mv) [X.c (Value.bool false)]]) IC.ret) IC.skip))))))) (IC.ops [I.mk none (some 38) (Ef.pr Pr.mv) [X.t 8], I.mk none (some 39) (Ef.pr (Pr.ar BinOp.add)) [X.t 38, X.c (Value.int IntKind.i64 1)], I.mk none (some 8) (Ef.pr Pr.mv) [X.t 39]])))))) 
  (IC.seq 
  (IC.seq (IC.ops [I.mk none (some 13) (Ef.pr Pr.mv) [X.c (Value.int IntKind.i64 0)]]) 
  (IC.block 3 
  (IC.loop 
  (IC.seq 
  (IC.seq (IC.ops [I.mk none (some 97) (Ef.pr Pr.mv) [X.t 13], I.mk none (some 98) (Ef.pr Pr.mv) [X.t 7], I.mk none (some 99) (Ef.pr Pr.lenS) [X.t 98], I.mk none (some 100) (Ef.pr (Pr.cm BinOp.lss)) [X.t 97, X.t 99]]) 
  (IC.cond (X.t 100) IC.skip (IC.exit 3))) 
  (IC.seq 
  (IC.block 4 
  (IC.seq (IC.ops [I.mk none (some 103) (Ef.pr Pr.mv) [X.t 7], I.mk none (some 104) (Ef.pr Pr.mv) [X.t 13], I.mk none (some 105) (Ef.pr (Pr.iaS 3)) [X.t 103, X.t 104], I.mk none (some 106) (Ef.pr (Pr.ld 3 true)) [X.t 105], I.mk none (some 107) (Ef.call 71) [X.t 106], I.mk none (some 14) (Ef.pr Pr.mv) [X.t 107]]) 
  (IC.seq (IC.ops [I.mk none (some 108) (Ef.pr Pr.mv) [X.t 14], I.mk none (some 109) (Ef.pr (Pr.un UnOp.not)) [X.t 108]]) 
  (IC.cond (X.t 109) 
  (IC.seq (IC.ops [I.mk none (some 6) (Ef.pr Pr.mv) [X.c (Value.bool false)]]) IC.ret) IC.skip)))) (IC.ops [I.mk none (some 101) (Ef.pr Pr.mv) [X.t 13], I.mk none (some 102) (Ef.pr (Pr.ar BinOp.add)) [X.t 101, X.c (Value.int IntKind.i64 1)], I.mk none (some 13) (Ef.pr Pr.mv) [X.t 102]])))))) 
  (IC.seq (IC.ops [I.mk none (some 6) (Ef.pr Pr.mv) [X.c (Value.bool true)]]) IC.ret))))))

theorem k11 : Go.Proofs.Try.f11.body.bind (comp Go.Proofs.Try.prog 110 [9, 10, 12] [30]) = some c11 := by kernel_rfl

theorem r11 : cRVs Go.Proofs.Try.prog Go.Proofs.Try.f11.results.toList = some [RV.t 6] := by kernel_rfl

theorem e11 {args : List Value} {h : Hp} {Q : Value → Hp → Prop} (hl : Nat.ble args.length 110 = true) (hk : codeK PR none c11 (retK Q [RV.t 6]) (fun _ _ _ _ => False) (retK Q [RV.t 6]) (argsE 0 args) [] h) : Ok PR 11 args h Q :=
  Ok.of mixed Go.Proofs.Try.func11 rfl k11 r11 hl hk

def c70 : IC := IC.seq (IC.ops [I.mk none (some 2) (Ef.al [Value.pointer none, Value.pointer none, Value.pointer none]) []]) 
  (IC.seq (IC.ops [I.mk none (some 3) (Ef.pr Pr.mv) [X.t 0], I.mk none (some 4) (Ef.call 56) [X.t 3], I.mk none (some 5) (Ef.pr Pr.mv) [X.t 0], I.mk none (some 6) (Ef.call 37) [X.t 5], I.mk none (some 7) (Ef.pr Pr.mv) [X.t 0], I.mk none (some 8) (Ef.call 91) [X.t 7], I.mk none (some 9) (Ef.pr (Pr.bld [Value.pointer none, Value.pointer none, Value.pointer none] [(0, 1), (1, 1), (2, 1)])) [X.t 4, X.t 6, X.t 8], I.mk none none (Ef.st 3) [X.t 2, X.t 9]]) IC.ret)

theorem k70 : Go.Proofs.Try.f70.body.bind (comp Go.Proofs.Try.prog 10 [2] []) = some c70 := by kernel_rfl

theorem r70 : cRVs Go.Proofs.Try.prog Go.Proofs.Try.f70.results.toList = some [RV.c 2 3 true] := by kernel_rfl

theorem e70 {args : List Value} {h : Hp} {Q : Value → Hp → Prop} (hl : Nat.ble args.length 10 = true) (hk : codeK PR none c70 (retK Q [RV.c 2 3 true]) (fun _ _ _ _ => False) (retK Q [RV.c 2 3 true]) (argsE 0 args) [] h) : Ok PR 70 args h Q :=
  Ok.of mixed Go.Proofs.Try.func70 rfl k70 r70 hl hk

def c71 : IC := IC.seq (IC.ops [I.mk none (some 1) Ef.bx [X.t 0], I.mk none (some 2) (Ef.pr Pr.mv) [X.c (Value.bool false)]]) 
  (IC.seq 
  (IC.seq (IC.ops [I.mk none (some 5) (Ef.pr (Pr.fa 0)) [X.t 1], I.mk none (some 6) (Ef.pr (Pr.ld 1 false)) [X.t 5], I.mk none (some 7) (Ef.pr (Pr.eq false (EqT.one EqS.p))) [X.t 6, X.c (Value.pointer none)], I.mk none (some 8) (Ef.pr Pr.mv) [X.t 7], I.mk (some (8, false)) (some 9) (Ef.pr (Pr.fa 1)) [X.t 1], I.mk (some (8, false)) (some 10) (Ef.pr (Pr.ld 1 false)) [X.t 9], I.mk (some (8, false)) (some 11) (Ef.pr (Pr.eq false (EqT.one EqS.p))) [X.t 10, X.c (Value.pointer none)], I.mk none (some 12) (Ef.pr Pr.pick) [X.t 8, X.c (Value.bool true), X.t 11]]) 
  (IC.cond (X.t 12) 
  (IC.seq (IC.ops [I.mk none (some 2) (Ef.pr Pr.mv) [X.c (Value.bool false)]]) IC.ret) IC.skip)) 
  (IC.seq (IC.ops [I.mk none (some 13) (Ef.pr (Pr.fa 2)) [X.t 1], I.mk none (some 14) (Ef.pr (Pr.ld 1 false)) [X.t 13], I.mk none (some 15) (Ef.call 100) [X.t 14], I.mk none (some 3) (Ef.pr Pr.mv) [X.t 15]]) 
  (IC.seq (IC.ops [I.mk none (some 16) (Ef.pr (Pr.fa 2)) [X.t 1], I.mk none (some 17) (Ef.pr (Pr.ld 1 false)) [X.t 16], I.mk none (some 18) (Ef.pr Pr.nilc) [X.t 17], I.mk none (some 19) (Ef.pr (Pr.fa 0)) [X.t 18], I.mk none (some 20) (Ef.pr (Pr.ld 1 false)) [X.t 19], I.mk none (some 21) (Ef.pr Pr.lenS) [X.t 20], I.mk none (some 4) (Ef.pr Pr.mv) [X.t 21]]) 
  (IC.seq (IC.ops [I.mk none (some 22) (Ef.pr (Pr.fa 0)) [X.t 1], I.mk none (some 23) (Ef.pr (Pr.ld 1 false)) [X.t 22], I.mk none (some 24) (Ef.call 63) [X.t 23], I.mk none (some 25) (Ef.pr Pr.mv) [X.t 4], I.mk none (some 26) (Ef.pr (Pr.cm BinOp.eql)) [X.t 24, X.t 25], I.mk none (some 27) (Ef.pr Pr.mv) [X.t 26], I.mk (some (27, true)) (some 28) (Ef.pr (Pr.fa 1)) [X.t 1], I.mk (some (27, true)) (some 29) (Ef.pr (Pr.ld 1 false)) [X.t 28], I.mk (some (27, true)) (some 30) (Ef.call 44) [X.t 29], I.mk (some (27, true)) (some 31) (Ef.pr Pr.mv) [X.t 4], I.mk (some (27, true)) (some 32) (Ef.pr (Pr.cm BinOp.eql)) [X.t 30, X.t 31], I.mk none (some 33) (Ef.pr Pr.pick) [X.t 27, X.t 32, X.c (Value.bool false)], I.mk none (some 34) (Ef.pr Pr.mv) [X.t 33], I.mk (some (34, true)) (some 35) (Ef.pr (Pr.fa 0)) [X.t 1], I.mk (some (34, true)) (some 36) (Ef.pr (Pr.ld 1 false)) [X.t 35], I.mk (some (34, true)) (some 37) (Ef.call 61) [X.t 36], I.mk (some (34, true)) (some 38) (Ef.pr Pr.mv) [X.t 3], I.mk (some (34, true)) (some 39) (Ef.pr (Pr.cm BinOp.eql)) [X.t 37, X.t 38], I.mk none (some 40) (Ef.pr Pr.pick) [X.t 34, X.t 39, X.c (Value.bool false)], I.mk none (some 41) (Ef.pr Pr.mv) [X.t 40], I.mk (some (41, true)) (some 42) (Ef.pr (Pr.fa 1)) [X.t 1], I.mk (some (41, true)) (some 43) (Ef.pr (Pr.ld 1 false)) [X.t 42], I.mk (some (41, true)) (some 44) (Ef.call 41) [X.t 43], I.mk (some (41, true)) (some 45) (Ef.pr Pr.mv) [X.t 3], I.mk (some (41, true)) (some 46) (Ef.pr (Pr.cm BinOp.eql)) [X.t 44, X.t 45], I.mk none (some 47) (Ef.pr Pr.pick) [X.t 41, X.t 46, X.c (Value.bool false)], I.mk none (some 2) (Ef.pr Pr.mv) [X.t 47]]) IC.ret))))

theorem k71 : Go.Proofs.Try.f71.body.bind (comp Go.Proofs.Try.prog 48 [1] []) = some c71 := by kernel_rfl

theorem r71 : cRVs Go.Proofs.Try.prog Go.Proofs.Try.f71.results.toList = some [RV.t 2] := by kernel_rfl

theorem e71 {args : List Value} {h : Hp} {Q : Value → Hp → Prop} (hl : Nat.ble args.length 48 = true) (hk : codeK PR none c71 (retK Q [RV.t 2]) (fun _ _ _ _ => False) (retK Q [RV.t 2]) (argsE 0 args) [] h) : Ok PR 71 args h Q :=
  Ok.of mixed Go.Proofs.Try.func71 rfl k71 r71 hl hk

def c72 : IC := IC.seq (IC.ops [I.mk none (some 2) Ef.bx [X.t 0], I.mk none (some 3) Ef.bx [X.t 1], I.mk none (some 4) (Ef.pr Pr.mv) [X.c (Value.bool false)]]) 
  (IC.seq (IC.ops [I.mk none (some 18) (Ef.pr (Pr.fa 3)) [X.t 3], I.mk none (some 19) (Ef.pr (Pr.ld 1 false)) [X.t 18], I.mk none (some 20) (Ef.call 28) [X.t 19], I.mk none (some 5) (Ef.al [Value.string (ByteArray.mk (Array.mk [])), Value.int IntKind.i64 0, Value.int IntKind.i64 0]) [], I.mk none none (Ef.st 3) [X.t 5, X.t 20]]) 
  (IC.seq 
  (IC.seq (IC.ops [I.mk none (some 21) (Ef.pr (Pr.fa 0)) [X.t 3], I.mk none (some 22) (Ef.pr (Pr.ld 1 false)) [X.t 21]]) 
  (IC.block 0 
  (IC.seq (IC.ops [I.mk none (some 24) (Ef.pr (Pr.cm BinOp.eql)) [X.t 22, X.c (Value.int IntKind.i64 1)], I.mk none (some 23) (Ef.pr Pr.mv) [X.t 24]]) 
  (IC.cond (X.t 23) 
  (IC.seq (IC.ops [I.mk none (some 26) (Ef.pr (Pr.fa 0)) [X.t 2], I.mk none (some 27) (Ef.pr (Pr.ld 1 false)) [X.t 26], I.mk none (some 28) (Ef.pr (Pr.fa 3)) [X.t 3], I.mk none (some 29) (Ef.pr (Pr.ld 1 false)) [X.t 28], I.mk none (some 30) (Ef.call 57) [X.t 27, X.t 29], I.mk none (some 25) (Ef.pr Pr.mv) [X.t 30], I.mk none (some 31) (Ef.pr (Pr.ext 0)) [X.t 25], I.mk none (some 32) (Ef.pr (Pr.ext 1)) [X.t 25], I.mk none (some 6) (Ef.pr Pr.mv) [X.t 31], I.mk none (some 7) (Ef.pr Pr.mv) [X.t 32]]) 
  (IC.seq (IC.ops [I.mk none (some 34) (Ef.pr (Pr.fa 1)) [X.t 2], I.mk none (some 35) (Ef.pr (Pr.ld 1 false)) [X.t 34], I.mk none (some 36) (Ef.pr (Pr.ld 3 true)) [X.t 5], I.mk none (some 37) (Ef.call 40) [X.t 35, X.t 36], I.mk none (some 33) (Ef.pr Pr.mv) [X.t 37], I.mk none (some 38) (Ef.pr (Pr.ext 0)) [X.t 33], I.mk none (some 39) (Ef.pr (Pr.ext 1)) [X.t 33], I.mk none (some 8) (Ef.pr Pr.mv) [X.t 38], I.mk none (some 9) (Ef.pr Pr.mv) [X.t 39]]) 
  (IC.seq (IC.ops [I.mk none (some 41) (Ef.pr (Pr.fa 2)) [X.t 2], I.mk none (some 42) (Ef.pr (Pr.ld 1 false)) [X.t 41], I.mk none (some 43) (Ef.pr (Pr.fa 3)) [X.t 3], I.mk none (some 44) (Ef.pr (Pr.ld 1 false)) [X.t 43], I.mk none (some 45) (Ef.call 92) [X.t 42, X.t 44], I.mk none (some 40) (Ef.pr Pr.mv) [X.t 45], I.mk none (some 46) (Ef.pr (Pr.ext 0)) [X.t 40], I.mk none (some 47) (Ef.pr (Pr.ext 1)) [X.t 40], I.mk none (some 10) (Ef.pr Pr.mv) [X.t 46], I.mk none (some 11) (Ef.pr Pr.mv) [X.t 47]]) 
  (IC.seq (IC.ops [I.mk none (some 48) (Ef.pr Pr.mv) [X.t 6], I.mk none (some 49) (Ef.pr Pr.mv) [X.t 10], I.mk none (some 50) (Ef.pr (Pr.cm BinOp.eql)) [X.t 48, X.t 49], I.mk none (some 51) (Ef.pr Pr.mv) [X.t 50], I.mk (some (51, true)) (some 52) (Ef.pr Pr.mv) [X.t 8], I.mk (some (51, true)) (some 53) (Ef.pr Pr.mv) [X.t 10], I.mk (some (51, true)) (some 54) (Ef.pr (Pr.cm BinOp.eql)) [X.t 52, X.t 53], I.mk none (some 55) (Ef.pr Pr.pick) [X.t 51, X.t 54, X.c (Value.bool false)], I.mk none (some 56) (Ef.pr Pr.mv) [X.t 55], I.mk (some (56, true)) (some 57) (Ef.pr Pr.mv) [X.t 7], I.mk (some (56, true)) (some 58) (Ef.pr Pr.mv) [X.t 11], I.mk (some (56, true)) (some 59) (Ef.pr (Pr.cm BinOp.eql)) [X.t 57, X.t 58], I.mk none (some 60) (Ef.pr Pr.pick) [X.t 56, X.t 59, X.c (Value.bool false)], I.mk none (some 61) (Ef.pr Pr.mv) [X.t 60], I.mk (some (61, true)) (some 62) (Ef.pr Pr.mv) [X.t 9], I.mk (some (61, true)) (some 63) (Ef.pr Pr.mv) [X.t 11], I.mk (some (61, true)) (some 64) (Ef.pr (Pr.cm BinOp.eql)) [X.t 62, X.t 63], I.mk none (some 65) (Ef.pr Pr.pick) [X.t 61, X.t 64, X.c (Value.bool false)], I.mk none (some 4) (Ef.pr Pr.mv) [X.t 65]]) IC.ret)))) 
  (IC.seq (IC.ops [I.mk none (some 67) (Ef.pr (Pr.cm BinOp.eql)) [X.t 22, X.c (Value.int IntKind.i64 2)], I.mk none (some 66) (Ef.pr Pr.mv) [X.t 67]]) 
  (IC.cond (X.t 66) 
  (IC.seq (IC.ops [I.mk none (some 68) (Ef.pr (Pr.fa 0)) [X.t 2], I.mk none (some 69) (Ef.pr (Pr.ld 1 false)) [X.t 68], I.mk none (some 70) (Ef.pr (Pr.fa 2)) [X.t 3], I.mk none (some 71) (Ef.pr (Pr.ld 1 false)) [X.t 70], I.mk none (some 72) (Ef.pr (Pr.fa 3)) [X.t 3], I.mk none (some 73) (Ef.pr (Pr.ld 1 false)) [X.t 72], I.mk none (some 74) (Ef.call 67) [X.t 69, X.t 71, X.t 73], I.mk none (some 12) (Ef.pr Pr.mv) [X.t 74]]) 
  (IC.seq (IC.ops [I.mk none (some 75) (Ef.pr (Pr.fa 1)) [X.t 2], I.mk none (some 76) (Ef.pr (Pr.ld 1 false)) [X.t 75], I.mk none (some 77) (Ef.pr (Pr.fa 2)) [X.t 3], I.mk none (some 78) (Ef.pr (Pr.ld 1 false)) [X.t 77], I.mk none (some 79) (Ef.pr (Pr.ld 3 true)) [X.t 5], I.mk none (some 80) (Ef.call 90) [X.t 76, X.t 78, X.t 79], I.mk none (some 13) (Ef.pr Pr.mv) [X.t 80]]) 
  (IC.seq (IC.ops [I.mk none (some 81) (Ef.pr (Pr.fa 2)) [X.t 2], I.mk none (some 82) (Ef.pr (Pr.ld 1 false)) [X.t 81], I.mk none (some 83) (Ef.pr (Pr.fa 2)) [X.t 3], I.mk none (some 84) (Ef.pr (Pr.ld 1 false)) [X.t 83], I.mk none (some 85) (Ef.pr (Pr.fa 3)) [X.t 3], I.mk none (some 86) (Ef.pr (Pr.ld 1 false)) [X.t 85], I.mk none (some 87) (Ef.call 93) [X.t 82, X.t 84, X.t 86], I.mk none (some 14) (Ef.pr Pr.mv) [X.t 87]]) 
  (IC.seq (IC.ops [I.mk none (some 88) (Ef.pr Pr.mv) [X.t 12], I.mk none (some 89) (Ef.pr Pr.mv) [X.t 14], I.mk none (some 90) (Ef.pr (Pr.cm BinOp.eql)) [X.t 88, X.t 89], I.mk none (some 91) (Ef.pr Pr.mv) [X.t 90], I.mk (some (91, true)) (some 92) (Ef.pr Pr.mv) [X.t 13], I.mk (some (91, true)) (some 93) (Ef.pr Pr.mv) [X.t 14], I.mk (some (91, true)) (some 94) (Ef.pr (Pr.cm BinOp.eql)) [X.t 92, X.t 93], I.mk none (some 95) (Ef.pr Pr.pick) [X.t 91, X.t 94, X.c (Value.bool false)], I.mk none (some 4) (Ef.pr Pr.mv) [X.t 95]]) IC.ret)))) IC.skip)))))) 
  (IC.seq (IC.ops [I.mk none (some 96) (Ef.pr (Pr.fa 0)) [X.t 2], I.mk none (some 97) (Ef.pr (Pr.ld 1 false)) [X.t 96], I.mk none (some 98) (Ef.pr (Pr.fa 2)) [X.t 3], I.mk none (some 99) (Ef.pr (Pr.ld 1 false)) [X.t 98], I.mk none (some 100) (Ef.pr (Pr.fa 3)) [X.t 3], I.mk none (some 101) (Ef.pr (Pr.ld 1 false)) [X.t 100], I.mk none (some 102) (Ef.call 64) [X.t 97, X.t 99, X.t 101], I.mk none (some 15) (Ef.pr Pr.mv) [X.t 102]]) 
  (IC.seq (IC.ops [I.mk none (some 103) (Ef.pr (Pr.fa 1)) [X.t 2], I.mk none (some 104) (Ef.pr (Pr.ld 1 false)) [X.t 103], I.mk none (some 105) (Ef.pr (Pr.fa 2)) [X.t 3], I.mk none (some 106) (Ef.pr (Pr.ld 1 false)) [X.t 105], I.mk none (some 107) (Ef.pr (Pr.ld 3 true)) [X.t 5], I.mk none (some 108) (Ef.call 103) [X.t 104, X.t 106, X.t 107], I.mk none (some 16) (Ef.pr Pr.mv) [X.t 108]]) 
  (IC.seq (IC.ops [I.mk none (some 109) (Ef.pr (Pr.fa 2)) [X.t 2], I.mk none (some 110) (Ef.pr (Pr.ld 1 false)) [X.t 109], I.mk none (some 111) (Ef.pr (Pr.fa 2)) [X.t 3], I.mk none (some 112) (Ef.pr (Pr.ld 1 false)) [X.t 111], I.mk none (some 113) (Ef.pr (Pr.fa 3)) [X.t 3], I.mk none (some 114) (Ef.pr (Pr.ld 1 false)) [X.t 113], I.mk none (some 115) (Ef.call 98) [X.t 110, X.t 112, X.t 114], I.mk none (some 17) (Ef.pr Pr.mv) [X.t 115]]) 
  (IC.seq (IC.ops [I.mk none (some 116) (Ef.pr Pr.mv) [X.t 15], I.mk none (some 117) (Ef.pr Pr.mv) [X.t 17], I.mk none (some 118) (Ef.pr (Pr.eq false (EqT.one EqS.b))) [X.t 116, X.t 117], I.mk none (some 119) (Ef.pr Pr.mv) [X.t 118], I.mk (some (119, true)) (some 120) (Ef.pr Pr.mv) [X.t 16], I.mk (some (119, true)) (some 121) (Ef.pr Pr.mv) [X.t 17], I.mk (some (119, true)) (some 122) (Ef.pr (Pr.eq false (EqT.one EqS.b))) [X.t 120, X.t 121], I.mk none (some 123) (Ef.pr Pr.pick) [X.t 119, X.t 122, X.c (Value.bool false)], I.mk none (some 4) (Ef.pr Pr.mv) [X.t 123]]) IC.ret))))))

theorem k72 : Go.Proofs.Try.f72.body.bind (comp Go.Proofs.Try.prog 124 [2, 3, 5] []) = some c72 := by kernel_rfl

theorem r72 : cRVs Go.Proofs.Try.prog Go.Proofs.Try.f72.results.toList = some [RV.t 4] := by kernel_rfl

theorem e72 {args : List Value} {h : Hp} {Q : Value → Hp → Prop} (hl : Nat.ble args.length 124 = true) (hk : codeK PR none c72 (retK Q [RV.t 4]) (fun _ _ _ _ => False) (retK Q [RV.t 4]) (argsE 0 args) [] h) : Ok PR 72 args h Q :=
  Ok.of mixed Go.Proofs.Try.func72 rfl k72 r72 hl hk

def c73 : IC := IC.seq (IC.ops [I.mk none (some 2) Ef.bx [X.t 0], I.mk none (some 3) Ef.bx [X.t 1], I.mk none (some 4) (Ef.pr Pr.mv) [X.c (Value.bool false)]]) 
  (IC.seq 
  (IC.seq (IC.ops [I.mk none (some 19) (Ef.pr (Pr.fa 0)) [X.t 3], I.mk none (some 20) (Ef.pr (Pr.ld 1 false)) [X.t 19]]) 
  (IC.block 0 
  (IC.seq (IC.ops [I.mk none (some 22) (Ef.pr (Pr.cm BinOp.eql)) [X.t 20, X.c (Value.int IntKind.i64 3)], I.mk none (some 21) (Ef.pr Pr.mv) [X.t 22]]) 
  (IC.cond (X.t 21) 
  (IC.seq (IC.ops [I.mk none (some 24) (Ef.pr (Pr.fa 0)) [X.t 2], I.mk none (some 25) (Ef.pr (Pr.ld 1 false)) [X.t 24], I.mk none (some 26) (Ef.pr (Pr.fa 2)) [X.t 3], I.mk none (some 27) (Ef.pr (Pr.ld 1 false)) [X.t 26], I.mk none (some 28) (Ef.call 60) [X.t 25, X.t 27], I.mk none (some 23) (Ef.pr Pr.mv) [X.t 28], I.mk none (some 29) (Ef.pr (Pr.ext 0)) [X.t 23], I.mk none (some 30) (Ef.pr (Pr.ext 1)) [X.t 23], I.mk none (some 5) (Ef.pr Pr.mv) [X.t 29], I.mk none (some 6) (Ef.pr Pr.mv) [X.t 30]]) 
  (IC.seq (IC.ops [I.mk none (some 32) (Ef.pr (Pr.fa 1)) [X.t 2], I.mk none (some 33) (Ef.pr (Pr.ld 1 false)) [X.t 32], I.mk none (some 34) (Ef.pr (Pr.fa 2)) [X.t 3], I.mk none (some 35) (Ef.pr (Pr.ld 1 false)) [X.t 34], I.mk none (some 36) (Ef.call 89) [X.t 33, X.t 35], I.mk none (some 31) (Ef.pr Pr.mv) [X.t 36], I.mk none (some 37) (Ef.pr (Pr.ext 0)) [X.t 31], I.mk none (some 38) (Ef.pr (Pr.ext 1)) [X.t 31], I.mk none (some 7) (Ef.al [Value.string (ByteArray.mk (Array.mk [])), Value.int IntKind.i64 0, Value.int IntKind.i64 0]) [], I.mk none none (Ef.st 3) [X.t 7, X.t 37], I.mk none (some 8) (Ef.pr Pr.mv) [X.t 38]]) 
  (IC.seq (IC.ops [I.mk none (some 40) (Ef.pr (Pr.fa 2)) [X.t 2], I.mk none (some 41) (Ef.pr (Pr.ld 1 false)) [X.t 40], I.mk none (some 42) (Ef.pr (Pr.fa 2)) [X.t 3], I.mk none (some 43) (Ef.pr (Pr.ld 1 false)) [X.t 42], I.mk none (some 44) (Ef.call 97) [X.t 41, X.t 43], I.mk none (some 39) (Ef.pr Pr.mv) [X.t 44], I.mk none (some 45) (Ef.pr (Pr.ext 0)) [X.t 39], I.mk none (some 46) (Ef.pr (Pr.ext 1)) [X.t 39], I.mk none (some 9) (Ef.pr Pr.mv) [X.t 45], I.mk none (some 10) (Ef.pr Pr.mv) [X.t 46]]) 
  (IC.seq (IC.ops [I.mk none (some 47) (Ef.pr Pr.mv) [X.t 5], I.mk none (some 48) (Ef.pr Pr.mv) [X.t 6], I.mk none (some 49) (Ef.pr (Pr.ld 3 true)) [X.t 7], I.mk none (some 50) (Ef.pr Pr.mv) [X.t 8], I.mk none (some 51) (Ef.pr Pr.mv) [X.t 9], I.mk none (some 52) (Ef.pr Pr.mv) [X.t 10], I.mk none (some 53) (Ef.call 104) [X.t 47, X.t 48, X.t 49, X.t 50, X.t 51, X.t 52], I.mk none (some 4) (Ef.pr Pr.mv) [X.t 53]]) IC.ret)))) 
  (IC.seq (IC.ops [I.mk none (some 55) (Ef.pr (Pr.cm BinOp.eql)) [X.t 20, X.c (Value.int IntKind.i64 5)], I.mk none (some 54) (Ef.pr Pr.mv) [X.t 55]]) 
  (IC.cond (X.t 54) 
  (IC.seq (IC.ops [I.mk none (some 57) (Ef.pr (Pr.fa 0)) [X.t 2], I.mk none (some 58) (Ef.pr (Pr.ld 1 false)) [X.t 57], I.mk none (some 59) (Ef.pr (Pr.fa 2)) [X.t 3], I.mk none (some 60) (Ef.pr (Pr.ld 1 false)) [X.t 59], I.mk none (some 61) (Ef.call 68) [X.t 58, X.t 60], I.mk none (some 56) (Ef.pr Pr.mv) [X.t 61], I.mk none (some 62) (Ef.pr (Pr.ext 0)) [X.t 56], I.mk none (some 63) (Ef.pr (Pr.ext 1)) [X.t 56], I.mk none (some 11) (Ef.pr Pr.mv) [X.t 62], I.mk none (some 12) (Ef.pr Pr.mv) [X.t 63]]) 
  (IC.seq (IC.ops [I.mk none (some 65) (Ef.pr (Pr.fa 1)) [X.t 2], I.mk none (some 66) (Ef.pr (Pr.ld 1 false)) [X.t 65], I.mk none (some 67) (Ef.pr (Pr.fa 2)) [X.t 3], I.mk none (some 68) (Ef.pr (Pr.ld 1 false)) [X.t 67], I.mk none (some 69) (Ef.call 42) [X.t 66, X.t 68], I.mk none (some 64) (Ef.pr Pr.mv) [X.t 69], I.mk none (some 70) (Ef.pr (Pr.ext 0)) [X.t 64], I.mk none (some 71) (Ef.pr (Pr.ext 1)) [X.t 64], I.mk none (some 13) (Ef.al [Value.string (ByteArray.mk (Array.mk [])), Value.int IntKind.i64 0, Value.int IntKind.i64 0]) [], I.mk none none (Ef.st 3) [X.t 13, X.t 70], I.mk none (some 14) (Ef.pr Pr.mv) [X.t 71]]) 
  (IC.seq (IC.ops [I.mk none (some 73) (Ef.pr (Pr.fa 2)) [X.t 2], I.mk none (some 74) (Ef.pr (Pr.ld 1 false)) [X.t 73], I.mk none (some 75) (Ef.pr (Pr.fa 2)) [X.t 3], I.mk none (some 76) (Ef.pr (Pr.ld 1 false)) [X.t 75], I.mk none (some 77) (Ef.call 94) [X.t 74, X.t 76], I.mk none (some 72) (Ef.pr Pr.mv) [X.t 77], I.mk none (some 78) (Ef.pr (Pr.ext 0)) [X.t 72], I.mk none (some 79) (Ef.pr (Pr.ext 1)) [X.t 72], I.mk none (some 15) (Ef.pr Pr.mv) [X.t 78], I.mk none (some 16) (Ef.pr Pr.mv) [X.t 79]]) 
  (IC.seq (IC.ops [I.mk none (some 80) (Ef.pr Pr.mv) [X.t 11], I.mk none (some 81) (Ef.pr Pr.mv) [X.t 12], I.mk none (some 82) (Ef.pr (Pr.ld 3 true)) [X.t 13], I.mk none (some 83) (Ef.pr Pr.mv) [X.t 14], I.mk none (some 84) (Ef.pr Pr.mv) [X.t 15], I.mk none (some 85) (Ef.pr Pr.mv) [X.t 16], I.mk none (some 86) (Ef.call 104) [X.t 80, X.t 81, X.t 82, X.t 83, X.t 84, X.t 85], I.mk none (some 4) (Ef.pr Pr.mv) [X.t 86]]) IC.ret)))) 
  (IC.seq (IC.ops [I.mk none (some 88) (Ef.pr (Pr.cm BinOp.eql)) [X.t 20, X.c (Value.int IntKind.i64 6)], I.mk none (some 87) (Ef.pr Pr.mv) [X.t 88]]) 
  (IC.cond (X.t 87) 
  (IC.seq (IC.ops [I.mk none (some 89) (Ef.pr (Pr.fa 2)) [X.t 2], I.mk none (some 90) (Ef.pr (Pr.ld 1 false)) [X.t 89], I.mk none (some 91) (Ef.pr (Pr.fa 2)) [X.t 3], I.mk none (some 92) (Ef.pr (Pr.ld 1 false)) [X.t 91], I.mk none (some 93) (Ef.call 96) [X.t 90, X.t 92], I.mk none (some 17) (Ef.pr Pr.mv) [X.t 93]]) 
  (IC.seq (IC.ops [I.mk none (some 94) (Ef.pr (Pr.fa 0)) [X.t 2], I.mk none (some 95) (Ef.pr (Pr.ld 1 false)) [X.t 94], I.mk none (some 96) (Ef.pr (Pr.fa 2)) [X.t 3], I.mk none (some 97) (Ef.pr (Pr.ld 1 false)) [X.t 96], I.mk none (some 98) (Ef.call 59) [X.t 95, X.t 97], I.mk none (some 99) (Ef.pr Pr.mv) [X.t 17], I.mk none (some 100) (Ef.pr (Pr.cm BinOp.eql)) [X.t 98, X.t 99], I.mk none (some 101) (Ef.pr Pr.mv) [X.t 100], I.mk (some (101, true)) (some 102) (Ef.pr (Pr.fa 1)) [X.t 2], I.mk (some (101, true)) (some 103) (Ef.pr (Pr.ld 1 false)) [X.t 102], I.mk (some (101, true)) (some 104) (Ef.pr (Pr.fa 2)) [X.t 3], I.mk (some (101, true)) (some 105) (Ef.pr (Pr.ld 1 false)) [X.t 104], I.mk (some (101, true)) (some 106) (Ef.call 43) [X.t 103, X.t 105], I.mk (some (101, true)) (some 107) (Ef.pr Pr.mv) [X.t 17], I.mk (some (101, true)) (some 108) (Ef.pr (Pr.cm BinOp.eql)) [X.t 106, X.t 107], I.mk none (some 109) (Ef.pr Pr.pick) [X.t 101, X.t 108, X.c (Value.bool false)], I.mk none (some 4) (Ef.pr Pr.mv) [X.t 109]]) IC.ret)) 
  (IC.seq (IC.ops [I.mk none (some 111) (Ef.pr (Pr.cm BinOp.eql)) [X.t 20, X.c (Value.int IntKind.i64 8)], I.mk none (some 110) (Ef.pr Pr.mv) [X.t 111]]) 
  (IC.cond (X.t 110) 
  (IC.seq (IC.ops [I.mk none (some 112) (Ef.pr (Pr.fa 2)) [X.t 2], I.mk none (some 113) (Ef.pr (Pr.ld 1 false)) [X.t 112], I.mk none (some 114) (Ef.pr (Pr.fa 3)) [X.t 3], I.mk none (some 115) (Ef.pr (Pr.ld 1 false)) [X.t 114], I.mk none (some 116) (Ef.call 105) [X.t 113, X.t 115], I.mk none (some 18) (Ef.pr Pr.mv) [X.t 116]]) 
  (IC.seq (IC.plan (Plan.q (I.mk none (some 117) (Ef.pr (Pr.fa 0)) [X.t 2]) (Plan.q (I.mk none (some 118) (Ef.pr (Pr.ld 1 false)) [X.t 117]) (Plan.q (I.mk none (some 119) (Ef.pr (Pr.fa 3)) [X.t 3]) (Plan.q (I.mk none (some 120) (Ef.pr (Pr.ld 1 false)) [X.t 119]) (Plan.q (I.mk none (some 122) (Ef.pr Pr.mv) [X.t 18]) (Plan.br (PlanL.cons false true (I.mk none (some 121) (Ef.call 69) [X.t 118, X.t 120]) (Plan.q (I.mk none (some 123) (Ef.pr (Pr.cm BinOp.eql)) [X.t 121, X.t 122]) (Plan.q (I.mk none (some 124) (Ef.pr Pr.mv) [X.t 123]) (Plan.q (I.mk (some (124, true)) (some 125) (Ef.pr (Pr.fa 1)) [X.t 2]) (Plan.q (I.mk (some (124, true)) (some 126) (Ef.pr (Pr.ld 1 false)) [X.t 125]) (Plan.q (I.mk (some (124, true)) (some 127) (Ef.pr (Pr.fa 3)) [X.t 3]) (Plan.q (I.mk (some (124, true)) (some 128) (Ef.pr (Pr.ld 1 false)) [X.t 127]) (Plan.q (I.mk (some (124, true)) (some 131) (Ef.pr Pr.mv) [X.t 18]) (Plan.br (PlanL.cons true false (I.mk (some (124, true)) (some 129) (Ef.call 28) [X.t 128]) (Plan.br (PlanL.cons false false (I.mk (some (124, true)) (some 130) (Ef.call 106) [X.t 126, X.t 129]) (Plan.q (I.mk (some (124, true)) (some 132) (Ef.pr (Pr.cm BinOp.eql)) [X.t 130, X.t 131]) (Plan.q (I.mk none (some 133) (Ef.pr Pr.pick) [X.t 124, X.t 132, X.c (Value.bool false)]) (Plan.q (I.mk none (some 4) (Ef.pr Pr.mv) [X.t 133]) Plan.done))) PlanL.nil)) PlanL.nil))))))))) PlanL.nil)))))))) IC.ret)) IC.skip)))))))))) 
  (IC.seq (IC.ops [I.mk none (some 134) (Ef.pr (Pr.fa 0)) [X.t 2], I.mk none (some 135) (Ef.pr (Pr.ld 1 false)) [X.t 134], I.mk none (some 136) (Ef.call 65) [X.t 135]]) 
  (IC.seq (IC.ops [I.mk none (some 137) (Ef.pr (Pr.fa 1)) [X.t 2], I.mk none (some 138) (Ef.pr (Pr.ld 1 false)) [X.t 137], I.mk none (some 139) (Ef.call 48) [X.t 138]]) 
  (IC.seq (IC.ops [I.mk none (some 140) (Ef.pr (Pr.fa 2)) [X.t 2], I.mk none (some 141) (Ef.pr (Pr.ld 1 false)) [X.t 140], I.mk none (some 142) (Ef.call 99) [X.t 141]]) 
  (IC.seq (IC.ops [I.mk none (some 4) (Ef.pr Pr.mv) [X.c (Value.bool true)]]) IC.ret)))))

theorem k73 : Go.Proofs.Try.f73.body.bind (comp Go.Proofs.Try.prog 143 [2, 3, 7, 13] []) = some c73 := by kernel_rfl

theorem r73 : cRVs Go.Proofs.Try.prog Go.Proofs.Try.f73.results.toList = some [RV.t 4] := by kernel_rfl

theorem e73 {args : List Value} {h : Hp} {Q : Value → Hp → Prop} (hl : Nat.ble args.length 143 = true) (hk : codeK PR none c73 (retK Q [RV.t 4]) (fun _ _ _ _ => False) (retK Q [RV.t 4]) (argsE 0 args) [] h) : Ok PR 73 args h Q :=
  Ok.of mixed Go.Proofs.Try.func73 rfl k73 r73 hl hk

def c104 : IC := IC.seq (IC.ops [I.mk none (some 8) Ef.bx [X.t 2], I.mk none (some 12) (Ef.pr Pr.mv) [X.c (Value.bool false)]]) 
  (IC.seq 
  (IC.seq (IC.ops [I.mk none (some 13) (Ef.pr Pr.mv) [X.t 1], I.mk none (some 14) (Ef.pr Pr.mv) [X.t 5], I.mk none (some 15) (Ef.pr (Pr.eq true (EqT.one EqS.b))) [X.t 13, X.t 14], I.mk none (some 16) (Ef.pr Pr.mv) [X.t 15], I.mk (some (16, false)) (some 17) (Ef.pr Pr.mv) [X.t 3], I.mk (some (16, false)) (some 18) (Ef.pr Pr.mv) [X.t 5], I.mk (some (16, false)) (some 19) (Ef.pr (Pr.eq true (EqT.one EqS.b))) [X.t 17, X.t 18], I.mk none (some 20) (Ef.pr Pr.pick) [X.t 16, X.c (Value.bool true), X.t 19]]) 
  (IC.cond (X.t 20) 
  (IC.seq (IC.ops [I.mk none (some 12) (Ef.pr Pr.mv) [X.c (Value.bool false)]]) IC.ret) IC.skip)) 
  (IC.seq 
  (IC.seq (IC.ops [I.mk none (some 21) (Ef.pr Pr.mv) [X.t 5], I.mk none (some 22) (Ef.pr (Pr.un UnOp.not)) [X.t 21]]) 
  (IC.cond (X.t 22) 
  (IC.seq (IC.ops [I.mk none (some 23) (Ef.pr Pr.mv) [X.t 0], I.mk none (some 24) (Ef.pr (Pr.cm BinOp.eql)) [X.t 23, X.c (Value.int IntKind.i64 0)], I.mk none (some 25) (Ef.pr Pr.mv) [X.t 24], I.mk (some (25, true)) (some 26) (Ef.pr (Pr.ld 3 true)) [X.t 8], I.mk (some (25, true)) (some 27) (Ef.pr (Pr.bld [Value.string (ByteArray.mk (Array.mk [])), Value.int IntKind.i64 0, Value.int IntKind.i64 0] [])) [], I.mk (some (25, true)) (some 28) (Ef.pr (Pr.eq false (EqT.ag [(0, EqS.s), (1, EqS.i), (2, EqS.i)]))) [X.t 26, X.t 27], I.mk none (some 29) (Ef.pr Pr.pick) [X.t 25, X.t 28, X.c (Value.bool false)], I.mk none (some 12) (Ef.pr Pr.mv) [X.t 29]]) IC.ret) IC.skip)) 
  (IC.seq (IC.plan (Plan.q (I.mk none (some 30) (Ef.pr Pr.mv) [X.t 0]) (Plan.q (I.mk none (some 31) (Ef.pr Pr.mv) [X.t 4]) (Plan.q (I.mk none (some 32) (Ef.pr (Pr.cm BinOp.eql)) [X.t 30, X.t 31]) (Plan.q (I.mk none (some 33) (Ef.pr Pr.mv) [X.t 32]) (Plan.q (I.mk (some (33, true)) (some 34) (Ef.pr (Pr.ld 3 true)) [X.t 8]) (Plan.q (I.mk (some (33, true)) (some 35) (Ef.pr Pr.mv) [X.t 4]) (Plan.br (PlanL.cons true false (I.mk (some (33, true)) (some 36) (Ef.call 28) [X.t 35]) (Plan.q (I.mk (some (33, true)) (some 37) (Ef.pr (Pr.eq false (EqT.ag [(0, EqS.s), (1, EqS.i), (2, EqS.i)]))) [X.t 34, X.t 36]) (Plan.q (I.mk none (some 38) (Ef.pr Pr.pick) [X.t 33, X.t 37, X.c (Value.bool false)]) (Plan.q (I.mk none (some 12) (Ef.pr Pr.mv) [X.t 38]) Plan.done))) PlanL.nil))))))))) IC.ret)))

theorem k104 : Go.Proofs.Try.f104.body.bind (comp Go.Proofs.Try.prog 39 [8] []) = some c104 := by kernel_rfl

theorem r104 : cRVs Go.Proofs.Try.prog Go.Proofs.Try.f104.results.toList = some [RV.t 12] := by kernel_rfl

theorem e104 {args : List Value} {h : Hp} {Q : Value → Hp → Prop} (hl : Nat.ble args.length 39 = true) (hk : codeK PR none c104 (retK Q [RV.t 12]) (fun _ _ _ _ => False) (retK Q [RV.t 12]) (argsE 0 args) [] h) : Ok PR 104 args h Q :=
  Ok.of mixed Go.Proofs.Try.func104 rfl k104 r104 hl hk

end Go.Proofs.Ytkmknolkblcbeaa.V
