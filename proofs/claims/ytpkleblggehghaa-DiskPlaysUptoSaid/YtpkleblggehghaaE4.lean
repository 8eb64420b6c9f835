/- The functions 3, 4, resolved. -/
import Derived.Test.YtpkleblggehghaaVP
namespace Go.Proofs.Ytpkleblggehghaa.V
set_option linter.unusedVariables false
set_option linter.unusedSimpArgs false
set_option linter.unusedSectionVars false
open Go
set_option maxRecDepth 100000

def c3 : IC := IC.seq (IC.ops [I.mk none (some 6) (Ef.pr Pr.mv) [X.c (Value.bool false)]]) 
  (IC.seq (IC.ops [I.mk none (some 12) (Ef.pr Pr.mv) [X.t 0], I.mk none (some 13) (Ef.call 11) [X.t 12], I.mk none (some 7) (Ef.pr Pr.mv) [X.t 13]]) 
  (IC.seq 
  (IC.seq (IC.ops [I.mk none (some 14) (Ef.pr Pr.mv) [X.t 7], I.mk none (some 15) (Ef.pr (Pr.eq false (EqT.one EqS.p))) [X.t 14, X.c (Value.pointer none)]]) 
  (IC.cond (X.t 15) 
  (IC.seq (IC.ops [I.mk none (some 6) (Ef.pr Pr.mv) [X.c (Value.bool false)]]) IC.ret) IC.skip)) 
  (IC.cut 
  (IC.seq (IC.ops [I.mk none (some 16) (Ef.pr Pr.mv) [X.t 2], I.mk none (some 17) (Ef.pr (Pr.cm BinOp.lss)) [X.t 16, X.c (Value.int IntKind.i64 0)], I.mk none (some 18) (Ef.pr Pr.mv) [X.t 17], I.mk (some (18, false)) (some 19) (Ef.pr Pr.mv) [X.t 2], I.mk (some (18, false)) (some 20) (Ef.pr Pr.mv) [X.t 1], I.mk (some (18, false)) (some 21) (Ef.pr Pr.lenS) [X.t 20], I.mk (some (18, false)) (some 22) (Ef.pr (Pr.cm BinOp.gtr)) [X.t 19, X.t 21], I.mk none (some 23) (Ef.pr Pr.pick) [X.t 18, X.c (Value.bool true), X.t 22]]) 
  (IC.cond (X.t 23) (IC.ops [I.mk none (some 2) (Ef.pr Pr.mv) [X.c (Value.int IntKind.i64 0)]]) IC.skip)) 
  (IC.seq (IC.ops [I.mk none (some 24) (Ef.pr Pr.mv) [X.t 1], I.mk none (some 25) (Ef.pr Pr.lenS) [X.t 24], I.mk none (some 26) (Ef.pr Pr.mv) [X.t 2], I.mk none (some 27) (Ef.pr (Pr.ar BinOp.sub)) [X.t 25, X.t 26], I.mk none (some 8) (Ef.pr Pr.mv) [X.t 27]]) 
  (IC.seq 
  (IC.seq (IC.ops [I.mk none (some 28) (Ef.pr Pr.mv) [X.t 7], I.mk none (some 29) (Ef.pr Pr.mv) [X.t 8], I.mk none (some 30) (Ef.call 12) [X.t 28, X.t 29], I.mk none (some 31) (Ef.pr (Pr.cm BinOp.neq)) [X.t 30, X.c (Value.int IntKind.i64 0)]]) 
  (IC.cond (X.t 31) 
  (IC.seq (IC.ops [I.mk none (some 6) (Ef.pr Pr.mv) [X.c (Value.bool false)]]) IC.ret) IC.skip)) 
  (IC.seq (IC.ops [I.mk none (some 32) (Ef.pr Pr.mv) [X.t 7], I.mk none (some 33) (Ef.call 13) [X.t 32], I.mk none (some 9) (Ef.pr Pr.mv) [X.t 33]]) 
  (IC.seq 
  (IC.seq (IC.ops [I.mk none (some 10) (Ef.pr Pr.mv) [X.c (Value.int IntKind.i64 0)]]) 
  (IC.block 0 
  (IC.loop 
  (IC.seq 
  (IC.seq (IC.ops [I.mk none (some 34) (Ef.pr Pr.mv) [X.t 10], I.mk none (some 35) (Ef.pr Pr.mv) [X.t 1], I.mk none (some 36) (Ef.pr Pr.lenS) [X.t 35], I.mk none (some 37) (Ef.pr (Pr.cm BinOp.lss)) [X.t 34, X.t 36]]) 
  (IC.cond (X.t 37) IC.skip (IC.exit 0))) 
  (IC.seq 
  (IC.block 1 
  (IC.seq (IC.ops [I.mk none (some 11) (Ef.pr Pr.mv) [X.c (Value.int IntKind.i64 0)]]) 
  (IC.cut 
  (IC.seq (IC.ops [I.mk none (some 40) (Ef.pr Pr.mv) [X.t 1], I.mk none (some 41) (Ef.pr Pr.mv) [X.t 10], I.mk none (some 42) (Ef.pr (Pr.iaS 2)) [X.t 40, X.t 41], I.mk none (some 43) (Ef.pr (Pr.fa 1)) [X.t 42], I.mk none (some 44) (Ef.pr (Pr.ld 1 false)) [X.t 43], I.mk none (some 45) (Ef.pr (Pr.cm BinOp.eql)) [X.t 44, X.c (Value.int IntKind.u8 0)]]) 
  (IC.cond (X.t 45) (IC.ops [I.mk none (some 46) (Ef.pr Pr.mv) [X.t 7], I.mk none (some 47) (Ef.call 14) [X.t 46], I.mk none (some 11) (Ef.pr Pr.mv) [X.t 47]]) (IC.plan (Plan.q (I.mk none (some 48) (Ef.pr Pr.mv) [X.t 7]) (Plan.q (I.mk none (some 49) (Ef.pr Pr.mv) [X.t 1]) (Plan.q (I.mk none (some 50) (Ef.pr Pr.mv) [X.t 10]) (Plan.q (I.mk none (some 51) (Ef.pr (Pr.iaS 2)) [X.t 49, X.t 50]) (Plan.q (I.mk none (some 52) (Ef.pr (Pr.fa 0)) [X.t 51]) (Plan.q (I.mk none (some 53) (Ef.pr (Pr.ld 1 false)) [X.t 52]) (Plan.q (I.mk none (some 55) (Ef.pr Pr.mv) [X.t 1]) (Plan.q (I.mk none (some 56) (Ef.pr Pr.mv) [X.t 10]) (Plan.q (I.mk none (some 57) (Ef.pr (Pr.iaS 2)) [X.t 55, X.t 56]) (Plan.q (I.mk none (some 58) (Ef.pr (Pr.fa 1)) [X.t 57]) (Plan.q (I.mk none (some 59) (Ef.pr (Pr.ld 1 false)) [X.t 58]) (Plan.br (PlanL.cons true false (I.mk none (some 54) (Ef.call 16) [X.t 53]) (Plan.br (PlanL.cons false false (I.mk none (some 60) (Ef.call 17) [X.t 59]) (Plan.br (PlanL.cons false false (I.mk none (some 61) (Ef.call 15) [X.t 48, X.t 54, X.t 60]) (Plan.q (I.mk none (some 11) (Ef.pr Pr.mv) [X.t 61]) Plan.done) PlanL.nil)) PlanL.nil)) PlanL.nil)))))))))))))))) 
  (IC.seq (IC.ops [I.mk none (some 62) (Ef.pr Pr.mv) [X.t 10], I.mk none (some 63) (Ef.pr Pr.mv) [X.t 8], I.mk none (some 64) (Ef.pr (Pr.cm BinOp.lss)) [X.t 62, X.t 63], I.mk none (some 65) (Ef.pr Pr.mv) [X.t 11], I.mk none (some 66) (Ef.pr (Pr.cm BinOp.eql)) [X.t 65, X.c (Value.int IntKind.i64 0)], I.mk none (some 67) (Ef.pr (Pr.eq true (EqT.one EqS.b))) [X.t 64, X.t 66], I.mk none (some 68) (Ef.pr Pr.mv) [X.t 67], I.mk (some (68, false)) (some 69) (Ef.pr Pr.mv) [X.t 10], I.mk (some (68, false)) (some 70) (Ef.pr Pr.mv) [X.t 8], I.mk (some (68, false)) (some 71) (Ef.pr (Pr.cm BinOp.geq)) [X.t 69, X.t 70], I.mk (some (68, false)) (some 72) (Ef.pr Pr.mv) [X.t 11], I.mk (some (68, false)) (some 73) (Ef.pr (Pr.cm BinOp.eql)) [X.t 72, X.c (Value.int IntKind.i64 42)], I.mk (some (68, false)) (some 74) (Ef.pr (Pr.eq true (EqT.one EqS.b))) [X.t 71, X.t 73], I.mk none (some 75) (Ef.pr Pr.pick) [X.t 68, X.c (Value.bool true), X.t 74], I.mk none (some 76) (Ef.pr Pr.mv) [X.t 75], I.mk (some (76, false)) (some 77) (Ef.pr Pr.mv) [X.t 7], I.mk (some (76, false)) (some 78) (Ef.call 18) [X.t 77], I.mk (some (76, false)) (some 79) (Ef.pr Pr.mv) [X.t 10], I.mk (some (76, false)) (some 80) (Ef.pr Pr.mv) [X.t 8], I.mk (some (76, false)) (some 81) (Ef.pr (Pr.cm BinOp.geq)) [X.t 79, X.t 80], I.mk (some (76, false)) (some 82) (Ef.pr (Pr.eq true (EqT.one EqS.b))) [X.t 78, X.t 81], I.mk none (some 83) (Ef.pr Pr.pick) [X.t 76, X.c (Value.bool true), X.t 82]]) 
  (IC.cond (X.t 83) 
  (IC.seq (IC.ops [I.mk none (some 6) (Ef.pr Pr.mv) [X.c (Value.bool false)]]) IC.ret) IC.skip))))) (IC.ops [I.mk none (some 38) (Ef.pr Pr.mv) [X.t 10], I.mk none (some 39) (Ef.pr (Pr.ar BinOp.add)) [X.t 38, X.c (Value.int IntKind.i64 1)], I.mk none (some 10) (Ef.pr Pr.mv) [X.t 39]])))))) 
  (IC.cut 
  (IC.seq (IC.ops [I.mk none (some 84) (Ef.pr Pr.mv) [X.t 2], I.mk none (some 85) (Ef.pr (Pr.cm BinOp.eql)) [X.t 84, X.c (Value.int IntKind.i64 0)]]) 
  (IC.cond (X.t 85) 
  (IC.seq (IC.ops [I.mk none (some 86) (Ef.pr Pr.mv) [X.t 7], I.mk none (some 87) (Ef.call 18) [X.t 86], I.mk none (some 88) (Ef.pr Pr.mv) [X.t 87], I.mk (some (88, false)) (some 89) (Ef.pr Pr.mv) [X.t 7], I.mk (some (88, false)) (some 90) (Ef.call 14) [X.t 89], I.mk (some (88, false)) (some 91) (Ef.pr (Pr.cm BinOp.neq)) [X.t 90, X.c (Value.int IntKind.i64 42)], I.mk none (some 92) (Ef.pr Pr.pick) [X.t 88, X.c (Value.bool true), X.t 91]]) 
  (IC.cond (X.t 92) 
  (IC.seq (IC.ops [I.mk none (some 6) (Ef.pr Pr.mv) [X.c (Value.bool false)]]) IC.ret) IC.skip)) IC.skip)) 
  (IC.seq 
  (IC.seq (IC.ops [I.mk none (some 93) (Ef.pr Pr.mv) [X.t 7], I.mk none (some 94) (Ef.call 13) [X.t 93], I.mk none (some 95) (Ef.pr Pr.mv) [X.t 9], I.mk none (some 96) (Ef.pr Pr.mv) [X.t 8], I.mk none (some 97) (Ef.pr (Pr.ar BinOp.add)) [X.t 95, X.t 96], I.mk none (some 98) (Ef.pr (Pr.cm BinOp.neq)) [X.t 94, X.t 97], I.mk none (some 99) (Ef.pr Pr.mv) [X.t 98], I.mk (some (99, false)) (some 100) (Ef.pr Pr.mv) [X.t 7], I.mk (some (99, false)) (some 101) (Ef.call 19) [X.t 100, X.c (Value.int IntKind.i64 5)], I.mk (some (99, false)) (some 102) (Ef.pr (Pr.un UnOp.not)) [X.t 101], I.mk none (some 103) (Ef.pr Pr.pick) [X.t 99, X.c (Value.bool true), X.t 102], I.mk none (some 104) (Ef.pr Pr.mv) [X.t 103], I.mk (some (104, false)) (some 105) (Ef.pr Pr.mv) [X.t 7], I.mk (some (104, false)) (some 106) (Ef.call 13) [X.t 105], I.mk (some (104, false)) (some 107) (Ef.pr Pr.mv) [X.t 9], I.mk (some (104, false)) (some 108) (Ef.pr Pr.mv) [X.t 8], I.mk (some (104, false)) (some 109) (Ef.pr (Pr.ar BinOp.add)) [X.t 107, X.t 108], I.mk (some (104, false)) (some 110) (Ef.pr (Pr.cm BinOp.neq)) [X.t 106, X.t 109], I.mk none (some 111) (Ef.pr Pr.pick) [X.t 104, X.c (Value.bool true), X.t 110]]) 
  (IC.cond (X.t 111) 
  (IC.seq (IC.ops [I.mk none (some 6) (Ef.pr Pr.mv) [X.c (Value.bool false)]]) IC.ret) IC.skip)) 
  (IC.seq (IC.ops [I.mk none (some 112) (Ef.pr Pr.mv) [X.t 7], I.mk none (some 113) (Ef.call 20) [X.t 112, X.c (Value.slice none 0 0)]]) 
  (IC.seq 
  (IC.seq (IC.ops [I.mk none (some 114) (Ef.pr Pr.mv) [X.t 7], I.mk none (some 115) (Ef.call 18) [X.t 114], I.mk none (some 116) (Ef.pr Pr.mv) [X.t 115], I.mk (some (116, false)) (some 117) (Ef.pr Pr.mv) [X.t 7], I.mk (some (116, false)) (some 118) (Ef.pr Pr.mv) [X.t 1], I.mk (some (116, false)) (some 119) (Ef.call 21) [X.t 117, X.t 118], I.mk (some (116, false)) (some 120) (Ef.pr (Pr.un UnOp.not)) [X.t 119], I.mk none (some 121) (Ef.pr Pr.pick) [X.t 116, X.c (Value.bool true), X.t 120], I.mk none (some 122) (Ef.pr Pr.mv) [X.t 121], I.mk (some (122, false)) (some 123) (Ef.pr Pr.mv) [X.t 7], I.mk (some (122, false)) (some 124) (Ef.call 14) [X.t 123], I.mk (some (122, false)) (some 125) (Ef.pr (Pr.cm BinOp.neq)) [X.t 124, X.c (Value.int IntKind.i64 0)], I.mk none (some 126) (Ef.pr Pr.pick) [X.t 122, X.c (Value.bool true), X.t 125]]) 
  (IC.cond (X.t 126) 
  (IC.seq (IC.ops [I.mk none (some 6) (Ef.pr Pr.mv) [X.c (Value.bool false)]]) IC.ret) IC.skip)) 
  (IC.seq (IC.ops [I.mk none (some 127) (Ef.pr Pr.mv) [X.t 7], I.mk none (some 128) (Ef.call 13) [X.t 127], I.mk none (some 129) (Ef.pr Pr.mv) [X.t 9], I.mk none (some 130) (Ef.pr Pr.mv) [X.t 8], I.mk none (some 131) (Ef.pr (Pr.ar BinOp.add)) [X.t 129, X.t 130], I.mk none (some 132) (Ef.pr Pr.mv) [X.t 1], I.mk none (some 133) (Ef.pr Pr.lenS) [X.t 132], I.mk none (some 134) (Ef.pr (Pr.ar BinOp.add)) [X.t 131, X.t 133], I.mk none (some 135) (Ef.pr (Pr.ar BinOp.add)) [X.t 134, X.c (Value.int IntKind.i64 1)], I.mk none (some 136) (Ef.pr (Pr.cm BinOp.eql)) [X.t 128, X.t 135], I.mk none (some 6) (Ef.pr Pr.mv) [X.t 136]]) IC.ret))))))))))))

theorem k3 : Go.Proofs.Try.f3.body.bind (comp Go.Proofs.Try.prog 137 [] [6, 17, 22]) = some c3 := by kernel_rfl

theorem r3 : cRVs Go.Proofs.Try.prog Go.Proofs.Try.f3.results.toList = some [RV.t 6] := by kernel_rfl

theorem e3 {args : List Value} {h : Hp} {Q : Value → Hp → Prop} (hl : Nat.ble args.length 137 = true) (hk : codeK PR none c3 (retK Q [RV.t 6]) (fun _ _ _ _ => False) (retK Q [RV.t 6]) (argsE 0 args) [] h) : Ok PR 3 args h Q :=
  Ok.of mixed Go.Proofs.Try.func3 rfl k3 r3 hl hk

def c4 : IC := IC.seq (IC.ops [I.mk none (some 6) (Ef.pr Pr.mv) [X.c (Value.bool false)]]) 
  (IC.seq (IC.ops [I.mk none (some 19) (Ef.pr Pr.mv) [X.t 0], I.mk none (some 20) (Ef.call 11) [X.t 19], I.mk none (some 7) (Ef.pr Pr.mv) [X.t 20]]) 
  (IC.seq 
  (IC.seq (IC.ops [I.mk none (some 21) (Ef.pr Pr.mv) [X.t 7], I.mk none (some 22) (Ef.pr (Pr.eq false (EqT.one EqS.p))) [X.t 21, X.c (Value.pointer none)], I.mk none (some 23) (Ef.pr Pr.mv) [X.t 22], I.mk (some (23, false)) (some 24) (Ef.pr Pr.mv) [X.t 7], I.mk (some (23, false)) (some 25) (Ef.pr Pr.mv) [X.t 1], I.mk (some (23, false)) (some 26) (Ef.call 21) [X.t 24, X.t 25], I.mk (some (23, false)) (some 27) (Ef.pr (Pr.un UnOp.not)) [X.t 26], I.mk none (some 28) (Ef.pr Pr.pick) [X.t 23, X.c (Value.bool true), X.t 27]]) 
  (IC.cond (X.t 28) 
  (IC.seq (IC.ops [I.mk none (some 6) (Ef.pr Pr.mv) [X.c (Value.bool false)]]) IC.ret) IC.skip)) 
  (IC.seq (IC.ops [I.mk none (some 8) (Ef.pr Pr.mv) [X.c (Value.slice none 0 0)]]) 
  (IC.seq 
  (IC.seq (IC.ops [I.mk none (some 9) (Ef.pr Pr.mv) [X.c (Value.int IntKind.i64 0)]]) 
  (IC.block 0 
  (IC.loop 
  (IC.seq 
  (IC.seq (IC.ops [I.mk none (some 29) (Ef.pr Pr.mv) [X.t 9], I.mk none (some 30) (Ef.pr Pr.mv) [X.t 1], I.mk none (some 31) (Ef.pr Pr.lenS) [X.t 30], I.mk none (some 32) (Ef.pr (Pr.cm BinOp.lss)) [X.t 29, X.t 31]]) 
  (IC.cond (X.t 32) IC.skip (IC.exit 0))) 
  (IC.seq 
  (IC.block 1 
  (IC.seq (IC.ops [I.mk none (some 36) (Ef.pr Pr.mv) [X.t 7], I.mk none (some 37) (Ef.pr Pr.mv) [X.t 1], I.mk none (some 38) (Ef.pr Pr.mv) [X.t 9], I.mk none (some 39) (Ef.pr (Pr.iaS 2)) [X.t 37, X.t 38], I.mk none (some 40) (Ef.pr (Pr.fa 0)) [X.t 39], I.mk none (some 41) (Ef.pr (Pr.ld 1 false)) [X.t 40], I.mk none (some 42) (Ef.call 16) [X.t 41], I.mk none (some 43) (Ef.call 22) [X.t 36, X.t 42], I.mk none (some 35) (Ef.pr Pr.mv) [X.t 43], I.mk none (some 44) (Ef.pr (Pr.ext 0)) [X.t 35], I.mk none (some 45) (Ef.pr (Pr.ext 1)) [X.t 35], I.mk none (some 10) (Ef.pr Pr.mv) [X.t 44], I.mk none (some 11) (Ef.pr Pr.mv) [X.t 45]]) 
  (IC.seq 
  (IC.seq (IC.ops [I.mk none (some 46) (Ef.pr Pr.mv) [X.t 11], I.mk none (some 47) (Ef.pr (Pr.cm BinOp.neq)) [X.t 46, X.c (Value.int IntKind.i64 0)]]) 
  (IC.cond (X.t 47) 
  (IC.seq (IC.ops [I.mk none (some 6) (Ef.pr Pr.mv) [X.c (Value.bool false)]]) IC.ret) IC.skip)) (IC.ops [I.mk none (some 48) (Ef.pr Pr.mv) [X.t 8], I.mk none (some 49) (Ef.pr Pr.mv) [X.t 10], I.mk none (some 50) (Ef.bsl [Value.slice none 0 0] 34 1 1 [0]) [X.t 49], I.mk none (some 51) (Ef.app [Value.slice none 0 0] 34 24) [X.t 48, X.t 50], I.mk none (some 8) (Ef.pr Pr.mv) [X.t 51]])))) (IC.ops [I.mk none (some 33) (Ef.pr Pr.mv) [X.t 9], I.mk none (some 34) (Ef.pr (Pr.ar BinOp.add)) [X.t 33, X.c (Value.int IntKind.i64 1)], I.mk none (some 9) (Ef.pr Pr.mv) [X.t 34]])))))) 
  (IC.seq 
  (IC.seq (IC.ops [I.mk none (some 52) (Ef.pr Pr.mv) [X.t 7], I.mk none (some 53) (Ef.call 14) [X.t 52], I.mk none (some 54) (Ef.pr (Pr.cm BinOp.neq)) [X.t 53, X.c (Value.int IntKind.i64 0)], I.mk none (some 55) (Ef.pr Pr.mv) [X.t 54], I.mk (some (55, false)) (some 56) (Ef.pr Pr.mv) [X.t 7], I.mk (some (55, false)) (some 57) (Ef.call 23) [X.t 56], I.mk (some (55, false)) (some 58) (Ef.pr Pr.lenS) [X.t 57], I.mk (some (55, false)) (some 59) (Ef.pr (Pr.cm BinOp.neq)) [X.t 58, X.c (Value.int IntKind.i64 0)], I.mk none (some 60) (Ef.pr Pr.pick) [X.t 55, X.c (Value.bool true), X.t 59]]) 
  (IC.cond (X.t 60) 
  (IC.seq (IC.ops [I.mk none (some 6) (Ef.pr Pr.mv) [X.c (Value.bool false)]]) IC.ret) IC.skip)) 
  (IC.seq (IC.ops [I.mk none (some 61) (Ef.mks [Value.bool false] 4 1) [X.c (Value.int IntKind.i64 1024), X.c (Value.int IntKind.i64 1024)], I.mk none (some 12) (Ef.pr Pr.mv) [X.t 61]]) 
  (IC.seq 
  (IC.seq (IC.ops [I.mk none (some 13) (Ef.pr Pr.mv) [X.c (Value.int IntKind.i64 0)]]) 
  (IC.block 2 
  (IC.loop 
  (IC.seq 
  (IC.seq (IC.ops [I.mk none (some 62) (Ef.pr Pr.mv) [X.t 13], I.mk none (some 63) (Ef.pr Pr.mv) [X.t 1], I.mk none (some 64) (Ef.pr Pr.lenS) [X.t 63], I.mk none (some 65) (Ef.pr (Pr.cm BinOp.lss)) [X.t 62, X.t 64]]) 
  (IC.cond (X.t 65) IC.skip (IC.exit 2))) 
  (IC.seq 
  (IC.block 3 (IC.ops [I.mk none (some 68) (Ef.pr Pr.mv) [X.t 12], I.mk none (some 69) (Ef.pr Pr.mv) [X.t 1], I.mk none (some 70) (Ef.pr Pr.mv) [X.t 13], I.mk none (some 71) (Ef.pr (Pr.iaS 2)) [X.t 69, X.t 70], I.mk none (some 72) (Ef.pr (Pr.fa 0)) [X.t 71], I.mk none (some 73) (Ef.pr (Pr.ld 1 false)) [X.t 72], I.mk none (some 74) (Ef.call 16) [X.t 73], I.mk none (some 75) (Ef.pr (Pr.iaS 1)) [X.t 68, X.t 74], I.mk none none (Ef.st 1) [X.t 75, X.c (Value.bool true)]])) (IC.ops [I.mk none (some 66) (Ef.pr Pr.mv) [X.t 13], I.mk none (some 67) (Ef.pr (Pr.ar BinOp.add)) [X.t 66, X.c (Value.int IntKind.i64 1)], I.mk none (some 13) (Ef.pr Pr.mv) [X.t 67]])))))) 
  (IC.seq 
  (IC.seq (IC.ops [I.mk none (some 14) (Ef.pr Pr.mv) [X.c (Value.int IntKind.i64 0)]]) 
  (IC.block 4 
  (IC.loop 
  (IC.seq 
  (IC.seq (IC.ops [I.mk none (some 76) (Ef.pr Pr.mv) [X.t 14], I.mk none (some 77) (Ef.pr Pr.mv) [X.t 2], I.mk none (some 78) (Ef.pr Pr.lenS) [X.t 77], I.mk none (some 79) (Ef.pr (Pr.cm BinOp.lss)) [X.t 76, X.t 78]]) 
  (IC.cond (X.t 79) IC.skip (IC.exit 4))) 
  (IC.seq 
  (IC.block 5 
  (IC.seq (IC.ops [I.mk none (some 82) (Ef.pr Pr.mv) [X.t 14], I.mk none (some 83) (Ef.pr (Pr.ar BinOp.mul)) [X.c (Value.int IntKind.i64 37), X.t 82], I.mk none (some 84) (Ef.call 16) [X.t 83], I.mk none (some 15) (Ef.pr Pr.mv) [X.t 84]]) 
  (IC.seq (IC.ops [I.mk none (some 85) (Ef.pr Pr.mv) [X.t 12], I.mk none (some 86) (Ef.pr Pr.mv) [X.t 15], I.mk none (some 87) (Ef.pr (Pr.iaS 1)) [X.t 85, X.t 86], I.mk none (some 88) (Ef.pr (Pr.ld 1 false)) [X.t 87], I.mk none (some 89) (Ef.pr (Pr.un UnOp.not)) [X.t 88], I.mk none (some 90) (Ef.pr Pr.mv) [X.t 89], I.mk (some (90, true)) (some 91) (Ef.pr Pr.mv) [X.t 7], I.mk (some (90, true)) (some 92) (Ef.pr Pr.mv) [X.t 15], I.mk (some (90, true)) (some 93) (Ef.pr Pr.mv) [X.t 14], I.mk (some (90, true)) (some 94) (Ef.pr (Pr.cv IntKind.u8)) [X.t 93], I.mk (some (90, true)) (some 95) (Ef.call 17) [X.t 94], I.mk (some (90, true)) (some 96) (Ef.call 15) [X.t 91, X.t 92, X.t 95], I.mk (some (90, true)) (some 97) (Ef.pr (Pr.cm BinOp.neq)) [X.t 96, X.c (Value.int IntKind.i64 0)], I.mk none (some 98) (Ef.pr Pr.pick) [X.t 90, X.t 97, X.c (Value.bool false)]]) 
  (IC.cond (X.t 98) 
  (IC.seq (IC.ops [I.mk none (some 6) (Ef.pr Pr.mv) [X.c (Value.bool false)]]) IC.ret) IC.skip)))) (IC.ops [I.mk none (some 80) (Ef.pr Pr.mv) [X.t 14], I.mk none (some 81) (Ef.pr (Pr.ar BinOp.add)) [X.t 80, X.c (Value.int IntKind.i64 1)], I.mk none (some 14) (Ef.pr Pr.mv) [X.t 81]])))))) 
  (IC.seq (IC.ops [I.mk none (some 99) (Ef.pr Pr.mv) [X.t 7], I.mk none (some 100) (Ef.pr Pr.mv) [X.t 2], I.mk none (some 101) (Ef.call 24) [X.t 100], I.mk none (some 102) (Ef.call 20) [X.t 99, X.t 101]]) 
  (IC.seq 
  (IC.seq (IC.ops [I.mk none (some 16) (Ef.pr Pr.mv) [X.c (Value.int IntKind.i64 0)]]) 
  (IC.block 6 
  (IC.loop 
  (IC.seq 
  (IC.seq (IC.ops [I.mk none (some 103) (Ef.pr Pr.mv) [X.t 16], I.mk none (some 104) (Ef.pr Pr.mv) [X.t 1], I.mk none (some 105) (Ef.pr Pr.lenS) [X.t 104], I.mk none (some 106) (Ef.pr (Pr.cm BinOp.lss)) [X.t 103, X.t 105]]) 
  (IC.cond (X.t 106) IC.skip (IC.exit 6))) 
  (IC.seq 
  (IC.block 7 
  (IC.seq (IC.ops [I.mk none (some 110) (Ef.pr Pr.mv) [X.t 7], I.mk none (some 111) (Ef.pr Pr.mv) [X.t 1], I.mk none (some 112) (Ef.pr Pr.mv) [X.t 16], I.mk none (some 113) (Ef.pr (Pr.iaS 2)) [X.t 111, X.t 112], I.mk none (some 114) (Ef.pr (Pr.fa 0)) [X.t 113], I.mk none (some 115) (Ef.pr (Pr.ld 1 false)) [X.t 114], I.mk none (some 116) (Ef.call 16) [X.t 115], I.mk none (some 117) (Ef.call 25) [X.t 110, X.t 116], I.mk none (some 109) (Ef.pr Pr.mv) [X.t 117], I.mk none (some 118) (Ef.pr (Pr.ext 0)) [X.t 109], I.mk none (some 119) (Ef.pr (Pr.ext 1)) [X.t 109], I.mk none (some 17) (Ef.pr Pr.mv) [X.t 118], I.mk none (some 18) (Ef.pr Pr.mv) [X.t 119]]) 
  (IC.seq (IC.ops [I.mk none (some 120) (Ef.pr Pr.mv) [X.t 18], I.mk none (some 121) (Ef.pr (Pr.cm BinOp.neq)) [X.t 120, X.c (Value.int IntKind.i64 0)], I.mk none (some 122) (Ef.pr Pr.mv) [X.t 121], I.mk (some (122, false)) (some 123) (Ef.pr Pr.mv) [X.t 17], I.mk (some (122, false)) (some 124) (Ef.pr Pr.mv) [X.t 8], I.mk (some (122, false)) (some 125) (Ef.pr Pr.mv) [X.t 16], I.mk (some (122, false)) (some 126) (Ef.pr (Pr.iaS 1)) [X.t 124, X.t 125], I.mk (some (122, false)) (some 127) (Ef.pr (Pr.ld 1 false)) [X.t 126], I.mk (some (122, false)) (some 128) (Ef.call 26) [X.t 123, X.t 127], I.mk (some (122, false)) (some 129) (Ef.pr (Pr.un UnOp.not)) [X.t 128], I.mk none (some 130) (Ef.pr Pr.pick) [X.t 122, X.c (Value.bool true), X.t 129]]) 
  (IC.cond (X.t 130) 
  (IC.seq (IC.ops [I.mk none (some 6) (Ef.pr Pr.mv) [X.c (Value.bool false)]]) IC.ret) IC.skip)))) (IC.ops [I.mk none (some 107) (Ef.pr Pr.mv) [X.t 16], I.mk none (some 108) (Ef.pr (Pr.ar BinOp.add)) [X.t 107, X.c (Value.int IntKind.i64 1)], I.mk none (some 16) (Ef.pr Pr.mv) [X.t 108]])))))) 
  (IC.seq (IC.ops [I.mk none (some 6) (Ef.pr Pr.mv) [X.c (Value.bool true)]]) IC.ret)))))))))))

theorem k4 : Go.Proofs.Try.f4.body.bind (comp Go.Proofs.Try.prog 131 [] []) = some c4 := by kernel_rfl

theorem r4 : cRVs Go.Proofs.Try.prog Go.Proofs.Try.f4.results.toList = some [RV.t 6] := by kernel_rfl

theorem e4 {args : List Value} {h : Hp} {Q : Value → Hp → Prop} (hl : Nat.ble args.length 131 = true) (hk : codeK PR none c4 (retK Q [RV.t 6]) (fun _ _ _ _ => False) (retK Q [RV.t 6]) (argsE 0 args) [] h) : Ok PR 4 args h Q :=
  Ok.of mixed Go.Proofs.Try.func4 rfl k4 r4 hl hk

end Go.Proofs.Ytpkleblggehghaa.V
