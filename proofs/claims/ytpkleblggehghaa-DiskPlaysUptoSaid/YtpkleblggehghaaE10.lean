/- The functions 7, resolved. -/
import Derived.Test.YtpkleblggehghaaVP
namespace Go.Proofs.Ytpkleblggehghaa.V
set_option linter.unusedVariables false
set_option linter.unusedSimpArgs false
set_option linter.unusedSectionVars false
open Go
set_option maxRecDepth 100000

def c7 : IC := IC.seq (IC.ops [I.mk none (some 6) (Ef.pr Pr.mv) [X.c (Value.bool false)]]) 
  (IC.seq (IC.ops [I.mk none (some 18) (Ef.pr Pr.mv) [X.t 0], I.mk none (some 19) (Ef.call 11) [X.t 18], I.mk none (some 7) (Ef.pr Pr.mv) [X.t 19]]) 
  (IC.seq 
  (IC.seq (IC.ops [I.mk none (some 20) (Ef.pr Pr.mv) [X.t 7], I.mk none (some 21) (Ef.pr (Pr.eq false (EqT.one EqS.p))) [X.t 20, X.c (Value.pointer none)], I.mk none (some 22) (Ef.pr Pr.mv) [X.t 21], I.mk (some (22, false)) (some 23) (Ef.pr Pr.mv) [X.t 7], I.mk (some (22, false)) (some 24) (Ef.pr Pr.mv) [X.t 1], I.mk (some (22, false)) (some 25) (Ef.call 21) [X.t 23, X.t 24], I.mk (some (22, false)) (some 26) (Ef.pr (Pr.un UnOp.not)) [X.t 25], I.mk none (some 27) (Ef.pr Pr.pick) [X.t 22, X.c (Value.bool true), X.t 26], I.mk none (some 28) (Ef.pr Pr.mv) [X.t 27], I.mk (some (28, false)) (some 29) (Ef.pr Pr.mv) [X.t 7], I.mk (some (28, false)) (some 30) (Ef.call 12) [X.t 29, X.c (Value.int IntKind.i64 1)], I.mk (some (28, false)) (some 31) (Ef.pr (Pr.cm BinOp.neq)) [X.t 30, X.c (Value.int IntKind.i64 0)], I.mk none (some 32) (Ef.pr Pr.pick) [X.t 28, X.c (Value.bool true), X.t 31]]) 
  (IC.cond (X.t 32) 
  (IC.seq (IC.ops [I.mk none (some 6) (Ef.pr Pr.mv) [X.c (Value.bool false)]]) IC.ret) IC.skip)) 
  (IC.seq (IC.ops [I.mk none (some 33) (Ef.pr Pr.mv) [X.t 7], I.mk none (some 34) (Ef.pr Pr.mv) [X.t 1], I.mk none (some 35) (Ef.call 30) [X.t 33, X.t 34], I.mk none (some 8) (Ef.pr Pr.mv) [X.t 35]]) 
  (IC.seq (IC.ops [I.mk none (some 36) (Ef.pr Pr.mv) [X.t 7], I.mk none (some 37) (Ef.call 13) [X.t 36], I.mk none (some 9) (Ef.pr Pr.mv) [X.t 37]]) 
  (IC.seq 
  (IC.seq (IC.ops [I.mk none (some 10) (Ef.pr Pr.mv) [X.c (Value.int IntKind.i64 0)]]) 
  (IC.block 0 
  (IC.loop 
  (IC.seq 
  (IC.seq (IC.ops [I.mk none (some 38) (Ef.pr Pr.mv) [X.t 10], I.mk none (some 39) (Ef.pr Pr.mv) [X.t 2], I.mk none (some 40) (Ef.pr Pr.lenS) [X.t 39], I.mk none (some 41) (Ef.pr (Pr.cm BinOp.lss)) [X.t 38, X.t 40]]) 
  (IC.cond (X.t 41) IC.skip (IC.exit 0))) 
  (IC.seq 
  (IC.block 1 
  (IC.seq (IC.ops [I.mk none (some 11) (Ef.pr Pr.mv) [X.c (Value.int IntKind.i64 0)]]) 
  (IC.cut 
  (IC.seq (IC.ops [I.mk none (some 44) (Ef.pr Pr.mv) [X.t 1], I.mk none (some 45) (Ef.pr Pr.lenS) [X.t 44], I.mk none (some 46) (Ef.pr (Pr.cm BinOp.gtr)) [X.t 45, X.c (Value.int IntKind.i64 0)]]) 
  (IC.cond (X.t 46) (IC.ops [I.mk none (some 47) (Ef.pr Pr.mv) [X.t 1], I.mk none (some 48) (Ef.pr Pr.mv) [X.t 2], I.mk none (some 49) (Ef.pr Pr.mv) [X.t 10], I.mk none (some 50) (Ef.pr (Pr.iaS 1)) [X.t 48, X.t 49], I.mk none (some 51) (Ef.pr (Pr.ld 1 false)) [X.t 50], I.mk none (some 52) (Ef.pr (Pr.cv IntKind.u64)) [X.t 51], I.mk none (some 53) (Ef.pr Pr.mv) [X.t 1], I.mk none (some 54) (Ef.pr Pr.lenS) [X.t 53], I.mk none (some 55) (Ef.pr (Pr.cv IntKind.u64)) [X.t 54], I.mk none (some 56) (Ef.pr (Pr.dv BinOp.rem)) [X.t 52, X.t 55], I.mk none (some 57) (Ef.pr (Pr.cv IntKind.i64)) [X.t 56], I.mk none (some 58) (Ef.pr (Pr.iaS 2)) [X.t 47, X.t 57], I.mk none (some 59) (Ef.pr (Pr.fa 0)) [X.t 58], I.mk none (some 60) (Ef.pr (Pr.ld 1 false)) [X.t 59], I.mk none (some 61) (Ef.call 16) [X.t 60], I.mk none (some 11) (Ef.pr Pr.mv) [X.t 61]]) IC.skip)) 
  (IC.seq (IC.ops [I.mk none (some 63) (Ef.pr Pr.mv) [X.t 7], I.mk none (some 64) (Ef.pr Pr.mv) [X.t 2], I.mk none (some 65) (Ef.pr Pr.mv) [X.t 10], I.mk none (some 66) (Ef.pr (Pr.iaS 1)) [X.t 64, X.t 65], I.mk none (some 67) (Ef.pr (Pr.ld 1 false)) [X.t 66], I.mk none (some 68) (Ef.pr (Pr.cv IntKind.u64)) [X.t 67], I.mk none (some 69) (Ef.pr (Pr.dv BinOp.rem)) [X.t 68, X.c (Value.int IntKind.u64 11)], I.mk none (some 70) (Ef.pr (Pr.cv IntKind.i64)) [X.t 69], I.mk none (some 71) (Ef.pr Pr.mv) [X.t 11], I.mk none (some 72) (Ef.call 34) [X.t 63, X.t 70, X.t 71], I.mk none (some 62) (Ef.pr Pr.mv) [X.t 72], I.mk none (some 73) (Ef.pr (Pr.ext 0)) [X.t 62], I.mk none (some 74) (Ef.pr (Pr.ext 1)) [X.t 62], I.mk none (some 12) (Ef.pr Pr.mv) [X.t 73], I.mk none (some 13) (Ef.pr Pr.mv) [X.t 74]]) 
  (IC.seq (IC.ops [I.mk none (some 75) (Ef.pr Pr.mv) [X.t 12], I.mk none (some 76) (Ef.pr Pr.mv) [X.t 13], I.mk none (some 77) (Ef.pr (Pr.cm BinOp.neq)) [X.t 75, X.t 76]]) 
  (IC.cond (X.t 77) 
  (IC.seq (IC.ops [I.mk none (some 6) (Ef.pr Pr.mv) [X.c (Value.bool false)]]) IC.ret) IC.skip)))))) (IC.ops [I.mk none (some 42) (Ef.pr Pr.mv) [X.t 10], I.mk none (some 43) (Ef.pr (Pr.ar BinOp.add)) [X.t 42, X.c (Value.int IntKind.i64 1)], I.mk none (some 10) (Ef.pr Pr.mv) [X.t 43]])))))) 
  (IC.seq 
  (IC.seq (IC.ops [I.mk none (some 78) (Ef.pr Pr.mv) [X.t 7], I.mk none (some 79) (Ef.call 18) [X.t 78], I.mk none (some 80) (Ef.pr Pr.mv) [X.t 79], I.mk (some (80, false)) (some 81) (Ef.pr Pr.mv) [X.t 7], I.mk (some (80, false)) (some 82) (Ef.call 13) [X.t 81], I.mk (some (80, false)) (some 83) (Ef.pr Pr.mv) [X.t 9], I.mk (some (80, false)) (some 84) (Ef.pr (Pr.cm BinOp.neq)) [X.t 82, X.t 83], I.mk none (some 85) (Ef.pr Pr.pick) [X.t 80, X.c (Value.bool true), X.t 84]]) 
  (IC.cond (X.t 85) 
  (IC.seq (IC.ops [I.mk none (some 6) (Ef.pr Pr.mv) [X.c (Value.bool false)]]) IC.ret) IC.skip)) 
  (IC.seq (IC.ops [I.mk none (some 86) (Ef.pr Pr.mv) [X.t 7], I.mk none (some 87) (Ef.call 23) [X.t 86], I.mk none (some 14) (Ef.pr Pr.mv) [X.t 87]]) 
  (IC.seq 
  (IC.seq (IC.ops [I.mk none (some 88) (Ef.pr Pr.mv) [X.t 14], I.mk none (some 89) (Ef.pr Pr.lenS) [X.t 88], I.mk none (some 90) (Ef.pr Pr.mv) [X.t 1], I.mk none (some 91) (Ef.pr Pr.lenS) [X.t 90], I.mk none (some 92) (Ef.pr (Pr.cm BinOp.neq)) [X.t 89, X.t 91]]) 
  (IC.cond (X.t 92) 
  (IC.seq (IC.ops [I.mk none (some 6) (Ef.pr Pr.mv) [X.c (Value.bool false)]]) IC.ret) IC.skip)) 
  (IC.seq 
  (IC.seq (IC.ops [I.mk none (some 15) (Ef.pr Pr.mv) [X.c (Value.int IntKind.i64 0)]]) 
  (IC.block 2 
  (IC.loop 
  (IC.seq 
  (IC.seq (IC.ops [I.mk none (some 93) (Ef.pr Pr.mv) [X.t 15], I.mk none (some 94) (Ef.pr Pr.mv) [X.t 1], I.mk none (some 95) (Ef.pr Pr.lenS) [X.t 94], I.mk none (some 96) (Ef.pr (Pr.cm BinOp.lss)) [X.t 93, X.t 95]]) 
  (IC.cond (X.t 96) IC.skip (IC.exit 2))) 
  (IC.seq 
  (IC.block 3 
  (IC.seq (IC.ops [I.mk none (some 100) (Ef.pr Pr.mv) [X.t 7], I.mk none (some 101) (Ef.pr Pr.mv) [X.t 1], I.mk none (some 102) (Ef.pr Pr.mv) [X.t 15], I.mk none (some 103) (Ef.pr (Pr.iaS 2)) [X.t 101, X.t 102], I.mk none (some 104) (Ef.pr (Pr.fa 0)) [X.t 103], I.mk none (some 105) (Ef.pr (Pr.ld 1 false)) [X.t 104], I.mk none (some 106) (Ef.call 16) [X.t 105], I.mk none (some 107) (Ef.call 25) [X.t 100, X.t 106], I.mk none (some 99) (Ef.pr Pr.mv) [X.t 107], I.mk none (some 108) (Ef.pr (Pr.ext 0)) [X.t 99], I.mk none (some 109) (Ef.pr (Pr.ext 1)) [X.t 99], I.mk none (some 16) (Ef.pr Pr.mv) [X.t 108], I.mk none (some 17) (Ef.pr Pr.mv) [X.t 109]]) 
  (IC.seq (IC.plan (Plan.q (I.mk none (some 110) (Ef.pr Pr.mv) [X.t 14]) (Plan.q (I.mk none (some 111) (Ef.pr Pr.mv) [X.t 15]) (Plan.q (I.mk none (some 112) (Ef.pr (Pr.iaS 1)) [X.t 110, X.t 111]) (Plan.q (I.mk none (some 113) (Ef.pr (Pr.ld 1 false)) [X.t 112]) (Plan.q (I.mk none (some 114) (Ef.pr Pr.mv) [X.t 1]) (Plan.q (I.mk none (some 115) (Ef.pr Pr.mv) [X.t 15]) (Plan.q (I.mk none (some 116) (Ef.pr (Pr.iaS 2)) [X.t 114, X.t 115]) (Plan.q (I.mk none (some 117) (Ef.pr (Pr.fa 0)) [X.t 116]) (Plan.q (I.mk none (some 118) (Ef.pr (Pr.ld 1 false)) [X.t 117]) (Plan.br (PlanL.cons true false (I.mk none (some 119) (Ef.call 16) [X.t 118]) (Plan.q (I.mk none (some 120) (Ef.pr (Pr.cm BinOp.neq)) [X.t 113, X.t 119]) (Plan.q (I.mk none (some 121) (Ef.pr Pr.mv) [X.t 120]) (Plan.q (I.mk (some (121, false)) (some 122) (Ef.pr Pr.mv) [X.t 17]) (Plan.q (I.mk (some (121, false)) (some 123) (Ef.pr (Pr.cm BinOp.neq)) [X.t 122, X.c (Value.int IntKind.i64 0)]) (Plan.q (I.mk none (some 124) (Ef.pr Pr.pick) [X.t 121, X.c (Value.bool true), X.t 123]) (Plan.q (I.mk none (some 125) (Ef.pr Pr.mv) [X.t 124]) (Plan.q (I.mk (some (125, false)) (some 126) (Ef.pr Pr.mv) [X.t 16]) (Plan.q (I.mk (some (125, false)) (some 127) (Ef.pr Pr.mv) [X.t 8]) (Plan.q (I.mk (some (125, false)) (some 128) (Ef.pr Pr.mv) [X.t 15]) (Plan.q (I.mk (some (125, false)) (some 129) (Ef.pr (Pr.iaS 1)) [X.t 127, X.t 128]) (Plan.q (I.mk (some (125, false)) (some 130) (Ef.pr (Pr.ld 1 false)) [X.t 129]) (Plan.br (PlanL.cons false false (I.mk (some (125, false)) (some 131) (Ef.call 26) [X.t 126, X.t 130]) (Plan.q (I.mk (some (125, false)) (some 132) (Ef.pr (Pr.un UnOp.not)) [X.t 131]) (Plan.q (I.mk none (some 133) (Ef.pr Pr.pick) [X.t 125, X.c (Value.bool true), X.t 132]) Plan.done)) PlanL.nil))))))))))))) PlanL.nil)))))))))))) 
  (IC.cond (X.t 133) 
  (IC.seq (IC.ops [I.mk none (some 6) (Ef.pr Pr.mv) [X.c (Value.bool false)]]) IC.ret) IC.skip)))) (IC.ops [I.mk none (some 97) (Ef.pr Pr.mv) [X.t 15], I.mk none (some 98) (Ef.pr (Pr.ar BinOp.add)) [X.t 97, X.c (Value.int IntKind.i64 1)], I.mk none (some 15) (Ef.pr Pr.mv) [X.t 98]])))))) 
  (IC.seq (IC.ops [I.mk none (some 134) (Ef.pr Pr.mv) [X.t 7], I.mk none (some 135) (Ef.call 14) [X.t 134], I.mk none (some 136) (Ef.pr (Pr.cm BinOp.eql)) [X.t 135, X.c (Value.int IntKind.i64 0)], I.mk none (some 137) (Ef.pr Pr.mv) [X.t 136], I.mk (some (137, true)) (some 138) (Ef.pr Pr.mv) [X.t 7], I.mk (some (137, true)) (some 139) (Ef.call 14) [X.t 138], I.mk (some (137, true)) (some 140) (Ef.pr (Pr.cm BinOp.eql)) [X.t 139, X.c (Value.int IntKind.i64 42)], I.mk none (some 141) (Ef.pr Pr.pick) [X.t 137, X.t 140, X.c (Value.bool false)], I.mk none (some 142) (Ef.pr Pr.mv) [X.t 141], I.mk (some (142, true)) (some 143) (Ef.pr Pr.mv) [X.t 7], I.mk (some (142, true)) (some 144) (Ef.call 18) [X.t 143], I.mk none (some 145) (Ef.pr Pr.pick) [X.t 142, X.t 144, X.c (Value.bool false)], I.mk none (some 6) (Ef.pr Pr.mv) [X.t 145]]) IC.ret))))))))))

theorem k7 : Go.Proofs.Try.f7.body.bind (comp Go.Proofs.Try.prog 146 [] [12]) = some c7 := by kernel_rfl

theorem r7 : cRVs Go.Proofs.Try.prog Go.Proofs.Try.f7.results.toList = some [RV.t 6] := by kernel_rfl

theorem e7 {args : List Value} {h : Hp} {Q : Value → Hp → Prop} (hl : Nat.ble args.length 146 = true) (hk : codeK PR none c7 (retK Q [RV.t 6]) (fun _ _ _ _ => False) (retK Q [RV.t 6]) (argsE 0 args) [] h) : Ok PR 7 args h Q :=
  Ok.of mixed Go.Proofs.Try.func7 rfl k7 r7 hl hk

end Go.Proofs.Ytpkleblggehghaa.V
