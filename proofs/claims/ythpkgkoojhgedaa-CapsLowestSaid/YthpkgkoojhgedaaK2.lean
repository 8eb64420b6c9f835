/- The functions 3, 9, 18, 19, 20, 21, 22, resolved. -/
import Derived.Test.YthpkgkoojhgedaaVP
namespace Go.Proofs.Ythpkgkoojhgedaa.V
set_option linter.unusedVariables false
set_option linter.unusedSimpArgs false
set_option linter.unusedSectionVars false
open Go
set_option maxRecDepth 100000

def c3 : IC := IC.seq (IC.ops [I.mk none (some 4) (Ef.pr Pr.mv) [X.c (Value.bool false)]]) 
  (IC.seq (IC.ops [I.mk none (some 21) (Ef.call 4) [], I.mk none (some 5) (Ef.pr Pr.mv) [X.t 21]]) 
  (IC.seq 
  (IC.seq (IC.ops [I.mk none (some 22) (Ef.pr Pr.mv) [X.t 5], I.mk none (some 23) (Ef.pr (Pr.eq false (EqT.one EqS.p))) [X.t 22, X.c (Value.pointer none)], I.mk none (some 24) (Ef.pr Pr.mv) [X.t 23], I.mk (some (24, false)) (some 25) (Ef.pr Pr.mv) [X.t 5], I.mk (some (24, false)) (some 26) (Ef.call 5) [X.t 25, X.c (Value.int IntKind.i64 2)], I.mk (some (24, false)) (some 27) (Ef.pr (Pr.cm BinOp.neq)) [X.t 26, X.c (Value.int IntKind.i64 0)], I.mk none (some 28) (Ef.pr Pr.pick) [X.t 24, X.c (Value.bool true), X.t 27]]) 
  (IC.cond (X.t 28) 
  (IC.seq (IC.ops [I.mk none (some 4) (Ef.pr Pr.mv) [X.c (Value.bool false)]]) IC.ret) IC.skip)) 
  (IC.seq (IC.ops [I.mk none (some 29) (Ef.pr (Pr.bld [Value.int IntKind.i64 0, Value.int IntKind.i64 0, Value.int IntKind.i64 0, Value.int IntKind.i64 0] [(0, 1), (1, 1), (2, 1), (3, 1)])) [X.c (Value.int IntKind.i64 3), X.c (Value.int IntKind.i64 0), X.c (Value.int IntKind.i64 1), X.c (Value.int IntKind.i64 0)], I.mk none (some 6) (Ef.al [Value.int IntKind.i64 0, Value.int IntKind.i64 0, Value.int IntKind.i64 0, Value.int IntKind.i64 0]) [], I.mk none none (Ef.st 4) [X.t 6, X.t 29]]) 
  (IC.seq (IC.ops [I.mk none (some 7) (Ef.al [Value.bool false, Value.bool false, Value.bool false, Value.bool false, Value.bool false, Value.bool false, Value.bool false, Value.bool false, Value.bool false, Value.bool false, Value.bool false, Value.bool false, Value.bool false, Value.bool false, Value.bool false, Value.bool false, Value.bool false, Value.bool false, Value.bool false, Value.bool false, Value.bool false, Value.bool false, Value.bool false, Value.bool false, Value.bool false, Value.bool false, Value.bool false, Value.bool false, Value.bool false, Value.bool false, Value.bool false, Value.bool false, Value.bool false, Value.bool false, Value.bool false, Value.bool false, Value.bool false, Value.bool false, Value.bool false, Value.bool false, Value.bool false, Value.bool false, Value.bool false, Value.bool false, Value.bool false, Value.bool false, Value.bool false, Value.bool false]) []]) 
  (IC.cut 
  (IC.seq (IC.ops [I.mk none (some 8) (Ef.pr Pr.mv) [X.c (Value.int IntKind.i64 0)]]) 
  (IC.block 0 
  (IC.loop 
  (IC.seq 
  (IC.seq (IC.ops [I.mk none (some 30) (Ef.pr Pr.mv) [X.t 8], I.mk none (some 31) (Ef.pr Pr.mv) [X.t 0], I.mk none (some 32) (Ef.pr Pr.lenS) [X.t 31], I.mk none (some 33) (Ef.pr (Pr.cm BinOp.lss)) [X.t 30, X.t 32], I.mk none (some 34) (Ef.pr Pr.mv) [X.t 33], I.mk (some (34, true)) (some 35) (Ef.pr Pr.mv) [X.t 8], I.mk (some (34, true)) (some 36) (Ef.pr (Pr.cm BinOp.lss)) [X.t 35, X.c (Value.int IntKind.i64 200)], I.mk none (some 37) (Ef.pr Pr.pick) [X.t 34, X.t 36, X.c (Value.bool false)]]) 
  (IC.cond (X.t 37) IC.skip (IC.exit 0))) 
  (IC.seq 
  (IC.block 1 
  (IC.seq (IC.ops [I.mk none (some 9) (Ef.pr Pr.mv) [X.c (Value.int IntKind.i64 (-1))]]) 
  (IC.cut 
  (IC.seq (IC.ops [I.mk none (some 40) (Ef.pr Pr.mv) [X.t 0], I.mk none (some 41) (Ef.pr Pr.mv) [X.t 8], I.mk none (some 42) (Ef.pr (Pr.iaS 1)) [X.t 40, X.t 41], I.mk none (some 43) (Ef.pr (Pr.ld 1 false)) [X.t 42], I.mk none (some 44) (Ef.pr (Pr.cm BinOp.geq)) [X.t 43, X.c (Value.int IntKind.i64 0)], I.mk none (some 45) (Ef.pr Pr.mv) [X.t 44], I.mk (some (45, true)) (some 46) (Ef.pr Pr.mv) [X.t 0], I.mk (some (45, true)) (some 47) (Ef.pr Pr.mv) [X.t 8], I.mk (some (45, true)) (some 48) (Ef.pr (Pr.iaS 1)) [X.t 46, X.t 47], I.mk (some (45, true)) (some 49) (Ef.pr (Pr.ld 1 false)) [X.t 48], I.mk (some (45, true)) (some 50) (Ef.pr (Pr.cm BinOp.lss)) [X.t 49, X.c (Value.int IntKind.i64 48)], I.mk none (some 51) (Ef.pr Pr.pick) [X.t 45, X.t 50, X.c (Value.bool false)], I.mk none (some 52) (Ef.pr Pr.mv) [X.t 51], I.mk (some (52, true)) (some 53) (Ef.pr Pr.mv) [X.t 0], I.mk (some (52, true)) (some 54) (Ef.pr Pr.mv) [X.t 8], I.mk (some (52, true)) (some 55) (Ef.pr (Pr.iaS 1)) [X.t 53, X.t 54], I.mk (some (52, true)) (some 56) (Ef.pr (Pr.ld 1 false)) [X.t 55], I.mk (some (52, true)) (some 57) (Ef.pr (Pr.iaA 48 1)) [X.t 7, X.t 56], I.mk (some (52, true)) (some 58) (Ef.pr (Pr.ld 1 false)) [X.t 57], I.mk (some (52, true)) (some 59) (Ef.pr (Pr.un UnOp.not)) [X.t 58], I.mk none (some 60) (Ef.pr Pr.pick) [X.t 52, X.t 59, X.c (Value.bool false)]]) 
  (IC.cond (X.t 60) (IC.ops [I.mk none (some 61) (Ef.pr Pr.mv) [X.t 0], I.mk none (some 62) (Ef.pr Pr.mv) [X.t 8], I.mk none (some 63) (Ef.pr (Pr.iaS 1)) [X.t 61, X.t 62], I.mk none (some 64) (Ef.pr (Pr.ld 1 false)) [X.t 63], I.mk none (some 9) (Ef.pr Pr.mv) [X.t 64]]) IC.skip)) 
  (IC.cut 
  (IC.seq (IC.ops [I.mk none (some 10) (Ef.pr Pr.mv) [X.c (Value.int IntKind.i64 47)]]) 
  (IC.block 2 
  (IC.loop 
  (IC.seq 
  (IC.seq (IC.ops [I.mk none (some 65) (Ef.pr Pr.mv) [X.t 10], I.mk none (some 66) (Ef.pr (Pr.cm BinOp.geq)) [X.t 65, X.c (Value.int IntKind.i64 0)], I.mk none (some 67) (Ef.pr Pr.mv) [X.t 66], I.mk (some (67, true)) (some 68) (Ef.pr Pr.mv) [X.t 0], I.mk (some (67, true)) (some 69) (Ef.pr Pr.mv) [X.t 8], I.mk (some (67, true)) (some 70) (Ef.pr (Pr.iaS 1)) [X.t 68, X.t 69], I.mk (some (67, true)) (some 71) (Ef.pr (Pr.ld 1 false)) [X.t 70], I.mk (some (67, true)) (some 72) (Ef.pr (Pr.cm BinOp.eql)) [X.t 71, X.c (Value.int IntKind.i64 (-1))], I.mk none (some 73) (Ef.pr Pr.pick) [X.t 67, X.t 72, X.c (Value.bool false)]]) 
  (IC.cond (X.t 73) IC.skip (IC.exit 2))) 
  (IC.seq 
  (IC.block 3 
  (IC.seq (IC.ops [I.mk none (some 76) (Ef.pr Pr.mv) [X.t 10], I.mk none (some 77) (Ef.pr (Pr.iaA 48 1)) [X.t 7, X.t 76], I.mk none (some 78) (Ef.pr (Pr.ld 1 false)) [X.t 77], I.mk none (some 79) (Ef.pr (Pr.un UnOp.not)) [X.t 78]]) 
  (IC.cond (X.t 79) (IC.ops [I.mk none (some 80) (Ef.pr Pr.mv) [X.t 10], I.mk none (some 9) (Ef.pr Pr.mv) [X.t 80]]) IC.skip))) (IC.ops [I.mk none (some 74) (Ef.pr Pr.mv) [X.t 10], I.mk none (some 75) (Ef.pr (Pr.ar BinOp.sub)) [X.t 74, X.c (Value.int IntKind.i64 1)], I.mk none (some 10) (Ef.pr Pr.mv) [X.t 75]])))))) 
  (IC.seq (IC.plan (Plan.q (I.mk none (some 82) (Ef.pr Pr.mv) [X.t 5]) (Plan.q (I.mk none (some 83) (Ef.pr Pr.mv) [X.t 0]) (Plan.q (I.mk none (some 84) (Ef.pr Pr.mv) [X.t 8]) (Plan.q (I.mk none (some 85) (Ef.pr (Pr.iaS 1)) [X.t 83, X.t 84]) (Plan.q (I.mk none (some 86) (Ef.pr (Pr.ld 1 false)) [X.t 85]) (Plan.q (I.mk none (some 87) (Ef.pr (Pr.ld 4 true)) [X.t 6]) (Plan.br (PlanL.cons false false (I.mk none (some 88) (Ef.call 6) [X.t 82, X.c (Value.int IntKind.i64 2), X.t 86, X.t 87]) (Plan.q (I.mk none (some 81) (Ef.pr Pr.mv) [X.t 88]) (Plan.q (I.mk none (some 89) (Ef.pr (Pr.ext 0)) [X.t 81]) (Plan.q (I.mk none (some 90) (Ef.pr (Pr.ext 1)) [X.t 81]) (Plan.q (I.mk none (some 11) (Ef.pr Pr.mv) [X.t 89]) (Plan.q (I.mk none (some 12) (Ef.pr Pr.mv) [X.t 90]) Plan.done))))) PlanL.nil))))))))) 
  (IC.seq 
  (IC.seq (IC.ops [I.mk none (some 91) (Ef.pr Pr.mv) [X.t 11], I.mk none (some 92) (Ef.pr Pr.mv) [X.t 9], I.mk none (some 93) (Ef.pr (Pr.cm BinOp.neq)) [X.t 91, X.t 92], I.mk none (some 94) (Ef.pr Pr.mv) [X.t 93], I.mk (some (94, false)) (some 95) (Ef.pr Pr.mv) [X.t 12], I.mk (some (94, false)) (some 96) (Ef.pr (Pr.cm BinOp.eql)) [X.t 95, X.c (Value.int IntKind.i64 0)], I.mk (some (94, false)) (some 97) (Ef.pr Pr.mv) [X.t 9], I.mk (some (94, false)) (some 98) (Ef.pr (Pr.cm BinOp.geq)) [X.t 97, X.c (Value.int IntKind.i64 0)], I.mk (some (94, false)) (some 99) (Ef.pr (Pr.eq true (EqT.one EqS.b))) [X.t 96, X.t 98], I.mk none (some 100) (Ef.pr Pr.pick) [X.t 94, X.c (Value.bool true), X.t 99]]) 
  (IC.cond (X.t 100) 
  (IC.seq (IC.ops [I.mk none (some 4) (Ef.pr Pr.mv) [X.c (Value.bool false)]]) IC.ret) IC.skip)) 
  (IC.seq (IC.ops [I.mk none (some 101) (Ef.pr Pr.mv) [X.t 9], I.mk none (some 102) (Ef.pr (Pr.cm BinOp.geq)) [X.t 101, X.c (Value.int IntKind.i64 0)]]) 
  (IC.cond (X.t 102) (IC.ops [I.mk none (some 103) (Ef.pr Pr.mv) [X.t 9], I.mk none (some 104) (Ef.pr (Pr.iaA 48 1)) [X.t 7, X.t 103], I.mk none none (Ef.st 1) [X.t 104, X.c (Value.bool true)]]) IC.skip)))))))) (IC.ops [I.mk none (some 38) (Ef.pr Pr.mv) [X.t 8], I.mk none (some 39) (Ef.pr (Pr.ar BinOp.add)) [X.t 38, X.c (Value.int IntKind.i64 1)], I.mk none (some 8) (Ef.pr Pr.mv) [X.t 39]])))))) 
  (IC.cut 
  (IC.seq (IC.ops [I.mk none (some 13) (Ef.pr Pr.mv) [X.c (Value.int IntKind.i64 0)]]) 
  (IC.block 4 
  (IC.loop 
  (IC.seq 
  (IC.seq (IC.ops [I.mk none (some 105) (Ef.pr Pr.mv) [X.t 13], I.mk none (some 106) (Ef.pr Pr.mv) [X.t 1], I.mk none (some 107) (Ef.pr Pr.lenS) [X.t 106], I.mk none (some 108) (Ef.pr (Pr.cm BinOp.lss)) [X.t 105, X.t 107], I.mk none (some 109) (Ef.pr Pr.mv) [X.t 108], I.mk (some (109, true)) (some 110) (Ef.pr Pr.mv) [X.t 13], I.mk (some (109, true)) (some 111) (Ef.pr (Pr.cm BinOp.lss)) [X.t 110, X.c (Value.int IntKind.i64 200)], I.mk none (some 112) (Ef.pr Pr.pick) [X.t 109, X.t 111, X.c (Value.bool false)]]) 
  (IC.cond (X.t 112) IC.skip (IC.exit 4))) 
  (IC.seq 
  (IC.block 5 
  (IC.seq (IC.ops [I.mk none (some 115) (Ef.pr Pr.mv) [X.t 1], I.mk none (some 116) (Ef.pr Pr.mv) [X.t 13], I.mk none (some 117) (Ef.pr (Pr.iaS 1)) [X.t 115, X.t 116], I.mk none (some 118) (Ef.pr (Pr.ld 1 false)) [X.t 117], I.mk none (some 119) (Ef.pr (Pr.cm BinOp.geq)) [X.t 118, X.c (Value.int IntKind.i64 0)], I.mk none (some 120) (Ef.pr Pr.mv) [X.t 119], I.mk (some (120, true)) (some 121) (Ef.pr Pr.mv) [X.t 1], I.mk (some (120, true)) (some 122) (Ef.pr Pr.mv) [X.t 13], I.mk (some (120, true)) (some 123) (Ef.pr (Pr.iaS 1)) [X.t 121, X.t 122], I.mk (some (120, true)) (some 124) (Ef.pr (Pr.ld 1 false)) [X.t 123], I.mk (some (120, true)) (some 125) (Ef.pr (Pr.cm BinOp.lss)) [X.t 124, X.c (Value.int IntKind.i64 48)], I.mk none (some 126) (Ef.pr Pr.pick) [X.t 120, X.t 125, X.c (Value.bool false)]]) 
  (IC.cond (X.t 126) 
  (IC.seq (IC.ops [I.mk none (some 128) (Ef.pr Pr.mv) [X.t 5], I.mk none (some 129) (Ef.pr Pr.mv) [X.t 1], I.mk none (some 130) (Ef.pr Pr.mv) [X.t 13], I.mk none (some 131) (Ef.pr (Pr.iaS 1)) [X.t 129, X.t 130], I.mk none (some 132) (Ef.pr (Pr.ld 1 false)) [X.t 131], I.mk none (some 133) (Ef.call 7) [X.t 128, X.c (Value.int IntKind.i64 2), X.t 132], I.mk none (some 127) (Ef.pr Pr.mv) [X.t 133], I.mk none (some 134) (Ef.pr (Pr.ext 0)) [X.t 127], I.mk none (some 135) (Ef.pr (Pr.ext 1)) [X.t 127], I.mk none (some 14) (Ef.al [Value.int IntKind.i64 0, Value.int IntKind.i64 0, Value.int IntKind.i64 0, Value.int IntKind.i64 0]) [], I.mk none none (Ef.st 4) [X.t 14, X.t 134], I.mk none (some 15) (Ef.pr Pr.mv) [X.t 135]]) 
  (IC.seq 
  (IC.seq (IC.ops [I.mk none (some 136) (Ef.pr Pr.mv) [X.t 15], I.mk none (some 137) (Ef.pr (Pr.cm BinOp.eql)) [X.t 136, X.c (Value.int IntKind.i64 0)], I.mk none (some 138) (Ef.pr Pr.mv) [X.t 1], I.mk none (some 139) (Ef.pr Pr.mv) [X.t 13], I.mk none (some 140) (Ef.pr (Pr.iaS 1)) [X.t 138, X.t 139], I.mk none (some 141) (Ef.pr (Pr.ld 1 false)) [X.t 140], I.mk none (some 142) (Ef.pr (Pr.iaA 48 1)) [X.t 7, X.t 141], I.mk none (some 143) (Ef.pr (Pr.ld 1 false)) [X.t 142], I.mk none (some 144) (Ef.pr (Pr.eq true (EqT.one EqS.b))) [X.t 137, X.t 143]]) 
  (IC.cond (X.t 144) 
  (IC.seq (IC.ops [I.mk none (some 4) (Ef.pr Pr.mv) [X.c (Value.bool false)]]) IC.ret) IC.skip)) (IC.ops [I.mk none (some 145) (Ef.pr Pr.mv) [X.t 1], I.mk none (some 146) (Ef.pr Pr.mv) [X.t 13], I.mk none (some 147) (Ef.pr (Pr.iaS 1)) [X.t 145, X.t 146], I.mk none (some 148) (Ef.pr (Pr.ld 1 false)) [X.t 147], I.mk none (some 149) (Ef.pr (Pr.iaA 48 1)) [X.t 7, X.t 148], I.mk none none (Ef.st 1) [X.t 149, X.c (Value.bool false)]]))) IC.skip))) (IC.ops [I.mk none (some 113) (Ef.pr Pr.mv) [X.t 13], I.mk none (some 114) (Ef.pr (Pr.ar BinOp.add)) [X.t 113, X.c (Value.int IntKind.i64 1)], I.mk none (some 13) (Ef.pr Pr.mv) [X.t 114]])))))) 
  (IC.seq 
  (IC.seq (IC.ops [I.mk none (some 16) (Ef.pr Pr.mv) [X.c (Value.int IntKind.i64 0)]]) 
  (IC.block 6 
  (IC.loop 
  (IC.seq 
  (IC.seq (IC.ops [I.mk none (some 150) (Ef.pr Pr.mv) [X.t 16], I.mk none (some 151) (Ef.pr (Pr.cm BinOp.lss)) [X.t 150, X.c (Value.int IntKind.i64 48)]]) 
  (IC.cond (X.t 151) IC.skip (IC.exit 6))) 
  (IC.seq 
  (IC.block 7 
  (IC.seq 
  (IC.seq (IC.ops [I.mk none (some 154) (Ef.pr Pr.mv) [X.t 16], I.mk none (some 155) (Ef.pr (Pr.iaA 48 1)) [X.t 7, X.t 154], I.mk none (some 156) (Ef.pr (Pr.ld 1 false)) [X.t 155]]) 
  (IC.cond (X.t 156) (IC.exit 7) IC.skip)) 
  (IC.seq (IC.ops [I.mk none (some 158) (Ef.pr Pr.mv) [X.t 5], I.mk none (some 159) (Ef.pr (Pr.ld 4 true)) [X.t 6], I.mk none (some 160) (Ef.call 6) [X.t 158, X.c (Value.int IntKind.i64 2), X.c (Value.int IntKind.i64 (-1)), X.t 159], I.mk none (some 157) (Ef.pr Pr.mv) [X.t 160], I.mk none (some 161) (Ef.pr (Pr.ext 0)) [X.t 157], I.mk none (some 162) (Ef.pr (Pr.ext 1)) [X.t 157], I.mk none (some 17) (Ef.pr Pr.mv) [X.t 161], I.mk none (some 18) (Ef.pr Pr.mv) [X.t 162]]) 
  (IC.seq (IC.ops [I.mk none (some 163) (Ef.pr Pr.mv) [X.t 17], I.mk none (some 164) (Ef.pr Pr.mv) [X.t 16], I.mk none (some 165) (Ef.pr (Pr.cm BinOp.neq)) [X.t 163, X.t 164], I.mk none (some 166) (Ef.pr Pr.mv) [X.t 165], I.mk (some (166, false)) (some 167) (Ef.pr Pr.mv) [X.t 18], I.mk (some (166, false)) (some 168) (Ef.pr (Pr.cm BinOp.neq)) [X.t 167, X.c (Value.int IntKind.i64 0)], I.mk none (some 169) (Ef.pr Pr.pick) [X.t 166, X.c (Value.bool true), X.t 168]]) 
  (IC.cond (X.t 169) 
  (IC.seq (IC.ops [I.mk none (some 4) (Ef.pr Pr.mv) [X.c (Value.bool false)]]) IC.ret) IC.skip))))) (IC.ops [I.mk none (some 152) (Ef.pr Pr.mv) [X.t 16], I.mk none (some 153) (Ef.pr (Pr.ar BinOp.add)) [X.t 152, X.c (Value.int IntKind.i64 1)], I.mk none (some 16) (Ef.pr Pr.mv) [X.t 153]])))))) 
  (IC.seq (IC.ops [I.mk none (some 171) (Ef.pr Pr.mv) [X.t 5], I.mk none (some 172) (Ef.pr (Pr.ld 4 true)) [X.t 6], I.mk none (some 173) (Ef.call 6) [X.t 171, X.c (Value.int IntKind.i64 2), X.c (Value.int IntKind.i64 (-1)), X.t 172], I.mk none (some 170) (Ef.pr Pr.mv) [X.t 173], I.mk none (some 174) (Ef.pr (Pr.ext 0)) [X.t 170], I.mk none (some 175) (Ef.pr (Pr.ext 1)) [X.t 170], I.mk none (some 19) (Ef.pr Pr.mv) [X.t 174], I.mk none (some 20) (Ef.pr Pr.mv) [X.t 175]]) 
  (IC.seq (IC.ops [I.mk none (some 176) (Ef.pr Pr.mv) [X.t 19], I.mk none (some 177) (Ef.pr (Pr.cm BinOp.eql)) [X.t 176, X.c (Value.int IntKind.i64 (-1))], I.mk none (some 178) (Ef.pr Pr.mv) [X.t 177], I.mk (some (178, true)) (some 179) (Ef.pr Pr.mv) [X.t 20], I.mk (some (178, true)) (some 180) (Ef.pr (Pr.cm BinOp.eql)) [X.t 179, X.c (Value.int IntKind.i64 2)], I.mk none (some 181) (Ef.pr Pr.pick) [X.t 178, X.t 180, X.c (Value.bool false)], I.mk none (some 182) (Ef.pr Pr.mv) [X.t 181], I.mk (some (182, true)) (some 183) (Ef.pr Pr.mv) [X.t 5], I.mk (some (182, true)) (some 184) (Ef.call 8) [X.t 183, X.c (Value.int IntKind.i64 2)], I.mk (some (182, true)) (some 185) (Ef.pr (Pr.cm BinOp.eql)) [X.t 184, X.c (Value.int IntKind.i64 0)], I.mk none (some 186) (Ef.pr Pr.pick) [X.t 182, X.t 185, X.c (Value.bool false)], I.mk none (some 187) (Ef.pr Pr.mv) [X.t 186], I.mk (some (187, true)) (some 188) (Ef.pr Pr.mv) [X.t 5], I.mk (some (187, true)) (some 189) (Ef.call 9) [X.t 188, X.c (Value.int IntKind.i64 3), X.c (Value.int IntKind.i64 0)], I.mk (some (187, true)) (some 190) (Ef.pr (Pr.cm BinOp.eql)) [X.t 189, X.c (Value.int IntKind.i64 48)], I.mk none (some 191) (Ef.pr Pr.pick) [X.t 187, X.t 190, X.c (Value.bool false)], I.mk none (some 4) (Ef.pr Pr.mv) [X.t 191]]) IC.ret)))))))))

theorem k3 : Go.Proofs.Try.f3.body.bind (comp Go.Proofs.Try.prog 192 [6, 7, 14] [12, 17, 22, 30]) = some c3 := by kernel_rfl

theorem r3 : cRVs Go.Proofs.Try.prog Go.Proofs.Try.f3.results.toList = some [RV.t 4] := by kernel_rfl

theorem e3 {args : List Value} {h : Hp} {Q : Value → Hp → Prop} (hl : Nat.ble args.length 192 = true) (hk : codeK PR none c3 (retK Q [RV.t 4]) (fun _ _ _ _ => False) (retK Q [RV.t 4]) (argsE 0 args) [] h) : Ok PR 3 args h Q :=
  Ok.of mixed Go.Proofs.Try.func3 rfl k3 r3 hl hk

def c9 : IC := IC.seq (IC.ops [I.mk none (some 4) (Ef.bxh 3) [X.t 1], I.mk none (some 5) (Ef.bxh 3) [X.t 2], I.mk none (some 6) (Ef.pr Pr.mv) [X.c (Value.int IntKind.i64 0)]]) 
  (IC.seq (IC.ops [I.mk none (some 7) (Ef.alh [Value.int IntKind.i64 0] 3) [], I.mk none none (Ef.st 1) [X.t 7, X.c (Value.int IntKind.i64 0)]]) 
  (IC.seq (IC.ops [I.mk none (some 8) (Ef.pr Pr.mv) [X.t 0], I.mk none (some 9) (Ef.pr (Pr.mkf (Fn.func 19) 0)) [X.t 4, X.t 5, X.t 7], I.mk none (some 10) (Ef.call 18) [X.t 8, X.t 9]]) 
  (IC.seq (IC.ops [I.mk none (some 11) (Ef.pr (Pr.ld 1 false)) [X.t 7], I.mk none (some 6) (Ef.pr Pr.mv) [X.t 11]]) IC.ret)))

theorem k9 : Go.Proofs.Try.f9.body.bind (comp Go.Proofs.Try.prog 12 [] []) = some c9 := by kernel_rfl

theorem r9 : cRVs Go.Proofs.Try.prog Go.Proofs.Try.f9.results.toList = some [RV.t 6] := by kernel_rfl

theorem e9 {args : List Value} {h : Hp} {Q : Value → Hp → Prop} (hl : Nat.ble args.length 12 = true) (hk : codeK PR none c9 (retK Q [RV.t 6]) (fun _ _ _ _ => False) (retK Q [RV.t 6]) (argsE 0 args) [] h) : Ok PR 9 args h Q :=
  Ok.of mixed Go.Proofs.Try.func9 rfl k9 r9 hl hk

def c18 : IC := IC.seq (IC.ops [I.mk none (some 3) (Ef.bxh 52) [X.t 1]]) 
  (IC.seq (IC.ops [I.mk none (some 8) (Ef.pr Pr.mv) [X.t 0], I.mk none (some 9) (Ef.pr Pr.nilc) [X.t 8], I.mk none (some 10) (Ef.pr (Pr.fa 0)) [X.t 9], I.mk none (some 11) (Ef.pr (Pr.ld 16 true)) [X.t 10], I.mk none (some 12) (Ef.pr Pr.mv) [X.c (Value.int IntKind.i64 0)]]) 
  (IC.block 0 
  (IC.loop 
  (IC.seq (IC.ops [I.mk none (some 13) (Ef.pr (Pr.cm BinOp.lss)) [X.t 12, X.c (Value.int IntKind.i64 16)]]) 
  (IC.seq 
  (IC.cond (X.t 13) IC.skip (IC.exit 0)) 
  (IC.seq 
  (IC.block 1 
  (IC.seq (IC.ops [I.mk none (some 14) (Ef.pr (Pr.ixA 16 1 false)) [X.t 11, X.t 12], I.mk none (some 5) (Ef.pr Pr.mv) [X.t 14]]) 
  (IC.seq 
  (IC.seq (IC.ops [I.mk none (some 15) (Ef.pr Pr.mv) [X.t 5], I.mk none (some 16) (Ef.pr (Pr.eq false (EqT.one EqS.p))) [X.t 15, X.c (Value.pointer none)]]) 
  (IC.cond (X.t 16) (IC.exit 1) IC.skip)) 
  (IC.seq (IC.ops [I.mk none (some 17) (Ef.pr Pr.mv) [X.t 5], I.mk none (some 18) (Ef.call 27) [X.t 17]]) 
  (IC.block 2 (IC.rf (X.t 18) [19, 20] (IC.ops [I.mk none (some 7) (Ef.pr Pr.mv) [X.t 20]]) 
  (IC.block 3 (IC.ops [I.mk none (some 21) (Ef.pr (Pr.ld 1 false)) [X.t 3], I.mk none (some 22) (Ef.pr Pr.mv) [X.t 7], I.mk none (some 23) Ef.callv [X.t 21, X.t 22]])))))))) (IC.ops [I.mk none (some 24) (Ef.pr (Pr.ar BinOp.add)) [X.t 12, X.c (Value.int IntKind.i64 1)], I.mk none (some 12) (Ef.pr Pr.mv) [X.t 24]])))))))

theorem k18 : Go.Proofs.Try.f18.body.bind (comp Go.Proofs.Try.prog 25 [] []) = some c18 := by kernel_rfl

theorem r18 : cRVs Go.Proofs.Try.prog Go.Proofs.Try.f18.results.toList = some [] := by kernel_rfl

theorem e18 {args : List Value} {h : Hp} {Q : Value → Hp → Prop} (hl : Nat.ble args.length 25 = true) (hk : codeK PR none c18 (retK Q []) (fun _ _ _ _ => False) (retK Q []) (argsE 0 args) [] h) : Ok PR 18 args h Q :=
  Ok.of mixed Go.Proofs.Try.func18 rfl k18 r18 hl hk

def c19 : IC := IC.seq (IC.ops [I.mk none (some 5) (Ef.pr Pr.mv) [X.t 0], I.mk none (some 6) (Ef.pr (Pr.ld 1 false)) [X.t 1], I.mk none (some 7) (Ef.pr (Pr.bld [Value.nilFunc, Value.int IntKind.i64 0] [(0, 1), (1, 1)])) [X.c (Value.func (Fn.func 21) (Array.mk []) (Array.mk [])), X.t 6], I.mk none (some 8) (Ef.pr (Pr.ld 1 false)) [X.t 2], I.mk none (some 9) (Ef.pr (Pr.bld [Value.nilFunc, Value.int IntKind.i64 0] [(0, 1), (1, 1)])) [X.c (Value.func (Fn.func 22) (Array.mk []) (Array.mk [])), X.t 8], I.mk none (some 10) (Ef.bsl [Value.nilFunc, Value.int IntKind.i64 0] 58 2 2 [0, 1]) [X.t 7, X.t 9], I.mk none (some 11) (Ef.call 20) [X.t 5, X.t 10]]) 
  (IC.cond (X.t 11) (IC.ops [I.mk none (some 12) (Ef.pr (Pr.ld 1 false)) [X.t 3], I.mk none (some 13) (Ef.pr (Pr.ar BinOp.add)) [X.t 12, X.c (Value.int IntKind.i64 1)], I.mk none none (Ef.st 1) [X.t 3, X.t 13]]) IC.skip)

theorem k19 : Go.Proofs.Try.f19.body.bind (comp Go.Proofs.Try.prog 14 [] []) = some c19 := by kernel_rfl

theorem r19 : cRVs Go.Proofs.Try.prog Go.Proofs.Try.f19.results.toList = some [] := by kernel_rfl

theorem e19 {args : List Value} {h : Hp} {Q : Value → Hp → Prop} (hl : Nat.ble args.length 14 = true) (hk : codeK PR none c19 (retK Q []) (fun _ _ _ _ => False) (retK Q []) (argsE 0 args) [] h) : Ok PR 19 args h Q :=
  Ok.of mixed Go.Proofs.Try.func19 rfl k19 r19 hl hk

def c20 : IC := IC.seq (IC.ops [I.mk none (some 4) (Ef.pr Pr.mv) [X.c (Value.bool false)]]) 
  (IC.seq 
  (IC.seq (IC.ops [I.mk none (some 7) (Ef.pr Pr.mv) [X.t 1], I.mk none (some 8) (Ef.pr Pr.lenS) [X.t 7], I.mk none (some 9) (Ef.pr Pr.mv) [X.c (Value.int IntKind.i64 0)]]) 
  (IC.block 0 
  (IC.loop 
  (IC.seq (IC.ops [I.mk none (some 10) (Ef.pr (Pr.cm BinOp.lss)) [X.t 9, X.t 8]]) 
  (IC.seq 
  (IC.cond (X.t 10) IC.skip (IC.exit 0)) 
  (IC.seq 
  (IC.block 1 
  (IC.seq (IC.ops [I.mk none (some 11) (Ef.pr (Pr.iaS 2)) [X.t 7, X.t 9], I.mk none (some 12) (Ef.pr (Pr.ld 2 true)) [X.t 11], I.mk none (some 6) (Ef.al [Value.nilFunc, Value.int IntKind.i64 0]) [], I.mk none none (Ef.st 2) [X.t 6, X.t 12]]) 
  (IC.seq (IC.plan (Plan.q (I.mk none (some 13) (Ef.pr (Pr.fa 0)) [X.t 6]) (Plan.q (I.mk none (some 14) (Ef.pr (Pr.ld 1 false)) [X.t 13]) (Plan.q (I.mk none (some 15) (Ef.pr Pr.mv) [X.t 0]) (Plan.q (I.mk none (some 17) (Ef.pr (Pr.fa 1)) [X.t 6]) (Plan.q (I.mk none (some 18) (Ef.pr (Pr.ld 1 false)) [X.t 17]) (Plan.br (PlanL.cons true false (I.mk none (some 16) Ef.callv [X.t 14, X.t 15]) (Plan.q (I.mk none (some 19) (Ef.pr (Pr.cm BinOp.neq)) [X.t 16, X.t 18]) Plan.done) PlanL.nil)))))))) 
  (IC.cond (X.t 19) 
  (IC.seq (IC.ops [I.mk none (some 4) (Ef.pr Pr.mv) [X.c (Value.bool false)]]) IC.ret) IC.skip)))) (IC.ops [I.mk none (some 20) (Ef.pr (Pr.ar BinOp.add)) [X.t 9, X.c (Value.int IntKind.i64 1)], I.mk none (some 9) (Ef.pr Pr.mv) [X.t 20]]))))))) 
  (IC.seq (IC.ops [I.mk none (some 4) (Ef.pr Pr.mv) [X.c (Value.bool true)]]) IC.ret))

theorem k20 : Go.Proofs.Try.f20.body.bind (comp Go.Proofs.Try.prog 21 [6] []) = some c20 := by kernel_rfl

theorem r20 : cRVs Go.Proofs.Try.prog Go.Proofs.Try.f20.results.toList = some [RV.t 4] := by kernel_rfl

theorem e20 {args : List Value} {h : Hp} {Q : Value → Hp → Prop} (hl : Nat.ble args.length 21 = true) (hk : codeK PR none c20 (retK Q [RV.t 4]) (fun _ _ _ _ => False) (retK Q [RV.t 4]) (argsE 0 args) [] h) : Ok PR 20 args h Q :=
  Ok.of mixed Go.Proofs.Try.func20 rfl k20 r20 hl hk

def c21 : IC := IC.seq (IC.ops [I.mk none (some 2) (Ef.pr Pr.mv) [X.c (Value.int IntKind.i64 0)]]) 
  (IC.seq (IC.ops [I.mk none (some 3) (Ef.pr Pr.mv) [X.t 0], I.mk none (some 4) (Ef.pr Pr.nilc) [X.t 3], I.mk none (some 5) (Ef.pr (Pr.fa 2)) [X.t 4], I.mk none (some 6) (Ef.pr (Pr.fa 0)) [X.t 5], I.mk none (some 7) (Ef.pr (Pr.ld 1 false)) [X.t 6], I.mk none (some 2) (Ef.pr Pr.mv) [X.t 7]]) IC.ret)

theorem k21 : Go.Proofs.Try.f21.body.bind (comp Go.Proofs.Try.prog 8 [] []) = some c21 := by kernel_rfl

theorem r21 : cRVs Go.Proofs.Try.prog Go.Proofs.Try.f21.results.toList = some [RV.t 2] := by kernel_rfl

theorem e21 {args : List Value} {h : Hp} {Q : Value → Hp → Prop} (hl : Nat.ble args.length 8 = true) (hk : codeK PR none c21 (retK Q [RV.t 2]) (fun _ _ _ _ => False) (retK Q [RV.t 2]) (argsE 0 args) [] h) : Ok PR 21 args h Q :=
  Ok.of mixed Go.Proofs.Try.func21 rfl k21 r21 hl hk

def c22 : IC := IC.seq (IC.ops [I.mk none (some 2) (Ef.pr Pr.mv) [X.c (Value.int IntKind.i64 0)]]) 
  (IC.seq (IC.ops [I.mk none (some 3) (Ef.pr Pr.mv) [X.t 0], I.mk none (some 4) (Ef.pr Pr.nilc) [X.t 3], I.mk none (some 5) (Ef.pr (Pr.fa 2)) [X.t 4], I.mk none (some 6) (Ef.pr (Pr.fa 1)) [X.t 5], I.mk none (some 7) (Ef.pr (Pr.ld 1 false)) [X.t 6], I.mk none (some 2) (Ef.pr Pr.mv) [X.t 7]]) IC.ret)

theorem k22 : Go.Proofs.Try.f22.body.bind (comp Go.Proofs.Try.prog 8 [] []) = some c22 := by kernel_rfl

theorem r22 : cRVs Go.Proofs.Try.prog Go.Proofs.Try.f22.results.toList = some [RV.t 2] := by kernel_rfl

theorem e22 {args : List Value} {h : Hp} {Q : Value → Hp → Prop} (hl : Nat.ble args.length 8 = true) (hk : codeK PR none c22 (retK Q [RV.t 2]) (fun _ _ _ _ => False) (retK Q [RV.t 2]) (argsE 0 args) [] h) : Ok PR 22 args h Q :=
  Ok.of mixed Go.Proofs.Try.func22 rfl k22 r22 hl hk

end Go.Proofs.Ythpkgkoojhgedaa.V
