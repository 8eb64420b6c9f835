/- The functions 3, resolved. -/
import Derived.Test.YthblnoidhehenaaVP
namespace Go.Proofs.Ythblnoidhehenaa.V
set_option linter.unusedVariables false
set_option linter.unusedSimpArgs false
set_option linter.unusedSectionVars false
open Go
set_option maxRecDepth 100000

def c3 : IC := IC.seq (IC.ops [I.mk none (some 2) (Ef.pr Pr.mv) [X.c (Value.bool false)]]) 
  (IC.seq (IC.ops [I.mk none (some 21) (Ef.call 4) [], I.mk none (some 3) (Ef.pr Pr.mv) [X.t 21]]) 
  (IC.seq 
  (IC.seq (IC.ops [I.mk none (some 22) (Ef.pr Pr.mv) [X.t 3], I.mk none (some 23) (Ef.pr (Pr.eq false (EqT.one EqS.p))) [X.t 22, X.c (Value.pointer none)]]) 
  (IC.cond (X.t 23) 
  (IC.seq (IC.ops [I.mk none (some 2) (Ef.pr Pr.mv) [X.c (Value.bool false)]]) IC.ret) IC.skip)) 
  (IC.seq (IC.ops [I.mk none (some 24) (Ef.pr Pr.mv) [X.t 3], I.mk none (some 25) (Ef.call 5) [X.t 24], I.mk none (some 4) (Ef.pr Pr.mv) [X.t 25]]) 
  (IC.seq 
  (IC.seq (IC.ops [I.mk none (some 26) (Ef.pr Pr.mv) [X.t 4], I.mk none (some 27) (Ef.pr (Pr.eq false (EqT.one EqS.p))) [X.t 26, X.c (Value.pointer none)]]) 
  (IC.cond (X.t 27) 
  (IC.seq (IC.ops [I.mk none (some 2) (Ef.pr Pr.mv) [X.c (Value.bool false)]]) IC.ret) IC.skip)) 
  (IC.seq (IC.ops [I.mk none (some 5) (Ef.al [Value.int IntKind.i64 0, Value.int IntKind.i64 0, Value.int IntKind.i64 0, Value.int IntKind.i64 0, Value.int IntKind.i64 0, Value.int IntKind.i64 0, Value.int IntKind.i64 0, Value.int IntKind.i64 0, Value.int IntKind.i64 0, Value.int IntKind.i64 0, Value.int IntKind.i64 0, Value.int IntKind.i64 0, Value.int IntKind.i64 0, Value.int IntKind.i64 0, Value.int IntKind.i64 0, Value.int IntKind.i64 0, Value.int IntKind.i64 0, Value.int IntKind.i64 0, Value.int IntKind.i64 0, Value.int IntKind.i64 0, Value.int IntKind.i64 0, Value.int IntKind.i64 0, Value.int IntKind.i64 0, Value.int IntKind.i64 0, Value.int IntKind.i64 0, Value.int IntKind.i64 0, Value.int IntKind.i64 0, Value.int IntKind.i64 0, Value.int IntKind.i64 0, Value.int IntKind.i64 0, Value.int IntKind.i64 0, Value.int IntKind.i64 0]) []]) 
  (IC.seq 
  (IC.seq (IC.ops [I.mk none (some 6) (Ef.pr Pr.mv) [X.c (Value.int IntKind.i64 0)]]) 
  (IC.block 0 
  (IC.loop 
  (IC.seq 
  (IC.seq (IC.ops [I.mk none (some 28) (Ef.pr Pr.mv) [X.t 6], I.mk none (some 29) (Ef.pr Pr.mv) [X.t 0], I.mk none (some 30) (Ef.pr Pr.lenS) [X.t 29], I.mk none (some 31) (Ef.pr (Pr.cm BinOp.lss)) [X.t 28, X.t 30]]) 
  (IC.cond (X.t 31) IC.skip (IC.exit 0))) 
  (IC.seq 
  (IC.block 1 
  (IC.seq (IC.ops [I.mk none (some 34) (Ef.pr Pr.mv) [X.t 0], I.mk none (some 35) (Ef.pr Pr.mv) [X.t 6], I.mk none (some 36) (Ef.pr (Pr.iaS 2)) [X.t 34, X.t 35], I.mk none (some 37) (Ef.pr (Pr.iaA 2 1)) [X.t 36, X.c (Value.int IntKind.i64 0)], I.mk none (some 38) (Ef.pr (Pr.ld 1 false)) [X.t 37], I.mk none (some 39) (Ef.pr (Pr.cv IntKind.u64)) [X.t 38], I.mk none (some 40) (Ef.pr (Pr.dv BinOp.rem)) [X.t 39, X.c (Value.int IntKind.u64 32)], I.mk none (some 41) (Ef.pr (Pr.cv IntKind.i64)) [X.t 40], I.mk none (some 7) (Ef.pr Pr.mv) [X.t 41]]) 
  (IC.seq (IC.ops [I.mk none (some 42) (Ef.pr Pr.mv) [X.t 0], I.mk none (some 43) (Ef.pr Pr.mv) [X.t 6], I.mk none (some 44) (Ef.pr (Pr.iaS 2)) [X.t 42, X.t 43], I.mk none (some 45) (Ef.pr (Pr.iaA 2 1)) [X.t 44, X.c (Value.int IntKind.i64 1)], I.mk none (some 46) (Ef.pr (Pr.ld 1 false)) [X.t 45], I.mk none (some 47) (Ef.pr (Pr.cv IntKind.u64)) [X.t 46], I.mk none (some 48) (Ef.pr (Pr.dv BinOp.rem)) [X.t 47, X.c (Value.int IntKind.u64 4)], I.mk none (some 49) (Ef.pr (Pr.cv IntKind.i64)) [X.t 48]]) 
  (IC.block 2 
  (IC.seq (IC.ops [I.mk none (some 51) (Ef.pr (Pr.cm BinOp.eql)) [X.t 49, X.c (Value.int IntKind.i64 0)], I.mk none (some 50) (Ef.pr Pr.mv) [X.t 51]]) 
  (IC.cond (X.t 50) 
  (IC.seq (IC.ops [I.mk none (some 8) (Ef.pr Pr.mv) [X.c (Value.int IntKind.i64 0)]]) 
  (IC.cut 
  (IC.block 3 
  (IC.loop 
  (IC.seq 
  (IC.seq (IC.ops [I.mk none (some 52) (Ef.pr Pr.mv) [X.t 8], I.mk none (some 53) (Ef.pr (Pr.cm BinOp.lss)) [X.t 52, X.c (Value.int IntKind.i64 32)], I.mk none (some 54) (Ef.pr Pr.mv) [X.t 53], I.mk (some (54, true)) (some 55) (Ef.pr Pr.mv) [X.t 8], I.mk (some (54, true)) (some 56) (Ef.pr (Pr.iaA 32 1)) [X.t 5, X.t 55], I.mk (some (54, true)) (some 57) (Ef.pr (Pr.ld 1 false)) [X.t 56], I.mk (some (54, true)) (some 58) (Ef.pr (Pr.cm BinOp.gtr)) [X.t 57, X.c (Value.int IntKind.i64 0)], I.mk none (some 59) (Ef.pr Pr.pick) [X.t 54, X.t 58, X.c (Value.bool false)]]) 
  (IC.cond (X.t 59) IC.skip (IC.exit 3))) 
  (IC.block 4 (IC.ops [I.mk none (some 60) (Ef.pr Pr.mv) [X.t 8], I.mk none (some 61) (Ef.pr (Pr.ar BinOp.add)) [X.t 60, X.c (Value.int IntKind.i64 1)], I.mk none (some 8) (Ef.pr Pr.mv) [X.t 61]]))))) 
  (IC.seq (IC.ops [I.mk none (some 63) (Ef.pr Pr.mv) [X.t 4], I.mk none (some 64) (Ef.call 6) [X.t 63, X.c (Value.int IntKind.i64 (-1)), X.c (Value.int IntKind.i64 7)], I.mk none (some 62) (Ef.pr Pr.mv) [X.t 64], I.mk none (some 65) (Ef.pr (Pr.ext 0)) [X.t 62], I.mk none (some 66) (Ef.pr (Pr.ext 1)) [X.t 62], I.mk none (some 9) (Ef.pr Pr.mv) [X.t 65], I.mk none (some 10) (Ef.pr Pr.mv) [X.t 66]]) 
  (IC.seq 
  (IC.seq (IC.ops [I.mk none (some 67) (Ef.pr Pr.mv) [X.t 8], I.mk none (some 68) (Ef.pr (Pr.cm BinOp.eql)) [X.t 67, X.c (Value.int IntKind.i64 32)], I.mk none (some 69) (Ef.pr Pr.mv) [X.t 68], I.mk (some (69, true)) (some 70) (Ef.pr Pr.mv) [X.t 9], I.mk (some (69, true)) (some 71) (Ef.pr (Pr.cm BinOp.neq)) [X.t 70, X.c (Value.int IntKind.i64 (-1))], I.mk (some (69, true)) (some 72) (Ef.pr Pr.mv) [X.t 71], I.mk (some (72, false)) (some 73) (Ef.pr Pr.mv) [X.t 10], I.mk (some (72, false)) (some 74) (Ef.pr (Pr.cm BinOp.neq)) [X.t 73, X.c (Value.int IntKind.i64 2)], I.mk (some (69, true)) (some 75) (Ef.pr Pr.pick) [X.t 72, X.c (Value.bool true), X.t 74], I.mk none (some 76) (Ef.pr Pr.pick) [X.t 69, X.t 75, X.c (Value.bool false)], I.mk none (some 77) (Ef.pr Pr.mv) [X.t 76], I.mk (some (77, false)) (some 78) (Ef.pr Pr.mv) [X.t 8], I.mk (some (77, false)) (some 79) (Ef.pr (Pr.cm BinOp.lss)) [X.t 78, X.c (Value.int IntKind.i64 32)], I.mk (some (77, false)) (some 80) (Ef.pr Pr.mv) [X.t 79], I.mk (some (80, true)) (some 81) (Ef.pr Pr.mv) [X.t 9], I.mk (some (80, true)) (some 82) (Ef.pr Pr.mv) [X.t 8], I.mk (some (80, true)) (some 83) (Ef.pr (Pr.cm BinOp.neq)) [X.t 81, X.t 82], I.mk (some (80, true)) (some 84) (Ef.pr Pr.mv) [X.t 83], I.mk (some (84, false)) (some 85) (Ef.pr Pr.mv) [X.t 10], I.mk (some (84, false)) (some 86) (Ef.pr (Pr.cm BinOp.neq)) [X.t 85, X.c (Value.int IntKind.i64 0)], I.mk (some (80, true)) (some 87) (Ef.pr Pr.pick) [X.t 84, X.c (Value.bool true), X.t 86], I.mk (some (77, false)) (some 88) (Ef.pr Pr.pick) [X.t 80, X.t 87, X.c (Value.bool false)], I.mk none (some 89) (Ef.pr Pr.pick) [X.t 77, X.c (Value.bool true), X.t 88]]) 
  (IC.cond (X.t 89) 
  (IC.seq (IC.ops [I.mk none (some 2) (Ef.pr Pr.mv) [X.c (Value.bool false)]]) IC.ret) IC.skip)) 
  (IC.seq (IC.ops [I.mk none (some 90) (Ef.pr Pr.mv) [X.t 8], I.mk none (some 91) (Ef.pr (Pr.cm BinOp.lss)) [X.t 90, X.c (Value.int IntKind.i64 32)]]) 
  (IC.cond (X.t 91) (IC.ops [I.mk none (some 92) (Ef.pr Pr.mv) [X.t 8], I.mk none (some 93) (Ef.pr (Pr.iaA 32 1)) [X.t 5, X.t 92], I.mk none none (Ef.st 1) [X.t 93, X.c (Value.int IntKind.i64 1)]]) IC.skip)))))) 
  (IC.seq (IC.ops [I.mk none (some 95) (Ef.pr (Pr.cm BinOp.eql)) [X.t 49, X.c (Value.int IntKind.i64 1)], I.mk none (some 94) (Ef.pr Pr.mv) [X.t 95]]) 
  (IC.cond (X.t 94) 
  (IC.seq (IC.ops [I.mk none (some 97) (Ef.pr Pr.mv) [X.t 4], I.mk none (some 98) (Ef.pr Pr.mv) [X.t 7], I.mk none (some 99) (Ef.call 6) [X.t 97, X.t 98, X.c (Value.int IntKind.i64 7)], I.mk none (some 96) (Ef.pr Pr.mv) [X.t 99], I.mk none (some 100) (Ef.pr (Pr.ext 0)) [X.t 96], I.mk none (some 101) (Ef.pr (Pr.ext 1)) [X.t 96], I.mk none (some 11) (Ef.pr Pr.mv) [X.t 100], I.mk none (some 12) (Ef.pr Pr.mv) [X.t 101]]) 
  (IC.seq 
  (IC.seq (IC.ops [I.mk none (some 102) (Ef.pr Pr.mv) [X.t 7], I.mk none (some 103) (Ef.pr (Pr.iaA 32 1)) [X.t 5, X.t 102], I.mk none (some 104) (Ef.pr (Pr.ld 1 false)) [X.t 103], I.mk none (some 105) (Ef.pr (Pr.cm BinOp.gtr)) [X.t 104, X.c (Value.int IntKind.i64 0)], I.mk none (some 106) (Ef.pr Pr.mv) [X.t 105], I.mk (some (106, true)) (some 107) (Ef.pr Pr.mv) [X.t 11], I.mk (some (106, true)) (some 108) (Ef.pr (Pr.cm BinOp.neq)) [X.t 107, X.c (Value.int IntKind.i64 (-1))], I.mk (some (106, true)) (some 109) (Ef.pr Pr.mv) [X.t 108], I.mk (some (109, false)) (some 110) (Ef.pr Pr.mv) [X.t 12], I.mk (some (109, false)) (some 111) (Ef.pr (Pr.cm BinOp.neq)) [X.t 110, X.c (Value.int IntKind.i64 101)], I.mk (some (106, true)) (some 112) (Ef.pr Pr.pick) [X.t 109, X.c (Value.bool true), X.t 111], I.mk none (some 113) (Ef.pr Pr.pick) [X.t 106, X.t 112, X.c (Value.bool false)], I.mk none (some 114) (Ef.pr Pr.mv) [X.t 113], I.mk (some (114, false)) (some 115) (Ef.pr Pr.mv) [X.t 7], I.mk (some (114, false)) (some 116) (Ef.pr (Pr.iaA 32 1)) [X.t 5, X.t 115], I.mk (some (114, false)) (some 117) (Ef.pr (Pr.ld 1 false)) [X.t 116], I.mk (some (114, false)) (some 118) (Ef.pr (Pr.cm BinOp.eql)) [X.t 117, X.c (Value.int IntKind.i64 0)], I.mk (some (114, false)) (some 119) (Ef.pr Pr.mv) [X.t 118], I.mk (some (119, true)) (some 120) (Ef.pr Pr.mv) [X.t 11], I.mk (some (119, true)) (some 121) (Ef.pr Pr.mv) [X.t 7], I.mk (some (119, true)) (some 122) (Ef.pr (Pr.cm BinOp.neq)) [X.t 120, X.t 121], I.mk (some (119, true)) (some 123) (Ef.pr Pr.mv) [X.t 122], I.mk (some (123, false)) (some 124) (Ef.pr Pr.mv) [X.t 12], I.mk (some (123, false)) (some 125) (Ef.pr (Pr.cm BinOp.neq)) [X.t 124, X.c (Value.int IntKind.i64 0)], I.mk (some (119, true)) (some 126) (Ef.pr Pr.pick) [X.t 123, X.c (Value.bool true), X.t 125], I.mk (some (114, false)) (some 127) (Ef.pr Pr.pick) [X.t 119, X.t 126, X.c (Value.bool false)], I.mk none (some 128) (Ef.pr Pr.pick) [X.t 114, X.c (Value.bool true), X.t 127]]) 
  (IC.cond (X.t 128) 
  (IC.seq (IC.ops [I.mk none (some 2) (Ef.pr Pr.mv) [X.c (Value.bool false)]]) IC.ret) IC.skip)) 
  (IC.seq (IC.ops [I.mk none (some 129) (Ef.pr Pr.mv) [X.t 7], I.mk none (some 130) (Ef.pr (Pr.iaA 32 1)) [X.t 5, X.t 129], I.mk none (some 131) (Ef.pr (Pr.ld 1 false)) [X.t 130], I.mk none (some 132) (Ef.pr (Pr.cm BinOp.eql)) [X.t 131, X.c (Value.int IntKind.i64 0)]]) 
  (IC.cond (X.t 132) (IC.ops [I.mk none (some 133) (Ef.pr Pr.mv) [X.t 7], I.mk none (some 134) (Ef.pr (Pr.iaA 32 1)) [X.t 5, X.t 133], I.mk none none (Ef.st 1) [X.t 134, X.c (Value.int IntKind.i64 1)]]) IC.skip)))) 
  (IC.seq (IC.ops [I.mk none (some 136) (Ef.pr (Pr.cm BinOp.eql)) [X.t 49, X.c (Value.int IntKind.i64 2)], I.mk none (some 135) (Ef.pr Pr.mv) [X.t 136]]) 
  (IC.cond (X.t 135) 
  (IC.seq (IC.ops [I.mk none (some 137) (Ef.pr Pr.mv) [X.t 4], I.mk none (some 138) (Ef.pr Pr.mv) [X.t 7], I.mk none (some 139) (Ef.call 7) [X.t 137, X.t 138], I.mk none (some 13) (Ef.pr Pr.mv) [X.t 139]]) 
  (IC.seq 
  (IC.seq (IC.ops [I.mk none (some 140) (Ef.pr Pr.mv) [X.t 13], I.mk none (some 141) (Ef.pr (Pr.cm BinOp.eql)) [X.t 140, X.c (Value.int IntKind.i64 0)], I.mk none (some 142) (Ef.pr Pr.mv) [X.t 7], I.mk none (some 143) (Ef.pr (Pr.iaA 32 1)) [X.t 5, X.t 142], I.mk none (some 144) (Ef.pr (Pr.ld 1 false)) [X.t 143], I.mk none (some 145) (Ef.pr (Pr.cm BinOp.gtr)) [X.t 144, X.c (Value.int IntKind.i64 0)], I.mk none (some 146) (Ef.pr (Pr.eq true (EqT.one EqS.b))) [X.t 141, X.t 145], I.mk none (some 147) (Ef.pr Pr.mv) [X.t 146], I.mk (some (147, false)) (some 148) (Ef.pr Pr.mv) [X.t 13], I.mk (some (147, false)) (some 149) (Ef.pr (Pr.cm BinOp.eql)) [X.t 148, X.c (Value.int IntKind.i64 100)], I.mk (some (147, false)) (some 150) (Ef.pr Pr.mv) [X.t 7], I.mk (some (147, false)) (some 151) (Ef.pr (Pr.iaA 32 1)) [X.t 5, X.t 150], I.mk (some (147, false)) (some 152) (Ef.pr (Pr.ld 1 false)) [X.t 151], I.mk (some (147, false)) (some 153) (Ef.pr (Pr.cm BinOp.eql)) [X.t 152, X.c (Value.int IntKind.i64 0)], I.mk (some (147, false)) (some 154) (Ef.pr (Pr.eq true (EqT.one EqS.b))) [X.t 149, X.t 153], I.mk none (some 155) (Ef.pr Pr.pick) [X.t 147, X.c (Value.bool true), X.t 154]]) 
  (IC.cond (X.t 155) 
  (IC.seq (IC.ops [I.mk none (some 2) (Ef.pr Pr.mv) [X.c (Value.bool false)]]) IC.ret) IC.skip)) 
  (IC.seq (IC.ops [I.mk none (some 156) (Ef.pr Pr.mv) [X.t 7], I.mk none (some 157) (Ef.pr (Pr.iaA 32 1)) [X.t 5, X.t 156], I.mk none (some 158) (Ef.pr (Pr.ld 1 false)) [X.t 157], I.mk none (some 159) (Ef.pr (Pr.cm BinOp.gtr)) [X.t 158, X.c (Value.int IntKind.i64 0)]]) 
  (IC.cond (X.t 159) (IC.ops [I.mk none (some 160) (Ef.pr Pr.mv) [X.t 7], I.mk none (some 161) (Ef.pr (Pr.iaA 32 1)) [X.t 5, X.t 160], I.mk none (some 162) (Ef.pr (Pr.ld 1 false)) [X.t 161], I.mk none (some 163) (Ef.pr (Pr.ar BinOp.add)) [X.t 162, X.c (Value.int IntKind.i64 1)], I.mk none (some 164) (Ef.pr (Pr.iaA 32 1)) [X.t 5, X.t 160], I.mk none none (Ef.st 1) [X.t 164, X.t 163]]) IC.skip)))) 
  (IC.seq (IC.ops [I.mk none (some 166) (Ef.pr (Pr.cm BinOp.eql)) [X.t 49, X.c (Value.int IntKind.i64 3)], I.mk none (some 165) (Ef.pr Pr.mv) [X.t 166]]) 
  (IC.cond (X.t 165) 
  (IC.seq (IC.ops [I.mk none (some 168) (Ef.pr Pr.mv) [X.t 4], I.mk none (some 169) (Ef.pr Pr.mv) [X.t 7], I.mk none (some 170) (Ef.call 8) [X.t 168, X.t 169], I.mk none (some 167) (Ef.pr Pr.mv) [X.t 170], I.mk none (some 171) (Ef.pr (Pr.ext 0)) [X.t 167], I.mk none (some 172) (Ef.pr (Pr.ext 1)) [X.t 167], I.mk none (some 14) (Ef.pr Pr.mv) [X.t 171], I.mk none (some 15) (Ef.pr Pr.mv) [X.t 172]]) 
  (IC.seq 
  (IC.seq (IC.ops [I.mk none (some 173) (Ef.pr Pr.mv) [X.t 15], I.mk none (some 174) (Ef.pr (Pr.cm BinOp.eql)) [X.t 173, X.c (Value.int IntKind.i64 0)], I.mk none (some 175) (Ef.pr Pr.mv) [X.t 7], I.mk none (some 176) (Ef.pr (Pr.iaA 32 1)) [X.t 5, X.t 175], I.mk none (some 177) (Ef.pr (Pr.ld 1 false)) [X.t 176], I.mk none (some 178) (Ef.pr (Pr.cm BinOp.gtr)) [X.t 177, X.c (Value.int IntKind.i64 0)], I.mk none (some 179) (Ef.pr (Pr.eq true (EqT.one EqS.b))) [X.t 174, X.t 178], I.mk none (some 180) (Ef.pr Pr.mv) [X.t 179], I.mk (some (180, false)) (some 181) (Ef.pr Pr.mv) [X.t 15], I.mk (some (180, false)) (some 182) (Ef.pr (Pr.cm BinOp.eql)) [X.t 181, X.c (Value.int IntKind.i64 100)], I.mk (some (180, false)) (some 183) (Ef.pr Pr.mv) [X.t 7], I.mk (some (180, false)) (some 184) (Ef.pr (Pr.iaA 32 1)) [X.t 5, X.t 183], I.mk (some (180, false)) (some 185) (Ef.pr (Pr.ld 1 false)) [X.t 184], I.mk (some (180, false)) (some 186) (Ef.pr (Pr.cm BinOp.eql)) [X.t 185, X.c (Value.int IntKind.i64 0)], I.mk (some (180, false)) (some 187) (Ef.pr (Pr.eq true (EqT.one EqS.b))) [X.t 182, X.t 186], I.mk none (some 188) (Ef.pr Pr.pick) [X.t 180, X.c (Value.bool true), X.t 187], I.mk none (some 189) (Ef.pr Pr.mv) [X.t 188], I.mk (some (189, false)) (some 190) (Ef.pr Pr.mv) [X.t 14], I.mk (some (189, false)) (some 191) (Ef.pr Pr.mv) [X.t 7], I.mk (some (189, false)) (some 192) (Ef.pr (Pr.iaA 32 1)) [X.t 5, X.t 191], I.mk (some (189, false)) (some 193) (Ef.pr (Pr.ld 1 false)) [X.t 192], I.mk (some (189, false)) (some 194) (Ef.pr (Pr.cm BinOp.eql)) [X.t 193, X.c (Value.int IntKind.i64 1)], I.mk (some (189, false)) (some 195) (Ef.pr (Pr.eq true (EqT.one EqS.b))) [X.t 190, X.t 194], I.mk none (some 196) (Ef.pr Pr.pick) [X.t 189, X.c (Value.bool true), X.t 195]]) 
  (IC.cond (X.t 196) 
  (IC.seq (IC.ops [I.mk none (some 2) (Ef.pr Pr.mv) [X.c (Value.bool false)]]) IC.ret) IC.skip)) 
  (IC.seq (IC.ops [I.mk none (some 197) (Ef.pr Pr.mv) [X.t 7], I.mk none (some 198) (Ef.pr (Pr.iaA 32 1)) [X.t 5, X.t 197], I.mk none (some 199) (Ef.pr (Pr.ld 1 false)) [X.t 198], I.mk none (some 200) (Ef.pr (Pr.cm BinOp.gtr)) [X.t 199, X.c (Value.int IntKind.i64 0)]]) 
  (IC.cond (X.t 200) (IC.ops [I.mk none (some 201) (Ef.pr Pr.mv) [X.t 7], I.mk none (some 202) (Ef.pr (Pr.iaA 32 1)) [X.t 5, X.t 201], I.mk none (some 203) (Ef.pr (Pr.ld 1 false)) [X.t 202], I.mk none (some 204) (Ef.pr (Pr.ar BinOp.sub)) [X.t 203, X.c (Value.int IntKind.i64 1)], I.mk none (some 205) (Ef.pr (Pr.iaA 32 1)) [X.t 5, X.t 201], I.mk none none (Ef.st 1) [X.t 205, X.t 204]]) IC.skip)))) IC.skip)))))))))))) (IC.ops [I.mk none (some 32) (Ef.pr Pr.mv) [X.t 6], I.mk none (some 33) (Ef.pr (Pr.ar BinOp.add)) [X.t 32, X.c (Value.int IntKind.i64 1)], I.mk none (some 6) (Ef.pr Pr.mv) [X.t 33]])))))) 
  (IC.seq (IC.ops [I.mk none (some 206) (Ef.pr Pr.mv) [X.t 4], I.mk none (some 207) (Ef.call 9) [X.t 206], I.mk none (some 16) (Ef.pr Pr.mv) [X.t 207]]) 
  (IC.seq (IC.ops [I.mk none (some 17) (Ef.pr Pr.mv) [X.c (Value.int IntKind.i64 0)]]) 
  (IC.seq 
  (IC.seq (IC.ops [I.mk none (some 18) (Ef.pr Pr.mv) [X.c (Value.int IntKind.i64 0)]]) 
  (IC.block 5 
  (IC.loop 
  (IC.seq 
  (IC.seq (IC.ops [I.mk none (some 208) (Ef.pr Pr.mv) [X.t 18], I.mk none (some 209) (Ef.pr (Pr.cm BinOp.lss)) [X.t 208, X.c (Value.int IntKind.i64 32)]]) 
  (IC.cond (X.t 209) IC.skip (IC.exit 5))) 
  (IC.seq 
  (IC.block 6 
  (IC.seq (IC.ops [I.mk none (some 212) (Ef.pr Pr.mv) [X.t 18], I.mk none (some 213) (Ef.pr (Pr.iaA 32 1)) [X.t 5, X.t 212], I.mk none (some 214) (Ef.pr (Pr.ld 1 false)) [X.t 213], I.mk none (some 215) (Ef.pr (Pr.cm BinOp.gtr)) [X.t 214, X.c (Value.int IntKind.i64 0)]]) 
  (IC.cond (X.t 215) 
  (IC.seq 
  (IC.seq (IC.plan (Plan.q (I.mk none (some 216) (Ef.pr Pr.mv) [X.t 17]) (Plan.q (I.mk none (some 217) (Ef.pr Pr.mv) [X.t 16]) (Plan.q (I.mk none (some 218) (Ef.pr Pr.lenS) [X.t 217]) (Plan.q (I.mk none (some 219) (Ef.pr (Pr.cm BinOp.geq)) [X.t 216, X.t 218]) (Plan.q (I.mk none (some 220) (Ef.pr Pr.mv) [X.t 219]) (Plan.q (I.mk (some (220, false)) (some 221) (Ef.pr Pr.mv) [X.t 16]) (Plan.q (I.mk (some (220, false)) (some 222) (Ef.pr Pr.mv) [X.t 17]) (Plan.q (I.mk (some (220, false)) (some 223) (Ef.pr (Pr.iaS 3)) [X.t 221, X.t 222]) (Plan.q (I.mk (some (220, false)) (some 224) (Ef.pr (Pr.ld 3 true)) [X.t 223]) (Plan.q (I.mk (some (220, false)) (some 225) (Ef.pr Pr.mv) [X.t 18]) (Plan.q (I.mk (some (220, false)) (some 226) (Ef.pr Pr.mv) [X.t 18]) (Plan.q (I.mk (some (220, false)) (some 227) (Ef.pr (Pr.iaA 32 1)) [X.t 5, X.t 226]) (Plan.q (I.mk (some (220, false)) (some 228) (Ef.pr (Pr.ld 1 false)) [X.t 227]) (Plan.q (I.mk (some (220, false)) (some 229) (Ef.pr (Pr.bld [Value.int IntKind.i64 0, Value.int IntKind.i64 0, Value.int IntKind.i64 0] [(0, 1), (1, 1), (2, 1)])) [X.t 225, X.c (Value.int IntKind.i64 7), X.t 228]) (Plan.q (I.mk (some (220, false)) (some 230) (Ef.pr (Pr.eq true (EqT.ag [(0, EqS.i), (1, EqS.i), (2, EqS.i)]))) [X.t 224, X.t 229]) (Plan.q (I.mk none (some 231) (Ef.pr Pr.pick) [X.t 220, X.c (Value.bool true), X.t 230]) Plan.done))))))))))))))))) 
  (IC.cond (X.t 231) 
  (IC.seq (IC.ops [I.mk none (some 2) (Ef.pr Pr.mv) [X.c (Value.bool false)]]) IC.ret) IC.skip)) (IC.ops [I.mk none (some 232) (Ef.pr Pr.mv) [X.t 17], I.mk none (some 233) (Ef.pr (Pr.ar BinOp.add)) [X.t 232, X.c (Value.int IntKind.i64 1)], I.mk none (some 17) (Ef.pr Pr.mv) [X.t 233]])) IC.skip))) (IC.ops [I.mk none (some 210) (Ef.pr Pr.mv) [X.t 18], I.mk none (some 211) (Ef.pr (Pr.ar BinOp.add)) [X.t 210, X.c (Value.int IntKind.i64 1)], I.mk none (some 18) (Ef.pr Pr.mv) [X.t 211]])))))) 
  (IC.seq (IC.ops [I.mk none (some 235) (Ef.pr Pr.mv) [X.t 4], I.mk none (some 236) (Ef.call 6) [X.t 235, X.c (Value.int IntKind.i64 (-1)), X.c (Value.int IntKind.i64 7)], I.mk none (some 234) (Ef.pr Pr.mv) [X.t 236], I.mk none (some 237) (Ef.pr (Pr.ext 0)) [X.t 234], I.mk none (some 238) (Ef.pr (Pr.ext 1)) [X.t 234], I.mk none (some 19) (Ef.pr Pr.mv) [X.t 237], I.mk none (some 20) (Ef.pr Pr.mv) [X.t 238]]) 
  (IC.seq (IC.ops [I.mk none (some 239) (Ef.pr Pr.mv) [X.t 17], I.mk none (some 240) (Ef.pr Pr.mv) [X.t 16], I.mk none (some 241) (Ef.pr Pr.lenS) [X.t 240], I.mk none (some 242) (Ef.pr (Pr.cm BinOp.eql)) [X.t 239, X.t 241], I.mk none (some 243) (Ef.pr Pr.mv) [X.t 242], I.mk (some (243, true)) (some 244) (Ef.pr Pr.mv) [X.t 20], I.mk (some (243, true)) (some 245) (Ef.pr (Pr.cm BinOp.eql)) [X.t 244, X.c (Value.int IntKind.i64 0)], I.mk (some (243, true)) (some 246) (Ef.pr Pr.mv) [X.t 17], I.mk (some (243, true)) (some 247) (Ef.pr (Pr.cm BinOp.lss)) [X.t 246, X.c (Value.int IntKind.i64 32)], I.mk (some (243, true)) (some 248) (Ef.pr (Pr.eq false (EqT.one EqS.b))) [X.t 245, X.t 247], I.mk none (some 249) (Ef.pr Pr.pick) [X.t 243, X.t 248, X.c (Value.bool false)], I.mk none (some 2) (Ef.pr Pr.mv) [X.t 249]]) IC.ret)))))))))))

theorem k3 : Go.Proofs.Try.f3.body.bind (comp Go.Proofs.Try.prog 250 [5] [17]) = some c3 := by kernel_rfl

theorem r3 : cRVs Go.Proofs.Try.prog Go.Proofs.Try.f3.results.toList = some [RV.t 2] := by kernel_rfl

theorem e3 {args : List Value} {h : Hp} {Q : Value → Hp → Prop} (hl : Nat.ble args.length 250 = true) (hk : codeK PR none c3 (retK Q [RV.t 2]) (fun _ _ _ _ => False) (retK Q [RV.t 2]) (argsE 0 args) [] h) : Ok PR 3 args h Q :=
  Ok.of mixed Go.Proofs.Try.func3 rfl k3 r3 hl hk

end Go.Proofs.Ythblnoidhehenaa.V
