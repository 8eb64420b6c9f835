/- The functions 5, resolved. -/
import Derived.Test.YtpkleblggehghaaVP
namespace Go.Proofs.Ytpkleblggehghaa.V
set_option linter.unusedVariables false
set_option linter.unusedSimpArgs false
set_option linter.unusedSectionVars false
open Go
set_option maxRecDepth 100000

def c5 : IC := IC.seq (IC.ops [I.mk none (some 1) Ef.bx [X.t 0], I.mk none (some 2) (Ef.pr Pr.mv) [X.c (Value.bool false)]]) 
  (IC.seq (IC.ops [I.mk none (some 19) (Ef.pr (Pr.fa 0)) [X.t 1], I.mk none (some 20) (Ef.pr (Pr.ld 1 false)) [X.t 19], I.mk none (some 21) (Ef.call 11) [X.t 20], I.mk none (some 3) (Ef.pr Pr.mv) [X.t 21]]) 
  (IC.seq (IC.plan (Plan.q (I.mk none (some 22) (Ef.pr (Pr.fa 1)) [X.t 1]) (Plan.q (I.mk none (some 23) (Ef.pr (Pr.ld 2 true)) [X.t 22]) (Plan.q (I.mk none (some 24) (Ef.pr (Pr.fa 3)) [X.t 1]) (Plan.q (I.mk none (some 25) (Ef.pr (Pr.ld 1 false)) [X.t 24]) (Plan.q (I.mk none (some 26) (Ef.pr (Pr.fa 4)) [X.t 1]) (Plan.q (I.mk none (some 27) (Ef.pr (Pr.ld 1 false)) [X.t 26]) (Plan.br (PlanL.cons true true (I.mk none (some 4) (Ef.al [Value.int IntKind.i64 0, Value.int IntKind.u8 0]) []) (Plan.br (PlanL.cons true false (I.mk none none (Ef.st 2) [X.t 4, X.t 23]) (Plan.q (I.mk none (some 5) (Ef.pr Pr.mv) [X.t 25]) (Plan.q (I.mk none (some 6) (Ef.pr Pr.mv) [X.t 27]) Plan.done)) PlanL.nil)) PlanL.nil))))))))) 
  (IC.seq 
  (IC.seq (IC.ops [I.mk none (some 28) (Ef.pr Pr.mv) [X.t 3], I.mk none (some 29) (Ef.pr (Pr.eq false (EqT.one EqS.p))) [X.t 28, X.c (Value.pointer none)]]) 
  (IC.cond (X.t 29) 
  (IC.seq (IC.ops [I.mk none (some 2) (Ef.pr Pr.mv) [X.c (Value.bool false)]]) IC.ret) IC.skip)) 
  (IC.seq (IC.ops [I.mk none (some 30) (Ef.pr (Pr.fa 0)) [X.t 4], I.mk none (some 31) (Ef.pr (Pr.ld 1 false)) [X.t 30], I.mk none (some 32) (Ef.call 16) [X.t 31], I.mk none (some 7) (Ef.pr Pr.mv) [X.t 32]]) 
  (IC.seq (IC.ops [I.mk none (some 33) (Ef.pr Pr.mv) [X.t 5], I.mk none (some 34) (Ef.pr (Pr.cv IntKind.u64)) [X.t 33], I.mk none (some 35) (Ef.pr (Pr.dv BinOp.rem)) [X.t 34, X.c (Value.int IntKind.u64 129)], I.mk none (some 36) (Ef.pr (Pr.cv IntKind.i64)) [X.t 35], I.mk none (some 5) (Ef.pr Pr.mv) [X.t 36]]) 
  (IC.seq (IC.ops [I.mk none (some 37) (Ef.pr Pr.mv) [X.t 6], I.mk none (some 38) (Ef.call 27) [X.t 37], I.mk none (some 6) (Ef.pr Pr.mv) [X.t 38]]) 
  (IC.cut 
  (IC.seq (IC.ops [I.mk none (some 39) (Ef.pr Pr.mv) [X.t 6], I.mk none (some 40) (Ef.pr Pr.lenS) [X.t 39], I.mk none (some 41) (Ef.pr Pr.mv) [X.t 5], I.mk none (some 42) (Ef.pr (Pr.ar BinOp.sub)) [X.c (Value.int IntKind.i64 128), X.t 41], I.mk none (some 43) (Ef.pr (Pr.cm BinOp.gtr)) [X.t 40, X.t 42]]) 
  (IC.cond (X.t 43) (IC.ops [I.mk none (some 44) (Ef.pr Pr.mv) [X.t 6], I.mk none (some 45) (Ef.pr Pr.mv) [X.t 5], I.mk none (some 46) (Ef.pr (Pr.ar BinOp.sub)) [X.c (Value.int IntKind.i64 128), X.t 45], I.mk none (some 47) (Ef.pr (Pr.slS 1 false true false)) [X.t 44, X.t 46], I.mk none (some 6) (Ef.pr Pr.mv) [X.t 47]]) IC.skip)) 
  (IC.seq (IC.ops [I.mk none (some 49) (Ef.pr Pr.mv) [X.t 3], I.mk none (some 50) (Ef.pr Pr.mv) [X.t 7], I.mk none (some 51) (Ef.call 25) [X.t 49, X.t 50], I.mk none (some 48) (Ef.pr Pr.mv) [X.t 51], I.mk none (some 52) (Ef.pr (Pr.ext 0)) [X.t 48], I.mk none (some 53) (Ef.pr (Pr.ext 1)) [X.t 48], I.mk none (some 8) (Ef.pr Pr.mv) [X.t 52], I.mk none (some 9) (Ef.pr Pr.mv) [X.t 53]]) 
  (IC.seq (IC.ops [I.mk none (some 55) (Ef.pr Pr.mv) [X.t 3], I.mk none (some 56) (Ef.pr Pr.mv) [X.t 7], I.mk none (some 57) (Ef.pr (Pr.ar BinOp.add)) [X.t 56, X.c (Value.int IntKind.i64 1)], I.mk none (some 58) (Ef.call 16) [X.t 57], I.mk none (some 59) (Ef.call 25) [X.t 55, X.t 58], I.mk none (some 54) (Ef.pr Pr.mv) [X.t 59], I.mk none (some 60) (Ef.pr (Pr.ext 0)) [X.t 54], I.mk none (some 61) (Ef.pr (Pr.ext 1)) [X.t 54], I.mk none (some 10) (Ef.pr Pr.mv) [X.t 60], I.mk none (some 11) (Ef.pr Pr.mv) [X.t 61]]) 
  (IC.seq 
  (IC.seq (IC.ops [I.mk none (some 62) (Ef.pr Pr.mv) [X.t 8], I.mk none (some 63) (Ef.pr Pr.lenS) [X.t 62], I.mk none (some 64) (Ef.pr (Pr.cm BinOp.neq)) [X.t 63, X.c (Value.int IntKind.i64 128)], I.mk none (some 65) (Ef.pr Pr.mv) [X.t 64], I.mk (some (65, false)) (some 66) (Ef.pr Pr.mv) [X.t 3], I.mk (some (65, false)) (some 67) (Ef.pr Pr.mv) [X.t 7], I.mk (some (65, false)) (some 68) (Ef.pr (Pr.fa 1)) [X.t 4], I.mk (some (65, false)) (some 69) (Ef.pr (Pr.ld 1 false)) [X.t 68], I.mk (some (65, false)) (some 70) (Ef.call 17) [X.t 69], I.mk (some (65, false)) (some 71) (Ef.call 15) [X.t 66, X.t 67, X.t 70], I.mk (some (65, false)) (some 72) (Ef.pr (Pr.cm BinOp.neq)) [X.t 71, X.c (Value.int IntKind.i64 0)], I.mk none (some 73) (Ef.pr Pr.pick) [X.t 65, X.c (Value.bool true), X.t 72]]) 
  (IC.cond (X.t 73) 
  (IC.seq (IC.ops [I.mk none (some 2) (Ef.pr Pr.mv) [X.c (Value.bool false)]]) IC.ret) IC.skip)) 
  (IC.cut 
  (IC.seq (IC.ops [I.mk none (some 74) (Ef.pr (Pr.fa 1)) [X.t 4], I.mk none (some 75) (Ef.pr (Pr.ld 1 false)) [X.t 74], I.mk none (some 76) (Ef.pr (Pr.dv BinOp.rem)) [X.t 75, X.c (Value.int IntKind.u8 2)], I.mk none (some 77) (Ef.pr (Pr.cm BinOp.eql)) [X.t 76, X.c (Value.int IntKind.u8 1)], I.mk none (some 78) (Ef.pr Pr.mv) [X.t 77], I.mk (some (78, true)) (some 79) (Ef.pr Pr.mv) [X.t 3], I.mk (some (78, true)) (some 80) (Ef.call 12) [X.t 79, X.c (Value.int IntKind.i64 0)], I.mk (some (78, true)) (some 81) (Ef.pr (Pr.cm BinOp.neq)) [X.t 80, X.c (Value.int IntKind.i64 0)], I.mk (some (78, true)) (some 82) (Ef.pr Pr.mv) [X.t 81], I.mk (some (82, false)) (some 83) (Ef.pr Pr.mv) [X.t 3], I.mk (some (82, false)) (some 84) (Ef.call 14) [X.t 83], I.mk (some (82, false)) (some 85) (Ef.pr (Pr.cm BinOp.neq)) [X.t 84, X.c (Value.int IntKind.i64 42)], I.mk (some (78, true)) (some 86) (Ef.pr Pr.pick) [X.t 82, X.c (Value.bool true), X.t 85], I.mk none (some 87) (Ef.pr Pr.pick) [X.t 78, X.t 86, X.c (Value.bool false)]]) 
  (IC.cond (X.t 87) 
  (IC.seq (IC.ops [I.mk none (some 2) (Ef.pr Pr.mv) [X.c (Value.bool false)]]) IC.ret) IC.skip)) 
  (IC.seq 
  (IC.seq (IC.ops [I.mk none (some 88) (Ef.pr Pr.mv) [X.t 3], I.mk none (some 89) (Ef.pr Pr.mv) [X.t 7], I.mk none (some 90) (Ef.pr Pr.mv) [X.t 5], I.mk none (some 91) (Ef.pr Pr.mv) [X.t 6], I.mk none (some 92) (Ef.call 28) [X.t 88, X.t 89, X.t 90, X.t 91], I.mk none (some 93) (Ef.pr (Pr.cm BinOp.neq)) [X.t 92, X.c (Value.int IntKind.i64 0)]]) 
  (IC.cond (X.t 93) 
  (IC.seq (IC.ops [I.mk none (some 2) (Ef.pr Pr.mv) [X.c (Value.bool false)]]) IC.ret) IC.skip)) 
  (IC.seq 
  (IC.seq (IC.ops [I.mk none (some 12) (Ef.pr Pr.mv) [X.c (Value.int IntKind.i64 0)]]) 
  (IC.block 0 
  (IC.loop 
  (IC.seq 
  (IC.seq (IC.ops [I.mk none (some 94) (Ef.pr Pr.mv) [X.t 12], I.mk none (some 95) (Ef.pr Pr.mv) [X.t 6], I.mk none (some 96) (Ef.pr Pr.lenS) [X.t 95], I.mk none (some 97) (Ef.pr (Pr.cm BinOp.lss)) [X.t 94, X.t 96]]) 
  (IC.cond (X.t 97) IC.skip (IC.exit 0))) 
  (IC.seq 
  (IC.block 1 (IC.ops [I.mk none (some 100) (Ef.pr Pr.mv) [X.t 8], I.mk none (some 101) (Ef.pr Pr.mv) [X.t 5], I.mk none (some 102) (Ef.pr Pr.mv) [X.t 12], I.mk none (some 103) (Ef.pr (Pr.ar BinOp.add)) [X.t 101, X.t 102], I.mk none (some 104) (Ef.pr Pr.mv) [X.t 6], I.mk none (some 105) (Ef.pr Pr.mv) [X.t 12], I.mk none (some 106) (Ef.pr (Pr.iaS 1)) [X.t 104, X.t 105], I.mk none (some 107) (Ef.pr (Pr.ld 1 false)) [X.t 106], I.mk none (some 108) (Ef.pr (Pr.iaS 1)) [X.t 100, X.t 103], I.mk none none (Ef.st 1) [X.t 108, X.t 107]])) (IC.ops [I.mk none (some 98) (Ef.pr Pr.mv) [X.t 12], I.mk none (some 99) (Ef.pr (Pr.ar BinOp.add)) [X.t 98, X.c (Value.int IntKind.i64 1)], I.mk none (some 12) (Ef.pr Pr.mv) [X.t 99]])))))) 
  (IC.seq (IC.ops [I.mk none (some 110) (Ef.pr Pr.mv) [X.t 3], I.mk none (some 111) (Ef.pr Pr.mv) [X.t 7], I.mk none (some 112) (Ef.call 25) [X.t 110, X.t 111], I.mk none (some 109) (Ef.pr Pr.mv) [X.t 112], I.mk none (some 113) (Ef.pr (Pr.ext 0)) [X.t 109], I.mk none (some 114) (Ef.pr (Pr.ext 1)) [X.t 109], I.mk none (some 13) (Ef.pr Pr.mv) [X.t 113], I.mk none (some 14) (Ef.pr Pr.mv) [X.t 114]]) 
  (IC.seq (IC.ops [I.mk none (some 116) (Ef.pr Pr.mv) [X.t 3], I.mk none (some 117) (Ef.pr Pr.mv) [X.t 7], I.mk none (some 118) (Ef.pr (Pr.ar BinOp.add)) [X.t 117, X.c (Value.int IntKind.i64 1)], I.mk none (some 119) (Ef.call 16) [X.t 118], I.mk none (some 120) (Ef.call 25) [X.t 116, X.t 119], I.mk none (some 115) (Ef.pr Pr.mv) [X.t 120], I.mk none (some 121) (Ef.pr (Pr.ext 0)) [X.t 115], I.mk none (some 122) (Ef.pr (Pr.ext 1)) [X.t 115], I.mk none (some 15) (Ef.pr Pr.mv) [X.t 121], I.mk none (some 16) (Ef.pr Pr.mv) [X.t 122]]) 
  (IC.seq 
  (IC.seq (IC.ops [I.mk none (some 123) (Ef.pr Pr.mv) [X.t 14], I.mk none (some 124) (Ef.pr (Pr.cm BinOp.neq)) [X.t 123, X.c (Value.int IntKind.i64 0)], I.mk none (some 125) (Ef.pr Pr.mv) [X.t 124], I.mk (some (125, false)) (some 126) (Ef.pr Pr.mv) [X.t 16], I.mk (some (125, false)) (some 127) (Ef.pr (Pr.cm BinOp.neq)) [X.t 126, X.c (Value.int IntKind.i64 0)], I.mk none (some 128) (Ef.pr Pr.pick) [X.t 125, X.c (Value.bool true), X.t 127], I.mk none (some 129) (Ef.pr Pr.mv) [X.t 128], I.mk (some (129, false)) (some 130) (Ef.pr Pr.mv) [X.t 13], I.mk (some (129, false)) (some 131) (Ef.pr Pr.mv) [X.t 8], I.mk (some (129, false)) (some 132) (Ef.call 26) [X.t 130, X.t 131], I.mk (some (129, false)) (some 133) (Ef.pr (Pr.un UnOp.not)) [X.t 132], I.mk none (some 134) (Ef.pr Pr.pick) [X.t 129, X.c (Value.bool true), X.t 133], I.mk none (some 135) (Ef.pr Pr.mv) [X.t 134], I.mk (some (135, false)) (some 136) (Ef.pr Pr.mv) [X.t 15], I.mk (some (135, false)) (some 137) (Ef.pr Pr.mv) [X.t 10], I.mk (some (135, false)) (some 138) (Ef.call 26) [X.t 136, X.t 137], I.mk (some (135, false)) (some 139) (Ef.pr (Pr.un UnOp.not)) [X.t 138], I.mk none (some 140) (Ef.pr Pr.pick) [X.t 135, X.c (Value.bool true), X.t 139], I.mk none (some 141) (Ef.pr Pr.mv) [X.t 140], I.mk (some (141, false)) (some 142) (Ef.pr Pr.mv) [X.t 3], I.mk (some (141, false)) (some 143) (Ef.call 23) [X.t 142], I.mk (some (141, false)) (some 144) (Ef.pr Pr.lenS) [X.t 143], I.mk (some (141, false)) (some 145) (Ef.pr (Pr.cm BinOp.neq)) [X.t 144, X.c (Value.int IntKind.i64 1)], I.mk none (some 146) (Ef.pr Pr.pick) [X.t 141, X.c (Value.bool true), X.t 145]]) 
  (IC.cond (X.t 146) 
  (IC.seq (IC.ops [I.mk none (some 2) (Ef.pr Pr.mv) [X.c (Value.bool false)]]) IC.ret) IC.skip)) 
  (IC.seq 
  (IC.seq (IC.ops [I.mk none (some 147) (Ef.pr (Pr.fa 1)) [X.t 4], I.mk none (some 148) (Ef.pr (Pr.ld 1 false)) [X.t 147], I.mk none (some 149) (Ef.pr (Pr.dv BinOp.rem)) [X.t 148, X.c (Value.int IntKind.u8 2)], I.mk none (some 150) (Ef.pr (Pr.cm BinOp.eql)) [X.t 149, X.c (Value.int IntKind.u8 1)]]) 
  (IC.cond (X.t 150) 
  (IC.seq (IC.ops [I.mk none (some 151) (Ef.pr Pr.mv) [X.t 3], I.mk none (some 152) (Ef.call 20) [X.t 151, X.c (Value.slice none 0 0)], I.mk none (some 153) (Ef.pr (Pr.cm BinOp.eql)) [X.t 152, X.c (Value.int IntKind.i64 0)], I.mk none (some 154) (Ef.pr Pr.mv) [X.t 153], I.mk (some (154, true)) (some 155) (Ef.pr Pr.mv) [X.t 3], I.mk (some (154, true)) (some 156) (Ef.pr Pr.mv) [X.t 7], I.mk (some (154, true)) (some 157) (Ef.pr Pr.mv) [X.t 8], I.mk (some (154, true)) (some 158) (Ef.call 29) [X.t 155, X.t 156, X.t 157], I.mk none (some 159) (Ef.pr Pr.pick) [X.t 154, X.t 158, X.c (Value.bool false)], I.mk none (some 2) (Ef.pr Pr.mv) [X.t 159]]) IC.ret) IC.skip)) 
  (IC.seq (IC.ops [I.mk none (some 161) (Ef.pr Pr.mv) [X.t 3], I.mk none (some 162) (Ef.pr Pr.mv) [X.t 7], I.mk none (some 163) (Ef.call 22) [X.t 161, X.t 162], I.mk none (some 160) (Ef.pr Pr.mv) [X.t 163], I.mk none (some 164) (Ef.pr (Pr.ext 0)) [X.t 160], I.mk none (some 165) (Ef.pr (Pr.ext 1)) [X.t 160], I.mk none (some 17) (Ef.pr Pr.mv) [X.t 164], I.mk none (some 18) (Ef.pr Pr.mv) [X.t 165]]) 
  (IC.seq 
  (IC.seq (IC.ops [I.mk none (some 166) (Ef.pr Pr.mv) [X.t 18], I.mk none (some 167) (Ef.pr (Pr.cm BinOp.neq)) [X.t 166, X.c (Value.int IntKind.i64 0)], I.mk none (some 168) (Ef.pr Pr.mv) [X.t 167], I.mk (some (168, false)) (some 169) (Ef.pr Pr.mv) [X.t 17], I.mk (some (168, false)) (some 170) (Ef.pr (Pr.fa 1)) [X.t 4], I.mk (some (168, false)) (some 171) (Ef.pr (Pr.ld 1 false)) [X.t 170], I.mk (some (168, false)) (some 172) (Ef.call 17) [X.t 171], I.mk (some (168, false)) (some 173) (Ef.call 26) [X.t 169, X.t 172], I.mk (some (168, false)) (some 174) (Ef.pr (Pr.un UnOp.not)) [X.t 173], I.mk none (some 175) (Ef.pr Pr.pick) [X.t 168, X.c (Value.bool true), X.t 174], I.mk none (some 176) (Ef.pr Pr.mv) [X.t 175], I.mk (some (176, false)) (some 177) (Ef.pr Pr.mv) [X.t 3], I.mk (some (176, false)) (some 178) (Ef.call 14) [X.t 177], I.mk (some (176, false)) (some 179) (Ef.pr (Pr.cm BinOp.neq)) [X.t 178, X.c (Value.int IntKind.i64 0)], I.mk none (some 180) (Ef.pr Pr.pick) [X.t 176, X.c (Value.bool true), X.t 179]]) 
  (IC.cond (X.t 180) 
  (IC.seq (IC.ops [I.mk none (some 2) (Ef.pr Pr.mv) [X.c (Value.bool false)]]) IC.ret) IC.skip)) 
  (IC.seq (IC.ops [I.mk none (some 181) (Ef.pr Pr.mv) [X.t 3], I.mk none (some 182) (Ef.pr Pr.mv) [X.t 7], I.mk none (some 183) (Ef.pr (Pr.fa 1)) [X.t 4], I.mk none (some 184) (Ef.pr (Pr.ld 1 false)) [X.t 183], I.mk none (some 185) (Ef.call 17) [X.t 184], I.mk none (some 186) (Ef.call 29) [X.t 181, X.t 182, X.t 185], I.mk none (some 2) (Ef.pr Pr.mv) [X.t 186]]) IC.ret))))))))))))))))))))

theorem k5 : Go.Proofs.Try.f5.body.bind (comp Go.Proofs.Try.prog 187 [1, 4] [10, 16]) = some c5 := by kernel_rfl

theorem r5 : cRVs Go.Proofs.Try.prog Go.Proofs.Try.f5.results.toList = some [RV.t 2] := by kernel_rfl

theorem e5 {args : List Value} {h : Hp} {Q : Value → Hp → Prop} (hl : Nat.ble args.length 187 = true) (hk : codeK PR none c5 (retK Q [RV.t 2]) (fun _ _ _ _ => False) (retK Q [RV.t 2]) (argsE 0 args) [] h) : Ok PR 5 args h Q :=
  Ok.of mixed Go.Proofs.Try.func5 rfl k5 r5 hl hk

end Go.Proofs.Ytpkleblggehghaa.V
