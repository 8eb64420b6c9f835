/- The functions 6, resolved. -/
import Derived.Test.YtpkleblggehghaaVP
namespace Go.Proofs.Ytpkleblggehghaa.V
set_option linter.unusedVariables false
set_option linter.unusedSimpArgs false
set_option linter.unusedSectionVars false
open Go
set_option maxRecDepth 100000

def c6 : IC := IC.seq (IC.ops [I.mk none (some 6) (Ef.pr Pr.mv) [X.c (Value.bool false)]]) 
  (IC.seq (IC.ops [I.mk none (some 23) (Ef.pr Pr.mv) [X.t 0], I.mk none (some 24) (Ef.call 11) [X.t 23], I.mk none (some 7) (Ef.pr Pr.mv) [X.t 24]]) 
  (IC.seq 
  (IC.seq (IC.ops [I.mk none (some 25) (Ef.pr Pr.mv) [X.t 7], I.mk none (some 26) (Ef.pr (Pr.eq false (EqT.one EqS.p))) [X.t 25, X.c (Value.pointer none)]]) 
  (IC.cond (X.t 26) 
  (IC.seq (IC.ops [I.mk none (some 6) (Ef.pr Pr.mv) [X.c (Value.bool false)]]) IC.ret) IC.skip)) 
  (IC.seq (IC.ops [I.mk none (some 27) (Ef.pr Pr.mv) [X.t 7], I.mk none (some 28) (Ef.pr Pr.mv) [X.t 1], I.mk none (some 29) (Ef.call 30) [X.t 27, X.t 28], I.mk none (some 8) (Ef.pr Pr.mv) [X.t 29]]) 
  (IC.seq (IC.ops [I.mk none (some 30) (Ef.pr Pr.mv) [X.t 1], I.mk none (some 31) (Ef.call 31) [X.t 30], I.mk none (some 9) (Ef.pr Pr.mv) [X.t 31]]) 
  (IC.seq (IC.ops [I.mk none (some 32) (Ef.pr Pr.mv) [X.t 7], I.mk none (some 33) (Ef.pr Pr.mv) [X.t 9], I.mk none (some 34) (Ef.call 30) [X.t 32, X.t 33], I.mk none (some 10) (Ef.pr Pr.mv) [X.t 34]]) 
  (IC.seq 
  (IC.seq (IC.ops [I.mk none (some 35) (Ef.pr Pr.mv) [X.t 7], I.mk none (some 36) (Ef.pr Pr.mv) [X.t 1], I.mk none (some 37) (Ef.call 21) [X.t 35, X.t 36], I.mk none (some 38) (Ef.pr (Pr.un UnOp.not)) [X.t 37]]) 
  (IC.cond (X.t 38) 
  (IC.seq (IC.ops [I.mk none (some 6) (Ef.pr Pr.mv) [X.c (Value.bool false)]]) IC.ret) IC.skip)) 
  (IC.seq (IC.ops [I.mk none (some 39) (Ef.pr Pr.mv) [X.t 7], I.mk none (some 40) (Ef.pr Pr.mv) [X.t 2], I.mk none (some 41) (Ef.call 24) [X.t 40], I.mk none (some 42) (Ef.call 20) [X.t 39, X.t 41], I.mk none (some 11) (Ef.pr Pr.mv) [X.t 42]]) 
  (IC.seq 
  (IC.seq (IC.ops [I.mk none (some 43) (Ef.pr Pr.mv) [X.t 7], I.mk none (some 44) (Ef.call 23) [X.t 43], I.mk none (some 45) (Ef.pr Pr.lenS) [X.t 44], I.mk none (some 46) (Ef.pr (Pr.cm BinOp.neq)) [X.t 45, X.c (Value.int IntKind.i64 0)], I.mk none (some 47) (Ef.pr Pr.mv) [X.t 46], I.mk (some (47, false)) (some 48) (Ef.pr Pr.mv) [X.t 7], I.mk (some (47, false)) (some 49) (Ef.call 18) [X.t 48], I.mk none (some 50) (Ef.pr Pr.pick) [X.t 47, X.c (Value.bool true), X.t 49]]) 
  (IC.cond (X.t 50) 
  (IC.seq (IC.ops [I.mk none (some 6) (Ef.pr Pr.mv) [X.c (Value.bool false)]]) IC.ret) IC.skip)) 
  (IC.seq 
  (IC.seq (IC.ops [I.mk none (some 12) (Ef.pr Pr.mv) [X.c (Value.int IntKind.i64 0)]]) 
  (IC.block 0 
  (IC.loop 
  (IC.seq 
  (IC.seq (IC.ops [I.mk none (some 51) (Ef.pr Pr.mv) [X.t 12], I.mk none (some 52) (Ef.pr Pr.mv) [X.t 1], I.mk none (some 53) (Ef.pr Pr.lenS) [X.t 52], I.mk none (some 54) (Ef.pr (Pr.cm BinOp.lss)) [X.t 51, X.t 53]]) 
  (IC.cond (X.t 54) IC.skip (IC.exit 0))) 
  (IC.seq 
  (IC.block 1 
  (IC.cut 
  (IC.seq (IC.ops [I.mk none (some 57) (Ef.pr Pr.mv) [X.t 12], I.mk none (some 58) (Ef.pr Pr.mv) [X.t 2], I.mk none (some 59) (Ef.pr Pr.lenS) [X.t 58], I.mk none (some 60) (Ef.pr (Pr.cm BinOp.lss)) [X.t 57, X.t 59], I.mk none (some 61) (Ef.pr Pr.mv) [X.t 60], I.mk (some (61, true)) (some 62) (Ef.pr Pr.mv) [X.t 2], I.mk (some (61, true)) (some 63) (Ef.pr Pr.mv) [X.t 12], I.mk (some (61, true)) (some 64) (Ef.pr (Pr.iaS 1)) [X.t 62, X.t 63], I.mk (some (61, true)) (some 65) (Ef.pr (Pr.ld 1 false)) [X.t 64], I.mk none (some 66) (Ef.pr Pr.pick) [X.t 61, X.t 65, X.c (Value.bool false)]]) 
  (IC.cond (X.t 66) (IC.ops [I.mk none (some 67) (Ef.pr Pr.mv) [X.t 11], I.mk none (some 68) (Ef.pr (Pr.ar BinOp.sub)) [X.t 67, X.c (Value.int IntKind.i64 1)], I.mk none (some 11) (Ef.pr Pr.mv) [X.t 68]]) IC.skip)) 
  (IC.seq (IC.ops [I.mk none (some 69) (Ef.pr Pr.mv) [X.t 8], I.mk none (some 70) (Ef.pr Pr.mv) [X.t 12], I.mk none (some 71) (Ef.pr (Pr.iaS 1)) [X.t 69, X.t 70], I.mk none (some 72) (Ef.pr (Pr.ld 1 false)) [X.t 71], I.mk none (some 13) (Ef.pr Pr.mv) [X.t 72]]) 
  (IC.seq (IC.ops [I.mk none (some 73) (Ef.pr Pr.mv) [X.t 1], I.mk none (some 74) (Ef.pr Pr.mv) [X.t 2], I.mk none (some 75) (Ef.pr Pr.mv) [X.t 12], I.mk none (some 76) (Ef.call 32) [X.t 73, X.t 74, X.t 75], I.mk none (some 14) (Ef.pr Pr.mv) [X.t 76]]) 
  (IC.cut 
  (IC.seq (IC.ops [I.mk none (some 77) (Ef.pr Pr.mv) [X.t 14], I.mk none (some 78) (Ef.pr (Pr.cm BinOp.geq)) [X.t 77, X.c (Value.int IntKind.i64 0)]]) 
  (IC.cond (X.t 78) (IC.ops [I.mk none (some 79) (Ef.pr Pr.mv) [X.t 1], I.mk none (some 80) (Ef.pr Pr.mv) [X.t 14], I.mk none (some 81) (Ef.pr (Pr.iaS 2)) [X.t 79, X.t 80], I.mk none (some 82) (Ef.pr (Pr.fa 1)) [X.t 81], I.mk none (some 83) (Ef.pr (Pr.ld 1 false)) [X.t 82], I.mk none (some 84) (Ef.call 17) [X.t 83], I.mk none (some 13) (Ef.pr Pr.mv) [X.t 84]]) IC.skip)) 
  (IC.seq (IC.ops [I.mk none (some 86) (Ef.pr Pr.mv) [X.t 7], I.mk none (some 87) (Ef.pr Pr.mv) [X.t 1], I.mk none (some 88) (Ef.pr Pr.mv) [X.t 12], I.mk none (some 89) (Ef.pr (Pr.iaS 2)) [X.t 87, X.t 88], I.mk none (some 90) (Ef.pr (Pr.fa 0)) [X.t 89], I.mk none (some 91) (Ef.pr (Pr.ld 1 false)) [X.t 90], I.mk none (some 92) (Ef.call 16) [X.t 91], I.mk none (some 93) (Ef.call 25) [X.t 86, X.t 92], I.mk none (some 85) (Ef.pr Pr.mv) [X.t 93], I.mk none (some 94) (Ef.pr (Pr.ext 0)) [X.t 85], I.mk none (some 95) (Ef.pr (Pr.ext 1)) [X.t 85], I.mk none (some 15) (Ef.pr Pr.mv) [X.t 94], I.mk none (some 16) (Ef.pr Pr.mv) [X.t 95]]) 
  (IC.seq (IC.ops [I.mk none (some 97) (Ef.pr Pr.mv) [X.t 7], I.mk none (some 98) (Ef.pr Pr.mv) [X.t 1], I.mk none (some 99) (Ef.pr Pr.mv) [X.t 12], I.mk none (some 100) (Ef.pr (Pr.iaS 2)) [X.t 98, X.t 99], I.mk none (some 101) (Ef.pr (Pr.fa 0)) [X.t 100], I.mk none (some 102) (Ef.pr (Pr.ld 1 false)) [X.t 101], I.mk none (some 103) (Ef.call 16) [X.t 102], I.mk none (some 104) (Ef.call 22) [X.t 97, X.t 103], I.mk none (some 96) (Ef.pr Pr.mv) [X.t 104], I.mk none (some 105) (Ef.pr (Pr.ext 0)) [X.t 96], I.mk none (some 106) (Ef.pr (Pr.ext 1)) [X.t 96], I.mk none (some 17) (Ef.pr Pr.mv) [X.t 105], I.mk none (some 18) (Ef.pr Pr.mv) [X.t 106]]) 
  (IC.seq (IC.ops [I.mk none (some 107) (Ef.pr Pr.mv) [X.t 16], I.mk none (some 108) (Ef.pr (Pr.cm BinOp.neq)) [X.t 107, X.c (Value.int IntKind.i64 0)], I.mk none (some 109) (Ef.pr Pr.mv) [X.t 108], I.mk (some (109, false)) (some 110) (Ef.pr Pr.mv) [X.t 18], I.mk (some (109, false)) (some 111) (Ef.pr (Pr.cm BinOp.neq)) [X.t 110, X.c (Value.int IntKind.i64 0)], I.mk none (some 112) (Ef.pr Pr.pick) [X.t 109, X.c (Value.bool true), X.t 111], I.mk none (some 113) (Ef.pr Pr.mv) [X.t 112], I.mk (some (113, false)) (some 114) (Ef.pr Pr.mv) [X.t 15], I.mk (some (113, false)) (some 115) (Ef.pr Pr.lenS) [X.t 114], I.mk (some (113, false)) (some 116) (Ef.pr (Pr.cm BinOp.neq)) [X.t 115, X.c (Value.int IntKind.i64 128)], I.mk none (some 117) (Ef.pr Pr.pick) [X.t 113, X.c (Value.bool true), X.t 116], I.mk none (some 118) (Ef.pr Pr.mv) [X.t 117], I.mk (some (118, false)) (some 119) (Ef.pr Pr.mv) [X.t 15], I.mk (some (118, false)) (some 120) (Ef.pr Pr.mv) [X.t 13], I.mk (some (118, false)) (some 121) (Ef.call 26) [X.t 119, X.t 120], I.mk (some (118, false)) (some 122) (Ef.pr (Pr.un UnOp.not)) [X.t 121], I.mk none (some 123) (Ef.pr Pr.pick) [X.t 118, X.c (Value.bool true), X.t 122], I.mk none (some 124) (Ef.pr Pr.mv) [X.t 123], I.mk (some (124, false)) (some 125) (Ef.pr Pr.mv) [X.t 17], I.mk (some (124, false)) (some 126) (Ef.pr Pr.mv) [X.t 13], I.mk (some (124, false)) (some 127) (Ef.call 26) [X.t 125, X.t 126], I.mk (some (124, false)) (some 128) (Ef.pr (Pr.un UnOp.not)) [X.t 127], I.mk none (some 129) (Ef.pr Pr.pick) [X.t 124, X.c (Value.bool true), X.t 128]]) 
  (IC.cond (X.t 129) 
  (IC.seq (IC.ops [I.mk none (some 6) (Ef.pr Pr.mv) [X.c (Value.bool false)]]) IC.ret) IC.skip))))))))) (IC.ops [I.mk none (some 55) (Ef.pr Pr.mv) [X.t 12], I.mk none (some 56) (Ef.pr (Pr.ar BinOp.add)) [X.t 55, X.c (Value.int IntKind.i64 1)], I.mk none (some 12) (Ef.pr Pr.mv) [X.t 56]])))))) 
  (IC.seq 
  (IC.seq (IC.ops [I.mk none (some 19) (Ef.pr Pr.mv) [X.c (Value.int IntKind.i64 0)]]) 
  (IC.block 2 
  (IC.loop 
  (IC.seq 
  (IC.seq (IC.ops [I.mk none (some 130) (Ef.pr Pr.mv) [X.t 19], I.mk none (some 131) (Ef.pr Pr.mv) [X.t 1], I.mk none (some 132) (Ef.pr Pr.lenS) [X.t 131], I.mk none (some 133) (Ef.pr (Pr.cm BinOp.lss)) [X.t 130, X.t 132]]) 
  (IC.cond (X.t 133) IC.skip (IC.exit 2))) 
  (IC.seq 
  (IC.block 3 
  (IC.seq (IC.ops [I.mk none (some 136) (Ef.pr Pr.mv) [X.t 9], I.mk none (some 137) (Ef.pr Pr.mv) [X.t 19], I.mk none (some 138) (Ef.pr (Pr.iaS 2)) [X.t 136, X.t 137], I.mk none (some 139) (Ef.pr (Pr.fa 0)) [X.t 138], I.mk none (some 140) (Ef.pr (Pr.ld 1 false)) [X.t 139], I.mk none (some 141) (Ef.call 16) [X.t 140], I.mk none (some 20) (Ef.pr Pr.mv) [X.t 141]]) 
  (IC.seq (IC.ops [I.mk none (some 143) (Ef.pr Pr.mv) [X.t 7], I.mk none (some 144) (Ef.pr Pr.mv) [X.t 20], I.mk none (some 145) (Ef.call 25) [X.t 143, X.t 144], I.mk none (some 142) (Ef.pr Pr.mv) [X.t 145], I.mk none (some 146) (Ef.pr (Pr.ext 0)) [X.t 142], I.mk none (some 147) (Ef.pr (Pr.ext 1)) [X.t 142], I.mk none (some 21) (Ef.pr Pr.mv) [X.t 146], I.mk none (some 22) (Ef.pr Pr.mv) [X.t 147]]) 
  (IC.seq (IC.ops [I.mk none (some 148) (Ef.pr Pr.mv) [X.t 22], I.mk none (some 149) (Ef.pr (Pr.cm BinOp.neq)) [X.t 148, X.c (Value.int IntKind.i64 0)], I.mk none (some 150) (Ef.pr Pr.mv) [X.t 149], I.mk (some (150, false)) (some 151) (Ef.pr Pr.mv) [X.t 1], I.mk (some (150, false)) (some 152) (Ef.pr Pr.mv) [X.t 20], I.mk (some (150, false)) (some 153) (Ef.call 33) [X.t 151, X.t 152], I.mk (some (150, false)) (some 154) (Ef.pr (Pr.un UnOp.not)) [X.t 153], I.mk (some (150, false)) (some 155) (Ef.pr Pr.mv) [X.t 154], I.mk (some (155, true)) (some 156) (Ef.pr Pr.mv) [X.t 21], I.mk (some (155, true)) (some 157) (Ef.pr Pr.mv) [X.t 10], I.mk (some (155, true)) (some 158) (Ef.pr Pr.mv) [X.t 19], I.mk (some (155, true)) (some 159) (Ef.pr (Pr.iaS 1)) [X.t 157, X.t 158], I.mk (some (155, true)) (some 160) (Ef.pr (Pr.ld 1 false)) [X.t 159], I.mk (some (155, true)) (some 161) (Ef.call 26) [X.t 156, X.t 160], I.mk (some (155, true)) (some 162) (Ef.pr (Pr.un UnOp.not)) [X.t 161], I.mk (some (150, false)) (some 163) (Ef.pr Pr.pick) [X.t 155, X.t 162, X.c (Value.bool false)], I.mk none (some 164) (Ef.pr Pr.pick) [X.t 150, X.c (Value.bool true), X.t 163]]) 
  (IC.cond (X.t 164) 
  (IC.seq (IC.ops [I.mk none (some 6) (Ef.pr Pr.mv) [X.c (Value.bool false)]]) IC.ret) IC.skip))))) (IC.ops [I.mk none (some 134) (Ef.pr Pr.mv) [X.t 19], I.mk none (some 135) (Ef.pr (Pr.ar BinOp.add)) [X.t 134, X.c (Value.int IntKind.i64 1)], I.mk none (some 19) (Ef.pr Pr.mv) [X.t 135]])))))) 
  (IC.seq (IC.ops [I.mk none (some 165) (Ef.pr Pr.mv) [X.t 11], I.mk none (some 166) (Ef.pr (Pr.cm BinOp.eql)) [X.t 165, X.c (Value.int IntKind.i64 0)], I.mk none (some 6) (Ef.pr Pr.mv) [X.t 166]]) IC.ret)))))))))))

theorem k6 : Go.Proofs.Try.f6.body.bind (comp Go.Proofs.Try.prog 167 [] [17, 21]) = some c6 := by kernel_rfl

theorem r6 : cRVs Go.Proofs.Try.prog Go.Proofs.Try.f6.results.toList = some [RV.t 6] := by kernel_rfl

theorem e6 {args : List Value} {h : Hp} {Q : Value → Hp → Prop} (hl : Nat.ble args.length 167 = true) (hk : codeK PR none c6 (retK Q [RV.t 6]) (fun _ _ _ _ => False) (retK Q [RV.t 6]) (argsE 0 args) [] h) : Ok PR 6 args h Q :=
  Ok.of mixed Go.Proofs.Try.func6 rfl k6 r6 hl hk

end Go.Proofs.Ytpkleblggehghaa.V
