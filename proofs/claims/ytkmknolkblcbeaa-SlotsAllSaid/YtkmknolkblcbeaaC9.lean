/- The functions 9, 10, 58, 66, resolved. -/
import Derived.Test.YtkmknolkblcbeaaVP
namespace Go.Proofs.Ytkmknolkblcbeaa.V
set_option linter.unusedVariables false
set_option linter.unusedSimpArgs false
set_option linter.unusedSectionVars false
open Go
set_option maxRecDepth 100000

def c9 : IC := IC.seq (IC.ops [I.mk none (some 6) (Ef.pr Pr.mv) [X.c (Value.bool false)]]) 
  (IC.seq (IC.ops [I.mk none (some 21) (Ef.pr Pr.mv) [X.t 0], I.mk none (some 22) (Ef.call 56) [X.t 21], I.mk none (some 7) (Ef.pr Pr.mv) [X.t 22]]) 
  (IC.seq 
  (IC.seq (IC.ops [I.mk none (some 23) (Ef.pr Pr.mv) [X.t 7], I.mk none (some 24) (Ef.pr (Pr.eq false (EqT.one EqS.p))) [X.t 23, X.c (Value.pointer none)], I.mk none (some 25) (Ef.pr Pr.mv) [X.t 24], I.mk (some (25, false)) (some 26) (Ef.call 39) [], I.mk (some (25, false)) (some 27) (Ef.pr (Pr.un UnOp.not)) [X.t 26], I.mk none (some 28) (Ef.pr Pr.pick) [X.t 25, X.c (Value.bool true), X.t 27]]) 
  (IC.cond (X.t 28) 
  (IC.seq (IC.ops [I.mk none (some 6) (Ef.pr Pr.mv) [X.c (Value.bool false)]]) IC.ret) IC.skip)) 
  (IC.seq (IC.ops [I.mk none (some 29) (Ef.pr Pr.mv) [X.t 7], I.mk none (some 30) (Ef.call 57) [X.t 29, X.c (Value.int IntKind.i64 77)]]) 
  (IC.seq (IC.ops [I.mk none (some 31) (Ef.pr Pr.mv) [X.t 7], I.mk none (some 32) (Ef.pr Pr.mv) [X.t 1], I.mk none (some 33) (Ef.call 58) [X.t 31, X.t 32]]) 
  (IC.seq (IC.ops [I.mk none (some 8) (Ef.pr Pr.mv) [X.c (Value.slice none 0 0)]]) 
  (IC.seq (IC.ops [I.mk none (some 9) (Ef.pr Pr.mv) [X.c (Value.slice none 0 0)]]) 
  (IC.seq 
  (IC.seq (IC.ops [I.mk none (some 34) (Ef.pr Pr.mv) [X.t 7], I.mk none (some 35) (Ef.call 59) [X.t 34, X.c (Value.int IntKind.i64 0)], I.mk none (some 10) (Ef.pr Pr.mv) [X.t 35]]) 
  (IC.block 0 
  (IC.loop 
  (IC.seq 
  (IC.seq (IC.ops [I.mk none (some 36) (Ef.pr Pr.mv) [X.t 10], I.mk none (some 37) (Ef.pr (Pr.cm BinOp.geq)) [X.t 36, X.c (Value.int IntKind.i64 0)], I.mk none (some 38) (Ef.pr Pr.mv) [X.t 37], I.mk (some (38, true)) (some 39) (Ef.pr Pr.mv) [X.t 8], I.mk (some (38, true)) (some 40) (Ef.pr Pr.lenS) [X.t 39], I.mk (some (38, true)) (some 41) (Ef.pr (Pr.cm BinOp.leq)) [X.t 40, X.c (Value.int IntKind.i64 4096)], I.mk none (some 42) (Ef.pr Pr.pick) [X.t 38, X.t 41, X.c (Value.bool false)]]) 
  (IC.cond (X.t 42) IC.skip (IC.exit 0))) 
  (IC.seq 
  (IC.block 1 
  (IC.seq (IC.ops [I.mk none (some 48) (Ef.pr Pr.mv) [X.t 7], I.mk none (some 49) (Ef.pr Pr.mv) [X.t 10], I.mk none (some 50) (Ef.call 60) [X.t 48, X.t 49], I.mk none (some 47) (Ef.pr Pr.mv) [X.t 50], I.mk none (some 51) (Ef.pr (Pr.ext 0)) [X.t 47], I.mk none (some 52) (Ef.pr (Pr.ext 1)) [X.t 47], I.mk none (some 11) (Ef.pr Pr.mv) [X.t 51], I.mk none (some 12) (Ef.pr Pr.mv) [X.t 52]]) 
  (IC.seq 
  (IC.seq (IC.ops [I.mk none (some 53) (Ef.pr Pr.mv) [X.t 12], I.mk none (some 54) (Ef.pr (Pr.un UnOp.not)) [X.t 53]]) 
  (IC.cond (X.t 54) 
  (IC.seq (IC.ops [I.mk none (some 6) (Ef.pr Pr.mv) [X.c (Value.bool false)]]) IC.ret) IC.skip)) 
  (IC.seq (IC.ops [I.mk none (some 55) (Ef.pr Pr.mv) [X.t 8], I.mk none (some 56) (Ef.pr Pr.mv) [X.t 10], I.mk none (some 57) (Ef.bsl [Value.int IntKind.i64 0] 3 1 1 [0]) [X.t 56], I.mk none (some 58) (Ef.app [Value.int IntKind.i64 0] 3 8) [X.t 55, X.t 57], I.mk none (some 8) (Ef.pr Pr.mv) [X.t 58]]) (IC.ops [I.mk none (some 59) (Ef.pr Pr.mv) [X.t 9], I.mk none (some 60) (Ef.pr Pr.mv) [X.t 11], I.mk none (some 61) (Ef.bsl [Value.int IntKind.i64 0] 3 1 1 [0]) [X.t 60], I.mk none (some 62) (Ef.app [Value.int IntKind.i64 0] 3 8) [X.t 59, X.t 61], I.mk none (some 9) (Ef.pr Pr.mv) [X.t 62]]))))) (IC.ops [I.mk none (some 43) (Ef.pr Pr.mv) [X.t 7], I.mk none (some 44) (Ef.pr Pr.mv) [X.t 10], I.mk none (some 45) (Ef.pr (Pr.ar BinOp.add)) [X.t 44, X.c (Value.int IntKind.i64 1)], I.mk none (some 46) (Ef.call 59) [X.t 43, X.t 45], I.mk none (some 10) (Ef.pr Pr.mv) [X.t 46]])))))) 
  (IC.seq 
  (IC.seq (IC.ops [I.mk none (some 63) (Ef.pr Pr.mv) [X.t 8], I.mk none (some 64) (Ef.pr Pr.lenS) [X.t 63], I.mk none (some 65) (Ef.pr Pr.mv) [X.t 7], I.mk none (some 66) (Ef.call 61) [X.t 65], I.mk none (some 67) (Ef.pr (Pr.cm BinOp.neq)) [X.t 64, X.t 66]]) 
  (IC.cond (X.t 67) 
  (IC.seq (IC.ops [I.mk none (some 6) (Ef.pr Pr.mv) [X.c (Value.bool false)]]) IC.ret) IC.skip)) 
  (IC.seq (IC.ops [I.mk none (some 68) (Ef.pr Pr.mv) [X.t 7], I.mk none (some 69) (Ef.call 62) [X.t 68], I.mk none (some 13) (Ef.pr Pr.mv) [X.t 69]]) 
  (IC.seq (IC.ops [I.mk none (some 70) (Ef.pr Pr.mv) [X.t 7], I.mk none (some 71) (Ef.call 62) [X.t 70], I.mk none (some 14) (Ef.pr Pr.mv) [X.t 71]]) 
  (IC.seq 
  (IC.seq (IC.ops [I.mk none (some 72) (Ef.pr Pr.mv) [X.t 13], I.mk none (some 73) (Ef.pr (Pr.eq false (EqT.one EqS.p))) [X.t 72, X.c (Value.pointer none)], I.mk none (some 74) (Ef.pr Pr.mv) [X.t 73], I.mk (some (74, false)) (some 75) (Ef.pr Pr.mv) [X.t 14], I.mk (some (74, false)) (some 76) (Ef.pr (Pr.eq false (EqT.one EqS.p))) [X.t 75, X.c (Value.pointer none)], I.mk none (some 77) (Ef.pr Pr.pick) [X.t 74, X.c (Value.bool true), X.t 76], I.mk none (some 78) (Ef.pr Pr.mv) [X.t 77], I.mk (some (78, false)) (some 79) (Ef.pr Pr.mv) [X.t 13], I.mk (some (78, false)) (some 80) (Ef.call 63) [X.t 79], I.mk (some (78, false)) (some 81) (Ef.pr Pr.mv) [X.t 0], I.mk (some (78, false)) (some 82) (Ef.call 38) [X.t 81], I.mk (some (78, false)) (some 83) (Ef.pr (Pr.cm BinOp.neq)) [X.t 80, X.t 82], I.mk none (some 84) (Ef.pr Pr.pick) [X.t 78, X.c (Value.bool true), X.t 83]]) 
  (IC.cond (X.t 84) 
  (IC.seq (IC.ops [I.mk none (some 6) (Ef.pr Pr.mv) [X.c (Value.bool false)]]) IC.ret) IC.skip)) 
  (IC.seq (IC.ops [I.mk none (some 85) (Ef.pr Pr.mv) [X.t 7], I.mk none (some 86) (Ef.pr Pr.mv) [X.t 2], I.mk none (some 87) (Ef.call 58) [X.t 85, X.t 86]]) 
  (IC.seq (IC.ops [I.mk none (some 15) (Ef.pr Pr.mv) [X.c (Value.slice none 0 0)]]) 
  (IC.seq (IC.ops [I.mk none (some 16) (Ef.pr Pr.mv) [X.c (Value.slice none 0 0)]]) 
  (IC.seq 
  (IC.seq (IC.ops [I.mk none (some 88) (Ef.pr Pr.mv) [X.t 7], I.mk none (some 89) (Ef.call 59) [X.t 88, X.c (Value.int IntKind.i64 0)], I.mk none (some 17) (Ef.pr Pr.mv) [X.t 89]]) 
  (IC.block 2 
  (IC.loop 
  (IC.seq 
  (IC.seq (IC.ops [I.mk none (some 90) (Ef.pr Pr.mv) [X.t 17], I.mk none (some 91) (Ef.pr (Pr.cm BinOp.geq)) [X.t 90, X.c (Value.int IntKind.i64 0)], I.mk none (some 92) (Ef.pr Pr.mv) [X.t 91], I.mk (some (92, true)) (some 93) (Ef.pr Pr.mv) [X.t 15], I.mk (some (92, true)) (some 94) (Ef.pr Pr.lenS) [X.t 93], I.mk (some (92, true)) (some 95) (Ef.pr (Pr.cm BinOp.leq)) [X.t 94, X.c (Value.int IntKind.i64 4096)], I.mk none (some 96) (Ef.pr Pr.pick) [X.t 92, X.t 95, X.c (Value.bool false)]]) 
  (IC.cond (X.t 96) IC.skip (IC.exit 2))) 
  (IC.seq 
  (IC.block 3 
  (IC.seq (IC.ops [I.mk none (some 102) (Ef.pr Pr.mv) [X.t 7], I.mk none (some 103) (Ef.pr Pr.mv) [X.t 17], I.mk none (some 104) (Ef.call 60) [X.t 102, X.t 103], I.mk none (some 101) (Ef.pr Pr.mv) [X.t 104], I.mk none (some 105) (Ef.pr (Pr.ext 0)) [X.t 101], I.mk none (some 106) (Ef.pr (Pr.ext 1)) [X.t 101], I.mk none (some 18) (Ef.pr Pr.mv) [X.t 105], I.mk none (some 19) (Ef.pr Pr.mv) [X.t 106]]) 
  (IC.seq 
  (IC.seq (IC.ops [I.mk none (some 107) (Ef.pr Pr.mv) [X.t 19], I.mk none (some 108) (Ef.pr (Pr.un UnOp.not)) [X.t 107]]) 
  (IC.cond (X.t 108) 
  (IC.seq (IC.ops [I.mk none (some 6) (Ef.pr Pr.mv) [X.c (Value.bool false)]]) IC.ret) IC.skip)) 
  (IC.seq (IC.ops [I.mk none (some 109) (Ef.pr Pr.mv) [X.t 15], I.mk none (some 110) (Ef.pr Pr.mv) [X.t 17], I.mk none (some 111) (Ef.bsl [Value.int IntKind.i64 0] 3 1 1 [0]) [X.t 110], I.mk none (some 112) (Ef.app [Value.int IntKind.i64 0] 3 8) [X.t 109, X.t 111], I.mk none (some 15) (Ef.pr Pr.mv) [X.t 112]]) (IC.ops [I.mk none (some 113) (Ef.pr Pr.mv) [X.t 16], I.mk none (some 114) (Ef.pr Pr.mv) [X.t 18], I.mk none (some 115) (Ef.bsl [Value.int IntKind.i64 0] 3 1 1 [0]) [X.t 114], I.mk none (some 116) (Ef.app [Value.int IntKind.i64 0] 3 8) [X.t 113, X.t 115], I.mk none (some 16) (Ef.pr Pr.mv) [X.t 116]]))))) (IC.ops [I.mk none (some 97) (Ef.pr Pr.mv) [X.t 7], I.mk none (some 98) (Ef.pr Pr.mv) [X.t 17], I.mk none (some 99) (Ef.pr (Pr.ar BinOp.add)) [X.t 98, X.c (Value.int IntKind.i64 1)], I.mk none (some 100) (Ef.call 59) [X.t 97, X.t 99], I.mk none (some 17) (Ef.pr Pr.mv) [X.t 100]])))))) 
  (IC.seq 
  (IC.seq (IC.ops [I.mk none (some 20) (Ef.pr Pr.mv) [X.c (Value.int IntKind.i64 0)]]) 
  (IC.block 4 
  (IC.loop 
  (IC.seq 
  (IC.seq (IC.ops [I.mk none (some 117) (Ef.pr Pr.mv) [X.t 20], I.mk none (some 118) (Ef.pr Pr.mv) [X.t 8], I.mk none (some 119) (Ef.pr Pr.lenS) [X.t 118], I.mk none (some 120) (Ef.pr (Pr.cm BinOp.lss)) [X.t 117, X.t 119]]) 
  (IC.cond (X.t 120) IC.skip (IC.exit 4))) 
  (IC.seq 
  (IC.block 5 (IC.plan (Plan.q (I.mk none (some 123) (Ef.pr Pr.mv) [X.t 14]) (Plan.q (I.mk none (some 124) (Ef.pr Pr.mv) [X.t 8]) (Plan.q (I.mk none (some 125) (Ef.pr Pr.mv) [X.t 20]) (Plan.q (I.mk none (some 126) (Ef.pr (Pr.iaS 1)) [X.t 124, X.t 125]) (Plan.q (I.mk none (some 127) (Ef.pr (Pr.ld 1 false)) [X.t 126]) (Plan.q (I.mk none (some 128) (Ef.pr Pr.mv) [X.t 9]) (Plan.q (I.mk none (some 129) (Ef.pr Pr.mv) [X.t 20]) (Plan.q (I.mk none (some 130) (Ef.pr (Pr.iaS 1)) [X.t 128, X.t 129]) (Plan.q (I.mk none (some 131) (Ef.pr (Pr.ld 1 false)) [X.t 130]) (Plan.q (I.mk none (some 132) (Ef.pr (Pr.ar BinOp.add)) [X.t 131, X.c (Value.int IntKind.i64 1)]) (Plan.br (PlanL.cons false false (I.mk none (some 133) (Ef.call 64) [X.t 123, X.t 127, X.t 132]) Plan.done PlanL.nil)))))))))))))) (IC.ops [I.mk none (some 121) (Ef.pr Pr.mv) [X.t 20], I.mk none (some 122) (Ef.pr (Pr.ar BinOp.add)) [X.t 121, X.c (Value.int IntKind.i64 1)], I.mk none (some 20) (Ef.pr Pr.mv) [X.t 122]])))))) 
  (IC.seq (IC.ops [I.mk none (some 134) (Ef.pr Pr.mv) [X.t 14], I.mk none (some 135) (Ef.pr Pr.mv) [X.t 2], I.mk none (some 136) (Ef.call 58) [X.t 134, X.t 135]]) 
  (IC.seq (IC.ops [I.mk none (some 137) (Ef.pr Pr.mv) [X.t 14], I.mk none (some 138) (Ef.call 65) [X.t 137]]) 
  (IC.seq (IC.ops [I.mk none (some 139) (Ef.pr Pr.mv) [X.t 13], I.mk none (some 140) (Ef.pr Pr.mv) [X.t 8], I.mk none (some 141) (Ef.pr Pr.mv) [X.t 9], I.mk none (some 142) (Ef.call 66) [X.t 139, X.t 140, X.t 141], I.mk none (some 143) (Ef.pr Pr.mv) [X.t 142], I.mk (some (143, true)) (some 144) (Ef.pr Pr.mv) [X.t 7], I.mk (some (143, true)) (some 145) (Ef.pr Pr.mv) [X.t 15], I.mk (some (143, true)) (some 146) (Ef.pr Pr.mv) [X.t 16], I.mk (some (143, true)) (some 147) (Ef.call 66) [X.t 144, X.t 145, X.t 146], I.mk none (some 148) (Ef.pr Pr.pick) [X.t 143, X.t 147, X.c (Value.bool false)], I.mk none (some 149) (Ef.pr Pr.mv) [X.t 148], I.mk (some (149, true)) (some 150) (Ef.pr Pr.mv) [X.t 14], I.mk (some (149, true)) (some 151) (Ef.call 61) [X.t 150], I.mk (some (149, true)) (some 152) (Ef.pr (Pr.cm BinOp.eql)) [X.t 151, X.c (Value.int IntKind.i64 0)], I.mk none (some 153) (Ef.pr Pr.pick) [X.t 149, X.t 152, X.c (Value.bool false)], I.mk none (some 6) (Ef.pr Pr.mv) [X.t 153]]) IC.ret)))))))))))))))))))

theorem k9 : Go.Proofs.Try.f9.body.bind (comp Go.Proofs.Try.prog 154 [] []) = some c9 := by kernel_rfl

theorem r9 : cRVs Go.Proofs.Try.prog Go.Proofs.Try.f9.results.toList = some [RV.t 6] := by kernel_rfl

theorem e9 {args : List Value} {h : Hp} {Q : Value → Hp → Prop} (hl : Nat.ble args.length 154 = true) (hk : codeK PR none c9 (retK Q [RV.t 6]) (fun _ _ _ _ => False) (retK Q [RV.t 6]) (argsE 0 args) [] h) : Ok PR 9 args h Q :=
  Ok.of mixed Go.Proofs.Try.func9 rfl k9 r9 hl hk

def c10 : IC := IC.seq (IC.ops [I.mk none (some 8) (Ef.pr Pr.mv) [X.c (Value.bool false)]]) 
  (IC.seq (IC.ops [I.mk none (some 20) (Ef.pr Pr.mv) [X.t 0], I.mk none (some 21) (Ef.call 56) [X.t 20], I.mk none (some 9) (Ef.pr Pr.mv) [X.t 21]]) 
  (IC.seq (IC.ops [I.mk none (some 22) (Ef.pr Pr.mv) [X.t 0], I.mk none (some 23) (Ef.call 38) [X.t 22], I.mk none (some 10) (Ef.pr Pr.mv) [X.t 23]]) 
  (IC.seq 
  (IC.seq (IC.ops [I.mk none (some 24) (Ef.pr Pr.mv) [X.t 9], I.mk none (some 25) (Ef.pr (Pr.eq false (EqT.one EqS.p))) [X.t 24, X.c (Value.pointer none)], I.mk none (some 26) (Ef.pr Pr.mv) [X.t 25], I.mk (some (26, false)) (some 27) (Ef.call 39) [], I.mk (some (26, false)) (some 28) (Ef.pr (Pr.un UnOp.not)) [X.t 27], I.mk none (some 29) (Ef.pr Pr.pick) [X.t 26, X.c (Value.bool true), X.t 28]]) 
  (IC.cond (X.t 29) 
  (IC.seq (IC.ops [I.mk none (some 8) (Ef.pr Pr.mv) [X.c (Value.bool false)]]) IC.ret) IC.skip)) 
  (IC.seq (IC.ops [I.mk none (some 30) (Ef.pr Pr.mv) [X.t 9], I.mk none (some 31) (Ef.pr Pr.mv) [X.t 1], I.mk none (some 32) (Ef.pr Pr.mv) [X.t 2], I.mk none (some 33) (Ef.call 67) [X.t 30, X.t 31, X.t 32], I.mk none (some 11) (Ef.pr Pr.mv) [X.t 33]]) 
  (IC.seq 
  (IC.seq (IC.ops [I.mk none (some 34) (Ef.pr Pr.mv) [X.t 1], I.mk none (some 35) (Ef.pr (Pr.cm BinOp.lss)) [X.t 34, X.c (Value.int IntKind.i64 0)], I.mk none (some 36) (Ef.pr Pr.mv) [X.t 35], I.mk (some (36, false)) (some 37) (Ef.pr Pr.mv) [X.t 1], I.mk (some (36, false)) (some 38) (Ef.pr Pr.mv) [X.t 10], I.mk (some (36, false)) (some 39) (Ef.pr (Pr.cm BinOp.geq)) [X.t 37, X.t 38], I.mk none (some 40) (Ef.pr Pr.pick) [X.t 36, X.c (Value.bool true), X.t 39]]) 
  (IC.cond (X.t 40) 
  (IC.seq (IC.ops [I.mk none (some 41) (Ef.pr Pr.mv) [X.t 11], I.mk none (some 42) (Ef.pr (Pr.cm BinOp.eql)) [X.t 41, X.c (Value.int IntKind.i64 30)], I.mk none (some 43) (Ef.pr Pr.mv) [X.t 42], I.mk (some (43, true)) (some 44) (Ef.pr Pr.mv) [X.t 9], I.mk (some (43, true)) (some 45) (Ef.call 61) [X.t 44], I.mk (some (43, true)) (some 46) (Ef.pr (Pr.cm BinOp.eql)) [X.t 45, X.c (Value.int IntKind.i64 0)], I.mk none (some 47) (Ef.pr Pr.pick) [X.t 43, X.t 46, X.c (Value.bool false)], I.mk none (some 8) (Ef.pr Pr.mv) [X.t 47]]) IC.ret) IC.skip)) 
  (IC.seq 
  (IC.seq (IC.ops [I.mk none (some 48) (Ef.pr Pr.mv) [X.t 11], I.mk none (some 49) (Ef.pr (Pr.cm BinOp.neq)) [X.t 48, X.c (Value.int IntKind.i64 0)]]) 
  (IC.cond (X.t 49) 
  (IC.seq (IC.ops [I.mk none (some 8) (Ef.pr Pr.mv) [X.c (Value.bool false)]]) IC.ret) IC.skip)) 
  (IC.seq 
  (IC.seq (IC.ops [I.mk none (some 12) (Ef.pr Pr.mv) [X.c (Value.int IntKind.i64 0)]]) 
  (IC.block 0 
  (IC.loop 
  (IC.seq 
  (IC.seq (IC.ops [I.mk none (some 50) (Ef.pr Pr.mv) [X.t 12], I.mk none (some 51) (Ef.pr Pr.mv) [X.t 3], I.mk none (some 52) (Ef.pr Pr.lenS) [X.t 51], I.mk none (some 53) (Ef.pr (Pr.cm BinOp.lss)) [X.t 50, X.t 52]]) 
  (IC.cond (X.t 53) IC.skip (IC.exit 0))) 
  (IC.seq 
  (IC.block 1 
  (IC.seq (IC.ops [I.mk none (some 56) (Ef.pr Pr.mv) [X.t 3], I.mk none (some 57) (Ef.pr Pr.mv) [X.t 12], I.mk none (some 58) (Ef.pr (Pr.iaS 4)) [X.t 56, X.t 57], I.mk none (some 59) (Ef.pr (Pr.ld 4 true)) [X.t 58], I.mk none (some 13) (Ef.al [Value.int IntKind.i64 0, Value.int IntKind.i64 0, Value.int IntKind.i64 0, Value.int IntKind.i64 0]) [], I.mk none none (Ef.st 4) [X.t 13, X.t 59]]) 
  (IC.cut 
  (IC.seq (IC.ops [I.mk none (some 60) (Ef.pr (Pr.fa 0)) [X.t 13], I.mk none (some 61) (Ef.pr (Pr.ld 1 false)) [X.t 60]]) 
  (IC.block 2 
  (IC.seq (IC.ops [I.mk none (some 63) (Ef.pr (Pr.cm BinOp.eql)) [X.t 61, X.c (Value.int IntKind.i64 1)], I.mk none (some 62) (Ef.pr Pr.mv) [X.t 63]]) 
  (IC.cond (X.t 62) 
  (IC.seq (IC.ops [I.mk none (some 65) (Ef.pr Pr.mv) [X.t 9], I.mk none (some 66) (Ef.pr (Pr.fa 3)) [X.t 13], I.mk none (some 67) (Ef.pr (Pr.ld 1 false)) [X.t 66], I.mk none (some 68) (Ef.call 57) [X.t 65, X.t 67], I.mk none (some 64) (Ef.pr Pr.mv) [X.t 68], I.mk none (some 69) (Ef.pr (Pr.ext 0)) [X.t 64], I.mk none (some 70) (Ef.pr (Pr.ext 1)) [X.t 64], I.mk none (some 14) (Ef.pr Pr.mv) [X.t 69], I.mk none (some 15) (Ef.pr Pr.mv) [X.t 70]]) 
  (IC.seq (IC.ops [I.mk none (some 71) (Ef.pr Pr.mv) [X.t 14], I.mk none (some 72) (Ef.pr Pr.mv) [X.t 1], I.mk none (some 73) (Ef.pr (Pr.cm BinOp.eql)) [X.t 71, X.t 72]]) 
  (IC.cond (X.t 73) 
  (IC.seq (IC.ops [I.mk none (some 8) (Ef.pr Pr.mv) [X.c (Value.bool false)]]) IC.ret) IC.skip))) 
  (IC.seq (IC.ops [I.mk none (some 75) (Ef.pr (Pr.cm BinOp.eql)) [X.t 61, X.c (Value.int IntKind.i64 2)], I.mk none (some 74) (Ef.pr Pr.mv) [X.t 75]]) 
  (IC.cond (X.t 74) (IC.ops [I.mk none (some 76) (Ef.pr Pr.mv) [X.t 9], I.mk none (some 77) (Ef.pr (Pr.fa 2)) [X.t 13], I.mk none (some 78) (Ef.pr (Pr.ld 1 false)) [X.t 77], I.mk none (some 79) (Ef.pr (Pr.fa 3)) [X.t 13], I.mk none (some 80) (Ef.pr (Pr.ld 1 false)) [X.t 79], I.mk none (some 81) (Ef.call 67) [X.t 76, X.t 78, X.t 80]]) 
  (IC.seq (IC.ops [I.mk none (some 83) (Ef.pr (Pr.cm BinOp.eql)) [X.t 61, X.c (Value.int IntKind.i64 4)], I.mk none (some 82) (Ef.pr Pr.mv) [X.t 83]]) 
  (IC.cond (X.t 82) 
  (IC.seq (IC.ops [I.mk none (some 84) (Ef.pr (Pr.fa 2)) [X.t 13], I.mk none (some 85) (Ef.pr (Pr.ld 1 false)) [X.t 84], I.mk none (some 86) (Ef.pr Pr.mv) [X.t 1], I.mk none (some 87) (Ef.pr (Pr.cm BinOp.neq)) [X.t 85, X.t 86]]) 
  (IC.cond (X.t 87) (IC.ops [I.mk none (some 88) (Ef.pr Pr.mv) [X.t 9], I.mk none (some 89) (Ef.pr (Pr.fa 2)) [X.t 13], I.mk none (some 90) (Ef.pr (Pr.ld 1 false)) [X.t 89], I.mk none (some 91) (Ef.pr (Pr.fa 3)) [X.t 13], I.mk none (some 92) (Ef.pr (Pr.ld 1 false)) [X.t 91], I.mk none (some 93) (Ef.call 64) [X.t 88, X.t 90, X.t 92]]) IC.skip)) 
  (IC.seq (IC.ops [I.mk none (some 95) (Ef.pr (Pr.cm BinOp.eql)) [X.t 61, X.c (Value.int IntKind.i64 5)], I.mk none (some 94) (Ef.pr Pr.mv) [X.t 95]]) 
  (IC.cond (X.t 94) 
  (IC.seq (IC.ops [I.mk none (some 96) (Ef.pr (Pr.fa 2)) [X.t 13], I.mk none (some 97) (Ef.pr (Pr.ld 1 false)) [X.t 96], I.mk none (some 98) (Ef.pr Pr.mv) [X.t 1], I.mk none (some 99) (Ef.pr (Pr.cm BinOp.neq)) [X.t 97, X.t 98]]) 
  (IC.cond (X.t 99) (IC.ops [I.mk none (some 100) (Ef.pr Pr.mv) [X.t 9], I.mk none (some 101) (Ef.pr (Pr.fa 2)) [X.t 13], I.mk none (some 102) (Ef.pr (Pr.ld 1 false)) [X.t 101], I.mk none (some 103) (Ef.call 68) [X.t 100, X.t 102]]) IC.skip)) 
  (IC.seq (IC.ops [I.mk none (some 105) (Ef.pr (Pr.cm BinOp.eql)) [X.t 61, X.c (Value.int IntKind.i64 9)], I.mk none (some 104) (Ef.pr Pr.mv) [X.t 105]]) 
  (IC.cond (X.t 104) 
  (IC.seq (IC.ops [I.mk none (some 106) (Ef.pr Pr.mv) [X.t 9], I.mk none (some 107) (Ef.call 62) [X.t 106], I.mk none (some 16) (Ef.pr Pr.mv) [X.t 107]]) 
  (IC.seq 
  (IC.seq (IC.ops [I.mk none (some 108) (Ef.pr Pr.mv) [X.t 16], I.mk none (some 109) (Ef.pr (Pr.eq false (EqT.one EqS.p))) [X.t 108, X.c (Value.pointer none)]]) 
  (IC.cond (X.t 109) 
  (IC.seq (IC.ops [I.mk none (some 8) (Ef.pr Pr.mv) [X.c (Value.bool false)]]) IC.ret) IC.skip)) (IC.ops [I.mk none (some 110) (Ef.pr Pr.mv) [X.t 16], I.mk none (some 111) (Ef.pr Pr.mv) [X.t 1], I.mk none (some 112) (Ef.call 68) [X.t 110, X.t 111]]))) IC.skip)))))))))))) 
  (IC.seq (IC.ops [I.mk none (some 114) (Ef.pr Pr.mv) [X.t 9], I.mk none (some 115) (Ef.pr Pr.mv) [X.t 1], I.mk none (some 116) (Ef.call 60) [X.t 114, X.t 115], I.mk none (some 113) (Ef.pr Pr.mv) [X.t 116], I.mk none (some 117) (Ef.pr (Pr.ext 0)) [X.t 113], I.mk none (some 118) (Ef.pr (Pr.ext 1)) [X.t 113], I.mk none (some 17) (Ef.pr Pr.mv) [X.t 117], I.mk none (some 18) (Ef.pr Pr.mv) [X.t 118]]) 
  (IC.seq (IC.ops [I.mk none (some 119) (Ef.pr Pr.mv) [X.t 9], I.mk none (some 120) (Ef.pr Pr.mv) [X.t 2], I.mk none (some 121) (Ef.call 69) [X.t 119, X.t 120], I.mk none (some 19) (Ef.pr Pr.mv) [X.t 121]]) 
  (IC.seq (IC.ops [I.mk none (some 122) (Ef.pr Pr.mv) [X.t 18], I.mk none (some 123) (Ef.pr (Pr.un UnOp.not)) [X.t 122], I.mk none (some 124) (Ef.pr Pr.mv) [X.t 123], I.mk (some (124, false)) (some 125) (Ef.pr Pr.mv) [X.t 17], I.mk (some (124, false)) (some 126) (Ef.pr Pr.mv) [X.t 2], I.mk (some (124, false)) (some 127) (Ef.pr (Pr.cm BinOp.neq)) [X.t 125, X.t 126], I.mk none (some 128) (Ef.pr Pr.pick) [X.t 124, X.c (Value.bool true), X.t 127], I.mk none (some 129) (Ef.pr Pr.mv) [X.t 128], I.mk (some (129, false)) (some 130) (Ef.pr Pr.mv) [X.t 9], I.mk (some (129, false)) (some 131) (Ef.pr Pr.mv) [X.t 1], I.mk (some (129, false)) (some 132) (Ef.call 59) [X.t 130, X.t 131], I.mk (some (129, false)) (some 133) (Ef.pr Pr.mv) [X.t 1], I.mk (some (129, false)) (some 134) (Ef.pr (Pr.cm BinOp.neq)) [X.t 132, X.t 133], I.mk none (some 135) (Ef.pr Pr.pick) [X.t 129, X.c (Value.bool true), X.t 134], I.mk none (some 136) (Ef.pr Pr.mv) [X.t 135], I.mk (some (136, false)) (some 137) (Ef.pr Pr.mv) [X.t 19], I.mk (some (136, false)) (some 138) (Ef.pr (Pr.cm BinOp.lss)) [X.t 137, X.c (Value.int IntKind.i64 0)], I.mk none (some 139) (Ef.pr Pr.pick) [X.t 136, X.c (Value.bool true), X.t 138], I.mk none (some 140) (Ef.pr Pr.mv) [X.t 139], I.mk (some (140, false)) (some 141) (Ef.pr Pr.mv) [X.t 19], I.mk (some (140, false)) (some 142) (Ef.pr Pr.mv) [X.t 1], I.mk (some (140, false)) (some 143) (Ef.pr (Pr.cm BinOp.gtr)) [X.t 141, X.t 142], I.mk none (some 144) (Ef.pr Pr.pick) [X.t 140, X.c (Value.bool true), X.t 143]]) 
  (IC.cond (X.t 144) 
  (IC.seq (IC.ops [I.mk none (some 8) (Ef.pr Pr.mv) [X.c (Value.bool false)]]) IC.ret) IC.skip))))))) (IC.ops [I.mk none (some 54) (Ef.pr Pr.mv) [X.t 12], I.mk none (some 55) (Ef.pr (Pr.ar BinOp.add)) [X.t 54, X.c (Value.int IntKind.i64 1)], I.mk none (some 12) (Ef.pr Pr.mv) [X.t 55]])))))) 
  (IC.seq (IC.ops [I.mk none (some 8) (Ef.pr Pr.mv) [X.c (Value.bool true)]]) IC.ret))))))))

theorem k10 : Go.Proofs.Try.f10.body.bind (comp Go.Proofs.Try.prog 145 [13] [32]) = some c10 := by kernel_rfl

theorem r10 : cRVs Go.Proofs.Try.prog Go.Proofs.Try.f10.results.toList = some [RV.t 8] := by kernel_rfl

theorem e10 {args : List Value} {h : Hp} {Q : Value → Hp → Prop} (hl : Nat.ble args.length 145 = true) (hk : codeK PR none c10 (retK Q [RV.t 8]) (fun _ _ _ _ => False) (retK Q [RV.t 8]) (argsE 0 args) [] h) : Ok PR 10 args h Q :=
  Ok.of mixed Go.Proofs.Try.func10 rfl k10 r10 hl hk

def c58 : IC := IC.seq (IC.ops [I.mk none (some 4) (Ef.pr Pr.mv) [X.c (Value.int IntKind.i64 0)]]) 
  (IC.block 0 
  (IC.loop 
  (IC.seq 
  (IC.seq (IC.ops [I.mk none (some 6) (Ef.pr Pr.mv) [X.t 4], I.mk none (some 7) (Ef.pr Pr.mv) [X.t 1], I.mk none (some 8) (Ef.pr Pr.lenS) [X.t 7], I.mk none (some 9) (Ef.pr (Pr.cm BinOp.lss)) [X.t 6, X.t 8]]) 
  (IC.cond (X.t 9) IC.skip (IC.exit 0))) 
  (IC.seq 
  (IC.block 1 
  (IC.seq (IC.ops [I.mk none (some 12) (Ef.pr Pr.mv) [X.t 1], I.mk none (some 13) (Ef.pr Pr.mv) [X.t 4], I.mk none (some 14) (Ef.pr (Pr.iaS 4)) [X.t 12, X.t 13], I.mk none (some 15) (Ef.pr (Pr.ld 4 true)) [X.t 14], I.mk none (some 5) (Ef.al [Value.int IntKind.i64 0, Value.int IntKind.i64 0, Value.int IntKind.i64 0, Value.int IntKind.i64 0]) [], I.mk none none (Ef.st 4) [X.t 5, X.t 15]]) 
  (IC.seq (IC.ops [I.mk none (some 16) (Ef.pr (Pr.fa 0)) [X.t 5], I.mk none (some 17) (Ef.pr (Pr.ld 1 false)) [X.t 16]]) 
  (IC.block 2 
  (IC.seq (IC.ops [I.mk none (some 19) (Ef.pr (Pr.cm BinOp.eql)) [X.t 17, X.c (Value.int IntKind.i64 1)], I.mk none (some 18) (Ef.pr Pr.mv) [X.t 19]]) 
  (IC.cond (X.t 18) (IC.ops [I.mk none (some 20) (Ef.pr Pr.mv) [X.t 0], I.mk none (some 21) (Ef.pr (Pr.fa 3)) [X.t 5], I.mk none (some 22) (Ef.pr (Pr.ld 1 false)) [X.t 21], I.mk none (some 23) (Ef.call 57) [X.t 20, X.t 22]]) 
  (IC.seq (IC.ops [I.mk none (some 25) (Ef.pr (Pr.cm BinOp.eql)) [X.t 17, X.c (Value.int IntKind.i64 2)], I.mk none (some 24) (Ef.pr Pr.mv) [X.t 25]]) 
  (IC.cond (X.t 24) (IC.ops [I.mk none (some 26) (Ef.pr Pr.mv) [X.t 0], I.mk none (some 27) (Ef.pr (Pr.fa 2)) [X.t 5], I.mk none (some 28) (Ef.pr (Pr.ld 1 false)) [X.t 27], I.mk none (some 29) (Ef.pr (Pr.fa 3)) [X.t 5], I.mk none (some 30) (Ef.pr (Pr.ld 1 false)) [X.t 29], I.mk none (some 31) (Ef.call 67) [X.t 26, X.t 28, X.t 30]]) 
  (IC.seq (IC.ops [I.mk none (some 33) (Ef.pr (Pr.cm BinOp.eql)) [X.t 17, X.c (Value.int IntKind.i64 4)], I.mk none (some 32) (Ef.pr Pr.mv) [X.t 33]]) 
  (IC.cond (X.t 32) (IC.ops [I.mk none (some 34) (Ef.pr Pr.mv) [X.t 0], I.mk none (some 35) (Ef.pr (Pr.fa 2)) [X.t 5], I.mk none (some 36) (Ef.pr (Pr.ld 1 false)) [X.t 35], I.mk none (some 37) (Ef.pr (Pr.fa 3)) [X.t 5], I.mk none (some 38) (Ef.pr (Pr.ld 1 false)) [X.t 37], I.mk none (some 39) (Ef.call 64) [X.t 34, X.t 36, X.t 38]]) 
  (IC.seq (IC.ops [I.mk none (some 41) (Ef.pr (Pr.cm BinOp.eql)) [X.t 17, X.c (Value.int IntKind.i64 5)], I.mk none (some 40) (Ef.pr Pr.mv) [X.t 41]]) 
  (IC.cond (X.t 40) (IC.ops [I.mk none (some 42) (Ef.pr Pr.mv) [X.t 0], I.mk none (some 43) (Ef.pr (Pr.fa 2)) [X.t 5], I.mk none (some 44) (Ef.pr (Pr.ld 1 false)) [X.t 43], I.mk none (some 45) (Ef.call 68) [X.t 42, X.t 44]]) 
  (IC.seq (IC.ops [I.mk none (some 47) (Ef.pr (Pr.cm BinOp.eql)) [X.t 17, X.c (Value.int IntKind.i64 7)], I.mk none (some 46) (Ef.pr Pr.mv) [X.t 47]]) 
  (IC.cond (X.t 46) (IC.ops [I.mk none (some 48) (Ef.pr Pr.mv) [X.t 0], I.mk none (some 49) (Ef.call 65) [X.t 48]]) IC.skip)))))))))))))) (IC.ops [I.mk none (some 10) (Ef.pr Pr.mv) [X.t 4], I.mk none (some 11) (Ef.pr (Pr.ar BinOp.add)) [X.t 10, X.c (Value.int IntKind.i64 1)], I.mk none (some 4) (Ef.pr Pr.mv) [X.t 11]])))))

theorem k58 : Go.Proofs.Try.f58.body.bind (comp Go.Proofs.Try.prog 50 [5] []) = some c58 := by kernel_rfl

theorem r58 : cRVs Go.Proofs.Try.prog Go.Proofs.Try.f58.results.toList = some [] := by kernel_rfl

theorem e58 {args : List Value} {h : Hp} {Q : Value → Hp → Prop} (hl : Nat.ble args.length 50 = true) (hk : codeK PR none c58 (retK Q []) (fun _ _ _ _ => False) (retK Q []) (argsE 0 args) [] h) : Ok PR 58 args h Q :=
  Ok.of mixed Go.Proofs.Try.func58 rfl k58 r58 hl hk

def c66 : IC := IC.seq (IC.ops [I.mk none (some 6) (Ef.pr Pr.mv) [X.c (Value.bool false)]]) 
  (IC.seq 
  (IC.seq (IC.ops [I.mk none (some 10) (Ef.pr Pr.mv) [X.t 0], I.mk none (some 11) (Ef.call 61) [X.t 10], I.mk none (some 12) (Ef.pr Pr.mv) [X.t 1], I.mk none (some 13) (Ef.pr Pr.lenS) [X.t 12], I.mk none (some 14) (Ef.pr (Pr.cm BinOp.neq)) [X.t 11, X.t 13]]) 
  (IC.cond (X.t 14) 
  (IC.seq (IC.ops [I.mk none (some 6) (Ef.pr Pr.mv) [X.c (Value.bool false)]]) IC.ret) IC.skip)) 
  (IC.seq 
  (IC.seq (IC.ops [I.mk none (some 7) (Ef.pr Pr.mv) [X.c (Value.int IntKind.i64 0)]]) 
  (IC.block 0 
  (IC.loop 
  (IC.seq 
  (IC.seq (IC.ops [I.mk none (some 15) (Ef.pr Pr.mv) [X.t 7], I.mk none (some 16) (Ef.pr Pr.mv) [X.t 1], I.mk none (some 17) (Ef.pr Pr.lenS) [X.t 16], I.mk none (some 18) (Ef.pr (Pr.cm BinOp.lss)) [X.t 15, X.t 17]]) 
  (IC.cond (X.t 18) IC.skip (IC.exit 0))) 
  (IC.seq 
  (IC.block 1 
  (IC.seq (IC.ops [I.mk none (some 22) (Ef.pr Pr.mv) [X.t 0], I.mk none (some 23) (Ef.pr Pr.mv) [X.t 1], I.mk none (some 24) (Ef.pr Pr.mv) [X.t 7], I.mk none (some 25) (Ef.pr (Pr.iaS 1)) [X.t 23, X.t 24], I.mk none (some 26) (Ef.pr (Pr.ld 1 false)) [X.t 25], I.mk none (some 27) (Ef.call 60) [X.t 22, X.t 26], I.mk none (some 21) (Ef.pr Pr.mv) [X.t 27], I.mk none (some 28) (Ef.pr (Pr.ext 0)) [X.t 21], I.mk none (some 29) (Ef.pr (Pr.ext 1)) [X.t 21], I.mk none (some 8) (Ef.pr Pr.mv) [X.t 28], I.mk none (some 9) (Ef.pr Pr.mv) [X.t 29]]) 
  (IC.seq (IC.ops [I.mk none (some 30) (Ef.pr Pr.mv) [X.t 9], I.mk none (some 31) (Ef.pr (Pr.un UnOp.not)) [X.t 30], I.mk none (some 32) (Ef.pr Pr.mv) [X.t 31], I.mk (some (32, false)) (some 33) (Ef.pr Pr.mv) [X.t 8], I.mk (some (32, false)) (some 34) (Ef.pr Pr.mv) [X.t 2], I.mk (some (32, false)) (some 35) (Ef.pr Pr.mv) [X.t 7], I.mk (some (32, false)) (some 36) (Ef.pr (Pr.iaS 1)) [X.t 34, X.t 35], I.mk (some (32, false)) (some 37) (Ef.pr (Pr.ld 1 false)) [X.t 36], I.mk (some (32, false)) (some 38) (Ef.pr (Pr.cm BinOp.neq)) [X.t 33, X.t 37], I.mk none (some 39) (Ef.pr Pr.pick) [X.t 32, X.c (Value.bool true), X.t 38]]) 
  (IC.cond (X.t 39) 
  (IC.seq (IC.ops [I.mk none (some 6) (Ef.pr Pr.mv) [X.c (Value.bool false)]]) IC.ret) IC.skip)))) (IC.ops [I.mk none (some 19) (Ef.pr Pr.mv) [X.t 7], I.mk none (some 20) (Ef.pr (Pr.ar BinOp.add)) [X.t 19, X.c (Value.int IntKind.i64 1)], I.mk none (some 7) (Ef.pr Pr.mv) [X.t 20]])))))) 
  (IC.seq (IC.ops [I.mk none (some 6) (Ef.pr Pr.mv) [X.c (Value.bool true)]]) IC.ret)))

theorem k66 : Go.Proofs.Try.f66.body.bind (comp Go.Proofs.Try.prog 40 [] []) = some c66 := by kernel_rfl

theorem r66 : cRVs Go.Proofs.Try.prog Go.Proofs.Try.f66.results.toList = some [RV.t 6] := by kernel_rfl

theorem e66 {args : List Value} {h : Hp} {Q : Value → Hp → Prop} (hl : Nat.ble args.length 40 = true) (hk : codeK PR none c66 (retK Q [RV.t 6]) (fun _ _ _ _ => False) (retK Q [RV.t 6]) (argsE 0 args) [] h) : Ok PR 66 args h Q :=
  Ok.of mixed Go.Proofs.Try.func66 rfl k66 r66 hl hk

end Go.Proofs.Ytkmknolkblcbeaa.V
