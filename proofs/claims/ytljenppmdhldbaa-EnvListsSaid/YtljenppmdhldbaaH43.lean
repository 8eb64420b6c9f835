/- The functions 12, resolved. -/
import Derived.Test.YtljenppmdhldbaaVP
namespace Go.Proofs.Ytljenppmdhldbaa.V
set_option linter.unusedVariables false
set_option linter.unusedSimpArgs false
set_option linter.unusedSectionVars false
open Go
set_option maxRecDepth 100000

def c12 : IC := IC.seq (IC.ops [I.mk none (some 2) (Ef.pr Pr.mv) [X.c (Value.bool false)]]) 
  (IC.seq (IC.ops [I.mk none (some 17) (Ef.call 13) [], I.mk none (some 16) (Ef.pr Pr.mv) [X.t 17], I.mk none (some 18) (Ef.pr (Pr.ext 0)) [X.t 16], I.mk none (some 19) (Ef.pr (Pr.ext 1)) [X.t 16], I.mk none (some 3) (Ef.pr Pr.mv) [X.t 18], I.mk none (some 4) (Ef.pr Pr.mv) [X.t 19]]) 
  (IC.seq 
  (IC.seq (IC.ops [I.mk none (some 20) (Ef.pr Pr.mv) [X.t 3], I.mk none (some 21) (Ef.pr (Pr.eq false (EqT.one EqS.p))) [X.t 20, X.c (Value.pointer none)]]) 
  (IC.cond (X.t 21) 
  (IC.seq (IC.ops [I.mk none (some 2) (Ef.pr Pr.mv) [X.c (Value.bool false)]]) IC.ret) IC.skip)) 
  (IC.seq 
  (IC.seq (IC.ops [I.mk none (some 5) (Ef.pr Pr.mv) [X.c (Value.int IntKind.i64 0)]]) 
  (IC.block 0 
  (IC.loop 
  (IC.seq 
  (IC.seq (IC.ops [I.mk none (some 22) (Ef.pr Pr.mv) [X.t 5], I.mk none (some 23) (Ef.pr Pr.mv) [X.t 0], I.mk none (some 24) (Ef.pr Pr.lenS) [X.t 23], I.mk none (some 25) (Ef.pr (Pr.cm BinOp.leq)) [X.t 22, X.t 24]]) 
  (IC.cond (X.t 25) IC.skip (IC.exit 0))) 
  (IC.seq 
  (IC.block 1 
  (IC.seq (IC.ops [I.mk none (some 28) (Ef.pr Pr.mv) [X.t 3], I.mk none (some 29) (Ef.call 38) [X.t 28], I.mk none (some 6) (Ef.pr Pr.mv) [X.t 29]]) 
  (IC.seq (IC.ops [I.mk none (some 31) (Ef.pr Pr.mv) [X.t 3], I.mk none (some 32) (Ef.call 27) [X.t 31, X.c (Value.int IntKind.i64 0)], I.mk none (some 30) (Ef.pr Pr.mv) [X.t 32], I.mk none (some 33) (Ef.pr (Pr.ext 0)) [X.t 30], I.mk none (some 34) (Ef.pr (Pr.ext 1)) [X.t 30], I.mk none (some 7) (Ef.pr Pr.mv) [X.t 33], I.mk none (some 8) (Ef.pr Pr.mv) [X.t 34]]) 
  (IC.seq 
  (IC.seq (IC.ops [I.mk none (some 35) (Ef.pr Pr.mv) [X.t 8], I.mk none (some 36) (Ef.pr (Pr.cm BinOp.neq)) [X.t 35, X.c (Value.int IntKind.i64 0)], I.mk none (some 37) (Ef.pr Pr.mv) [X.t 36], I.mk (some (37, false)) (some 38) (Ef.pr Pr.mv) [X.t 7], I.mk (some (37, false)) (some 39) (Ef.pr Pr.lenS) [X.t 38], I.mk (some (37, false)) (some 40) (Ef.pr Pr.mv) [X.t 6], I.mk (some (37, false)) (some 41) (Ef.pr Pr.lenS) [X.t 40], I.mk (some (37, false)) (some 42) (Ef.pr (Pr.cm BinOp.neq)) [X.t 39, X.t 41], I.mk none (some 43) (Ef.pr Pr.pick) [X.t 37, X.c (Value.bool true), X.t 42]]) 
  (IC.cond (X.t 43) 
  (IC.seq (IC.ops [I.mk none (some 2) (Ef.pr Pr.mv) [X.c (Value.bool false)]]) IC.ret) IC.skip)) 
  (IC.seq (IC.ops [I.mk none (some 9) (Ef.pr Pr.mv) [X.c (Value.int IntKind.i64 0)]]) 
  (IC.seq 
  (IC.seq (IC.ops [I.mk none (some 10) (Ef.pr Pr.mv) [X.c (Value.int IntKind.i64 0)]]) 
  (IC.block 2 
  (IC.loop 
  (IC.seq 
  (IC.seq (IC.ops [I.mk none (some 44) (Ef.pr Pr.mv) [X.t 10], I.mk none (some 45) (Ef.pr (Pr.cm BinOp.lss)) [X.t 44, X.c (Value.int IntKind.i64 16)]]) 
  (IC.cond (X.t 45) IC.skip (IC.exit 2))) 
  (IC.seq 
  (IC.block 3 
  (IC.seq 
  (IC.seq (IC.ops [I.mk none (some 48) (Ef.pr Pr.mv) [X.t 4], I.mk none (some 49) (Ef.pr Pr.mv) [X.t 10], I.mk none (some 50) (Ef.pr Pr.nilc) [X.t 48], I.mk none (some 51) (Ef.pr (Pr.fa 0)) [X.t 50], I.mk none (some 52) (Ef.pr (Pr.iaA 16 1)) [X.t 51, X.t 49], I.mk none (some 53) (Ef.pr (Pr.ld 1 false)) [X.t 52], I.mk none (some 54) (Ef.pr (Pr.un UnOp.not)) [X.t 53]]) 
  (IC.cond (X.t 54) 
  (IC.seq (IC.ops [I.mk none (some 56) (Ef.pr Pr.mv) [X.t 3], I.mk none (some 57) (Ef.pr Pr.mv) [X.t 10], I.mk none (some 58) (Ef.call 19) [X.t 56, X.t 57], I.mk none (some 55) (Ef.pr Pr.mv) [X.t 58], I.mk none (some 59) (Ef.pr (Pr.ext 0)) [X.t 55], I.mk none (some 60) (Ef.pr (Pr.ext 1)) [X.t 55], I.mk none (some 11) (Ef.al [Value.int IntKind.i64 0, Value.int IntKind.i64 0, Value.int IntKind.i64 0, Value.int IntKind.i64 0, Value.int IntKind.i64 0, Value.bool false, Value.int IntKind.u32 0, Value.int IntKind.u32 0, Value.int IntKind.u32 0, Value.int IntKind.u32 0, Value.int IntKind.u32 0, Value.int IntKind.u32 0, Value.int IntKind.u32 0, Value.int IntKind.u32 0, Value.int IntKind.u32 0, Value.int IntKind.i64 0, Value.int IntKind.i64 0, Value.int IntKind.i64 0, Value.int IntKind.i64 0, Value.int IntKind.i64 0, Value.int IntKind.i64 0]) [], I.mk none none (Ef.st 21) [X.t 11, X.t 59], I.mk none (some 12) (Ef.pr Pr.mv) [X.t 60]]) 
  (IC.seq 
  (IC.seq (IC.ops [I.mk none (some 61) (Ef.pr Pr.mv) [X.t 12], I.mk none (some 62) (Ef.pr (Pr.cm BinOp.neq)) [X.t 61, X.c (Value.int IntKind.i64 90)], I.mk none (some 63) (Ef.pr Pr.mv) [X.t 62], I.mk (some (63, false)) (some 64) (Ef.pr Pr.mv) [X.t 3], I.mk (some (63, false)) (some 65) (Ef.pr Pr.mv) [X.t 10], I.mk (some (63, false)) (some 66) (Ef.call 17) [X.t 64, X.t 65], I.mk none (some 67) (Ef.pr Pr.pick) [X.t 63, X.c (Value.bool true), X.t 66], I.mk none (some 68) (Ef.pr Pr.mv) [X.t 67], I.mk (some (68, false)) (some 69) (Ef.pr Pr.mv) [X.t 3], I.mk (some (68, false)) (some 70) (Ef.pr Pr.mv) [X.t 10], I.mk (some (68, false)) (some 71) (Ef.call 35) [X.t 69, X.c (Value.int IntKind.i64 0), X.t 70], I.mk none (some 72) (Ef.pr Pr.pick) [X.t 68, X.c (Value.bool true), X.t 71]]) 
  (IC.cond (X.t 72) 
  (IC.seq (IC.ops [I.mk none (some 2) (Ef.pr Pr.mv) [X.c (Value.bool false)]]) IC.ret) IC.skip)) (IC.exit 3))) IC.skip)) 
  (IC.seq (IC.ops [I.mk none (some 74) (Ef.pr Pr.mv) [X.t 3], I.mk none (some 75) (Ef.pr Pr.mv) [X.t 10], I.mk none (some 76) (Ef.call 19) [X.t 74, X.t 75], I.mk none (some 73) (Ef.pr Pr.mv) [X.t 76], I.mk none (some 77) (Ef.pr (Pr.ext 0)) [X.t 73], I.mk none (some 78) (Ef.pr (Pr.ext 1)) [X.t 73], I.mk none (some 13) (Ef.al [Value.int IntKind.i64 0, Value.int IntKind.i64 0, Value.int IntKind.i64 0, Value.int IntKind.i64 0, Value.int IntKind.i64 0, Value.bool false, Value.int IntKind.u32 0, Value.int IntKind.u32 0, Value.int IntKind.u32 0, Value.int IntKind.u32 0, Value.int IntKind.u32 0, Value.int IntKind.u32 0, Value.int IntKind.u32 0, Value.int IntKind.u32 0, Value.int IntKind.u32 0, Value.int IntKind.i64 0, Value.int IntKind.i64 0, Value.int IntKind.i64 0, Value.int IntKind.i64 0, Value.int IntKind.i64 0, Value.int IntKind.i64 0]) [], I.mk none none (Ef.st 21) [X.t 13, X.t 77], I.mk none (some 14) (Ef.pr Pr.mv) [X.t 78]]) 
  (IC.seq 
  (IC.seq (IC.ops [I.mk none (some 79) (Ef.pr Pr.mv) [X.t 9], I.mk none (some 80) (Ef.pr Pr.mv) [X.t 6], I.mk none (some 81) (Ef.pr Pr.lenS) [X.t 80], I.mk none (some 82) (Ef.pr (Pr.cm BinOp.geq)) [X.t 79, X.t 81], I.mk none (some 83) (Ef.pr Pr.mv) [X.t 82], I.mk (some (83, false)) (some 84) (Ef.pr Pr.mv) [X.t 6], I.mk (some (83, false)) (some 85) (Ef.pr Pr.mv) [X.t 9], I.mk (some (83, false)) (some 86) (Ef.pr (Pr.iaS 1)) [X.t 84, X.t 85], I.mk (some (83, false)) (some 87) (Ef.pr (Pr.ld 1 false)) [X.t 86], I.mk (some (83, false)) (some 88) (Ef.pr Pr.mv) [X.t 10], I.mk (some (83, false)) (some 89) (Ef.pr (Pr.cm BinOp.neq)) [X.t 87, X.t 88], I.mk none (some 90) (Ef.pr Pr.pick) [X.t 83, X.c (Value.bool true), X.t 89], I.mk none (some 91) (Ef.pr Pr.mv) [X.t 90], I.mk (some (91, false)) (some 92) (Ef.pr Pr.mv) [X.t 7], I.mk (some (91, false)) (some 93) (Ef.pr Pr.mv) [X.t 10], I.mk (some (91, false)) (some 94) (Ef.call 43) [X.t 92, X.t 93], I.mk (some (91, false)) (some 95) (Ef.pr (Pr.cm BinOp.neq)) [X.t 94, X.c (Value.int IntKind.i64 1)], I.mk none (some 96) (Ef.pr Pr.pick) [X.t 91, X.c (Value.bool true), X.t 95], I.mk none (some 97) (Ef.pr Pr.mv) [X.t 96], I.mk (some (97, false)) (some 98) (Ef.pr Pr.mv) [X.t 3], I.mk (some (97, false)) (some 99) (Ef.pr Pr.mv) [X.t 10], I.mk (some (97, false)) (some 100) (Ef.call 45) [X.t 98, X.t 99], I.mk (some (97, false)) (some 101) (Ef.pr (Pr.un UnOp.not)) [X.t 100], I.mk none (some 102) (Ef.pr Pr.pick) [X.t 97, X.c (Value.bool true), X.t 101], I.mk none (some 103) (Ef.pr Pr.mv) [X.t 102], I.mk (some (103, false)) (some 104) (Ef.pr Pr.mv) [X.t 3], I.mk (some (103, false)) (some 105) (Ef.pr (Pr.fa 0)) [X.t 13], I.mk (some (103, false)) (some 106) (Ef.pr (Pr.ld 1 false)) [X.t 105], I.mk (some (103, false)) (some 107) (Ef.call 54) [X.t 104, X.t 106], I.mk (some (103, false)) (some 108) (Ef.pr Pr.mv) [X.t 10], I.mk (some (103, false)) (some 109) (Ef.pr (Pr.cm BinOp.neq)) [X.t 107, X.t 108], I.mk none (some 110) (Ef.pr Pr.pick) [X.t 103, X.c (Value.bool true), X.t 109]]) 
  (IC.cond (X.t 110) 
  (IC.seq (IC.ops [I.mk none (some 2) (Ef.pr Pr.mv) [X.c (Value.bool false)]]) IC.ret) IC.skip)) (IC.ops [I.mk none (some 111) (Ef.pr Pr.mv) [X.t 9], I.mk none (some 112) (Ef.pr (Pr.ar BinOp.add)) [X.t 111, X.c (Value.int IntKind.i64 1)], I.mk none (some 9) (Ef.pr Pr.mv) [X.t 112]]))))) (IC.ops [I.mk none (some 46) (Ef.pr Pr.mv) [X.t 10], I.mk none (some 47) (Ef.pr (Pr.ar BinOp.add)) [X.t 46, X.c (Value.int IntKind.i64 1)], I.mk none (some 10) (Ef.pr Pr.mv) [X.t 47]])))))) 
  (IC.seq 
  (IC.seq (IC.ops [I.mk none (some 113) (Ef.pr Pr.mv) [X.t 9], I.mk none (some 114) (Ef.pr Pr.mv) [X.t 6], I.mk none (some 115) (Ef.pr Pr.lenS) [X.t 114], I.mk none (some 116) (Ef.pr (Pr.cm BinOp.neq)) [X.t 113, X.t 115], I.mk none (some 117) (Ef.pr Pr.mv) [X.t 116], I.mk (some (117, false)) (some 118) (Ef.pr Pr.mv) [X.t 3], I.mk (some (117, false)) (some 119) (Ef.pr Pr.mv) [X.t 4], I.mk (some (117, false)) (some 120) (Ef.pr Pr.nilc) [X.t 119], I.mk (some (117, false)) (some 121) (Ef.pr (Pr.fa 64)) [X.t 120], I.mk (some (117, false)) (some 122) (Ef.pr (Pr.ld 1 false)) [X.t 121], I.mk (some (117, false)) (some 123) (Ef.pr (Pr.ar BinOp.add)) [X.t 122, X.c (Value.int IntKind.i64 1)], I.mk (some (117, false)) (some 124) (Ef.call 54) [X.t 118, X.t 123], I.mk (some (117, false)) (some 125) (Ef.pr (Pr.cm BinOp.neq)) [X.t 124, X.c (Value.int IntKind.i64 (-1))], I.mk none (some 126) (Ef.pr Pr.pick) [X.t 117, X.c (Value.bool true), X.t 125]]) 
  (IC.cond (X.t 126) 
  (IC.seq (IC.ops [I.mk none (some 2) (Ef.pr Pr.mv) [X.c (Value.bool false)]]) IC.ret) IC.skip)) 
  (IC.seq (IC.ops [I.mk none (some 127) (Ef.pr Pr.mv) [X.t 5], I.mk none (some 128) (Ef.pr Pr.mv) [X.t 0], I.mk none (some 129) (Ef.pr Pr.lenS) [X.t 128], I.mk none (some 130) (Ef.pr (Pr.cm BinOp.lss)) [X.t 127, X.t 129]]) 
  (IC.cond (X.t 130) 
  (IC.seq (IC.ops [I.mk none (some 131) (Ef.pr Pr.mv) [X.t 4], I.mk none (some 132) (Ef.pr Pr.mv) [X.t 3], I.mk none (some 133) (Ef.pr Pr.mv) [X.t 0], I.mk none (some 134) (Ef.pr Pr.mv) [X.t 5], I.mk none (some 135) (Ef.pr (Pr.iaS 18)) [X.t 133, X.t 134], I.mk none (some 136) (Ef.pr (Pr.ld 18 true)) [X.t 135], I.mk none (some 137) (Ef.call 20) [X.t 131, X.t 132, X.t 136], I.mk none (some 15) (Ef.pr Pr.mv) [X.t 137]]) 
  (IC.seq (IC.ops [I.mk none (some 138) (Ef.pr Pr.mv) [X.t 15], I.mk none (some 139) (Ef.pr (Pr.un UnOp.not)) [X.t 138]]) 
  (IC.cond (X.t 139) 
  (IC.seq (IC.ops [I.mk none (some 2) (Ef.pr Pr.mv) [X.c (Value.bool false)]]) IC.ret) IC.skip))) IC.skip))))))))) (IC.ops [I.mk none (some 26) (Ef.pr Pr.mv) [X.t 5], I.mk none (some 27) (Ef.pr (Pr.ar BinOp.add)) [X.t 26, X.c (Value.int IntKind.i64 1)], I.mk none (some 5) (Ef.pr Pr.mv) [X.t 27]])))))) 
  (IC.seq (IC.ops [I.mk none (some 2) (Ef.pr Pr.mv) [X.c (Value.bool true)]]) IC.ret))))

theorem k12 : Go.Proofs.Try.f12.body.bind (comp Go.Proofs.Try.prog 140 [11, 13] []) = some c12 := by kernel_rfl

theorem r12 : cRVs Go.Proofs.Try.prog Go.Proofs.Try.f12.results.toList = some [RV.t 2] := by kernel_rfl

theorem e12 {args : List Value} {h : Hp} {Q : Value → Hp → Prop} (hl : Nat.ble args.length 140 = true) (hk : codeK PR none c12 (retK Q [RV.t 2]) (fun _ _ _ _ => False) (retK Q [RV.t 2]) (argsE 0 args) [] h) : Ok PR 12 args h Q :=
  Ok.of mixed Go.Proofs.Try.func12 rfl k12 r12 hl hk

end Go.Proofs.Ytljenppmdhldbaa.V
