/- The functions 8, resolved. -/
import Derived.Test.YtkmknolkblcbeaaVP
namespace Go.Proofs.Ytkmknolkblcbeaa.V
set_option linter.unusedVariables false
set_option linter.unusedSimpArgs false
set_option linter.unusedSectionVars false
open Go
set_option maxRecDepth 100000

def c8 : IC := IC.seq (IC.ops [I.mk none (some 5) (Ef.bxh 72) [X.t 2], I.mk none (some 6) (Ef.pr Pr.mv) [X.c (Value.bool false)]]) 
  (IC.seq 
  (IC.seq (IC.ops [I.mk none (some 23) (Ef.call 39) [], I.mk none (some 24) (Ef.pr (Pr.un UnOp.not)) [X.t 23]]) 
  (IC.cond (X.t 24) 
  (IC.seq (IC.ops [I.mk none (some 6) (Ef.pr Pr.mv) [X.c (Value.bool false)]]) IC.ret) IC.skip)) 
  (IC.seq (IC.ops [I.mk none (some 26) (Ef.pr Pr.mv) [X.t 0], I.mk none (some 27) (Ef.pr Pr.mv) [X.t 1], I.mk none (some 28) (Ef.call 49) [X.t 26, X.t 27], I.mk none (some 25) (Ef.pr Pr.mv) [X.t 28], I.mk none (some 29) (Ef.pr (Pr.ext 0)) [X.t 25], I.mk none (some 30) (Ef.pr (Pr.ext 1)) [X.t 25], I.mk none (some 7) (Ef.alh [Value.pointer none] 73) [], I.mk none (some 8) (Ef.alh [Value.pointer none] 74) [], I.mk none none (Ef.st 1) [X.t 7, X.t 29], I.mk none none (Ef.st 1) [X.t 8, X.t 30]]) 
  (IC.seq 
  (IC.seq (IC.ops [I.mk none (some 31) (Ef.pr (Pr.ld 1 false)) [X.t 7], I.mk none (some 32) (Ef.pr (Pr.eq false (EqT.one EqS.p))) [X.t 31, X.c (Value.pointer none)]]) 
  (IC.cond (X.t 32) 
  (IC.seq (IC.ops [I.mk none (some 6) (Ef.pr Pr.mv) [X.c (Value.bool false)]]) IC.ret) IC.skip)) 
  (IC.seq (IC.ops [I.mk none (some 33) (Ef.pr (Pr.ld 1 false)) [X.t 7], I.mk none (some 34) (Ef.call 50) [X.t 33], I.mk none (some 9) (Ef.alh [Value.nilFunc] 78) [], I.mk none none (Ef.st 1) [X.t 9, X.t 34]]) 
  (IC.seq 
  (IC.seq (IC.ops [I.mk none (some 35) (Ef.pr (Pr.ld 1 false)) [X.t 9], I.mk none (some 36) (Ef.pr (Pr.eq false (EqT.one EqS.fn))) [X.t 35, X.c Value.nilFunc]]) 
  (IC.cond (X.t 36) 
  (IC.seq (IC.ops [I.mk none (some 6) (Ef.pr Pr.mv) [X.c (Value.bool false)]]) IC.ret) IC.skip)) 
  (IC.seq 
  (IC.seq (IC.ops [I.mk none (some 10) (Ef.pr Pr.mv) [X.c (Value.int IntKind.i64 0)]]) 
  (IC.block 0 
  (IC.loop 
  (IC.seq 
  (IC.seq (IC.ops [I.mk none (some 37) (Ef.pr Pr.mv) [X.t 10], I.mk none (some 38) (Ef.pr (Pr.cm BinOp.lss)) [X.t 37, X.c (Value.int IntKind.i64 2)]]) 
  (IC.cond (X.t 38) IC.skip (IC.exit 0))) 
  (IC.seq 
  (IC.block 1 
  (IC.cut (IC.plan (Plan.q (I.mk none (some 41) (Ef.pr (Pr.ld 1 false)) [X.t 8]) (Plan.q (I.mk none (some 43) (Ef.pr (Pr.ld 1 false)) [X.t 5]) (Plan.br (PlanL.cons true true (I.mk none (some 42) (Ef.call 52) [X.t 41]) (Plan.br (PlanL.cons false true (I.mk none (some 44) (Ef.call 51) [X.t 42, X.t 43]) (Plan.br (PlanL.cons true false (I.mk none (some 11) (Ef.alh [Value.slice none 0 0] 80) []) (Plan.br (PlanL.cons false false (I.mk none none (Ef.st 1) [X.t 11, X.t 44]) Plan.done PlanL.nil)) PlanL.nil)) (PlanL.cons true false (I.mk none (some 11) (Ef.alh [Value.slice none 0 0] 80) []) (Plan.br (PlanL.cons false false (I.mk none (some 44) (Ef.call 51) [X.t 42, X.t 43]) (Plan.br (PlanL.cons false false (I.mk none none (Ef.st 1) [X.t 11, X.t 44]) Plan.done PlanL.nil)) PlanL.nil)) PlanL.nil))) (PlanL.cons true true (I.mk none (some 11) (Ef.alh [Value.slice none 0 0] 80) []) (Plan.br (PlanL.cons true false (I.mk none (some 42) (Ef.call 52) [X.t 41]) (Plan.br (PlanL.cons false false (I.mk none (some 44) (Ef.call 51) [X.t 42, X.t 43]) (Plan.br (PlanL.cons false false (I.mk none none (Ef.st 1) [X.t 11, X.t 44]) Plan.done PlanL.nil)) PlanL.nil)) PlanL.nil)) PlanL.nil)))))) 
  (IC.seq (IC.ops [I.mk none (some 12) (Ef.alh [Value.int IntKind.i64 0] 3) [], I.mk none none (Ef.st 1) [X.t 12, X.c (Value.int IntKind.i64 0)]]) 
  (IC.seq (IC.ops [I.mk none (some 13) (Ef.alh [Value.bool false] 4) [], I.mk none none (Ef.st 1) [X.t 13, X.c (Value.bool true)]]) 
  (IC.seq 
  (IC.seq (IC.ops [I.mk none (some 45) (Ef.pr (Pr.ld 1 false)) [X.t 9]]) 
  (IC.block 2 (IC.rf (X.t 45) [46, 47] 
  (IC.seq (IC.ops [I.mk none (some 14) (Ef.pr Pr.mv) [X.t 46]]) (IC.ops [I.mk none (some 15) (Ef.pr Pr.mv) [X.t 47]])) 
  (IC.block 3 
  (IC.seq 
  (IC.seq (IC.ops [I.mk none (some 48) (Ef.pr (Pr.ld 1 false)) [X.t 12], I.mk none (some 49) (Ef.pr (Pr.ld 1 false)) [X.t 11], I.mk none (some 50) (Ef.pr Pr.lenS) [X.t 49], I.mk none (some 51) (Ef.pr (Pr.cm BinOp.geq)) [X.t 48, X.t 50], I.mk none (some 52) (Ef.pr Pr.mv) [X.t 51], I.mk (some (52, false)) (some 53) (Ef.pr (Pr.ld 1 false)) [X.t 11], I.mk (some (52, false)) (some 54) (Ef.pr (Pr.ld 1 false)) [X.t 12], I.mk (some (52, false)) (some 55) (Ef.pr (Pr.iaS 2)) [X.t 53, X.t 54], I.mk (some (52, false)) (some 56) (Ef.pr (Pr.fa 0)) [X.t 55], I.mk (some (52, false)) (some 57) (Ef.pr (Pr.ld 1 false)) [X.t 56], I.mk (some (52, false)) (some 58) (Ef.pr Pr.mv) [X.t 14], I.mk (some (52, false)) (some 59) (Ef.pr (Pr.cm BinOp.neq)) [X.t 57, X.t 58], I.mk none (some 60) (Ef.pr Pr.pick) [X.t 52, X.c (Value.bool true), X.t 59], I.mk none (some 61) (Ef.pr Pr.mv) [X.t 60], I.mk (some (61, false)) (some 62) (Ef.pr (Pr.ld 1 false)) [X.t 11], I.mk (some (61, false)) (some 63) (Ef.pr (Pr.ld 1 false)) [X.t 12], I.mk (some (61, false)) (some 64) (Ef.pr (Pr.iaS 2)) [X.t 62, X.t 63], I.mk (some (61, false)) (some 65) (Ef.pr (Pr.fa 1)) [X.t 64], I.mk (some (61, false)) (some 66) (Ef.pr (Pr.ld 1 false)) [X.t 65], I.mk (some (61, false)) (some 67) (Ef.pr Pr.mv) [X.t 15], I.mk (some (61, false)) (some 68) (Ef.pr (Pr.cm BinOp.neq)) [X.t 66, X.t 67], I.mk none (some 69) (Ef.pr Pr.pick) [X.t 61, X.c (Value.bool true), X.t 68]]) 
  (IC.cond (X.t 69) 
  (IC.seq (IC.ops [I.mk none none (Ef.st 1) [X.t 13, X.c (Value.bool false)]]) (IC.exit 2)) IC.skip)) 
  (IC.seq (IC.ops [I.mk none (some 71) (Ef.pr (Pr.ld 1 false)) [X.t 7], I.mk none (some 72) (Ef.pr (Pr.ld 1 false)) [X.t 5], I.mk none (some 73) (Ef.pr (Pr.ld 1 false)) [X.t 12], I.mk none (some 74) (Ef.call 53) [X.t 71, X.t 72, X.t 73], I.mk none (some 70) (Ef.pr Pr.mv) [X.t 74], I.mk none (some 75) (Ef.pr (Pr.ext 0)) [X.t 70], I.mk none (some 76) (Ef.pr (Pr.ext 1)) [X.t 70], I.mk none (some 16) (Ef.pr Pr.mv) [X.t 75], I.mk none (some 17) (Ef.pr Pr.mv) [X.t 76]]) 
  (IC.seq (IC.ops [I.mk none (some 77) (Ef.pr (Pr.ld 1 false)) [X.t 8], I.mk none (some 78) (Ef.pr (Pr.ld 1 false)) [X.t 5], I.mk none (some 79) (Ef.pr (Pr.ld 1 false)) [X.t 12], I.mk none (some 80) (Ef.call 54) [X.t 77, X.t 78, X.t 79]]) 
  (IC.seq (IC.ops [I.mk none (some 81) (Ef.pr (Pr.ld 1 false)) [X.t 12], I.mk none (some 82) (Ef.pr (Pr.ar BinOp.add)) [X.t 81, X.c (Value.int IntKind.i64 1)], I.mk none none (Ef.st 1) [X.t 12, X.t 82]]) 
  (IC.seq 
  (IC.seq (IC.ops [I.mk none (some 83) (Ef.pr Pr.mv) [X.t 17], I.mk none (some 84) (Ef.pr (Pr.cm BinOp.gtr)) [X.t 83, X.c (Value.int IntKind.i64 0)]]) 
  (IC.cond (X.t 84) 
  (IC.seq (IC.ops [I.mk none (some 85) (Ef.pr (Pr.ld 1 false)) [X.t 8], I.mk none (some 86) (Ef.call 52) [X.t 85], I.mk none (some 87) (Ef.call 51) [X.t 86, X.c (Value.slice none 0 0)], I.mk none (some 18) (Ef.alh [Value.slice none 0 0] 80) [], I.mk none none (Ef.st 1) [X.t 18, X.t 87]]) 
  (IC.seq (IC.ops [I.mk none (some 19) (Ef.alh [Value.int IntKind.i64 0] 3) [], I.mk none none (Ef.st 1) [X.t 19, X.c (Value.int IntKind.i64 0)]]) 
  (IC.seq 
  (IC.seq (IC.ops [I.mk none (some 88) (Ef.pr (Pr.ld 1 false)) [X.t 9]]) 
  (IC.block 4 (IC.rf (X.t 88) [89, 90] 
  (IC.seq (IC.ops [I.mk none (some 20) (Ef.pr Pr.mv) [X.t 89]]) (IC.ops [I.mk none (some 21) (Ef.pr Pr.mv) [X.t 90]])) 
  (IC.block 5 
  (IC.seq 
  (IC.seq (IC.ops [I.mk none (some 91) (Ef.pr (Pr.ld 1 false)) [X.t 19], I.mk none (some 92) (Ef.pr (Pr.ld 1 false)) [X.t 18], I.mk none (some 93) (Ef.pr Pr.lenS) [X.t 92], I.mk none (some 94) (Ef.pr (Pr.cm BinOp.geq)) [X.t 91, X.t 93], I.mk none (some 95) (Ef.pr Pr.mv) [X.t 94], I.mk (some (95, false)) (some 96) (Ef.pr (Pr.ld 1 false)) [X.t 18], I.mk (some (95, false)) (some 97) (Ef.pr (Pr.ld 1 false)) [X.t 19], I.mk (some (95, false)) (some 98) (Ef.pr (Pr.iaS 2)) [X.t 96, X.t 97], I.mk (some (95, false)) (some 99) (Ef.pr (Pr.fa 0)) [X.t 98], I.mk (some (95, false)) (some 100) (Ef.pr (Pr.ld 1 false)) [X.t 99], I.mk (some (95, false)) (some 101) (Ef.pr Pr.mv) [X.t 20], I.mk (some (95, false)) (some 102) (Ef.pr (Pr.cm BinOp.neq)) [X.t 100, X.t 101], I.mk none (some 103) (Ef.pr Pr.pick) [X.t 95, X.c (Value.bool true), X.t 102], I.mk none (some 104) (Ef.pr Pr.mv) [X.t 103], I.mk (some (104, false)) (some 105) (Ef.pr (Pr.ld 1 false)) [X.t 18], I.mk (some (104, false)) (some 106) (Ef.pr (Pr.ld 1 false)) [X.t 19], I.mk (some (104, false)) (some 107) (Ef.pr (Pr.iaS 2)) [X.t 105, X.t 106], I.mk (some (104, false)) (some 108) (Ef.pr (Pr.fa 1)) [X.t 107], I.mk (some (104, false)) (some 109) (Ef.pr (Pr.ld 1 false)) [X.t 108], I.mk (some (104, false)) (some 110) (Ef.pr Pr.mv) [X.t 21], I.mk (some (104, false)) (some 111) (Ef.pr (Pr.cm BinOp.neq)) [X.t 109, X.t 110], I.mk none (some 112) (Ef.pr Pr.pick) [X.t 104, X.c (Value.bool true), X.t 111]]) 
  (IC.cond (X.t 112) 
  (IC.seq (IC.ops [I.mk none none (Ef.st 1) [X.t 13, X.c (Value.bool false)]]) (IC.exit 4)) IC.skip)) (IC.ops [I.mk none (some 113) (Ef.pr (Pr.ld 1 false)) [X.t 19], I.mk none (some 114) (Ef.pr (Pr.ar BinOp.add)) [X.t 113, X.c (Value.int IntKind.i64 1)], I.mk none none (Ef.st 1) [X.t 19, X.t 114]])))))) (IC.ops [I.mk none (some 115) (Ef.pr (Pr.ld 1 false)) [X.t 13], I.mk none (some 116) (Ef.pr Pr.mv) [X.t 115], I.mk (some (116, true)) (some 117) (Ef.pr (Pr.ld 1 false)) [X.t 19], I.mk (some (116, true)) (some 118) (Ef.pr (Pr.ld 1 false)) [X.t 18], I.mk (some (116, true)) (some 119) (Ef.pr Pr.lenS) [X.t 118], I.mk (some (116, true)) (some 120) (Ef.pr (Pr.cm BinOp.eql)) [X.t 117, X.t 119], I.mk none (some 121) (Ef.pr Pr.pick) [X.t 116, X.t 120, X.c (Value.bool false)], I.mk none none (Ef.st 1) [X.t 13, X.t 121]])))) IC.skip)) 
  (IC.seq (IC.ops [I.mk none (some 122) (Ef.pr Pr.mv) [X.t 16], I.mk none (some 123) (Ef.pr Pr.mv) [X.t 122], I.mk (some (123, false)) (some 124) (Ef.pr (Pr.ld 1 false)) [X.t 13], I.mk (some (123, false)) (some 125) (Ef.pr (Pr.un UnOp.not)) [X.t 124], I.mk none (some 126) (Ef.pr Pr.pick) [X.t 123, X.c (Value.bool true), X.t 125]]) 
  (IC.cond (X.t 126) (IC.exit 2) IC.skip))))))))))) 
  (IC.seq (IC.ops [I.mk none (some 127) (Ef.pr (Pr.ld 1 false)) [X.t 13], I.mk none (some 128) (Ef.pr Pr.mv) [X.t 127], I.mk (some (128, true)) (some 129) (Ef.pr (Pr.ld 1 false)) [X.t 12], I.mk (some (128, true)) (some 130) (Ef.pr (Pr.ld 1 false)) [X.t 11], I.mk (some (128, true)) (some 131) (Ef.pr Pr.lenS) [X.t 130], I.mk (some (128, true)) (some 132) (Ef.pr (Pr.cm BinOp.eql)) [X.t 129, X.t 131], I.mk none (some 133) (Ef.pr Pr.pick) [X.t 128, X.t 132, X.c (Value.bool false)], I.mk none (some 134) (Ef.pr Pr.mv) [X.t 133], I.mk (some (134, true)) (some 135) (Ef.pr (Pr.ld 1 false)) [X.t 7], I.mk (some (134, true)) (some 136) (Ef.pr (Pr.ld 1 false)) [X.t 8], I.mk (some (134, true)) (some 137) (Ef.call 55) [X.t 135, X.t 136], I.mk none (some 138) (Ef.pr Pr.pick) [X.t 134, X.t 137, X.c (Value.bool false)], I.mk none (some 22) (Ef.pr Pr.mv) [X.t 138]]) 
  (IC.seq (IC.ops [I.mk none (some 139) (Ef.pr Pr.mv) [X.t 22], I.mk none (some 140) (Ef.pr (Pr.un UnOp.not)) [X.t 139]]) 
  (IC.cond (X.t 140) 
  (IC.seq (IC.ops [I.mk none (some 6) (Ef.pr Pr.mv) [X.c (Value.bool false)]]) IC.ret) IC.skip)))))))) (IC.ops [I.mk none (some 39) (Ef.pr Pr.mv) [X.t 10], I.mk none (some 40) (Ef.pr (Pr.ar BinOp.add)) [X.t 39, X.c (Value.int IntKind.i64 1)], I.mk none (some 10) (Ef.pr Pr.mv) [X.t 40]])))))) 
  (IC.seq (IC.ops [I.mk none (some 6) (Ef.pr Pr.mv) [X.c (Value.bool true)]]) IC.ret)))))))

theorem k8 : Go.Proofs.Try.f8.body.bind (comp Go.Proofs.Try.prog 141 [] [13]) = some c8 := by kernel_rfl

theorem r8 : cRVs Go.Proofs.Try.prog Go.Proofs.Try.f8.results.toList = some [RV.t 6] := by kernel_rfl

theorem e8 {args : List Value} {h : Hp} {Q : Value → Hp → Prop} (hl : Nat.ble args.length 141 = true) (hk : codeK PR none c8 (retK Q [RV.t 6]) (fun _ _ _ _ => False) (retK Q [RV.t 6]) (argsE 0 args) [] h) : Ok PR 8 args h Q :=
  Ok.of mixed Go.Proofs.Try.func8 rfl k8 r8 hl hk

end Go.Proofs.Ytkmknolkblcbeaa.V
