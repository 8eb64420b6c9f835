/- The functions 6, resolved. -/
import Derived.Test.YtljenppmdhldbaaVP
namespace Go.Proofs.Ytljenppmdhldbaa.V
set_option linter.unusedVariables false
set_option linter.unusedSimpArgs false
set_option linter.unusedSectionVars false
open Go
set_option maxRecDepth 100000

def c6 : IC := IC.seq (IC.ops [I.mk none (some 2) (Ef.pr Pr.mv) [X.c (Value.bool false)]]) 
  (IC.seq (IC.ops [I.mk none (some 15) (Ef.call 13) [], I.mk none (some 14) (Ef.pr Pr.mv) [X.t 15], I.mk none (some 16) (Ef.pr (Pr.ext 0)) [X.t 14], I.mk none (some 17) (Ef.pr (Pr.ext 1)) [X.t 14], I.mk none (some 3) (Ef.pr Pr.mv) [X.t 16], I.mk none (some 4) (Ef.pr Pr.mv) [X.t 17]]) 
  (IC.seq 
  (IC.seq (IC.ops [I.mk none (some 18) (Ef.pr Pr.mv) [X.t 3], I.mk none (some 19) (Ef.pr (Pr.eq false (EqT.one EqS.p))) [X.t 18, X.c (Value.pointer none)]]) 
  (IC.cond (X.t 19) 
  (IC.seq (IC.ops [I.mk none (some 2) (Ef.pr Pr.mv) [X.c (Value.bool false)]]) IC.ret) IC.skip)) 
  (IC.seq 
  (IC.seq (IC.ops [I.mk none (some 5) (Ef.pr Pr.mv) [X.c (Value.int IntKind.i64 0)]]) 
  (IC.block 0 
  (IC.loop 
  (IC.seq 
  (IC.seq (IC.ops [I.mk none (some 20) (Ef.pr Pr.mv) [X.t 5], I.mk none (some 21) (Ef.pr Pr.mv) [X.t 0], I.mk none (some 22) (Ef.pr Pr.lenS) [X.t 21], I.mk none (some 23) (Ef.pr (Pr.cm BinOp.lss)) [X.t 20, X.t 22]]) 
  (IC.cond (X.t 23) IC.skip (IC.exit 0))) 
  (IC.seq 
  (IC.block 1 
  (IC.seq (IC.ops [I.mk none (some 26) (Ef.pr Pr.mv) [X.t 4], I.mk none (some 27) (Ef.pr Pr.mv) [X.t 3], I.mk none (some 28) (Ef.pr Pr.mv) [X.t 0], I.mk none (some 29) (Ef.pr Pr.mv) [X.t 5], I.mk none (some 30) (Ef.pr (Pr.iaS 18)) [X.t 28, X.t 29], I.mk none (some 31) (Ef.pr (Pr.ld 18 true)) [X.t 30], I.mk none (some 32) (Ef.call 20) [X.t 26, X.t 27, X.t 31], I.mk none (some 6) (Ef.pr Pr.mv) [X.t 32]]) 
  (IC.seq (IC.ops [I.mk none (some 33) (Ef.pr Pr.mv) [X.t 6], I.mk none (some 34) (Ef.pr (Pr.un UnOp.not)) [X.t 33]]) 
  (IC.cond (X.t 34) 
  (IC.seq (IC.ops [I.mk none (some 2) (Ef.pr Pr.mv) [X.c (Value.bool false)]]) IC.ret) IC.skip)))) (IC.ops [I.mk none (some 24) (Ef.pr Pr.mv) [X.t 5], I.mk none (some 25) (Ef.pr (Pr.ar BinOp.add)) [X.t 24, X.c (Value.int IntKind.i64 1)], I.mk none (some 5) (Ef.pr Pr.mv) [X.t 25]])))))) 
  (IC.seq 
  (IC.seq (IC.ops [I.mk none (some 7) (Ef.pr Pr.mv) [X.c (Value.int IntKind.i64 0)]]) 
  (IC.block 2 
  (IC.loop 
  (IC.seq 
  (IC.seq (IC.ops [I.mk none (some 35) (Ef.pr Pr.mv) [X.t 7], I.mk none (some 36) (Ef.pr (Pr.cm BinOp.lss)) [X.t 35, X.c (Value.int IntKind.i64 16)]]) 
  (IC.cond (X.t 36) IC.skip (IC.exit 2))) 
  (IC.seq 
  (IC.block 3 
  (IC.seq 
  (IC.seq (IC.ops [I.mk none (some 39) (Ef.pr Pr.mv) [X.t 4], I.mk none (some 40) (Ef.pr Pr.mv) [X.t 7], I.mk none (some 41) (Ef.pr Pr.nilc) [X.t 39], I.mk none (some 42) (Ef.pr (Pr.fa 0)) [X.t 41], I.mk none (some 43) (Ef.pr (Pr.iaA 16 1)) [X.t 42, X.t 40], I.mk none (some 44) (Ef.pr (Pr.ld 1 false)) [X.t 43], I.mk none (some 45) (Ef.pr (Pr.un UnOp.not)) [X.t 44]]) 
  (IC.cond (X.t 45) (IC.exit 3) IC.skip)) 
  (IC.seq (IC.ops [I.mk none (some 47) (Ef.pr Pr.mv) [X.t 3], I.mk none (some 48) (Ef.pr Pr.mv) [X.t 7], I.mk none (some 49) (Ef.call 19) [X.t 47, X.t 48], I.mk none (some 46) (Ef.pr Pr.mv) [X.t 49], I.mk none (some 50) (Ef.pr (Pr.ext 0)) [X.t 46], I.mk none (some 51) (Ef.pr (Pr.ext 1)) [X.t 46], I.mk none (some 8) (Ef.al [Value.int IntKind.i64 0, Value.int IntKind.i64 0, Value.int IntKind.i64 0, Value.int IntKind.i64 0, Value.int IntKind.i64 0, Value.bool false, Value.int IntKind.u32 0, Value.int IntKind.u32 0, Value.int IntKind.u32 0, Value.int IntKind.u32 0, Value.int IntKind.u32 0, Value.int IntKind.u32 0, Value.int IntKind.u32 0, Value.int IntKind.u32 0, Value.int IntKind.u32 0, Value.int IntKind.i64 0, Value.int IntKind.i64 0, Value.int IntKind.i64 0, Value.int IntKind.i64 0, Value.int IntKind.i64 0, Value.int IntKind.i64 0]) [], I.mk none none (Ef.st 21) [X.t 8, X.t 50], I.mk none (some 9) (Ef.pr Pr.mv) [X.t 51]]) 
  (IC.seq (IC.ops [I.mk none (some 53) (Ef.pr Pr.mv) [X.t 3], I.mk none (some 54) (Ef.pr Pr.mv) [X.t 7], I.mk none (some 55) (Ef.call 27) [X.t 53, X.t 54], I.mk none (some 52) (Ef.pr Pr.mv) [X.t 55], I.mk none (some 56) (Ef.pr (Pr.ext 0)) [X.t 52], I.mk none (some 57) (Ef.pr (Pr.ext 1)) [X.t 52], I.mk none (some 10) (Ef.pr Pr.mv) [X.t 56], I.mk none (some 11) (Ef.pr Pr.mv) [X.t 57]]) 
  (IC.seq 
  (IC.seq (IC.ops [I.mk none (some 58) (Ef.pr Pr.mv) [X.t 9], I.mk none (some 59) (Ef.pr (Pr.cm BinOp.neq)) [X.t 58, X.c (Value.int IntKind.i64 0)], I.mk none (some 60) (Ef.pr Pr.mv) [X.t 59], I.mk (some (60, false)) (some 61) (Ef.pr Pr.mv) [X.t 11], I.mk (some (60, false)) (some 62) (Ef.pr (Pr.cm BinOp.neq)) [X.t 61, X.c (Value.int IntKind.i64 0)], I.mk none (some 63) (Ef.pr Pr.pick) [X.t 60, X.c (Value.bool true), X.t 62], I.mk none (some 64) (Ef.pr Pr.mv) [X.t 63], I.mk (some (64, false)) (some 65) (Ef.pr Pr.mv) [X.t 10], I.mk (some (64, false)) (some 66) (Ef.pr Pr.lenS) [X.t 65], I.mk (some (64, false)) (some 67) (Ef.pr (Pr.cm BinOp.eql)) [X.t 66, X.c (Value.int IntKind.i64 0)], I.mk none (some 68) (Ef.pr Pr.pick) [X.t 64, X.c (Value.bool true), X.t 67], I.mk none (some 69) (Ef.pr Pr.mv) [X.t 68], I.mk (some (69, false)) (some 70) (Ef.pr Pr.mv) [X.t 10], I.mk (some (69, false)) (some 71) (Ef.pr Pr.lenS) [X.t 70], I.mk (some (69, false)) (some 72) (Ef.pr (Pr.ar BinOp.sub)) [X.t 71, X.c (Value.int IntKind.i64 1)], I.mk (some (69, false)) (some 73) (Ef.pr (Pr.fa 15)) [X.t 8], I.mk (some (69, false)) (some 74) (Ef.pr (Pr.fa 1)) [X.t 73], I.mk (some (69, false)) (some 75) (Ef.pr (Pr.ld 1 false)) [X.t 74], I.mk (some (69, false)) (some 76) (Ef.pr (Pr.cm BinOp.gtr)) [X.t 72, X.t 75], I.mk none (some 77) (Ef.pr Pr.pick) [X.t 69, X.c (Value.bool true), X.t 76], I.mk none (some 78) (Ef.pr Pr.mv) [X.t 77], I.mk (some (78, false)) (some 79) (Ef.pr Pr.mv) [X.t 10], I.mk (some (78, false)) (some 80) (Ef.pr Pr.lenS) [X.t 79], I.mk (some (78, false)) (some 81) (Ef.pr (Pr.cm BinOp.gtr)) [X.t 80, X.c (Value.int IntKind.i64 16)], I.mk none (some 82) (Ef.pr Pr.pick) [X.t 78, X.c (Value.bool true), X.t 81]]) 
  (IC.cond (X.t 82) 
  (IC.seq (IC.ops [I.mk none (some 2) (Ef.pr Pr.mv) [X.c (Value.bool false)]]) IC.ret) IC.skip)) 
  (IC.seq (IC.ops [I.mk none (some 83) (Ef.pr (Pr.fa 15)) [X.t 8], I.mk none (some 84) (Ef.pr (Pr.ld 3 true)) [X.t 83], I.mk none (some 12) (Ef.al [Value.int IntKind.i64 0, Value.int IntKind.i64 0, Value.int IntKind.i64 0]) [], I.mk none none (Ef.st 3) [X.t 12, X.t 84]]) 
  (IC.seq 
  (IC.seq (IC.ops [I.mk none (some 13) (Ef.pr Pr.mv) [X.c (Value.int IntKind.i64 0)]]) 
  (IC.block 4 
  (IC.loop 
  (IC.seq 
  (IC.seq (IC.ops [I.mk none (some 85) (Ef.pr Pr.mv) [X.t 13], I.mk none (some 86) (Ef.pr Pr.mv) [X.t 10], I.mk none (some 87) (Ef.pr Pr.lenS) [X.t 86], I.mk none (some 88) (Ef.pr (Pr.cm BinOp.lss)) [X.t 85, X.t 87]]) 
  (IC.cond (X.t 88) IC.skip (IC.exit 4))) 
  (IC.seq 
  (IC.block 5 
  (IC.seq 
  (IC.seq (IC.ops [I.mk none (some 91) (Ef.pr Pr.mv) [X.t 4], I.mk none (some 92) (Ef.pr Pr.mv) [X.t 10], I.mk none (some 93) (Ef.pr Pr.mv) [X.t 13], I.mk none (some 94) (Ef.pr (Pr.iaS 1)) [X.t 92, X.t 93], I.mk none (some 95) (Ef.pr (Pr.ld 1 false)) [X.t 94], I.mk none (some 96) (Ef.call 28) [X.t 91, X.t 95], I.mk none (some 97) (Ef.pr (Pr.un UnOp.not)) [X.t 96]]) 
  (IC.cond (X.t 97) 
  (IC.seq (IC.ops [I.mk none (some 2) (Ef.pr Pr.mv) [X.c (Value.bool false)]]) IC.ret) IC.skip)) (IC.plan (Plan.q (I.mk none (some 98) (Ef.pr (Pr.ld 3 true)) [X.t 12]) (Plan.q (I.mk none (some 99) (Ef.pr Pr.mv) [X.t 4]) (Plan.q (I.mk none (some 100) (Ef.pr Pr.mv) [X.t 10]) (Plan.q (I.mk none (some 101) (Ef.pr Pr.mv) [X.t 13]) (Plan.q (I.mk none (some 102) (Ef.pr (Pr.iaS 1)) [X.t 100, X.t 101]) (Plan.q (I.mk none (some 103) (Ef.pr (Pr.ld 1 false)) [X.t 102]) (Plan.q (I.mk none (some 104) (Ef.pr Pr.nilc) [X.t 99]) (Plan.q (I.mk none (some 105) (Ef.pr (Pr.fa 16)) [X.t 104]) (Plan.q (I.mk none (some 106) (Ef.pr (Pr.iaA 16 3)) [X.t 105, X.t 103]) (Plan.q (I.mk none (some 107) (Ef.pr (Pr.ld 3 true)) [X.t 106]) (Plan.br (PlanL.cons false false (I.mk none (some 108) (Ef.call 29) [X.t 98, X.t 107, X.c (Value.int IntKind.i64 (-1))]) (Plan.br (PlanL.cons false false (I.mk none none (Ef.st 3) [X.t 12, X.t 108]) Plan.done PlanL.nil)) PlanL.nil))))))))))))))) (IC.ops [I.mk none (some 89) (Ef.pr Pr.mv) [X.t 13], I.mk none (some 90) (Ef.pr (Pr.ar BinOp.add)) [X.t 89, X.c (Value.int IntKind.i64 1)], I.mk none (some 13) (Ef.pr Pr.mv) [X.t 90]])))))) 
  (IC.seq (IC.ops [I.mk none (some 109) (Ef.pr (Pr.ld 3 true)) [X.t 12], I.mk none (some 110) (Ef.call 30) [X.t 109]]) 
  (IC.cond (X.t 110) 
  (IC.seq (IC.ops [I.mk none (some 2) (Ef.pr Pr.mv) [X.c (Value.bool false)]]) IC.ret) IC.skip))))))))) (IC.ops [I.mk none (some 37) (Ef.pr Pr.mv) [X.t 7], I.mk none (some 38) (Ef.pr (Pr.ar BinOp.add)) [X.t 37, X.c (Value.int IntKind.i64 1)], I.mk none (some 7) (Ef.pr Pr.mv) [X.t 38]])))))) 
  (IC.seq (IC.ops [I.mk none (some 2) (Ef.pr Pr.mv) [X.c (Value.bool true)]]) IC.ret)))))

theorem k6 : Go.Proofs.Try.f6.body.bind (comp Go.Proofs.Try.prog 111 [8, 12] []) = some c6 := by kernel_rfl

theorem r6 : cRVs Go.Proofs.Try.prog Go.Proofs.Try.f6.results.toList = some [RV.t 2] := by kernel_rfl

theorem e6 {args : List Value} {h : Hp} {Q : Value → Hp → Prop} (hl : Nat.ble args.length 111 = true) (hk : codeK PR none c6 (retK Q [RV.t 2]) (fun _ _ _ _ => False) (retK Q [RV.t 2]) (argsE 0 args) [] h) : Ok PR 6 args h Q :=
  Ok.of mixed Go.Proofs.Try.func6 rfl k6 r6 hl hk

end Go.Proofs.Ytljenppmdhldbaa.V
