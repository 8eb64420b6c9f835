/- The functions 8, resolved. -/
import Derived.Test.YtljenppmdhldbaaVP
namespace Go.Proofs.Ytljenppmdhldbaa.V
set_option linter.unusedVariables false
set_option linter.unusedSimpArgs false
set_option linter.unusedSectionVars false
open Go
set_option maxRecDepth 100000

def c8 : IC := IC.seq (IC.ops [I.mk none (some 4) (Ef.pr Pr.mv) [X.c (Value.bool false)]]) 
  (IC.seq (IC.ops [I.mk none (some 15) (Ef.call 13) [], I.mk none (some 14) (Ef.pr Pr.mv) [X.t 15], I.mk none (some 16) (Ef.pr (Pr.ext 0)) [X.t 14], I.mk none (some 17) (Ef.pr (Pr.ext 1)) [X.t 14], I.mk none (some 5) (Ef.pr Pr.mv) [X.t 16], I.mk none (some 6) (Ef.pr Pr.mv) [X.t 17]]) 
  (IC.seq 
  (IC.seq (IC.ops [I.mk none (some 18) (Ef.pr Pr.mv) [X.t 5], I.mk none (some 19) (Ef.pr (Pr.eq false (EqT.one EqS.p))) [X.t 18, X.c (Value.pointer none)]]) 
  (IC.cond (X.t 19) 
  (IC.seq (IC.ops [I.mk none (some 4) (Ef.pr Pr.mv) [X.c (Value.bool false)]]) IC.ret) IC.skip)) 
  (IC.seq (IC.ops [I.mk none (some 20) (Ef.pr Pr.mv) [X.t 5], I.mk none (some 21) (Ef.call 14) [X.t 20, X.c (Value.int IntKind.i64 2), X.c (Value.int IntKind.i64 1), X.c (Value.int IntKind.i64 0)]]) 
  (IC.seq 
  (IC.seq (IC.ops [I.mk none (some 22) (Ef.pr Pr.mv) [X.t 5], I.mk none (some 23) (Ef.call 17) [X.t 22, X.c (Value.int IntKind.i64 2)], I.mk none (some 24) (Ef.pr (Pr.un UnOp.not)) [X.t 23]]) 
  (IC.cond (X.t 24) 
  (IC.seq (IC.ops [I.mk none (some 4) (Ef.pr Pr.mv) [X.c (Value.bool false)]]) IC.ret) IC.skip)) 
  (IC.seq 
  (IC.seq (IC.ops [I.mk none (some 7) (Ef.pr Pr.mv) [X.c (Value.int IntKind.i64 0)]]) 
  (IC.block 0 
  (IC.loop 
  (IC.seq 
  (IC.seq (IC.ops [I.mk none (some 25) (Ef.pr Pr.mv) [X.t 7], I.mk none (some 26) (Ef.pr Pr.mv) [X.t 0], I.mk none (some 27) (Ef.pr Pr.lenS) [X.t 26], I.mk none (some 28) (Ef.pr (Pr.cm BinOp.lss)) [X.t 25, X.t 27]]) 
  (IC.cond (X.t 28) IC.skip (IC.exit 0))) 
  (IC.seq 
  (IC.block 1 (IC.ops [I.mk none (some 31) (Ef.pr Pr.mv) [X.t 6], I.mk none (some 32) (Ef.pr Pr.mv) [X.t 5], I.mk none (some 33) (Ef.pr Pr.mv) [X.t 0], I.mk none (some 34) (Ef.pr Pr.mv) [X.t 7], I.mk none (some 35) (Ef.pr (Pr.iaS 18)) [X.t 33, X.t 34], I.mk none (some 36) (Ef.pr (Pr.ld 18 true)) [X.t 35], I.mk none (some 37) (Ef.call 20) [X.t 31, X.t 32, X.t 36]])) (IC.ops [I.mk none (some 29) (Ef.pr Pr.mv) [X.t 7], I.mk none (some 30) (Ef.pr (Pr.ar BinOp.add)) [X.t 29, X.c (Value.int IntKind.i64 1)], I.mk none (some 7) (Ef.pr Pr.mv) [X.t 30]])))))) 
  (IC.seq 
  (IC.seq (IC.ops [I.mk none (some 8) (Ef.pr Pr.mv) [X.c (Value.int IntKind.i64 0)]]) 
  (IC.block 2 
  (IC.loop 
  (IC.seq 
  (IC.seq (IC.ops [I.mk none (some 38) (Ef.pr Pr.mv) [X.t 8], I.mk none (some 39) (Ef.pr (Pr.cm BinOp.lss)) [X.t 38, X.c (Value.int IntKind.i64 16)]]) 
  (IC.cond (X.t 39) IC.skip (IC.exit 2))) 
  (IC.seq 
  (IC.block 3 
  (IC.seq (IC.ops [I.mk none (some 43) (Ef.pr Pr.mv) [X.t 5], I.mk none (some 44) (Ef.pr Pr.mv) [X.t 8], I.mk none (some 45) (Ef.call 19) [X.t 43, X.t 44], I.mk none (some 42) (Ef.pr Pr.mv) [X.t 45], I.mk none (some 46) (Ef.pr (Pr.ext 0)) [X.t 42], I.mk none (some 47) (Ef.pr (Pr.ext 1)) [X.t 42], I.mk none (some 9) (Ef.al [Value.int IntKind.i64 0, Value.int IntKind.i64 0, Value.int IntKind.i64 0, Value.int IntKind.i64 0, Value.int IntKind.i64 0, Value.bool false, Value.int IntKind.u32 0, Value.int IntKind.u32 0, Value.int IntKind.u32 0, Value.int IntKind.u32 0, Value.int IntKind.u32 0, Value.int IntKind.u32 0, Value.int IntKind.u32 0, Value.int IntKind.u32 0, Value.int IntKind.u32 0, Value.int IntKind.i64 0, Value.int IntKind.i64 0, Value.int IntKind.i64 0, Value.int IntKind.i64 0, Value.int IntKind.i64 0, Value.int IntKind.i64 0]) [], I.mk none none (Ef.st 21) [X.t 9, X.t 46], I.mk none (some 10) (Ef.pr Pr.mv) [X.t 47]]) 
  (IC.seq (IC.ops [I.mk none (some 48) (Ef.pr Pr.mv) [X.t 5], I.mk none (some 49) (Ef.pr Pr.mv) [X.t 8], I.mk none (some 50) (Ef.call 17) [X.t 48, X.t 49], I.mk none (some 51) (Ef.pr Pr.mv) [X.t 10], I.mk none (some 52) (Ef.pr (Pr.cm BinOp.eql)) [X.t 51, X.c (Value.int IntKind.i64 0)], I.mk none (some 53) (Ef.pr Pr.mv) [X.t 52], I.mk (some (53, true)) (some 54) (Ef.pr (Pr.fa 2)) [X.t 9], I.mk (some (53, true)) (some 55) (Ef.pr (Pr.ld 1 false)) [X.t 54], I.mk (some (53, true)) (some 56) (Ef.pr (Pr.cm BinOp.eql)) [X.t 55, X.c (Value.int IntKind.i64 1)], I.mk none (some 57) (Ef.pr Pr.pick) [X.t 53, X.t 56, X.c (Value.bool false)], I.mk none (some 58) (Ef.pr Pr.mv) [X.t 57], I.mk (some (58, true)) (some 59) (Ef.pr Pr.mv) [X.t 5], I.mk (some (58, true)) (some 60) (Ef.pr Pr.mv) [X.t 8], I.mk (some (58, true)) (some 61) (Ef.call 32) [X.t 59, X.t 60], I.mk (some (58, true)) (some 62) (Ef.pr (Pr.un UnOp.not)) [X.t 61], I.mk none (some 63) (Ef.pr Pr.pick) [X.t 58, X.t 62, X.c (Value.bool false)], I.mk none (some 64) (Ef.pr (Pr.eq true (EqT.one EqS.b))) [X.t 50, X.t 63]]) 
  (IC.cond (X.t 64) 
  (IC.seq (IC.ops [I.mk none (some 4) (Ef.pr Pr.mv) [X.c (Value.bool false)]]) IC.ret) IC.skip)))) (IC.ops [I.mk none (some 40) (Ef.pr Pr.mv) [X.t 8], I.mk none (some 41) (Ef.pr (Pr.ar BinOp.add)) [X.t 40, X.c (Value.int IntKind.i64 1)], I.mk none (some 8) (Ef.pr Pr.mv) [X.t 41]])))))) 
  (IC.seq (IC.ops [I.mk none (some 65) (Ef.pr Pr.mv) [X.t 5], I.mk none (some 66) (Ef.pr Pr.mv) [X.t 1], I.mk none (some 67) (Ef.call 33) [X.t 65, X.t 66, X.c (Value.bool false)]]) 
  (IC.seq (IC.ops [I.mk none (some 68) (Ef.pr Pr.mv) [X.t 5], I.mk none (some 69) (Ef.call 34) [X.t 68], I.mk none (some 11) (Ef.al [Value.bool false, Value.bool false, Value.bool false, Value.bool false, Value.bool false, Value.bool false, Value.bool false, Value.bool false, Value.bool false, Value.bool false, Value.bool false, Value.bool false, Value.bool false, Value.bool false, Value.bool false, Value.bool false]) [], I.mk none none (Ef.st 16) [X.t 11, X.t 69]]) 
  (IC.seq (IC.ops [I.mk none (some 70) (Ef.pr Pr.mv) [X.t 5], I.mk none (some 71) (Ef.pr Pr.mv) [X.t 1], I.mk none (some 72) (Ef.call 33) [X.t 70, X.t 71, X.c (Value.bool true)], I.mk none (some 12) (Ef.pr Pr.mv) [X.t 72]]) 
  (IC.seq 
  (IC.seq (IC.ops [I.mk none (some 73) (Ef.pr Pr.mv) [X.t 12], I.mk none (some 74) (Ef.pr (Pr.cm BinOp.eql)) [X.t 73, X.c (Value.int IntKind.i64 0)], I.mk none (some 75) (Ef.pr Pr.mv) [X.t 6], I.mk none (some 76) (Ef.pr Pr.mv) [X.t 1], I.mk none (some 77) (Ef.call 28) [X.t 75, X.t 76], I.mk none (some 78) (Ef.pr (Pr.eq true (EqT.one EqS.b))) [X.t 74, X.t 77]]) 
  (IC.cond (X.t 78) 
  (IC.seq (IC.ops [I.mk none (some 4) (Ef.pr Pr.mv) [X.c (Value.bool false)]]) IC.ret) IC.skip)) 
  (IC.seq 
  (IC.seq (IC.ops [I.mk none (some 13) (Ef.pr Pr.mv) [X.c (Value.int IntKind.i64 0)]]) 
  (IC.block 4 
  (IC.loop 
  (IC.seq 
  (IC.seq (IC.ops [I.mk none (some 79) (Ef.pr Pr.mv) [X.t 13], I.mk none (some 80) (Ef.pr (Pr.cm BinOp.lss)) [X.t 79, X.c (Value.int IntKind.i64 16)]]) 
  (IC.cond (X.t 80) IC.skip (IC.exit 4))) 
  (IC.seq 
  (IC.block 5 
  (IC.seq (IC.plan (Plan.q (I.mk none (some 83) (Ef.pr Pr.mv) [X.t 5]) (Plan.q (I.mk none (some 84) (Ef.pr Pr.mv) [X.t 13]) (Plan.q (I.mk none (some 86) (Ef.pr Pr.mv) [X.t 13]) (Plan.q (I.mk none (some 87) (Ef.pr (Pr.iaA 16 1)) [X.t 11, X.t 86]) (Plan.q (I.mk none (some 88) (Ef.pr (Pr.ld 1 false)) [X.t 87]) (Plan.br (PlanL.cons true false (I.mk none (some 85) (Ef.call 17) [X.t 83, X.t 84]) (Plan.q (I.mk none (some 89) (Ef.pr Pr.mv) [X.t 88]) (Plan.q (I.mk (some (89, true)) (some 90) (Ef.pr Pr.mv) [X.t 5]) (Plan.q (I.mk (some (89, true)) (some 91) (Ef.pr Pr.mv) [X.t 1]) (Plan.q (I.mk (some (89, true)) (some 92) (Ef.pr Pr.mv) [X.t 13]) (Plan.br (PlanL.cons false false (I.mk (some (89, true)) (some 93) (Ef.call 35) [X.t 90, X.t 91, X.t 92]) (Plan.q (I.mk (some (89, true)) (some 94) (Ef.pr (Pr.un UnOp.not)) [X.t 93]) (Plan.q (I.mk none (some 95) (Ef.pr Pr.pick) [X.t 89, X.t 94, X.c (Value.bool false)]) (Plan.q (I.mk none (some 96) (Ef.pr (Pr.eq true (EqT.one EqS.b))) [X.t 85, X.t 95]) Plan.done))) PlanL.nil)))))) PlanL.nil)))))))) 
  (IC.cond (X.t 96) 
  (IC.seq (IC.ops [I.mk none (some 4) (Ef.pr Pr.mv) [X.c (Value.bool false)]]) IC.ret) IC.skip))) (IC.ops [I.mk none (some 81) (Ef.pr Pr.mv) [X.t 13], I.mk none (some 82) (Ef.pr (Pr.ar BinOp.add)) [X.t 81, X.c (Value.int IntKind.i64 1)], I.mk none (some 13) (Ef.pr Pr.mv) [X.t 82]])))))) 
  (IC.seq (IC.ops [I.mk none (some 97) (Ef.pr Pr.mv) [X.t 5], I.mk none (some 98) (Ef.pr Pr.mv) [X.t 1], I.mk none (some 99) (Ef.call 33) [X.t 97, X.t 98, X.c (Value.bool false)]]) 
  (IC.seq (IC.plan (Plan.q (I.mk none (some 100) (Ef.pr Pr.mv) [X.t 5]) (Plan.q (I.mk none (some 102) (Ef.pr (Pr.ld 16 true)) [X.t 11]) (Plan.br (PlanL.cons true false (I.mk none (some 101) (Ef.call 34) [X.t 100]) (Plan.q (I.mk none (some 103) (Ef.pr (Pr.eq false (EqT.ag [(0, EqS.b), (1, EqS.b), (2, EqS.b), (3, EqS.b), (4, EqS.b), (5, EqS.b), (6, EqS.b), (7, EqS.b), (8, EqS.b), (9, EqS.b), (10, EqS.b), (11, EqS.b), (12, EqS.b), (13, EqS.b), (14, EqS.b), (15, EqS.b)]))) [X.t 101, X.t 102]) (Plan.q (I.mk none (some 4) (Ef.pr Pr.mv) [X.t 103]) Plan.done)) PlanL.nil))))) IC.ret)))))))))))))

theorem k8 : Go.Proofs.Try.f8.body.bind (comp Go.Proofs.Try.prog 104 [9, 11] []) = some c8 := by kernel_rfl

theorem r8 : cRVs Go.Proofs.Try.prog Go.Proofs.Try.f8.results.toList = some [RV.t 4] := by kernel_rfl

theorem e8 {args : List Value} {h : Hp} {Q : Value → Hp → Prop} (hl : Nat.ble args.length 104 = true) (hk : codeK PR none c8 (retK Q [RV.t 4]) (fun _ _ _ _ => False) (retK Q [RV.t 4]) (argsE 0 args) [] h) : Ok PR 8 args h Q :=
  Ok.of mixed Go.Proofs.Try.func8 rfl k8 r8 hl hk

end Go.Proofs.Ytljenppmdhldbaa.V
