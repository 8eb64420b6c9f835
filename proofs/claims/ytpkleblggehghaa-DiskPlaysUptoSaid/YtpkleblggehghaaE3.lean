/- The functions 11, 43, resolved. -/
import Derived.Test.YtpkleblggehghaaVP
namespace Go.Proofs.Ytpkleblggehghaa.V
set_option linter.unusedVariables false
set_option linter.unusedSimpArgs false
set_option linter.unusedSectionVars false
open Go
set_option maxRecDepth 100000

def c11 : IC := IC.seq (IC.ops [I.mk none (some 2) (Ef.pr Pr.mv) [X.c (Value.pointer none)]]) 
  (IC.seq (IC.ops [I.mk none (some 10) (Ef.pr Pr.mv) [X.t 0], I.mk none (some 11) (Ef.call 43) [X.t 10], I.mk none (some 3) (Ef.pr Pr.mv) [X.t 11]]) 
  (IC.seq 
  (IC.seq (IC.ops [I.mk none (some 12) (Ef.pr Pr.mv) [X.t 3], I.mk none (some 13) (Ef.pr (Pr.eq false (EqT.one EqS.p))) [X.t 12, X.c (Value.pointer none)]]) 
  (IC.cond (X.t 13) 
  (IC.seq (IC.ops [I.mk none (some 2) (Ef.pr Pr.mv) [X.c (Value.pointer none)]]) IC.ret) IC.skip)) 
  (IC.seq (IC.ops [I.mk none (some 14) (Ef.pr Pr.mv) [X.t 3], I.mk none (some 15) (Ef.call 20) [X.t 14, X.c (Value.slice none 0 0)]]) 
  (IC.seq (IC.ops [I.mk none (some 16) (Ef.pr Pr.mv) [X.t 3], I.mk none (some 17) (Ef.call 17) [X.c (Value.int IntKind.u8 90)], I.mk none (some 18) (Ef.call 15) [X.t 16, X.c (Value.int IntKind.i64 1023), X.t 17], I.mk none (some 4) (Ef.pr Pr.mv) [X.t 18]]) 
  (IC.seq (IC.ops [I.mk none (some 20) (Ef.pr Pr.mv) [X.t 3], I.mk none (some 21) (Ef.call 22) [X.t 20, X.c (Value.int IntKind.i64 1023)], I.mk none (some 19) (Ef.pr Pr.mv) [X.t 21], I.mk none (some 22) (Ef.pr (Pr.ext 0)) [X.t 19], I.mk none (some 23) (Ef.pr (Pr.ext 1)) [X.t 19], I.mk none (some 5) (Ef.pr Pr.mv) [X.t 22], I.mk none (some 6) (Ef.pr Pr.mv) [X.t 23]]) 
  (IC.seq 
  (IC.seq (IC.ops [I.mk none (some 24) (Ef.pr Pr.mv) [X.t 4], I.mk none (some 25) (Ef.pr (Pr.cm BinOp.neq)) [X.t 24, X.c (Value.int IntKind.i64 0)], I.mk none (some 26) (Ef.pr Pr.mv) [X.t 25], I.mk (some (26, false)) (some 27) (Ef.pr Pr.mv) [X.t 6], I.mk (some (26, false)) (some 28) (Ef.pr (Pr.cm BinOp.neq)) [X.t 27, X.c (Value.int IntKind.i64 0)], I.mk none (some 29) (Ef.pr Pr.pick) [X.t 26, X.c (Value.bool true), X.t 28], I.mk none (some 30) (Ef.pr Pr.mv) [X.t 29], I.mk (some (30, false)) (some 31) (Ef.pr Pr.mv) [X.t 5], I.mk (some (30, false)) (some 32) (Ef.call 17) [X.c (Value.int IntKind.u8 90)], I.mk (some (30, false)) (some 33) (Ef.call 26) [X.t 31, X.t 32], I.mk (some (30, false)) (some 34) (Ef.pr (Pr.un UnOp.not)) [X.t 33], I.mk none (some 35) (Ef.pr Pr.pick) [X.t 30, X.c (Value.bool true), X.t 34]]) 
  (IC.cond (X.t 35) 
  (IC.seq (IC.ops [I.mk none (some 2) (Ef.pr Pr.mv) [X.c (Value.pointer none)]]) IC.ret) IC.skip)) 
  (IC.seq (IC.ops [I.mk none (some 36) (Ef.pr Pr.mv) [X.t 3], I.mk none (some 37) (Ef.bsl [Value.bool false] 4 1 1 [0]) [X.c (Value.bool true)], I.mk none (some 38) (Ef.call 20) [X.t 36, X.t 37], I.mk none (some 7) (Ef.pr Pr.mv) [X.t 38]]) 
  (IC.seq (IC.ops [I.mk none (some 40) (Ef.pr Pr.mv) [X.t 3], I.mk none (some 41) (Ef.call 25) [X.t 40, X.c (Value.int IntKind.i64 1023)], I.mk none (some 39) (Ef.pr Pr.mv) [X.t 41], I.mk none (some 42) (Ef.pr (Pr.ext 0)) [X.t 39], I.mk none (some 43) (Ef.pr (Pr.ext 1)) [X.t 39], I.mk none (some 8) (Ef.pr Pr.mv) [X.t 42], I.mk none (some 9) (Ef.pr Pr.mv) [X.t 43]]) 
  (IC.seq 
  (IC.seq (IC.ops [I.mk none (some 44) (Ef.pr Pr.mv) [X.t 7], I.mk none (some 45) (Ef.pr (Pr.cm BinOp.neq)) [X.t 44, X.c (Value.int IntKind.i64 1)], I.mk none (some 46) (Ef.pr Pr.mv) [X.t 45], I.mk (some (46, false)) (some 47) (Ef.pr Pr.mv) [X.t 9], I.mk (some (46, false)) (some 48) (Ef.pr (Pr.cm BinOp.neq)) [X.t 47, X.c (Value.int IntKind.i64 0)], I.mk none (some 49) (Ef.pr Pr.pick) [X.t 46, X.c (Value.bool true), X.t 48], I.mk none (some 50) (Ef.pr Pr.mv) [X.t 49], I.mk (some (50, false)) (some 51) (Ef.pr Pr.mv) [X.t 8], I.mk (some (50, false)) (some 52) (Ef.call 17) [X.c (Value.int IntKind.u8 90)], I.mk (some (50, false)) (some 53) (Ef.call 26) [X.t 51, X.t 52], I.mk (some (50, false)) (some 54) (Ef.pr (Pr.un UnOp.not)) [X.t 53], I.mk none (some 55) (Ef.pr Pr.pick) [X.t 50, X.c (Value.bool true), X.t 54]]) 
  (IC.cond (X.t 55) 
  (IC.seq (IC.ops [I.mk none (some 2) (Ef.pr Pr.mv) [X.c (Value.pointer none)]]) IC.ret) IC.skip)) 
  (IC.seq (IC.ops [I.mk none (some 56) (Ef.pr Pr.mv) [X.t 3], I.mk none (some 2) (Ef.pr Pr.mv) [X.t 56]]) IC.ret))))))))))

theorem k11 : Go.Proofs.Try.f11.body.bind (comp Go.Proofs.Try.prog 57 [] []) = some c11 := by kernel_rfl

theorem r11 : cRVs Go.Proofs.Try.prog Go.Proofs.Try.f11.results.toList = some [RV.t 2] := by kernel_rfl

theorem e11 {args : List Value} {h : Hp} {Q : Value → Hp → Prop} (hl : Nat.ble args.length 57 = true) (hk : codeK PR none c11 (retK Q [RV.t 2]) (fun _ _ _ _ => False) (retK Q [RV.t 2]) (argsE 0 args) [] h) : Ok PR 11 args h Q :=
  Ok.of mixed Go.Proofs.Try.func11 rfl k11 r11 hl hk

def c43 : IC := IC.seq (IC.ops [I.mk none (some 2) (Ef.pr Pr.mv) [X.c (Value.pointer none)]]) 
  (IC.seq (IC.ops [I.mk none (some 6) (Ef.call 37) [], I.mk none (some 3) (Ef.pr Pr.mv) [X.t 6]]) 
  (IC.seq 
  (IC.seq (IC.ops [I.mk none (some 7) (Ef.pr Pr.mv) [X.t 3], I.mk none (some 8) (Ef.pr (Pr.eq false (EqT.one EqS.p))) [X.t 7, X.c (Value.pointer none)]]) 
  (IC.cond (X.t 8) 
  (IC.seq (IC.ops [I.mk none (some 2) (Ef.pr Pr.mv) [X.c (Value.pointer none)]]) IC.ret) IC.skip)) 
  (IC.seq 
  (IC.seq (IC.ops [I.mk none (some 4) (Ef.pr Pr.mv) [X.c (Value.int IntKind.i64 0)]]) 
  (IC.block 0 
  (IC.loop 
  (IC.seq 
  (IC.seq (IC.ops [I.mk none (some 9) (Ef.pr Pr.mv) [X.t 4], I.mk none (some 10) (Ef.pr Pr.mv) [X.t 0], I.mk none (some 11) (Ef.pr Pr.lenS) [X.t 10], I.mk none (some 12) (Ef.pr (Pr.cm BinOp.lss)) [X.t 9, X.t 11]]) 
  (IC.cond (X.t 12) IC.skip (IC.exit 0))) 
  (IC.seq 
  (IC.block 1 
  (IC.seq (IC.ops [I.mk none (some 15) (Ef.pr Pr.mv) [X.t 0], I.mk none (some 16) (Ef.pr Pr.mv) [X.t 4], I.mk none (some 17) (Ef.pr (Pr.iaS 7)) [X.t 15, X.t 16], I.mk none (some 18) (Ef.pr (Pr.ld 7 true)) [X.t 17], I.mk none (some 5) (Ef.al [Value.int IntKind.i64 0, Value.bool false, Value.int IntKind.i64 0, Value.int IntKind.i64 0, Value.slice none 0 0, Value.bool false, Value.slice none 0 0]) [], I.mk none none (Ef.st 7) [X.t 5, X.t 18]]) 
  (IC.seq (IC.ops [I.mk none (some 19) (Ef.pr (Pr.fa 0)) [X.t 5], I.mk none (some 20) (Ef.pr (Pr.ld 1 false)) [X.t 19]]) 
  (IC.block 2 
  (IC.seq (IC.ops [I.mk none (some 22) (Ef.pr (Pr.cm BinOp.eql)) [X.t 20, X.c (Value.int IntKind.i64 2)], I.mk none (some 21) (Ef.pr Pr.mv) [X.t 22]]) 
  (IC.cond (X.t 21) (IC.plan (Plan.q (I.mk none (some 23) (Ef.pr Pr.mv) [X.t 3]) (Plan.q (I.mk none (some 24) (Ef.pr (Pr.fa 2)) [X.t 5]) (Plan.q (I.mk none (some 25) (Ef.pr (Pr.ld 1 false)) [X.t 24]) (Plan.q (I.mk none (some 26) (Ef.pr (Pr.ld 7 true)) [X.t 5]) (Plan.br (PlanL.cons true false (I.mk none (some 27) (Ef.call 52) [X.t 26]) (Plan.br (PlanL.cons false false (I.mk none (some 28) (Ef.call 15) [X.t 23, X.t 25, X.t 27]) Plan.done PlanL.nil)) PlanL.nil))))))) 
  (IC.seq (IC.ops [I.mk none (some 30) (Ef.pr (Pr.cm BinOp.eql)) [X.t 20, X.c (Value.int IntKind.i64 3)], I.mk none (some 29) (Ef.pr Pr.mv) [X.t 30]]) 
  (IC.cond (X.t 29) (IC.ops [I.mk none (some 31) (Ef.pr Pr.mv) [X.t 3], I.mk none (some 32) (Ef.call 14) [X.t 31]]) 
  (IC.seq (IC.ops [I.mk none (some 34) (Ef.pr (Pr.cm BinOp.eql)) [X.t 20, X.c (Value.int IntKind.i64 5)], I.mk none (some 33) (Ef.pr Pr.mv) [X.t 34]]) 
  (IC.cond (X.t 33) (IC.ops [I.mk none (some 35) (Ef.pr Pr.mv) [X.t 3], I.mk none (some 36) (Ef.pr (Pr.fa 3)) [X.t 5], I.mk none (some 37) (Ef.pr (Pr.ld 1 false)) [X.t 36], I.mk none (some 38) (Ef.call 12) [X.t 35, X.t 37]]) 
  (IC.seq (IC.ops [I.mk none (some 40) (Ef.pr (Pr.cm BinOp.eql)) [X.t 20, X.c (Value.int IntKind.i64 7)], I.mk none (some 39) (Ef.pr Pr.mv) [X.t 40]]) 
  (IC.cond (X.t 39) (IC.ops [I.mk none (some 41) (Ef.pr Pr.mv) [X.t 3], I.mk none (some 42) (Ef.pr (Pr.fa 6)) [X.t 5], I.mk none (some 43) (Ef.pr (Pr.ld 1 false)) [X.t 42], I.mk none (some 44) (Ef.call 24) [X.t 43], I.mk none (some 45) (Ef.call 20) [X.t 41, X.t 44]]) 
  (IC.seq (IC.ops [I.mk none (some 47) (Ef.pr (Pr.cm BinOp.eql)) [X.t 20, X.c (Value.int IntKind.i64 8)], I.mk none (some 46) (Ef.pr Pr.mv) [X.t 47]]) 
  (IC.cond (X.t 46) (IC.plan (Plan.q (I.mk none (some 48) (Ef.pr Pr.mv) [X.t 3]) (Plan.q (I.mk none (some 49) (Ef.pr (Pr.fa 2)) [X.t 5]) (Plan.q (I.mk none (some 50) (Ef.pr (Pr.ld 1 false)) [X.t 49]) (Plan.q (I.mk none (some 51) (Ef.pr (Pr.fa 3)) [X.t 5]) (Plan.q (I.mk none (some 52) (Ef.pr (Pr.ld 1 false)) [X.t 51]) (Plan.q (I.mk none (some 53) (Ef.pr (Pr.fa 4)) [X.t 5]) (Plan.q (I.mk none (some 54) (Ef.pr (Pr.ld 1 false)) [X.t 53]) (Plan.br (PlanL.cons true false (I.mk none (some 55) (Ef.call 27) [X.t 54]) (Plan.br (PlanL.cons false false (I.mk none (some 56) (Ef.call 28) [X.t 48, X.t 50, X.t 52, X.t 55]) Plan.done PlanL.nil)) PlanL.nil)))))))))) IC.skip)))))))))))))) (IC.ops [I.mk none (some 13) (Ef.pr Pr.mv) [X.t 4], I.mk none (some 14) (Ef.pr (Pr.ar BinOp.add)) [X.t 13, X.c (Value.int IntKind.i64 1)], I.mk none (some 4) (Ef.pr Pr.mv) [X.t 14]])))))) 
  (IC.seq (IC.ops [I.mk none (some 57) (Ef.pr Pr.mv) [X.t 3], I.mk none (some 2) (Ef.pr Pr.mv) [X.t 57]]) IC.ret))))

theorem k43 : Go.Proofs.Try.f43.body.bind (comp Go.Proofs.Try.prog 58 [5] []) = some c43 := by kernel_rfl

theorem r43 : cRVs Go.Proofs.Try.prog Go.Proofs.Try.f43.results.toList = some [RV.t 2] := by kernel_rfl

theorem e43 {args : List Value} {h : Hp} {Q : Value → Hp → Prop} (hl : Nat.ble args.length 58 = true) (hk : codeK PR none c43 (retK Q [RV.t 2]) (fun _ _ _ _ => False) (retK Q [RV.t 2]) (argsE 0 args) [] h) : Ok PR 43 args h Q :=
  Ok.of mixed Go.Proofs.Try.func43 rfl k43 r43 hl hk

end Go.Proofs.Ytpkleblggehghaa.V
