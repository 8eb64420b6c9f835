/- The functions 52, 91, 92, 93, 94, 96, 97, 98, 99, 100, 105, 110, 111, resolved. -/
import Derived.Test.YtkmknolkblcbeaaVP
namespace Go.Proofs.Ytkmknolkblcbeaa.V
set_option linter.unusedVariables false
set_option linter.unusedSimpArgs false
set_option linter.unusedSectionVars false
open Go
set_option maxRecDepth 100000

def c52 : IC := IC.seq (IC.ops [I.mk none (some 2) (Ef.pr Pr.mv) [X.c (Value.pointer none)]]) 
  (IC.seq (IC.ops [I.mk none (some 5) (Ef.pr Pr.mv) [X.t 0], I.mk none (some 6) (Ef.pr Pr.nilc) [X.t 5], I.mk none (some 7) (Ef.pr (Pr.fa 0)) [X.t 6], I.mk none (some 8) (Ef.pr (Pr.ld 1 false)) [X.t 7], I.mk none (some 9) (Ef.pr Pr.lenS) [X.t 8], I.mk none (some 10) (Ef.call 91) [X.t 9], I.mk none (some 3) (Ef.pr Pr.mv) [X.t 10]]) 
  (IC.seq 
  (IC.seq (IC.ops [I.mk none (some 4) (Ef.pr Pr.mv) [X.c (Value.int IntKind.i64 0)]]) 
  (IC.block 0 
  (IC.loop 
  (IC.seq 
  (IC.seq (IC.ops [I.mk none (some 11) (Ef.pr Pr.mv) [X.t 4], I.mk none (some 12) (Ef.pr Pr.mv) [X.t 0], I.mk none (some 13) (Ef.pr Pr.nilc) [X.t 12], I.mk none (some 14) (Ef.pr (Pr.fa 0)) [X.t 13], I.mk none (some 15) (Ef.pr (Pr.ld 1 false)) [X.t 14], I.mk none (some 16) (Ef.pr Pr.lenS) [X.t 15], I.mk none (some 17) (Ef.pr (Pr.cm BinOp.lss)) [X.t 11, X.t 16]]) 
  (IC.cond (X.t 17) IC.skip (IC.exit 0))) 
  (IC.seq 
  (IC.block 1 
  (IC.seq (IC.plan (Plan.q (I.mk none (some 20) (Ef.pr Pr.mv) [X.t 3]) (Plan.q (I.mk none (some 21) (Ef.pr Pr.nilc) [X.t 20]) (Plan.q (I.mk none (some 22) (Ef.pr (Pr.fa 0)) [X.t 21]) (Plan.q (I.mk none (some 23) (Ef.pr (Pr.ld 1 false)) [X.t 22]) (Plan.q (I.mk none (some 24) (Ef.pr Pr.mv) [X.t 4]) (Plan.q (I.mk none (some 25) (Ef.pr Pr.mv) [X.t 0]) (Plan.q (I.mk none (some 26) (Ef.pr Pr.nilc) [X.t 25]) (Plan.q (I.mk none (some 27) (Ef.pr (Pr.fa 0)) [X.t 26]) (Plan.q (I.mk none (some 28) (Ef.pr (Pr.ld 1 false)) [X.t 27]) (Plan.q (I.mk none (some 29) (Ef.pr Pr.mv) [X.t 4]) (Plan.q (I.mk none (some 30) (Ef.pr (Pr.iaS 1)) [X.t 28, X.t 29]) (Plan.q (I.mk none (some 31) (Ef.pr (Pr.ld 1 false)) [X.t 30]) (Plan.q (I.mk none (some 32) (Ef.pr (Pr.iaS 1)) [X.t 23, X.t 24]) (Plan.br (PlanL.cons false false (I.mk none none (Ef.st 1) [X.t 32, X.t 31]) Plan.done PlanL.nil)))))))))))))))) (IC.plan (Plan.q (I.mk none (some 33) (Ef.pr Pr.mv) [X.t 3]) (Plan.q (I.mk none (some 34) (Ef.pr Pr.nilc) [X.t 33]) (Plan.q (I.mk none (some 35) (Ef.pr (Pr.fa 1)) [X.t 34]) (Plan.q (I.mk none (some 36) (Ef.pr (Pr.ld 1 false)) [X.t 35]) (Plan.q (I.mk none (some 37) (Ef.pr Pr.mv) [X.t 4]) (Plan.q (I.mk none (some 38) (Ef.pr Pr.mv) [X.t 0]) (Plan.q (I.mk none (some 39) (Ef.pr Pr.nilc) [X.t 38]) (Plan.q (I.mk none (some 40) (Ef.pr (Pr.fa 1)) [X.t 39]) (Plan.q (I.mk none (some 41) (Ef.pr (Pr.ld 1 false)) [X.t 40]) (Plan.q (I.mk none (some 42) (Ef.pr Pr.mv) [X.t 4]) (Plan.q (I.mk none (some 43) (Ef.pr (Pr.iaS 1)) [X.t 41, X.t 42]) (Plan.q (I.mk none (some 44) (Ef.pr (Pr.ld 1 false)) [X.t 43]) (Plan.q (I.mk none (some 45) (Ef.pr (Pr.iaS 1)) [X.t 36, X.t 37]) (Plan.br (PlanL.cons false false (I.mk none none (Ef.st 1) [X.t 45, X.t 44]) Plan.done PlanL.nil)))))))))))))))))) (IC.ops [I.mk none (some 18) (Ef.pr Pr.mv) [X.t 4], I.mk none (some 19) (Ef.pr (Pr.ar BinOp.add)) [X.t 18, X.c (Value.int IntKind.i64 1)], I.mk none (some 4) (Ef.pr Pr.mv) [X.t 19]])))))) 
  (IC.seq (IC.ops [I.mk none (some 46) (Ef.pr Pr.mv) [X.t 3], I.mk none (some 2) (Ef.pr Pr.mv) [X.t 46]]) IC.ret)))

theorem k52 : Go.Proofs.Try.f52.body.bind (comp Go.Proofs.Try.prog 47 [] []) = some c52 := by kernel_rfl

theorem r52 : cRVs Go.Proofs.Try.prog Go.Proofs.Try.f52.results.toList = some [RV.t 2] := by kernel_rfl

theorem e52 {args : List Value} {h : Hp} {Q : Value → Hp → Prop} (hl : Nat.ble args.length 47 = true) (hk : codeK PR none c52 (retK Q [RV.t 2]) (fun _ _ _ _ => False) (retK Q [RV.t 2]) (argsE 0 args) [] h) : Ok PR 52 args h Q :=
  Ok.of mixed Go.Proofs.Try.func52 rfl k52 r52 hl hk

def c91 : IC := IC.seq (IC.ops [I.mk none (some 2) (Ef.pr Pr.mv) [X.c (Value.pointer none)]]) 
  (IC.seq (IC.ops [I.mk none (some 4) (Ef.pr Pr.mv) [X.t 0], I.mk none (some 5) (Ef.call 110) [X.t 4], I.mk none (some 3) (Ef.pr Pr.mv) [X.t 5]]) 
  (IC.seq (IC.plan (Plan.q (I.mk none (some 6) (Ef.pr Pr.mv) [X.t 3]) (Plan.q (I.mk none (some 8) (Ef.pr Pr.mv) [X.t 3]) (Plan.br (PlanL.cons false false (I.mk none (some 7) (Ef.mks [Value.bool false] 4 1) [X.t 6, X.t 6]) (Plan.br (PlanL.cons false false (I.mk none (some 9) (Ef.mks [Value.int IntKind.i64 0] 3 8) [X.t 8, X.t 8]) (Plan.q (I.mk none (some 10) (Ef.pr (Pr.bld [Value.slice none 0 0, Value.slice none 0 0] [(0, 1), (1, 1)])) [X.t 7, X.t 9]) (Plan.br (PlanL.cons false false (I.mk none (some 11) (Ef.bxh 138) [X.t 10]) (Plan.q (I.mk none (some 2) (Ef.pr Pr.mv) [X.t 11]) Plan.done) PlanL.nil))) PlanL.nil)) (PlanL.cons false false (I.mk none (some 9) (Ef.mks [Value.int IntKind.i64 0] 3 8) [X.t 8, X.t 8]) (Plan.br (PlanL.cons false false (I.mk none (some 7) (Ef.mks [Value.bool false] 4 1) [X.t 6, X.t 6]) (Plan.q (I.mk none (some 10) (Ef.pr (Pr.bld [Value.slice none 0 0, Value.slice none 0 0] [(0, 1), (1, 1)])) [X.t 7, X.t 9]) (Plan.br (PlanL.cons false false (I.mk none (some 11) (Ef.bxh 138) [X.t 10]) (Plan.q (I.mk none (some 2) (Ef.pr Pr.mv) [X.t 11]) Plan.done) PlanL.nil))) PlanL.nil)) PlanL.nil)))))) IC.ret))

theorem k91 : Go.Proofs.Try.f91.body.bind (comp Go.Proofs.Try.prog 12 [] []) = some c91 := by kernel_rfl

theorem r91 : cRVs Go.Proofs.Try.prog Go.Proofs.Try.f91.results.toList = some [RV.t 2] := by kernel_rfl

theorem e91 {args : List Value} {h : Hp} {Q : Value → Hp → Prop} (hl : Nat.ble args.length 12 = true) (hk : codeK PR none c91 (retK Q [RV.t 2]) (fun _ _ _ _ => False) (retK Q [RV.t 2]) (argsE 0 args) [] h) : Ok PR 91 args h Q :=
  Ok.of mixed Go.Proofs.Try.func91 rfl k91 r91 hl hk

def c92 : IC := IC.seq (IC.ops [I.mk none (some 4) (Ef.pr Pr.mv) [X.c (Value.int IntKind.i64 0)], I.mk none (some 5) (Ef.pr Pr.mv) [X.c (Value.int IntKind.i64 0)]]) 
  (IC.seq 
  (IC.seq (IC.ops [I.mk none (some 6) (Ef.pr Pr.mv) [X.c (Value.int IntKind.i64 0)]]) 
  (IC.block 0 
  (IC.loop 
  (IC.seq 
  (IC.seq (IC.ops [I.mk none (some 7) (Ef.pr Pr.mv) [X.t 6], I.mk none (some 8) (Ef.pr Pr.mv) [X.t 0], I.mk none (some 9) (Ef.pr Pr.nilc) [X.t 8], I.mk none (some 10) (Ef.pr (Pr.fa 0)) [X.t 9], I.mk none (some 11) (Ef.pr (Pr.ld 1 false)) [X.t 10], I.mk none (some 12) (Ef.pr Pr.lenS) [X.t 11], I.mk none (some 13) (Ef.pr (Pr.cm BinOp.lss)) [X.t 7, X.t 12]]) 
  (IC.cond (X.t 13) IC.skip (IC.exit 0))) 
  (IC.seq 
  (IC.block 1 
  (IC.seq (IC.ops [I.mk none (some 16) (Ef.pr Pr.mv) [X.t 0], I.mk none (some 17) (Ef.pr Pr.nilc) [X.t 16], I.mk none (some 18) (Ef.pr (Pr.fa 0)) [X.t 17], I.mk none (some 19) (Ef.pr (Pr.ld 1 false)) [X.t 18], I.mk none (some 20) (Ef.pr Pr.mv) [X.t 6], I.mk none (some 21) (Ef.pr (Pr.iaS 1)) [X.t 19, X.t 20], I.mk none (some 22) (Ef.pr (Pr.ld 1 false)) [X.t 21], I.mk none (some 23) (Ef.pr (Pr.un UnOp.not)) [X.t 22]]) 
  (IC.cond (X.t 23) 
  (IC.seq (IC.ops [I.mk none (some 24) (Ef.pr Pr.mv) [X.t 0], I.mk none (some 25) (Ef.pr Pr.nilc) [X.t 24], I.mk none (some 26) (Ef.pr (Pr.fa 0)) [X.t 25], I.mk none (some 27) (Ef.pr (Pr.ld 1 false)) [X.t 26], I.mk none (some 28) (Ef.pr Pr.mv) [X.t 6], I.mk none (some 29) (Ef.pr (Pr.iaS 1)) [X.t 27, X.t 28], I.mk none none (Ef.st 1) [X.t 29, X.c (Value.bool true)]]) 
  (IC.seq (IC.ops [I.mk none (some 30) (Ef.pr Pr.mv) [X.t 0], I.mk none (some 31) (Ef.pr Pr.nilc) [X.t 30], I.mk none (some 32) (Ef.pr (Pr.fa 1)) [X.t 31], I.mk none (some 33) (Ef.pr (Pr.ld 1 false)) [X.t 32], I.mk none (some 34) (Ef.pr Pr.mv) [X.t 6], I.mk none (some 35) (Ef.pr Pr.mv) [X.t 1], I.mk none (some 36) (Ef.pr (Pr.iaS 1)) [X.t 33, X.t 34], I.mk none none (Ef.st 1) [X.t 36, X.t 35]]) 
  (IC.seq (IC.ops [I.mk none (some 37) (Ef.pr Pr.mv) [X.t 6], I.mk none (some 4) (Ef.pr Pr.mv) [X.t 37], I.mk none (some 5) (Ef.pr Pr.mv) [X.c (Value.int IntKind.i64 0)]]) IC.ret))) IC.skip))) (IC.ops [I.mk none (some 14) (Ef.pr Pr.mv) [X.t 6], I.mk none (some 15) (Ef.pr (Pr.ar BinOp.add)) [X.t 14, X.c (Value.int IntKind.i64 1)], I.mk none (some 6) (Ef.pr Pr.mv) [X.t 15]])))))) 
  (IC.seq (IC.ops [I.mk none (some 4) (Ef.pr Pr.mv) [X.c (Value.int IntKind.i64 (-1))], I.mk none (some 5) (Ef.pr Pr.mv) [X.c (Value.int IntKind.i64 2)]]) IC.ret))

theorem k92 : Go.Proofs.Try.f92.body.bind (comp Go.Proofs.Try.prog 38 [] []) = some c92 := by kernel_rfl

theorem r92 : cRVs Go.Proofs.Try.prog Go.Proofs.Try.f92.results.toList = some [RV.t 4, RV.t 5] := by kernel_rfl

theorem e92 {args : List Value} {h : Hp} {Q : Value → Hp → Prop} (hl : Nat.ble args.length 38 = true) (hk : codeK PR none c92 (retK Q [RV.t 4, RV.t 5]) (fun _ _ _ _ => False) (retK Q [RV.t 4, RV.t 5]) (argsE 0 args) [] h) : Ok PR 92 args h Q :=
  Ok.of mixed Go.Proofs.Try.func92 rfl k92 r92 hl hk

def c93 : IC := IC.seq (IC.ops [I.mk none (some 6) (Ef.pr Pr.mv) [X.c (Value.int IntKind.i64 0)]]) 
  (IC.seq 
  (IC.seq (IC.ops [I.mk none (some 7) (Ef.pr Pr.mv) [X.t 1], I.mk none (some 8) (Ef.pr (Pr.cm BinOp.lss)) [X.t 7, X.c (Value.int IntKind.i64 0)], I.mk none (some 9) (Ef.pr Pr.mv) [X.t 8], I.mk (some (9, false)) (some 10) (Ef.pr Pr.mv) [X.t 1], I.mk (some (9, false)) (some 11) (Ef.pr Pr.mv) [X.t 0], I.mk (some (9, false)) (some 12) (Ef.pr Pr.nilc) [X.t 11], I.mk (some (9, false)) (some 13) (Ef.pr (Pr.fa 0)) [X.t 12], I.mk (some (9, false)) (some 14) (Ef.pr (Pr.ld 1 false)) [X.t 13], I.mk (some (9, false)) (some 15) (Ef.pr Pr.lenS) [X.t 14], I.mk (some (9, false)) (some 16) (Ef.pr (Pr.cm BinOp.geq)) [X.t 10, X.t 15], I.mk none (some 17) (Ef.pr Pr.pick) [X.t 9, X.c (Value.bool true), X.t 16]]) 
  (IC.cond (X.t 17) 
  (IC.seq (IC.ops [I.mk none (some 6) (Ef.pr Pr.mv) [X.c (Value.int IntKind.i64 30)]]) IC.ret) IC.skip)) 
  (IC.seq 
  (IC.seq (IC.ops [I.mk none (some 18) (Ef.pr Pr.mv) [X.t 0], I.mk none (some 19) (Ef.pr Pr.nilc) [X.t 18], I.mk none (some 20) (Ef.pr (Pr.fa 0)) [X.t 19], I.mk none (some 21) (Ef.pr (Pr.ld 1 false)) [X.t 20], I.mk none (some 22) (Ef.pr Pr.mv) [X.t 1], I.mk none (some 23) (Ef.pr (Pr.iaS 1)) [X.t 21, X.t 22], I.mk none (some 24) (Ef.pr (Pr.ld 1 false)) [X.t 23]]) 
  (IC.cond (X.t 24) 
  (IC.seq (IC.ops [I.mk none (some 6) (Ef.pr Pr.mv) [X.c (Value.int IntKind.i64 31)]]) IC.ret) IC.skip)) 
  (IC.seq (IC.ops [I.mk none (some 25) (Ef.pr Pr.mv) [X.t 0], I.mk none (some 26) (Ef.pr Pr.nilc) [X.t 25], I.mk none (some 27) (Ef.pr (Pr.fa 0)) [X.t 26], I.mk none (some 28) (Ef.pr (Pr.ld 1 false)) [X.t 27], I.mk none (some 29) (Ef.pr Pr.mv) [X.t 1], I.mk none (some 30) (Ef.pr (Pr.iaS 1)) [X.t 28, X.t 29], I.mk none none (Ef.st 1) [X.t 30, X.c (Value.bool true)]]) 
  (IC.seq (IC.ops [I.mk none (some 31) (Ef.pr Pr.mv) [X.t 0], I.mk none (some 32) (Ef.pr Pr.nilc) [X.t 31], I.mk none (some 33) (Ef.pr (Pr.fa 1)) [X.t 32], I.mk none (some 34) (Ef.pr (Pr.ld 1 false)) [X.t 33], I.mk none (some 35) (Ef.pr Pr.mv) [X.t 1], I.mk none (some 36) (Ef.pr Pr.mv) [X.t 2], I.mk none (some 37) (Ef.pr (Pr.iaS 1)) [X.t 34, X.t 35], I.mk none none (Ef.st 1) [X.t 37, X.t 36]]) 
  (IC.seq (IC.ops [I.mk none (some 6) (Ef.pr Pr.mv) [X.c (Value.int IntKind.i64 0)]]) IC.ret)))))

theorem k93 : Go.Proofs.Try.f93.body.bind (comp Go.Proofs.Try.prog 38 [] []) = some c93 := by kernel_rfl

theorem r93 : cRVs Go.Proofs.Try.prog Go.Proofs.Try.f93.results.toList = some [RV.t 6] := by kernel_rfl

theorem e93 {args : List Value} {h : Hp} {Q : Value → Hp → Prop} (hl : Nat.ble args.length 38 = true) (hk : codeK PR none c93 (retK Q [RV.t 6]) (fun _ _ _ _ => False) (retK Q [RV.t 6]) (argsE 0 args) [] h) : Ok PR 93 args h Q :=
  Ok.of mixed Go.Proofs.Try.func93 rfl k93 r93 hl hk

def c94 : IC := IC.seq (IC.ops [I.mk none (some 4) (Ef.pr Pr.mv) [X.c (Value.int IntKind.i64 0)], I.mk none (some 5) (Ef.pr Pr.mv) [X.c (Value.bool false)]]) 
  (IC.seq (IC.ops [I.mk none (some 9) (Ef.pr Pr.mv) [X.t 0], I.mk none (some 10) (Ef.pr Pr.mv) [X.t 1], I.mk none (some 11) (Ef.call 97) [X.t 9, X.t 10], I.mk none (some 8) (Ef.pr Pr.mv) [X.t 11], I.mk none (some 12) (Ef.pr (Pr.ext 0)) [X.t 8], I.mk none (some 13) (Ef.pr (Pr.ext 1)) [X.t 8], I.mk none (some 6) (Ef.pr Pr.mv) [X.t 12], I.mk none (some 7) (Ef.pr Pr.mv) [X.t 13]]) 
  (IC.seq 
  (IC.seq (IC.ops [I.mk none (some 14) (Ef.pr Pr.mv) [X.t 7]]) 
  (IC.cond (X.t 14) 
  (IC.seq (IC.ops [I.mk none (some 15) (Ef.pr Pr.mv) [X.t 0], I.mk none (some 16) (Ef.pr Pr.nilc) [X.t 15], I.mk none (some 17) (Ef.pr (Pr.fa 0)) [X.t 16], I.mk none (some 18) (Ef.pr (Pr.ld 1 false)) [X.t 17], I.mk none (some 19) (Ef.pr Pr.mv) [X.t 1], I.mk none (some 20) (Ef.pr (Pr.iaS 1)) [X.t 18, X.t 19], I.mk none none (Ef.st 1) [X.t 20, X.c (Value.bool false)]]) (IC.ops [I.mk none (some 21) (Ef.pr Pr.mv) [X.t 0], I.mk none (some 22) (Ef.pr Pr.nilc) [X.t 21], I.mk none (some 23) (Ef.pr (Pr.fa 1)) [X.t 22], I.mk none (some 24) (Ef.pr (Pr.ld 1 false)) [X.t 23], I.mk none (some 25) (Ef.pr Pr.mv) [X.t 1], I.mk none (some 26) (Ef.pr (Pr.iaS 1)) [X.t 24, X.t 25], I.mk none none (Ef.st 1) [X.t 26, X.c (Value.int IntKind.i64 0)]])) IC.skip)) 
  (IC.seq (IC.ops [I.mk none (some 27) (Ef.pr Pr.mv) [X.t 6], I.mk none (some 28) (Ef.pr Pr.mv) [X.t 7], I.mk none (some 4) (Ef.pr Pr.mv) [X.t 27], I.mk none (some 5) (Ef.pr Pr.mv) [X.t 28]]) IC.ret)))

theorem k94 : Go.Proofs.Try.f94.body.bind (comp Go.Proofs.Try.prog 29 [] []) = some c94 := by kernel_rfl

theorem r94 : cRVs Go.Proofs.Try.prog Go.Proofs.Try.f94.results.toList = some [RV.t 4, RV.t 5] := by kernel_rfl

theorem e94 {args : List Value} {h : Hp} {Q : Value → Hp → Prop} (hl : Nat.ble args.length 29 = true) (hk : codeK PR none c94 (retK Q [RV.t 4, RV.t 5]) (fun _ _ _ _ => False) (retK Q [RV.t 4, RV.t 5]) (argsE 0 args) [] h) : Ok PR 94 args h Q :=
  Ok.of mixed Go.Proofs.Try.func94 rfl k94 r94 hl hk

def c96 : IC := IC.seq (IC.ops [I.mk none (some 4) (Ef.pr Pr.mv) [X.c (Value.int IntKind.i64 0)]]) 
  (IC.seq 
  (IC.seq (IC.ops [I.mk none (some 5) (Ef.pr Pr.mv) [X.t 1], I.mk none (some 6) (Ef.pr (Pr.cm BinOp.lss)) [X.t 5, X.c (Value.int IntKind.i64 0)]]) 
  (IC.cond (X.t 6) (IC.ops [I.mk none (some 1) (Ef.pr Pr.mv) [X.c (Value.int IntKind.i64 0)]]) IC.skip)) 
  (IC.seq 
  (IC.block 0 
  (IC.loop 
  (IC.seq 
  (IC.seq (IC.ops [I.mk none (some 7) (Ef.pr Pr.mv) [X.t 1], I.mk none (some 8) (Ef.pr Pr.mv) [X.t 0], I.mk none (some 9) (Ef.pr Pr.nilc) [X.t 8], I.mk none (some 10) (Ef.pr (Pr.fa 0)) [X.t 9], I.mk none (some 11) (Ef.pr (Pr.ld 1 false)) [X.t 10], I.mk none (some 12) (Ef.pr Pr.lenS) [X.t 11], I.mk none (some 13) (Ef.pr (Pr.cm BinOp.lss)) [X.t 7, X.t 12]]) 
  (IC.cond (X.t 13) IC.skip (IC.exit 0))) 
  (IC.seq 
  (IC.block 1 
  (IC.seq (IC.ops [I.mk none (some 16) (Ef.pr Pr.mv) [X.t 0], I.mk none (some 17) (Ef.pr Pr.nilc) [X.t 16], I.mk none (some 18) (Ef.pr (Pr.fa 0)) [X.t 17], I.mk none (some 19) (Ef.pr (Pr.ld 1 false)) [X.t 18], I.mk none (some 20) (Ef.pr Pr.mv) [X.t 1], I.mk none (some 21) (Ef.pr (Pr.iaS 1)) [X.t 19, X.t 20], I.mk none (some 22) (Ef.pr (Pr.ld 1 false)) [X.t 21]]) 
  (IC.cond (X.t 22) 
  (IC.seq (IC.ops [I.mk none (some 23) (Ef.pr Pr.mv) [X.t 1], I.mk none (some 4) (Ef.pr Pr.mv) [X.t 23]]) IC.ret) IC.skip))) (IC.ops [I.mk none (some 14) (Ef.pr Pr.mv) [X.t 1], I.mk none (some 15) (Ef.pr (Pr.ar BinOp.add)) [X.t 14, X.c (Value.int IntKind.i64 1)], I.mk none (some 1) (Ef.pr Pr.mv) [X.t 15]]))))) 
  (IC.seq (IC.ops [I.mk none (some 4) (Ef.pr Pr.mv) [X.c (Value.int IntKind.i64 (-1))]]) IC.ret)))

theorem k96 : Go.Proofs.Try.f96.body.bind (comp Go.Proofs.Try.prog 24 [] []) = some c96 := by kernel_rfl

theorem r96 : cRVs Go.Proofs.Try.prog Go.Proofs.Try.f96.results.toList = some [RV.t 4] := by kernel_rfl

theorem e96 {args : List Value} {h : Hp} {Q : Value → Hp → Prop} (hl : Nat.ble args.length 24 = true) (hk : codeK PR none c96 (retK Q [RV.t 4]) (fun _ _ _ _ => False) (retK Q [RV.t 4]) (argsE 0 args) [] h) : Ok PR 96 args h Q :=
  Ok.of mixed Go.Proofs.Try.func96 rfl k96 r96 hl hk

def c97 : IC := IC.seq (IC.ops [I.mk none (some 4) (Ef.pr Pr.mv) [X.c (Value.int IntKind.i64 0)], I.mk none (some 5) (Ef.pr Pr.mv) [X.c (Value.bool false)]]) 
  (IC.seq (IC.ops [I.mk none (some 7) (Ef.pr Pr.mv) [X.t 0], I.mk none (some 8) (Ef.pr Pr.mv) [X.t 1], I.mk none (some 9) (Ef.call 111) [X.t 7, X.t 8], I.mk none (some 6) (Ef.pr Pr.mv) [X.t 9]]) 
  (IC.seq 
  (IC.seq (IC.ops [I.mk none (some 10) (Ef.pr Pr.mv) [X.t 6], I.mk none (some 11) (Ef.pr (Pr.un UnOp.not)) [X.t 10]]) 
  (IC.cond (X.t 11) 
  (IC.seq (IC.ops [I.mk none (some 4) (Ef.pr Pr.mv) [X.c (Value.int IntKind.i64 0)], I.mk none (some 5) (Ef.pr Pr.mv) [X.c (Value.bool false)]]) IC.ret) IC.skip)) 
  (IC.seq (IC.ops [I.mk none (some 12) (Ef.pr Pr.mv) [X.t 0], I.mk none (some 13) (Ef.pr Pr.nilc) [X.t 12], I.mk none (some 14) (Ef.pr (Pr.fa 1)) [X.t 13], I.mk none (some 15) (Ef.pr (Pr.ld 1 false)) [X.t 14], I.mk none (some 16) (Ef.pr Pr.mv) [X.t 1], I.mk none (some 17) (Ef.pr (Pr.iaS 1)) [X.t 15, X.t 16], I.mk none (some 18) (Ef.pr (Pr.ld 1 false)) [X.t 17], I.mk none (some 4) (Ef.pr Pr.mv) [X.t 18], I.mk none (some 5) (Ef.pr Pr.mv) [X.c (Value.bool true)]]) IC.ret)))

theorem k97 : Go.Proofs.Try.f97.body.bind (comp Go.Proofs.Try.prog 19 [] []) = some c97 := by kernel_rfl

theorem r97 : cRVs Go.Proofs.Try.prog Go.Proofs.Try.f97.results.toList = some [RV.t 4, RV.t 5] := by kernel_rfl

theorem e97 {args : List Value} {h : Hp} {Q : Value → Hp → Prop} (hl : Nat.ble args.length 19 = true) (hk : codeK PR none c97 (retK Q [RV.t 4, RV.t 5]) (fun _ _ _ _ => False) (retK Q [RV.t 4, RV.t 5]) (argsE 0 args) [] h) : Ok PR 97 args h Q :=
  Ok.of mixed Go.Proofs.Try.func97 rfl k97 r97 hl hk

def c98 : IC := IC.seq (IC.ops [I.mk none (some 6) (Ef.pr Pr.mv) [X.c (Value.bool false)]]) 
  (IC.seq (IC.ops [I.mk none (some 8) (Ef.pr Pr.mv) [X.t 0], I.mk none (some 9) (Ef.pr Pr.mv) [X.t 1], I.mk none (some 10) (Ef.call 111) [X.t 8, X.t 9], I.mk none (some 7) (Ef.pr Pr.mv) [X.t 10]]) 
  (IC.seq 
  (IC.seq (IC.ops [I.mk none (some 11) (Ef.pr Pr.mv) [X.t 7]]) 
  (IC.cond (X.t 11) (IC.ops [I.mk none (some 12) (Ef.pr Pr.mv) [X.t 0], I.mk none (some 13) (Ef.pr Pr.nilc) [X.t 12], I.mk none (some 14) (Ef.pr (Pr.fa 1)) [X.t 13], I.mk none (some 15) (Ef.pr (Pr.ld 1 false)) [X.t 14], I.mk none (some 16) (Ef.pr Pr.mv) [X.t 1], I.mk none (some 17) (Ef.pr Pr.mv) [X.t 2], I.mk none (some 18) (Ef.pr (Pr.iaS 1)) [X.t 15, X.t 16], I.mk none none (Ef.st 1) [X.t 18, X.t 17]]) IC.skip)) 
  (IC.seq (IC.ops [I.mk none (some 19) (Ef.pr Pr.mv) [X.t 7], I.mk none (some 6) (Ef.pr Pr.mv) [X.t 19]]) IC.ret)))

theorem k98 : Go.Proofs.Try.f98.body.bind (comp Go.Proofs.Try.prog 20 [] []) = some c98 := by kernel_rfl

theorem r98 : cRVs Go.Proofs.Try.prog Go.Proofs.Try.f98.results.toList = some [RV.t 6] := by kernel_rfl

theorem e98 {args : List Value} {h : Hp} {Q : Value → Hp → Prop} (hl : Nat.ble args.length 20 = true) (hk : codeK PR none c98 (retK Q [RV.t 6]) (fun _ _ _ _ => False) (retK Q [RV.t 6]) (argsE 0 args) [] h) : Ok PR 98 args h Q :=
  Ok.of mixed Go.Proofs.Try.func98 rfl k98 r98 hl hk

def c99 : IC := IC.seq (IC.ops [I.mk none (some 2) (Ef.pr Pr.mv) [X.c (Value.int IntKind.i64 0)]]) 
  (IC.block 0 
  (IC.loop 
  (IC.seq 
  (IC.seq (IC.ops [I.mk none (some 3) (Ef.pr Pr.mv) [X.t 2], I.mk none (some 4) (Ef.pr Pr.mv) [X.t 0], I.mk none (some 5) (Ef.pr Pr.nilc) [X.t 4], I.mk none (some 6) (Ef.pr (Pr.fa 0)) [X.t 5], I.mk none (some 7) (Ef.pr (Pr.ld 1 false)) [X.t 6], I.mk none (some 8) (Ef.pr Pr.lenS) [X.t 7], I.mk none (some 9) (Ef.pr (Pr.cm BinOp.lss)) [X.t 3, X.t 8]]) 
  (IC.cond (X.t 9) IC.skip (IC.exit 0))) 
  (IC.seq 
  (IC.block 1 
  (IC.seq (IC.ops [I.mk none (some 12) (Ef.pr Pr.mv) [X.t 0], I.mk none (some 13) (Ef.pr Pr.nilc) [X.t 12], I.mk none (some 14) (Ef.pr (Pr.fa 0)) [X.t 13], I.mk none (some 15) (Ef.pr (Pr.ld 1 false)) [X.t 14], I.mk none (some 16) (Ef.pr Pr.mv) [X.t 2], I.mk none (some 17) (Ef.pr (Pr.iaS 1)) [X.t 15, X.t 16], I.mk none none (Ef.st 1) [X.t 17, X.c (Value.bool false)]]) (IC.ops [I.mk none (some 18) (Ef.pr Pr.mv) [X.t 0], I.mk none (some 19) (Ef.pr Pr.nilc) [X.t 18], I.mk none (some 20) (Ef.pr (Pr.fa 1)) [X.t 19], I.mk none (some 21) (Ef.pr (Pr.ld 1 false)) [X.t 20], I.mk none (some 22) (Ef.pr Pr.mv) [X.t 2], I.mk none (some 23) (Ef.pr (Pr.iaS 1)) [X.t 21, X.t 22], I.mk none none (Ef.st 1) [X.t 23, X.c (Value.int IntKind.i64 0)]]))) (IC.ops [I.mk none (some 10) (Ef.pr Pr.mv) [X.t 2], I.mk none (some 11) (Ef.pr (Pr.ar BinOp.add)) [X.t 10, X.c (Value.int IntKind.i64 1)], I.mk none (some 2) (Ef.pr Pr.mv) [X.t 11]])))))

theorem k99 : Go.Proofs.Try.f99.body.bind (comp Go.Proofs.Try.prog 24 [] []) = some c99 := by kernel_rfl

theorem r99 : cRVs Go.Proofs.Try.prog Go.Proofs.Try.f99.results.toList = some [] := by kernel_rfl

theorem e99 {args : List Value} {h : Hp} {Q : Value → Hp → Prop} (hl : Nat.ble args.length 24 = true) (hk : codeK PR none c99 (retK Q []) (fun _ _ _ _ => False) (retK Q []) (argsE 0 args) [] h) : Ok PR 99 args h Q :=
  Ok.of mixed Go.Proofs.Try.func99 rfl k99 r99 hl hk

def c100 : IC := IC.seq (IC.ops [I.mk none (some 2) (Ef.pr Pr.mv) [X.c (Value.int IntKind.i64 0)]]) 
  (IC.seq (IC.ops [I.mk none (some 3) (Ef.pr Pr.mv) [X.c (Value.int IntKind.i64 0)]]) 
  (IC.seq 
  (IC.seq (IC.ops [I.mk none (some 4) (Ef.pr Pr.mv) [X.c (Value.int IntKind.i64 0)]]) 
  (IC.block 0 
  (IC.loop 
  (IC.seq 
  (IC.seq (IC.ops [I.mk none (some 5) (Ef.pr Pr.mv) [X.t 4], I.mk none (some 6) (Ef.pr Pr.mv) [X.t 0], I.mk none (some 7) (Ef.pr Pr.nilc) [X.t 6], I.mk none (some 8) (Ef.pr (Pr.fa 0)) [X.t 7], I.mk none (some 9) (Ef.pr (Pr.ld 1 false)) [X.t 8], I.mk none (some 10) (Ef.pr Pr.lenS) [X.t 9], I.mk none (some 11) (Ef.pr (Pr.cm BinOp.lss)) [X.t 5, X.t 10]]) 
  (IC.cond (X.t 11) IC.skip (IC.exit 0))) 
  (IC.seq 
  (IC.block 1 
  (IC.seq (IC.ops [I.mk none (some 14) (Ef.pr Pr.mv) [X.t 0], I.mk none (some 15) (Ef.pr Pr.nilc) [X.t 14], I.mk none (some 16) (Ef.pr (Pr.fa 0)) [X.t 15], I.mk none (some 17) (Ef.pr (Pr.ld 1 false)) [X.t 16], I.mk none (some 18) (Ef.pr Pr.mv) [X.t 4], I.mk none (some 19) (Ef.pr (Pr.iaS 1)) [X.t 17, X.t 18], I.mk none (some 20) (Ef.pr (Pr.ld 1 false)) [X.t 19]]) 
  (IC.cond (X.t 20) (IC.ops [I.mk none (some 21) (Ef.pr Pr.mv) [X.t 3], I.mk none (some 22) (Ef.pr (Pr.ar BinOp.add)) [X.t 21, X.c (Value.int IntKind.i64 1)], I.mk none (some 3) (Ef.pr Pr.mv) [X.t 22]]) IC.skip))) (IC.ops [I.mk none (some 12) (Ef.pr Pr.mv) [X.t 4], I.mk none (some 13) (Ef.pr (Pr.ar BinOp.add)) [X.t 12, X.c (Value.int IntKind.i64 1)], I.mk none (some 4) (Ef.pr Pr.mv) [X.t 13]])))))) 
  (IC.seq (IC.ops [I.mk none (some 23) (Ef.pr Pr.mv) [X.t 3], I.mk none (some 2) (Ef.pr Pr.mv) [X.t 23]]) IC.ret)))

theorem k100 : Go.Proofs.Try.f100.body.bind (comp Go.Proofs.Try.prog 24 [] []) = some c100 := by kernel_rfl

theorem r100 : cRVs Go.Proofs.Try.prog Go.Proofs.Try.f100.results.toList = some [RV.t 2] := by kernel_rfl

theorem e100 {args : List Value} {h : Hp} {Q : Value → Hp → Prop} (hl : Nat.ble args.length 24 = true) (hk : codeK PR none c100 (retK Q [RV.t 2]) (fun _ _ _ _ => False) (retK Q [RV.t 2]) (argsE 0 args) [] h) : Ok PR 100 args h Q :=
  Ok.of mixed Go.Proofs.Try.func100 rfl k100 r100 hl hk

def c105 : IC := IC.seq (IC.ops [I.mk none (some 4) (Ef.pr Pr.mv) [X.c (Value.int IntKind.i64 0)]]) 
  (IC.seq 
  (IC.seq (IC.ops [I.mk none (some 5) (Ef.pr Pr.mv) [X.c (Value.int IntKind.i64 0)]]) 
  (IC.block 0 
  (IC.loop 
  (IC.seq 
  (IC.seq (IC.ops [I.mk none (some 6) (Ef.pr Pr.mv) [X.t 5], I.mk none (some 7) (Ef.pr Pr.mv) [X.t 0], I.mk none (some 8) (Ef.pr Pr.nilc) [X.t 7], I.mk none (some 9) (Ef.pr (Pr.fa 0)) [X.t 8], I.mk none (some 10) (Ef.pr (Pr.ld 1 false)) [X.t 9], I.mk none (some 11) (Ef.pr Pr.lenS) [X.t 10], I.mk none (some 12) (Ef.pr (Pr.cm BinOp.lss)) [X.t 6, X.t 11]]) 
  (IC.cond (X.t 12) IC.skip (IC.exit 0))) 
  (IC.seq 
  (IC.block 1 
  (IC.seq (IC.ops [I.mk none (some 15) (Ef.pr Pr.mv) [X.t 0], I.mk none (some 16) (Ef.pr Pr.nilc) [X.t 15], I.mk none (some 17) (Ef.pr (Pr.fa 0)) [X.t 16], I.mk none (some 18) (Ef.pr (Pr.ld 1 false)) [X.t 17], I.mk none (some 19) (Ef.pr Pr.mv) [X.t 5], I.mk none (some 20) (Ef.pr (Pr.iaS 1)) [X.t 18, X.t 19], I.mk none (some 21) (Ef.pr (Pr.ld 1 false)) [X.t 20], I.mk none (some 22) (Ef.pr Pr.mv) [X.t 21], I.mk (some (22, true)) (some 23) (Ef.pr Pr.mv) [X.t 0], I.mk (some (22, true)) (some 24) (Ef.pr Pr.nilc) [X.t 23], I.mk (some (22, true)) (some 25) (Ef.pr (Pr.fa 1)) [X.t 24], I.mk (some (22, true)) (some 26) (Ef.pr (Pr.ld 1 false)) [X.t 25], I.mk (some (22, true)) (some 27) (Ef.pr Pr.mv) [X.t 5], I.mk (some (22, true)) (some 28) (Ef.pr (Pr.iaS 1)) [X.t 26, X.t 27], I.mk (some (22, true)) (some 29) (Ef.pr (Pr.ld 1 false)) [X.t 28], I.mk (some (22, true)) (some 30) (Ef.pr Pr.mv) [X.t 1], I.mk (some (22, true)) (some 31) (Ef.pr (Pr.cm BinOp.eql)) [X.t 29, X.t 30], I.mk none (some 32) (Ef.pr Pr.pick) [X.t 22, X.t 31, X.c (Value.bool false)]]) 
  (IC.cond (X.t 32) 
  (IC.seq (IC.ops [I.mk none (some 33) (Ef.pr Pr.mv) [X.t 5], I.mk none (some 4) (Ef.pr Pr.mv) [X.t 33]]) IC.ret) IC.skip))) (IC.ops [I.mk none (some 13) (Ef.pr Pr.mv) [X.t 5], I.mk none (some 14) (Ef.pr (Pr.ar BinOp.add)) [X.t 13, X.c (Value.int IntKind.i64 1)], I.mk none (some 5) (Ef.pr Pr.mv) [X.t 14]])))))) 
  (IC.seq (IC.ops [I.mk none (some 4) (Ef.pr Pr.mv) [X.c (Value.int IntKind.i64 (-1))]]) IC.ret))

theorem k105 : Go.Proofs.Try.f105.body.bind (comp Go.Proofs.Try.prog 34 [] []) = some c105 := by kernel_rfl

theorem r105 : cRVs Go.Proofs.Try.prog Go.Proofs.Try.f105.results.toList = some [RV.t 4] := by kernel_rfl

theorem e105 {args : List Value} {h : Hp} {Q : Value → Hp → Prop} (hl : Nat.ble args.length 34 = true) (hk : codeK PR none c105 (retK Q [RV.t 4]) (fun _ _ _ _ => False) (retK Q [RV.t 4]) (argsE 0 args) [] h) : Ok PR 105 args h Q :=
  Ok.of mixed Go.Proofs.Try.func105 rfl k105 r105 hl hk

def c110 : IC := IC.seq (IC.ops [I.mk none (some 2) (Ef.pr Pr.mv) [X.c (Value.int IntKind.i64 0)]]) 
  (IC.seq 
  (IC.seq (IC.ops [I.mk none (some 3) (Ef.pr Pr.mv) [X.t 0], I.mk none (some 4) (Ef.pr (Pr.cm BinOp.lss)) [X.t 3, X.c (Value.int IntKind.i64 0)]]) 
  (IC.cond (X.t 4) 
  (IC.seq (IC.ops [I.mk none (some 2) (Ef.pr Pr.mv) [X.c (Value.int IntKind.i64 0)]]) IC.ret) IC.skip)) 
  (IC.seq 
  (IC.seq (IC.ops [I.mk none (some 5) (Ef.pr Pr.mv) [X.t 0], I.mk none (some 6) (Ef.pr (Pr.cm BinOp.gtr)) [X.t 5, X.c (Value.int IntKind.i64 4096)]]) 
  (IC.cond (X.t 6) 
  (IC.seq (IC.ops [I.mk none (some 2) (Ef.pr Pr.mv) [X.c (Value.int IntKind.i64 4096)]]) IC.ret) IC.skip)) 
  (IC.seq (IC.ops [I.mk none (some 7) (Ef.pr Pr.mv) [X.t 0], I.mk none (some 2) (Ef.pr Pr.mv) [X.t 7]]) IC.ret)))

theorem k110 : Go.Proofs.Try.f110.body.bind (comp Go.Proofs.Try.prog 8 [] []) = some c110 := by kernel_rfl

theorem r110 : cRVs Go.Proofs.Try.prog Go.Proofs.Try.f110.results.toList = some [RV.t 2] := by kernel_rfl

theorem e110 {args : List Value} {h : Hp} {Q : Value → Hp → Prop} (hl : Nat.ble args.length 8 = true) (hk : codeK PR none c110 (retK Q [RV.t 2]) (fun _ _ _ _ => False) (retK Q [RV.t 2]) (argsE 0 args) [] h) : Ok PR 110 args h Q :=
  Ok.of mixed Go.Proofs.Try.func110 rfl k110 r110 hl hk

def c111 : IC := IC.seq (IC.ops [I.mk none (some 4) (Ef.pr Pr.mv) [X.c (Value.bool false)]]) 
  (IC.seq (IC.ops [I.mk none (some 5) (Ef.pr Pr.mv) [X.t 1], I.mk none (some 6) (Ef.pr (Pr.cm BinOp.geq)) [X.t 5, X.c (Value.int IntKind.i64 0)], I.mk none (some 7) (Ef.pr Pr.mv) [X.t 6], I.mk (some (7, true)) (some 8) (Ef.pr Pr.mv) [X.t 1], I.mk (some (7, true)) (some 9) (Ef.pr Pr.mv) [X.t 0], I.mk (some (7, true)) (some 10) (Ef.pr Pr.nilc) [X.t 9], I.mk (some (7, true)) (some 11) (Ef.pr (Pr.fa 0)) [X.t 10], I.mk (some (7, true)) (some 12) (Ef.pr (Pr.ld 1 false)) [X.t 11], I.mk (some (7, true)) (some 13) (Ef.pr Pr.lenS) [X.t 12], I.mk (some (7, true)) (some 14) (Ef.pr (Pr.cm BinOp.lss)) [X.t 8, X.t 13], I.mk none (some 15) (Ef.pr Pr.pick) [X.t 7, X.t 14, X.c (Value.bool false)], I.mk none (some 16) (Ef.pr Pr.mv) [X.t 15], I.mk (some (16, true)) (some 17) (Ef.pr Pr.mv) [X.t 0], I.mk (some (16, true)) (some 18) (Ef.pr Pr.nilc) [X.t 17], I.mk (some (16, true)) (some 19) (Ef.pr (Pr.fa 0)) [X.t 18], I.mk (some (16, true)) (some 20) (Ef.pr (Pr.ld 1 false)) [X.t 19], I.mk (some (16, true)) (some 21) (Ef.pr Pr.mv) [X.t 1], I.mk (some (16, true)) (some 22) (Ef.pr (Pr.iaS 1)) [X.t 20, X.t 21], I.mk (some (16, true)) (some 23) (Ef.pr (Pr.ld 1 false)) [X.t 22], I.mk none (some 24) (Ef.pr Pr.pick) [X.t 16, X.t 23, X.c (Value.bool false)], I.mk none (some 4) (Ef.pr Pr.mv) [X.t 24]]) IC.ret)

theorem k111 : Go.Proofs.Try.f111.body.bind (comp Go.Proofs.Try.prog 25 [] []) = some c111 := by kernel_rfl

theorem r111 : cRVs Go.Proofs.Try.prog Go.Proofs.Try.f111.results.toList = some [RV.t 4] := by kernel_rfl

theorem e111 {args : List Value} {h : Hp} {Q : Value → Hp → Prop} (hl : Nat.ble args.length 25 = true) (hk : codeK PR none c111 (retK Q [RV.t 4]) (fun _ _ _ _ => False) (retK Q [RV.t 4]) (argsE 0 args) [] h) : Ok PR 111 args h Q :=
  Ok.of mixed Go.Proofs.Try.func111 rfl k111 r111 hl hk

end Go.Proofs.Ytkmknolkblcbeaa.V
