/- The functions 4, 5, 6, 7, 8, 10, 11, 12, 13, 14, 15, 16, 17, 23, 24, 25, 26, 27, 28, 29, 30, 31, resolved. -/
import Derived.Test.YthpkgkoojhgedaaVP
namespace Go.Proofs.Ythpkgkoojhgedaa.V
set_option linter.unusedVariables false
set_option linter.unusedSimpArgs false
set_option linter.unusedSectionVars false
open Go
set_option maxRecDepth 100000

def c4 : IC := IC.seq (IC.ops [I.mk none (some 0) (Ef.pr Pr.mv) [X.c (Value.pointer none)]]) 
  (IC.seq (IC.ops [I.mk none (some 1) (Ef.pr (Pr.bld [Value.pointer none, Value.pointer none, Value.pointer none, Value.pointer none, Value.pointer none, Value.pointer none, Value.pointer none, Value.pointer none, Value.pointer none, Value.pointer none, Value.pointer none, Value.pointer none, Value.pointer none, Value.pointer none, Value.pointer none, Value.pointer none] [])) [], I.mk none (some 2) (Ef.bxh 40) [X.t 1], I.mk none (some 0) (Ef.pr Pr.mv) [X.t 2]]) IC.ret)

theorem k4 : Go.Proofs.Try.f4.body.bind (comp Go.Proofs.Try.prog 3 [] []) = some c4 := by kernel_rfl

theorem r4 : cRVs Go.Proofs.Try.prog Go.Proofs.Try.f4.results.toList = some [RV.t 0] := by kernel_rfl

theorem e4 {args : List Value} {h : Hp} {Q : Value → Hp → Prop} (hl : Nat.ble args.length 3 = true) (hk : codeK PR none c4 (retK Q [RV.t 0]) (fun _ _ _ _ => False) (retK Q [RV.t 0]) (argsE 0 args) [] h) : Ok PR 4 args h Q :=
  Ok.of mixed Go.Proofs.Try.func4 rfl k4 r4 hl hk

def c5 : IC := IC.seq (IC.ops [I.mk none (some 4) (Ef.pr Pr.mv) [X.c (Value.int IntKind.i64 0)]]) 
  (IC.seq 
  (IC.seq (IC.ops [I.mk none (some 5) (Ef.pr Pr.mv) [X.t 1], I.mk none (some 6) (Ef.pr (Pr.cm BinOp.lss)) [X.t 5, X.c (Value.int IntKind.i64 0)], I.mk none (some 7) (Ef.pr Pr.mv) [X.t 6], I.mk (some (7, false)) (some 8) (Ef.pr Pr.mv) [X.t 1], I.mk (some (7, false)) (some 9) (Ef.pr (Pr.cm BinOp.geq)) [X.t 8, X.c (Value.int IntKind.i64 16)], I.mk none (some 10) (Ef.pr Pr.pick) [X.t 7, X.c (Value.bool true), X.t 9], I.mk none (some 11) (Ef.pr Pr.mv) [X.t 10], I.mk (some (11, false)) (some 12) (Ef.pr Pr.mv) [X.t 0], I.mk (some (11, false)) (some 13) (Ef.pr Pr.mv) [X.t 1], I.mk (some (11, false)) (some 14) (Ef.pr Pr.nilc) [X.t 12], I.mk (some (11, false)) (some 15) (Ef.pr (Pr.fa 0)) [X.t 14], I.mk (some (11, false)) (some 16) (Ef.pr (Pr.iaA 16 1)) [X.t 15, X.t 13], I.mk (some (11, false)) (some 17) (Ef.pr (Pr.ld 1 false)) [X.t 16], I.mk (some (11, false)) (some 18) (Ef.pr (Pr.eq true (EqT.one EqS.p))) [X.t 17, X.c (Value.pointer none)], I.mk none (some 19) (Ef.pr Pr.pick) [X.t 11, X.c (Value.bool true), X.t 18]]) 
  (IC.cond (X.t 19) 
  (IC.seq (IC.ops [I.mk none (some 4) (Ef.pr Pr.mv) [X.c (Value.int IntKind.i64 83)]]) IC.ret) IC.skip)) 
  (IC.seq (IC.plan (Plan.q (I.mk none (some 20) (Ef.pr Pr.mv) [X.t 0]) (Plan.q (I.mk none (some 21) (Ef.pr Pr.mv) [X.t 1]) (Plan.q (I.mk none (some 23) (Ef.pr Pr.nilc) [X.t 20]) (Plan.q (I.mk none (some 24) (Ef.pr (Pr.fa 0)) [X.t 23]) (Plan.br (PlanL.cons false false (I.mk none (some 22) (Ef.call 10) [X.c (Value.int IntKind.i64 48)]) (Plan.q (I.mk none (some 25) (Ef.pr (Pr.iaA 16 1)) [X.t 24, X.t 21]) (Plan.br (PlanL.cons false false (I.mk none none (Ef.st 1) [X.t 25, X.t 22]) Plan.done PlanL.nil))) PlanL.nil))))))) 
  (IC.seq (IC.ops [I.mk none (some 4) (Ef.pr Pr.mv) [X.c (Value.int IntKind.i64 0)]]) IC.ret)))

theorem k5 : Go.Proofs.Try.f5.body.bind (comp Go.Proofs.Try.prog 26 [] []) = some c5 := by kernel_rfl

theorem r5 : cRVs Go.Proofs.Try.prog Go.Proofs.Try.f5.results.toList = some [RV.t 4] := by kernel_rfl

theorem e5 {args : List Value} {h : Hp} {Q : Value → Hp → Prop} (hl : Nat.ble args.length 26 = true) (hk : codeK PR none c5 (retK Q [RV.t 4]) (fun _ _ _ _ => False) (retK Q [RV.t 4]) (argsE 0 args) [] h) : Ok PR 5 args h Q :=
  Ok.of mixed Go.Proofs.Try.func5 rfl k5 r5 hl hk

def c6 : IC := IC.seq (IC.ops [I.mk none (some 7) Ef.bx [X.t 3], I.mk none (some 8) (Ef.pr Pr.mv) [X.c (Value.int IntKind.i64 0)], I.mk none (some 9) (Ef.pr Pr.mv) [X.c (Value.int IntKind.i64 0)]]) 
  (IC.seq 
  (IC.seq (IC.ops [I.mk none (some 10) (Ef.pr Pr.mv) [X.t 0], I.mk none (some 11) (Ef.pr Pr.mv) [X.t 1], I.mk none (some 12) (Ef.call 11) [X.t 10, X.t 11], I.mk none (some 13) (Ef.pr (Pr.eq false (EqT.one EqS.p))) [X.t 12, X.c (Value.pointer none)]]) 
  (IC.cond (X.t 13) 
  (IC.seq (IC.ops [I.mk none (some 8) (Ef.pr Pr.mv) [X.c (Value.int IntKind.i64 (-1))], I.mk none (some 9) (Ef.pr Pr.mv) [X.c (Value.int IntKind.i64 83)]]) IC.ret) IC.skip)) 
  (IC.seq 
  (IC.seq (IC.ops [I.mk none (some 14) (Ef.pr Pr.mv) [X.t 2], I.mk none (some 15) (Ef.call 12) [X.t 14], I.mk none (some 16) (Ef.pr (Pr.un UnOp.not)) [X.t 15], I.mk none (some 17) (Ef.pr Pr.mv) [X.t 16], I.mk (some (17, false)) (some 18) (Ef.pr (Pr.fa 0)) [X.t 7], I.mk (some (17, false)) (some 19) (Ef.pr (Pr.ld 1 false)) [X.t 18], I.mk (some (17, false)) (some 20) (Ef.pr (Pr.cm BinOp.lss)) [X.t 19, X.c (Value.int IntKind.i64 1)], I.mk none (some 21) (Ef.pr Pr.pick) [X.t 17, X.c (Value.bool true), X.t 20], I.mk none (some 22) (Ef.pr Pr.mv) [X.t 21], I.mk (some (22, false)) (some 23) (Ef.pr (Pr.fa 0)) [X.t 7], I.mk (some (22, false)) (some 24) (Ef.pr (Pr.ld 1 false)) [X.t 23], I.mk (some (22, false)) (some 25) (Ef.pr (Pr.cm BinOp.gtr)) [X.t 24, X.c (Value.int IntKind.i64 3)], I.mk none (some 26) (Ef.pr Pr.pick) [X.t 22, X.c (Value.bool true), X.t 25], I.mk none (some 27) (Ef.pr Pr.mv) [X.t 26], I.mk (some (27, false)) (some 28) (Ef.pr (Pr.fa 1)) [X.t 7], I.mk (some (27, false)) (some 29) (Ef.pr (Pr.ld 1 false)) [X.t 28], I.mk (some (27, false)) (some 30) (Ef.pr (Pr.cm BinOp.lss)) [X.t 29, X.c (Value.int IntKind.i64 0)], I.mk none (some 31) (Ef.pr Pr.pick) [X.t 27, X.c (Value.bool true), X.t 30], I.mk none (some 32) (Ef.pr Pr.mv) [X.t 31], I.mk (some (32, false)) (some 33) (Ef.pr (Pr.fa 1)) [X.t 7], I.mk (some (32, false)) (some 34) (Ef.pr (Pr.ld 1 false)) [X.t 33], I.mk (some (32, false)) (some 35) (Ef.pr (Pr.cm BinOp.gtr)) [X.t 34, X.c (Value.int IntKind.i64 4611686018427387903)], I.mk none (some 36) (Ef.pr Pr.pick) [X.t 32, X.c (Value.bool true), X.t 35], I.mk none (some 37) (Ef.pr Pr.mv) [X.t 36], I.mk (some (37, false)) (some 38) (Ef.pr (Pr.fa 2)) [X.t 7], I.mk (some (37, false)) (some 39) (Ef.pr (Pr.ld 1 false)) [X.t 38], I.mk (some (37, false)) (some 40) (Ef.pr (Pr.cm BinOp.lss)) [X.t 39, X.c (Value.int IntKind.i64 1)], I.mk none (some 41) (Ef.pr Pr.pick) [X.t 37, X.c (Value.bool true), X.t 40], I.mk none (some 42) (Ef.pr Pr.mv) [X.t 41], I.mk (some (42, false)) (some 43) (Ef.pr (Pr.fa 2)) [X.t 7], I.mk (some (42, false)) (some 44) (Ef.pr (Pr.ld 1 false)) [X.t 43], I.mk (some (42, false)) (some 45) (Ef.pr (Pr.cm BinOp.gtr)) [X.t 44, X.c (Value.int IntKind.i64 4611686018427387903)], I.mk none (some 46) (Ef.pr Pr.pick) [X.t 42, X.c (Value.bool true), X.t 45], I.mk none (some 47) (Ef.pr Pr.mv) [X.t 46], I.mk (some (47, false)) (some 48) (Ef.pr (Pr.fa 3)) [X.t 7], I.mk (some (47, false)) (some 49) (Ef.pr (Pr.ld 1 false)) [X.t 48], I.mk (some (47, false)) (some 50) (Ef.pr (Pr.cm BinOp.lss)) [X.t 49, X.c (Value.int IntKind.i64 0)], I.mk none (some 51) (Ef.pr Pr.pick) [X.t 47, X.c (Value.bool true), X.t 50], I.mk none (some 52) (Ef.pr Pr.mv) [X.t 51], I.mk (some (52, false)) (some 53) (Ef.pr (Pr.fa 3)) [X.t 7], I.mk (some (52, false)) (some 54) (Ef.pr (Pr.ld 1 false)) [X.t 53], I.mk (some (52, false)) (some 55) (Ef.pr (Pr.cm BinOp.gtr)) [X.t 54, X.c (Value.int IntKind.i64 15)], I.mk none (some 56) (Ef.pr Pr.pick) [X.t 52, X.c (Value.bool true), X.t 55]]) 
  (IC.cond (X.t 56) 
  (IC.seq (IC.ops [I.mk none (some 8) (Ef.pr Pr.mv) [X.c (Value.int IntKind.i64 (-1))], I.mk none (some 9) (Ef.pr Pr.mv) [X.c (Value.int IntKind.i64 1)]]) IC.ret) IC.skip)) 
  (IC.seq (IC.ops [I.mk none (some 57) (Ef.pr Pr.mv) [X.t 0], I.mk none (some 58) (Ef.pr (Pr.ld 4 true)) [X.t 7], I.mk none (some 59) (Ef.pr (Pr.bld [Value.int IntKind.i64 0, Value.int IntKind.i64 0, Value.int IntKind.i64 0, Value.int IntKind.i64 0, Value.int IntKind.i64 0, Value.int IntKind.i64 0, Value.pointer none, Value.slice none 0 0] [(2, 4)])) [X.t 58], I.mk none (some 60) (Ef.bxh 49) [X.t 59], I.mk none (some 61) (Ef.pr Pr.mv) [X.t 1], I.mk none (some 62) (Ef.pr Pr.mv) [X.t 2], I.mk none (some 63) (Ef.call 13) [X.t 57, X.t 60, X.t 61, X.t 62], I.mk none (some 64) (Ef.pr (Pr.ext 0)) [X.t 63], I.mk none (some 65) (Ef.pr (Pr.ext 1)) [X.t 63], I.mk none (some 8) (Ef.pr Pr.mv) [X.t 64], I.mk none (some 9) (Ef.pr Pr.mv) [X.t 65]]) IC.ret)))

theorem k6 : Go.Proofs.Try.f6.body.bind (comp Go.Proofs.Try.prog 66 [7] []) = some c6 := by kernel_rfl

theorem r6 : cRVs Go.Proofs.Try.prog Go.Proofs.Try.f6.results.toList = some [RV.t 8, RV.t 9] := by kernel_rfl

theorem e6 {args : List Value} {h : Hp} {Q : Value → Hp → Prop} (hl : Nat.ble args.length 66 = true) (hk : codeK PR none c6 (retK Q [RV.t 8, RV.t 9]) (fun _ _ _ _ => False) (retK Q [RV.t 8, RV.t 9]) (argsE 0 args) [] h) : Ok PR 6 args h Q :=
  Ok.of mixed Go.Proofs.Try.func6 rfl k6 r6 hl hk

def c7 : IC := IC.seq (IC.ops [I.mk none (some 6) (Ef.al [Value.int IntKind.i64 0, Value.int IntKind.i64 0, Value.int IntKind.i64 0, Value.int IntKind.i64 0]) [], I.mk none (some 7) (Ef.pr Pr.mv) [X.c (Value.int IntKind.i64 0)]]) 
  (IC.seq (IC.ops [I.mk none (some 11) (Ef.pr Pr.mv) [X.t 0], I.mk none (some 12) (Ef.pr Pr.mv) [X.t 1], I.mk none (some 13) (Ef.pr Pr.mv) [X.t 2], I.mk none (some 14) (Ef.call 14) [X.t 11, X.t 12, X.t 13], I.mk none (some 10) (Ef.pr Pr.mv) [X.t 14], I.mk none (some 15) (Ef.pr (Pr.ext 0)) [X.t 10], I.mk none (some 16) (Ef.pr (Pr.ext 1)) [X.t 10], I.mk none (some 8) (Ef.pr Pr.mv) [X.t 15], I.mk none (some 9) (Ef.pr Pr.mv) [X.t 16]]) 
  (IC.seq 
  (IC.seq (IC.ops [I.mk none (some 17) (Ef.pr Pr.mv) [X.t 9], I.mk none (some 18) (Ef.pr (Pr.cm BinOp.neq)) [X.t 17, X.c (Value.int IntKind.i64 0)]]) 
  (IC.cond (X.t 18) 
  (IC.seq (IC.ops [I.mk none (some 19) (Ef.pr (Pr.bld [Value.int IntKind.i64 0, Value.int IntKind.i64 0, Value.int IntKind.i64 0, Value.int IntKind.i64 0] [])) [], I.mk none (some 20) (Ef.pr Pr.mv) [X.t 9], I.mk none none (Ef.st 4) [X.t 6, X.t 19], I.mk none (some 7) (Ef.pr Pr.mv) [X.t 20]]) IC.ret) IC.skip)) 
  (IC.seq (IC.ops [I.mk none (some 21) (Ef.pr Pr.mv) [X.t 0], I.mk none (some 22) (Ef.pr Pr.mv) [X.t 8], I.mk none (some 23) (Ef.call 15) [X.t 21, X.t 22]]) 
  (IC.seq (IC.ops [I.mk none (some 24) (Ef.pr Pr.mv) [X.t 8], I.mk none (some 25) (Ef.pr Pr.nilc) [X.t 24], I.mk none (some 26) (Ef.pr (Pr.fa 2)) [X.t 25], I.mk none (some 27) (Ef.pr (Pr.ld 4 true)) [X.t 26], I.mk none none (Ef.st 4) [X.t 6, X.t 27], I.mk none (some 7) (Ef.pr Pr.mv) [X.c (Value.int IntKind.i64 0)]]) IC.ret))))

theorem k7 : Go.Proofs.Try.f7.body.bind (comp Go.Proofs.Try.prog 28 [6] []) = some c7 := by kernel_rfl

theorem r7 : cRVs Go.Proofs.Try.prog Go.Proofs.Try.f7.results.toList = some [RV.c 6 4 true, RV.t 7] := by kernel_rfl

theorem e7 {args : List Value} {h : Hp} {Q : Value → Hp → Prop} (hl : Nat.ble args.length 28 = true) (hk : codeK PR none c7 (retK Q [RV.c 6 4 true, RV.t 7]) (fun _ _ _ _ => False) (retK Q [RV.c 6 4 true, RV.t 7]) (argsE 0 args) [] h) : Ok PR 7 args h Q :=
  Ok.of mixed Go.Proofs.Try.func7 rfl k7 r7 hl hk

def c8 : IC := IC.seq (IC.ops [I.mk none (some 4) (Ef.pr Pr.mv) [X.c (Value.int IntKind.i64 0)]]) 
  (IC.seq (IC.ops [I.mk none (some 6) (Ef.pr Pr.mv) [X.t 0], I.mk none (some 7) (Ef.pr Pr.mv) [X.t 1], I.mk none (some 8) (Ef.call 11) [X.t 6, X.t 7], I.mk none (some 5) (Ef.pr Pr.mv) [X.t 8]]) 
  (IC.seq 
  (IC.seq (IC.ops [I.mk none (some 9) (Ef.pr Pr.mv) [X.t 5], I.mk none (some 10) (Ef.pr (Pr.eq false (EqT.one EqS.p))) [X.t 9, X.c (Value.pointer none)]]) 
  (IC.cond (X.t 10) 
  (IC.seq (IC.ops [I.mk none (some 4) (Ef.pr Pr.mv) [X.c (Value.int IntKind.i64 0)]]) IC.ret) IC.skip)) 
  (IC.seq (IC.ops [I.mk none (some 11) (Ef.pr Pr.mv) [X.t 5], I.mk none (some 12) (Ef.call 16) [X.t 11], I.mk none (some 13) (Ef.pr Pr.mv) [X.t 5], I.mk none (some 14) (Ef.call 17) [X.t 13], I.mk none (some 15) (Ef.pr (Pr.ar BinOp.sub)) [X.t 12, X.t 14], I.mk none (some 4) (Ef.pr Pr.mv) [X.t 15]]) IC.ret)))

theorem k8 : Go.Proofs.Try.f8.body.bind (comp Go.Proofs.Try.prog 16 [] []) = some c8 := by kernel_rfl

theorem r8 : cRVs Go.Proofs.Try.prog Go.Proofs.Try.f8.results.toList = some [RV.t 4] := by kernel_rfl

theorem e8 {args : List Value} {h : Hp} {Q : Value → Hp → Prop} (hl : Nat.ble args.length 16 = true) (hk : codeK PR none c8 (retK Q [RV.t 4]) (fun _ _ _ _ => False) (retK Q [RV.t 4]) (argsE 0 args) [] h) : Ok PR 8 args h Q :=
  Ok.of mixed Go.Proofs.Try.func8 rfl k8 r8 hl hk

def c10 : IC := IC.seq (IC.ops [I.mk none (some 2) (Ef.pr Pr.mv) [X.c (Value.pointer none)]]) 
  (IC.seq (IC.ops [I.mk none (some 3) (Ef.pr Pr.mv) [X.t 0], I.mk none (some 4) (Ef.pr Pr.max2) [X.t 3, X.c (Value.int IntKind.i64 0)], I.mk none (some 5) (Ef.pr Pr.min2) [X.t 4, X.c (Value.int IntKind.i64 4096)], I.mk none (some 6) (Ef.mks [Value.bool false, Value.pointer none] 71 16) [X.t 5, X.t 5], I.mk none (some 7) (Ef.pr (Pr.bld [Value.slice none 0 0, Value.int IntKind.i64 0, Value.int IntKind.i64 0] [(0, 1)])) [X.t 6], I.mk none (some 8) (Ef.bxh 61) [X.t 7], I.mk none (some 2) (Ef.pr Pr.mv) [X.t 8]]) IC.ret)

theorem k10 : Go.Proofs.Try.f10.body.bind (comp Go.Proofs.Try.prog 9 [] []) = some c10 := by kernel_rfl

theorem r10 : cRVs Go.Proofs.Try.prog Go.Proofs.Try.f10.results.toList = some [RV.t 2] := by kernel_rfl

theorem e10 {args : List Value} {h : Hp} {Q : Value → Hp → Prop} (hl : Nat.ble args.length 9 = true) (hk : codeK PR none c10 (retK Q [RV.t 2]) (fun _ _ _ _ => False) (retK Q [RV.t 2]) (argsE 0 args) [] h) : Ok PR 10 args h Q :=
  Ok.of mixed Go.Proofs.Try.func10 rfl k10 r10 hl hk

def c11 : IC := IC.seq (IC.ops [I.mk none (some 4) (Ef.pr Pr.mv) [X.c (Value.pointer none)]]) 
  (IC.seq 
  (IC.seq (IC.ops [I.mk none (some 5) (Ef.pr Pr.mv) [X.t 1], I.mk none (some 6) (Ef.pr (Pr.cm BinOp.lss)) [X.t 5, X.c (Value.int IntKind.i64 0)], I.mk none (some 7) (Ef.pr Pr.mv) [X.t 6], I.mk (some (7, false)) (some 8) (Ef.pr Pr.mv) [X.t 1], I.mk (some (7, false)) (some 9) (Ef.pr (Pr.cm BinOp.geq)) [X.t 8, X.c (Value.int IntKind.i64 16)], I.mk none (some 10) (Ef.pr Pr.pick) [X.t 7, X.c (Value.bool true), X.t 9]]) 
  (IC.cond (X.t 10) 
  (IC.seq (IC.ops [I.mk none (some 4) (Ef.pr Pr.mv) [X.c (Value.pointer none)]]) IC.ret) IC.skip)) 
  (IC.seq (IC.ops [I.mk none (some 11) (Ef.pr Pr.mv) [X.t 0], I.mk none (some 12) (Ef.pr Pr.mv) [X.t 1], I.mk none (some 13) (Ef.pr Pr.nilc) [X.t 11], I.mk none (some 14) (Ef.pr (Pr.fa 0)) [X.t 13], I.mk none (some 15) (Ef.pr (Pr.iaA 16 1)) [X.t 14, X.t 12], I.mk none (some 16) (Ef.pr (Pr.ld 1 false)) [X.t 15], I.mk none (some 4) (Ef.pr Pr.mv) [X.t 16]]) IC.ret))

theorem k11 : Go.Proofs.Try.f11.body.bind (comp Go.Proofs.Try.prog 17 [] []) = some c11 := by kernel_rfl

theorem r11 : cRVs Go.Proofs.Try.prog Go.Proofs.Try.f11.results.toList = some [RV.t 4] := by kernel_rfl

theorem e11 {args : List Value} {h : Hp} {Q : Value → Hp → Prop} (hl : Nat.ble args.length 17 = true) (hk : codeK PR none c11 (retK Q [RV.t 4]) (fun _ _ _ _ => False) (retK Q [RV.t 4]) (argsE 0 args) [] h) : Ok PR 11 args h Q :=
  Ok.of mixed Go.Proofs.Try.func11 rfl k11 r11 hl hk

def c12 : IC := IC.seq (IC.ops [I.mk none (some 2) (Ef.pr Pr.mv) [X.c (Value.bool false)]]) 
  (IC.seq (IC.ops [I.mk none (some 3) (Ef.pr Pr.mv) [X.t 0], I.mk none (some 4) (Ef.pr (Pr.cm BinOp.geq)) [X.t 3, X.c (Value.int IntKind.i64 (-1))], I.mk none (some 5) (Ef.pr Pr.mv) [X.t 4], I.mk (some (5, true)) (some 6) (Ef.pr Pr.mv) [X.t 0], I.mk (some (5, true)) (some 7) (Ef.pr (Pr.cm BinOp.lss)) [X.t 6, X.c (Value.int IntKind.i64 48)], I.mk none (some 8) (Ef.pr Pr.pick) [X.t 5, X.t 7, X.c (Value.bool false)], I.mk none (some 2) (Ef.pr Pr.mv) [X.t 8]]) IC.ret)

theorem k12 : Go.Proofs.Try.f12.body.bind (comp Go.Proofs.Try.prog 9 [] []) = some c12 := by kernel_rfl

theorem r12 : cRVs Go.Proofs.Try.prog Go.Proofs.Try.f12.results.toList = some [RV.t 2] := by kernel_rfl

theorem e12 {args : List Value} {h : Hp} {Q : Value → Hp → Prop} (hl : Nat.ble args.length 9 = true) (hk : codeK PR none c12 (retK Q [RV.t 2]) (fun _ _ _ _ => False) (retK Q [RV.t 2]) (argsE 0 args) [] h) : Ok PR 12 args h Q :=
  Ok.of mixed Go.Proofs.Try.func12 rfl k12 r12 hl hk

def c13 : IC := IC.seq (IC.ops [I.mk none (some 8) (Ef.pr Pr.mv) [X.c (Value.int IntKind.i64 0)], I.mk none (some 9) (Ef.pr Pr.mv) [X.c (Value.int IntKind.i64 0)]]) 
  (IC.seq (IC.ops [I.mk none (some 14) (Ef.pr Pr.mv) [X.t 0], I.mk none (some 15) (Ef.pr Pr.mv) [X.t 2], I.mk none (some 16) (Ef.pr Pr.nilc) [X.t 14], I.mk none (some 17) (Ef.pr (Pr.fa 0)) [X.t 16], I.mk none (some 18) (Ef.pr (Pr.iaA 16 1)) [X.t 17, X.t 15], I.mk none (some 19) (Ef.pr (Pr.ld 1 false)) [X.t 18], I.mk none (some 10) (Ef.pr Pr.mv) [X.t 19]]) 
  (IC.seq 
  (IC.seq (IC.ops [I.mk none (some 20) (Ef.pr Pr.mv) [X.t 3], I.mk none (some 21) (Ef.pr (Pr.cm BinOp.geq)) [X.t 20, X.c (Value.int IntKind.i64 0)]]) 
  (IC.cond (X.t 21) 
  (IC.seq (IC.ops [I.mk none (some 22) (Ef.pr Pr.mv) [X.t 10], I.mk none (some 23) (Ef.pr Pr.mv) [X.t 3], I.mk none (some 24) (Ef.pr Pr.mv) [X.t 1], I.mk none (some 25) (Ef.call 23) [X.t 22, X.t 23, X.t 24], I.mk none (some 11) (Ef.pr Pr.mv) [X.t 25]]) 
  (IC.seq (IC.ops [I.mk none (some 26) (Ef.pr Pr.mv) [X.t 11], I.mk none (some 27) (Ef.pr (Pr.cm BinOp.neq)) [X.t 26, X.c (Value.int IntKind.i64 0)]]) 
  (IC.cond (X.t 27) 
  (IC.seq (IC.ops [I.mk none (some 28) (Ef.pr Pr.mv) [X.t 11], I.mk none (some 8) (Ef.pr Pr.mv) [X.c (Value.int IntKind.i64 (-1))], I.mk none (some 9) (Ef.pr Pr.mv) [X.t 28]]) IC.ret) IC.skip))) 
  (IC.seq (IC.ops [I.mk none (some 30) (Ef.pr Pr.mv) [X.t 10], I.mk none (some 31) (Ef.pr Pr.mv) [X.t 1], I.mk none (some 32) (Ef.call 24) [X.t 30, X.t 31], I.mk none (some 29) (Ef.pr Pr.mv) [X.t 32], I.mk none (some 33) (Ef.pr (Pr.ext 0)) [X.t 29], I.mk none (some 34) (Ef.pr (Pr.ext 1)) [X.t 29], I.mk none (some 12) (Ef.pr Pr.mv) [X.t 33], I.mk none (some 13) (Ef.pr Pr.mv) [X.t 34]]) 
  (IC.seq 
  (IC.seq (IC.ops [I.mk none (some 35) (Ef.pr Pr.mv) [X.t 13], I.mk none (some 36) (Ef.pr (Pr.cm BinOp.neq)) [X.t 35, X.c (Value.int IntKind.i64 0)]]) 
  (IC.cond (X.t 36) 
  (IC.seq (IC.ops [I.mk none (some 37) (Ef.pr Pr.mv) [X.t 13], I.mk none (some 8) (Ef.pr Pr.mv) [X.c (Value.int IntKind.i64 (-1))], I.mk none (some 9) (Ef.pr Pr.mv) [X.t 37]]) IC.ret) IC.skip)) (IC.ops [I.mk none (some 38) (Ef.pr Pr.mv) [X.t 12], I.mk none (some 3) (Ef.pr Pr.mv) [X.t 38]]))))) 
  (IC.seq (IC.ops [I.mk none (some 39) (Ef.pr Pr.mv) [X.t 1], I.mk none (some 40) (Ef.pr Pr.mv) [X.t 2], I.mk none (some 41) (Ef.pr Pr.mv) [X.t 3], I.mk none (some 42) (Ef.pr (Pr.bld [Value.int IntKind.i64 0, Value.int IntKind.i64 0] [(0, 1), (1, 1)])) [X.t 40, X.t 41], I.mk none (some 43) (Ef.pr Pr.nilc) [X.t 39], I.mk none (some 44) (Ef.pr (Pr.fa 0)) [X.t 43], I.mk none none (Ef.st 2) [X.t 44, X.t 42]]) 
  (IC.seq (IC.ops [I.mk none (some 45) (Ef.pr Pr.mv) [X.t 3], I.mk none (some 8) (Ef.pr Pr.mv) [X.t 45], I.mk none (some 9) (Ef.pr Pr.mv) [X.c (Value.int IntKind.i64 0)]]) IC.ret))))

theorem k13 : Go.Proofs.Try.f13.body.bind (comp Go.Proofs.Try.prog 46 [] []) = some c13 := by kernel_rfl

theorem r13 : cRVs Go.Proofs.Try.prog Go.Proofs.Try.f13.results.toList = some [RV.t 8, RV.t 9] := by kernel_rfl

theorem e13 {args : List Value} {h : Hp} {Q : Value → Hp → Prop} (hl : Nat.ble args.length 46 = true) (hk : codeK PR none c13 (retK Q [RV.t 8, RV.t 9]) (fun _ _ _ _ => False) (retK Q [RV.t 8, RV.t 9]) (argsE 0 args) [] h) : Ok PR 13 args h Q :=
  Ok.of mixed Go.Proofs.Try.func13 rfl k13 r13 hl hk

def c14 : IC := IC.seq (IC.ops [I.mk none (some 6) (Ef.pr Pr.mv) [X.c (Value.pointer none)], I.mk none (some 7) (Ef.pr Pr.mv) [X.c (Value.int IntKind.i64 0)]]) 
  (IC.seq (IC.ops [I.mk none (some 11) (Ef.pr Pr.mv) [X.t 0], I.mk none (some 12) (Ef.pr Pr.mv) [X.t 1], I.mk none (some 13) (Ef.call 11) [X.t 11, X.t 12], I.mk none (some 8) (Ef.pr Pr.mv) [X.t 13]]) 
  (IC.seq 
  (IC.seq (IC.ops [I.mk none (some 14) (Ef.pr Pr.mv) [X.t 8], I.mk none (some 15) (Ef.pr (Pr.eq false (EqT.one EqS.p))) [X.t 14, X.c (Value.pointer none)]]) 
  (IC.cond (X.t 15) 
  (IC.seq (IC.ops [I.mk none (some 6) (Ef.pr Pr.mv) [X.c (Value.pointer none)], I.mk none (some 7) (Ef.pr Pr.mv) [X.c (Value.int IntKind.i64 83)]]) IC.ret) IC.skip)) 
  (IC.seq (IC.ops [I.mk none (some 17) (Ef.pr Pr.mv) [X.t 8], I.mk none (some 18) (Ef.pr Pr.mv) [X.t 2], I.mk none (some 19) (Ef.call 25) [X.t 17, X.t 18], I.mk none (some 16) (Ef.pr Pr.mv) [X.t 19], I.mk none (some 20) (Ef.pr (Pr.ext 0)) [X.t 16], I.mk none (some 21) (Ef.pr (Pr.ext 1)) [X.t 16], I.mk none (some 9) (Ef.pr Pr.mv) [X.t 20], I.mk none (some 10) (Ef.pr Pr.mv) [X.t 21]]) 
  (IC.seq 
  (IC.seq (IC.ops [I.mk none (some 22) (Ef.pr Pr.mv) [X.t 10], I.mk none (some 23) (Ef.pr (Pr.un UnOp.not)) [X.t 22]]) 
  (IC.cond (X.t 23) 
  (IC.seq (IC.ops [I.mk none (some 6) (Ef.pr Pr.mv) [X.c (Value.pointer none)], I.mk none (some 7) (Ef.pr Pr.mv) [X.c (Value.int IntKind.i64 80)]]) IC.ret) IC.skip)) 
  (IC.seq (IC.ops [I.mk none (some 24) (Ef.pr Pr.mv) [X.t 9], I.mk none (some 6) (Ef.pr Pr.mv) [X.t 24], I.mk none (some 7) (Ef.pr Pr.mv) [X.c (Value.int IntKind.i64 0)]]) IC.ret)))))

theorem k14 : Go.Proofs.Try.f14.body.bind (comp Go.Proofs.Try.prog 25 [] []) = some c14 := by kernel_rfl

theorem r14 : cRVs Go.Proofs.Try.prog Go.Proofs.Try.f14.results.toList = some [RV.t 6, RV.t 7] := by kernel_rfl

theorem e14 {args : List Value} {h : Hp} {Q : Value → Hp → Prop} (hl : Nat.ble args.length 25 = true) (hk : codeK PR none c14 (retK Q [RV.t 6, RV.t 7]) (fun _ _ _ _ => False) (retK Q [RV.t 6, RV.t 7]) (argsE 0 args) [] h) : Ok PR 14 args h Q :=
  Ok.of mixed Go.Proofs.Try.func14 rfl k14 r14 hl hk

def c15 : IC := IC.seq (IC.plan (Plan.q (I.mk none (some 10) (Ef.pr Pr.mv) [X.t 0]) (Plan.q (I.mk none (some 11) (Ef.pr Pr.mv) [X.t 1]) (Plan.q (I.mk none (some 12) (Ef.pr Pr.nilc) [X.t 11]) (Plan.q (I.mk none (some 13) (Ef.pr (Pr.fa 0)) [X.t 12]) (Plan.q (I.mk none (some 14) (Ef.pr (Pr.fa 0)) [X.t 13]) (Plan.q (I.mk none (some 15) (Ef.pr (Pr.ld 1 false)) [X.t 14]) (Plan.q (I.mk none (some 16) (Ef.pr Pr.nilc) [X.t 10]) (Plan.q (I.mk none (some 17) (Ef.pr (Pr.fa 0)) [X.t 16]) (Plan.q (I.mk none (some 18) (Ef.pr (Pr.iaA 16 1)) [X.t 17, X.t 15]) (Plan.q (I.mk none (some 19) (Ef.pr (Pr.ld 1 false)) [X.t 18]) (Plan.q (I.mk none (some 20) (Ef.pr Pr.mv) [X.t 1]) (Plan.q (I.mk none (some 21) (Ef.pr Pr.nilc) [X.t 20]) (Plan.q (I.mk none (some 22) (Ef.pr (Pr.fa 0)) [X.t 21]) (Plan.q (I.mk none (some 23) (Ef.pr (Pr.fa 1)) [X.t 22]) (Plan.q (I.mk none (some 24) (Ef.pr (Pr.ld 1 false)) [X.t 23]) (Plan.br (PlanL.cons false false (I.mk none (some 25) (Ef.call 26) [X.t 19, X.t 24]) Plan.done PlanL.nil)))))))))))))))))) 
  (IC.seq 
  (IC.seq (IC.ops [I.mk none (some 26) (Ef.pr Pr.mv) [X.t 1], I.mk none (some 27) (Ef.pr Pr.nilc) [X.t 26], I.mk none (some 28) (Ef.pr (Pr.fa 7)) [X.t 27], I.mk none (some 29) (Ef.pr (Pr.ld 1 false)) [X.t 28], I.mk none (some 30) (Ef.pr Pr.lenS) [X.t 29], I.mk none (some 31) (Ef.pr Pr.mv) [X.c (Value.int IntKind.i64 0)]]) 
  (IC.block 0 
  (IC.loop 
  (IC.seq (IC.ops [I.mk none (some 32) (Ef.pr (Pr.cm BinOp.lss)) [X.t 31, X.t 30]]) 
  (IC.seq 
  (IC.cond (X.t 32) IC.skip (IC.exit 0)) 
  (IC.seq 
  (IC.block 1 
  (IC.seq (IC.ops [I.mk none (some 33) (Ef.pr (Pr.iaS 1)) [X.t 29, X.t 31], I.mk none (some 34) (Ef.pr (Pr.ld 1 false)) [X.t 33], I.mk none (some 5) (Ef.pr Pr.mv) [X.t 34]]) (IC.ops [I.mk none (some 35) (Ef.pr Pr.mv) [X.t 5], I.mk none (some 36) (Ef.pr Pr.mv) [X.t 1], I.mk none (some 37) (Ef.pr Pr.nilc) [X.t 36], I.mk none (some 38) (Ef.pr (Pr.fa 6)) [X.t 37], I.mk none (some 39) (Ef.pr (Pr.ld 1 false)) [X.t 38], I.mk none (some 40) (Ef.pr Pr.nilc) [X.t 35], I.mk none (some 41) (Ef.pr (Pr.fa 6)) [X.t 40], I.mk none none (Ef.st 1) [X.t 41, X.t 39]]))) (IC.ops [I.mk none (some 42) (Ef.pr (Pr.ar BinOp.add)) [X.t 31, X.c (Value.int IntKind.i64 1)], I.mk none (some 31) (Ef.pr Pr.mv) [X.t 42]]))))))) 
  (IC.seq 
  (IC.seq (IC.ops [I.mk none (some 43) (Ef.pr Pr.mv) [X.t 1], I.mk none (some 44) (Ef.pr Pr.nilc) [X.t 43], I.mk none (some 45) (Ef.pr (Pr.fa 6)) [X.t 44], I.mk none (some 46) (Ef.pr (Pr.ld 1 false)) [X.t 45], I.mk none (some 6) (Ef.pr Pr.mv) [X.t 46]]) 
  (IC.seq (IC.ops [I.mk none (some 47) (Ef.pr Pr.mv) [X.t 6], I.mk none (some 48) (Ef.pr (Pr.eq true (EqT.one EqS.p))) [X.t 47, X.c (Value.pointer none)]]) 
  (IC.cond (X.t 48) 
  (IC.seq (IC.ops [I.mk none (some 7) (Ef.pr Pr.mv) [X.c (Value.slice none 0 0)]]) 
  (IC.seq 
  (IC.seq (IC.ops [I.mk none (some 49) (Ef.pr Pr.mv) [X.t 6], I.mk none (some 50) (Ef.pr Pr.nilc) [X.t 49], I.mk none (some 51) (Ef.pr (Pr.fa 7)) [X.t 50], I.mk none (some 52) (Ef.pr (Pr.ld 1 false)) [X.t 51], I.mk none (some 53) (Ef.pr Pr.lenS) [X.t 52], I.mk none (some 54) (Ef.pr Pr.mv) [X.c (Value.int IntKind.i64 0)]]) 
  (IC.block 2 
  (IC.loop 
  (IC.seq (IC.ops [I.mk none (some 55) (Ef.pr (Pr.cm BinOp.lss)) [X.t 54, X.t 53]]) 
  (IC.seq 
  (IC.cond (X.t 55) IC.skip (IC.exit 2)) 
  (IC.seq 
  (IC.block 3 
  (IC.seq (IC.ops [I.mk none (some 56) (Ef.pr (Pr.iaS 1)) [X.t 52, X.t 54], I.mk none (some 57) (Ef.pr (Pr.ld 1 false)) [X.t 56], I.mk none (some 9) (Ef.pr Pr.mv) [X.t 57]]) 
  (IC.seq (IC.ops [I.mk none (some 58) (Ef.pr Pr.mv) [X.t 9], I.mk none (some 59) (Ef.pr Pr.mv) [X.t 1], I.mk none (some 60) (Ef.pr (Pr.eq true (EqT.one EqS.p))) [X.t 58, X.t 59]]) 
  (IC.cond (X.t 60) (IC.ops [I.mk none (some 61) (Ef.pr Pr.mv) [X.t 7], I.mk none (some 62) (Ef.pr Pr.mv) [X.t 9], I.mk none (some 63) (Ef.bsl [Value.pointer none] 42 1 1 [0]) [X.t 62], I.mk none (some 64) (Ef.app [Value.pointer none] 42 8) [X.t 61, X.t 63], I.mk none (some 7) (Ef.pr Pr.mv) [X.t 64]]) IC.skip)))) (IC.ops [I.mk none (some 65) (Ef.pr (Pr.ar BinOp.add)) [X.t 54, X.c (Value.int IntKind.i64 1)], I.mk none (some 54) (Ef.pr Pr.mv) [X.t 65]]))))))) (IC.ops [I.mk none (some 66) (Ef.pr Pr.mv) [X.t 6], I.mk none (some 67) (Ef.pr Pr.mv) [X.t 7], I.mk none (some 68) (Ef.pr Pr.mv) [X.t 1], I.mk none (some 69) (Ef.pr Pr.nilc) [X.t 68], I.mk none (some 70) (Ef.pr (Pr.fa 7)) [X.t 69], I.mk none (some 71) (Ef.pr (Pr.ld 1 false)) [X.t 70], I.mk none (some 72) (Ef.app [Value.pointer none] 42 8) [X.t 67, X.t 71], I.mk none (some 73) (Ef.pr Pr.nilc) [X.t 66], I.mk none (some 74) (Ef.pr (Pr.fa 7)) [X.t 73], I.mk none none (Ef.st 1) [X.t 74, X.t 72]]))) IC.skip))) (IC.ops [I.mk none (some 75) (Ef.pr Pr.mv) [X.t 1], I.mk none (some 76) (Ef.pr Pr.nilc) [X.t 75], I.mk none (some 77) (Ef.pr (Pr.fa 7)) [X.t 76], I.mk none none (Ef.st 1) [X.t 77, X.c (Value.slice none 0 0)]])))

theorem k15 : Go.Proofs.Try.f15.body.bind (comp Go.Proofs.Try.prog 78 [] []) = some c15 := by kernel_rfl

theorem r15 : cRVs Go.Proofs.Try.prog Go.Proofs.Try.f15.results.toList = some [] := by kernel_rfl

theorem e15 {args : List Value} {h : Hp} {Q : Value → Hp → Prop} (hl : Nat.ble args.length 78 = true) (hk : codeK PR none c15 (retK Q []) (fun _ _ _ _ => False) (retK Q []) (argsE 0 args) [] h) : Ok PR 15 args h Q :=
  Ok.of mixed Go.Proofs.Try.func15 rfl k15 r15 hl hk

def c16 : IC := IC.seq (IC.ops [I.mk none (some 2) (Ef.pr Pr.mv) [X.c (Value.int IntKind.i64 0)]]) 
  (IC.seq (IC.ops [I.mk none (some 3) (Ef.pr Pr.mv) [X.t 0], I.mk none (some 4) (Ef.pr Pr.nilc) [X.t 3], I.mk none (some 5) (Ef.pr (Pr.fa 0)) [X.t 4], I.mk none (some 6) (Ef.pr (Pr.ld 1 false)) [X.t 5], I.mk none (some 7) (Ef.pr Pr.lenS) [X.t 6], I.mk none (some 2) (Ef.pr Pr.mv) [X.t 7]]) IC.ret)

theorem k16 : Go.Proofs.Try.f16.body.bind (comp Go.Proofs.Try.prog 8 [] []) = some c16 := by kernel_rfl

theorem r16 : cRVs Go.Proofs.Try.prog Go.Proofs.Try.f16.results.toList = some [RV.t 2] := by kernel_rfl

theorem e16 {args : List Value} {h : Hp} {Q : Value → Hp → Prop} (hl : Nat.ble args.length 8 = true) (hk : codeK PR none c16 (retK Q [RV.t 2]) (fun _ _ _ _ => False) (retK Q [RV.t 2]) (argsE 0 args) [] h) : Ok PR 16 args h Q :=
  Ok.of mixed Go.Proofs.Try.func16 rfl k16 r16 hl hk

def c17 : IC := IC.seq (IC.ops [I.mk none (some 2) (Ef.pr Pr.mv) [X.c (Value.int IntKind.i64 0)]]) 
  (IC.seq (IC.ops [I.mk none (some 3) (Ef.pr Pr.mv) [X.t 0], I.mk none (some 4) (Ef.pr Pr.nilc) [X.t 3], I.mk none (some 5) (Ef.pr (Pr.fa 1)) [X.t 4], I.mk none (some 6) (Ef.pr (Pr.ld 1 false)) [X.t 5], I.mk none (some 2) (Ef.pr Pr.mv) [X.t 6]]) IC.ret)

theorem k17 : Go.Proofs.Try.f17.body.bind (comp Go.Proofs.Try.prog 7 [] []) = some c17 := by kernel_rfl

theorem r17 : cRVs Go.Proofs.Try.prog Go.Proofs.Try.f17.results.toList = some [RV.t 2] := by kernel_rfl

theorem e17 {args : List Value} {h : Hp} {Q : Value → Hp → Prop} (hl : Nat.ble args.length 7 = true) (hk : codeK PR none c17 (retK Q [RV.t 2]) (fun _ _ _ _ => False) (retK Q [RV.t 2]) (argsE 0 args) [] h) : Ok PR 17 args h Q :=
  Ok.of mixed Go.Proofs.Try.func17 rfl k17 r17 hl hk

def c23 : IC := IC.seq (IC.ops [I.mk none (some 6) (Ef.pr Pr.mv) [X.c (Value.int IntKind.i64 0)]]) 
  (IC.seq 
  (IC.seq (IC.ops [I.mk none (some 7) (Ef.pr Pr.mv) [X.t 1], I.mk none (some 8) (Ef.pr (Pr.cm BinOp.lss)) [X.t 7, X.c (Value.int IntKind.i64 0)], I.mk none (some 9) (Ef.pr Pr.mv) [X.t 8], I.mk (some (9, false)) (some 10) (Ef.pr Pr.mv) [X.t 1], I.mk (some (9, false)) (some 11) (Ef.pr Pr.mv) [X.t 0], I.mk (some (9, false)) (some 12) (Ef.pr Pr.nilc) [X.t 11], I.mk (some (9, false)) (some 13) (Ef.pr (Pr.fa 0)) [X.t 12], I.mk (some (9, false)) (some 14) (Ef.pr (Pr.ld 1 false)) [X.t 13], I.mk (some (9, false)) (some 15) (Ef.pr Pr.lenS) [X.t 14], I.mk (some (9, false)) (some 16) (Ef.pr (Pr.cm BinOp.geq)) [X.t 10, X.t 15], I.mk none (some 17) (Ef.pr Pr.pick) [X.t 9, X.c (Value.bool true), X.t 16]]) 
  (IC.cond (X.t 17) 
  (IC.seq (IC.ops [I.mk none (some 6) (Ef.pr Pr.mv) [X.c (Value.int IntKind.i64 30)]]) IC.ret) IC.skip)) 
  (IC.seq 
  (IC.seq (IC.ops [I.mk none (some 18) (Ef.pr Pr.mv) [X.t 0], I.mk none (some 19) (Ef.pr Pr.nilc) [X.t 18], I.mk none (some 20) (Ef.pr (Pr.fa 0)) [X.t 19], I.mk none (some 21) (Ef.pr (Pr.ld 1 false)) [X.t 20], I.mk none (some 22) (Ef.pr Pr.mv) [X.t 1], I.mk none (some 23) (Ef.pr (Pr.iaS 2)) [X.t 21, X.t 22], I.mk none (some 24) (Ef.pr (Pr.fa 0)) [X.t 23], I.mk none (some 25) (Ef.pr (Pr.ld 1 false)) [X.t 24]]) 
  (IC.cond (X.t 25) 
  (IC.seq (IC.ops [I.mk none (some 6) (Ef.pr Pr.mv) [X.c (Value.int IntKind.i64 31)]]) IC.ret) IC.skip)) 
  (IC.seq (IC.ops [I.mk none (some 26) (Ef.pr Pr.mv) [X.t 0], I.mk none (some 27) (Ef.pr Pr.mv) [X.t 1], I.mk none (some 28) (Ef.pr Pr.mv) [X.t 2], I.mk none (some 29) (Ef.call 28) [X.t 26, X.t 27, X.t 28]]) 
  (IC.seq (IC.ops [I.mk none (some 6) (Ef.pr Pr.mv) [X.c (Value.int IntKind.i64 0)]]) IC.ret))))

theorem k23 : Go.Proofs.Try.f23.body.bind (comp Go.Proofs.Try.prog 30 [] []) = some c23 := by kernel_rfl

theorem r23 : cRVs Go.Proofs.Try.prog Go.Proofs.Try.f23.results.toList = some [RV.t 6] := by kernel_rfl

theorem e23 {args : List Value} {h : Hp} {Q : Value → Hp → Prop} (hl : Nat.ble args.length 30 = true) (hk : codeK PR none c23 (retK Q [RV.t 6]) (fun _ _ _ _ => False) (retK Q [RV.t 6]) (argsE 0 args) [] h) : Ok PR 23 args h Q :=
  Ok.of mixed Go.Proofs.Try.func23 rfl k23 r23 hl hk

def c24 : IC := IC.seq (IC.ops [I.mk none (some 4) (Ef.pr Pr.mv) [X.c (Value.int IntKind.i64 0)], I.mk none (some 5) (Ef.pr Pr.mv) [X.c (Value.int IntKind.i64 0)]]) 
  (IC.seq 
  (IC.block 0 
  (IC.loop 
  (IC.seq 
  (IC.seq (IC.plan (Plan.q (I.mk none (some 7) (Ef.pr Pr.mv) [X.t 0]) (Plan.q (I.mk none (some 8) (Ef.pr Pr.nilc) [X.t 7]) (Plan.q (I.mk none (some 9) (Ef.pr (Pr.fa 2)) [X.t 8]) (Plan.q (I.mk none (some 10) (Ef.pr (Pr.ld 1 false)) [X.t 9]) (Plan.q (I.mk none (some 11) (Ef.pr Pr.mv) [X.t 0]) (Plan.q (I.mk none (some 12) (Ef.pr Pr.nilc) [X.t 11]) (Plan.q (I.mk none (some 13) (Ef.pr (Pr.fa 0)) [X.t 12]) (Plan.q (I.mk none (some 14) (Ef.pr (Pr.ld 1 false)) [X.t 13]) (Plan.q (I.mk none (some 15) (Ef.pr Pr.lenS) [X.t 14]) (Plan.q (I.mk none (some 16) (Ef.pr (Pr.cm BinOp.lss)) [X.t 10, X.t 15]) (Plan.q (I.mk none (some 17) (Ef.pr Pr.mv) [X.t 16]) (Plan.q (I.mk (some (17, true)) (some 18) (Ef.pr Pr.mv) [X.t 0]) (Plan.q (I.mk (some (17, true)) (some 19) (Ef.pr Pr.nilc) [X.t 18]) (Plan.q (I.mk (some (17, true)) (some 20) (Ef.pr (Pr.fa 0)) [X.t 19]) (Plan.q (I.mk (some (17, true)) (some 21) (Ef.pr (Pr.ld 1 false)) [X.t 20]) (Plan.q (I.mk (some (17, true)) (some 22) (Ef.pr Pr.mv) [X.t 0]) (Plan.q (I.mk (some (17, true)) (some 23) (Ef.pr Pr.nilc) [X.t 22]) (Plan.q (I.mk (some (17, true)) (some 24) (Ef.pr (Pr.fa 2)) [X.t 23]) (Plan.q (I.mk (some (17, true)) (some 25) (Ef.pr (Pr.ld 1 false)) [X.t 24]) (Plan.q (I.mk (some (17, true)) (some 26) (Ef.pr (Pr.iaS 2)) [X.t 21, X.t 25]) (Plan.q (I.mk (some (17, true)) (some 27) (Ef.pr (Pr.fa 0)) [X.t 26]) (Plan.q (I.mk (some (17, true)) (some 28) (Ef.pr (Pr.ld 1 false)) [X.t 27]) (Plan.q (I.mk none (some 29) (Ef.pr Pr.pick) [X.t 17, X.t 28, X.c (Value.bool false)]) Plan.done)))))))))))))))))))))))) 
  (IC.cond (X.t 29) IC.skip (IC.exit 0))) 
  (IC.block 1 (IC.ops [I.mk none (some 30) (Ef.pr Pr.mv) [X.t 0], I.mk none (some 31) (Ef.pr Pr.nilc) [X.t 30], I.mk none (some 32) (Ef.pr (Pr.fa 2)) [X.t 31], I.mk none (some 33) (Ef.pr (Pr.ld 1 false)) [X.t 32], I.mk none (some 34) (Ef.pr (Pr.ar BinOp.add)) [X.t 33, X.c (Value.int IntKind.i64 1)], I.mk none (some 35) (Ef.pr Pr.nilc) [X.t 30], I.mk none (some 36) (Ef.pr (Pr.fa 2)) [X.t 35], I.mk none none (Ef.st 1) [X.t 36, X.t 34]]))))) 
  (IC.seq 
  (IC.seq (IC.plan (Plan.q (I.mk none (some 37) (Ef.pr Pr.mv) [X.t 0]) (Plan.q (I.mk none (some 38) (Ef.pr Pr.nilc) [X.t 37]) (Plan.q (I.mk none (some 39) (Ef.pr (Pr.fa 2)) [X.t 38]) (Plan.q (I.mk none (some 40) (Ef.pr (Pr.ld 1 false)) [X.t 39]) (Plan.q (I.mk none (some 41) (Ef.pr Pr.mv) [X.t 0]) (Plan.q (I.mk none (some 42) (Ef.pr Pr.nilc) [X.t 41]) (Plan.q (I.mk none (some 43) (Ef.pr (Pr.fa 0)) [X.t 42]) (Plan.q (I.mk none (some 44) (Ef.pr (Pr.ld 1 false)) [X.t 43]) (Plan.q (I.mk none (some 45) (Ef.pr Pr.lenS) [X.t 44]) (Plan.q (I.mk none (some 46) (Ef.pr (Pr.cm BinOp.eql)) [X.t 40, X.t 45]) Plan.done))))))))))) 
  (IC.cond (X.t 46) 
  (IC.seq (IC.ops [I.mk none (some 4) (Ef.pr Pr.mv) [X.c (Value.int IntKind.i64 (-1))], I.mk none (some 5) (Ef.pr Pr.mv) [X.c (Value.int IntKind.i64 2)]]) IC.ret) IC.skip)) 
  (IC.seq (IC.ops [I.mk none (some 47) (Ef.pr Pr.mv) [X.t 0], I.mk none (some 48) (Ef.pr Pr.nilc) [X.t 47], I.mk none (some 49) (Ef.pr (Pr.fa 2)) [X.t 48], I.mk none (some 50) (Ef.pr (Pr.ld 1 false)) [X.t 49], I.mk none (some 6) (Ef.pr Pr.mv) [X.t 50]]) 
  (IC.seq (IC.ops [I.mk none (some 51) (Ef.pr Pr.mv) [X.t 0], I.mk none (some 52) (Ef.pr Pr.mv) [X.t 6], I.mk none (some 53) (Ef.pr Pr.mv) [X.t 1], I.mk none (some 54) (Ef.call 28) [X.t 51, X.t 52, X.t 53]]) 
  (IC.seq (IC.ops [I.mk none (some 55) (Ef.pr Pr.mv) [X.t 6], I.mk none (some 4) (Ef.pr Pr.mv) [X.t 55], I.mk none (some 5) (Ef.pr Pr.mv) [X.c (Value.int IntKind.i64 0)]]) IC.ret)))))

theorem k24 : Go.Proofs.Try.f24.body.bind (comp Go.Proofs.Try.prog 56 [] []) = some c24 := by kernel_rfl

theorem r24 : cRVs Go.Proofs.Try.prog Go.Proofs.Try.f24.results.toList = some [RV.t 4, RV.t 5] := by kernel_rfl

theorem e24 {args : List Value} {h : Hp} {Q : Value → Hp → Prop} (hl : Nat.ble args.length 56 = true) (hk : codeK PR none c24 (retK Q [RV.t 4, RV.t 5]) (fun _ _ _ _ => False) (retK Q [RV.t 4, RV.t 5]) (argsE 0 args) [] h) : Ok PR 24 args h Q :=
  Ok.of mixed Go.Proofs.Try.func24 rfl k24 r24 hl hk

def c25 : IC := IC.seq (IC.ops [I.mk none (some 4) (Ef.pr Pr.mv) [X.c (Value.pointer none)], I.mk none (some 5) (Ef.pr Pr.mv) [X.c (Value.bool false)]]) 
  (IC.seq 
  (IC.seq (IC.ops [I.mk none (some 7) (Ef.pr Pr.mv) [X.t 0], I.mk none (some 8) (Ef.pr Pr.mv) [X.t 1], I.mk none (some 9) (Ef.call 29) [X.t 7, X.t 8], I.mk none (some 10) (Ef.pr (Pr.un UnOp.not)) [X.t 9]]) 
  (IC.cond (X.t 10) 
  (IC.seq (IC.ops [I.mk none (some 6) (Ef.pr Pr.mv) [X.c (Value.pointer none)]]) 
  (IC.seq (IC.ops [I.mk none (some 11) (Ef.pr Pr.mv) [X.t 6], I.mk none (some 4) (Ef.pr Pr.mv) [X.t 11], I.mk none (some 5) (Ef.pr Pr.mv) [X.c (Value.bool false)]]) IC.ret)) IC.skip)) 
  (IC.seq (IC.ops [I.mk none (some 12) (Ef.pr Pr.mv) [X.t 0], I.mk none (some 13) (Ef.pr Pr.nilc) [X.t 12], I.mk none (some 14) (Ef.pr (Pr.fa 0)) [X.t 13], I.mk none (some 15) (Ef.pr (Pr.ld 1 false)) [X.t 14], I.mk none (some 16) (Ef.pr Pr.mv) [X.t 1], I.mk none (some 17) (Ef.pr (Pr.iaS 2)) [X.t 15, X.t 16], I.mk none (some 18) (Ef.pr (Pr.fa 1)) [X.t 17], I.mk none (some 19) (Ef.pr (Pr.ld 1 false)) [X.t 18], I.mk none (some 4) (Ef.pr Pr.mv) [X.t 19], I.mk none (some 5) (Ef.pr Pr.mv) [X.c (Value.bool true)]]) IC.ret))

theorem k25 : Go.Proofs.Try.f25.body.bind (comp Go.Proofs.Try.prog 20 [] []) = some c25 := by kernel_rfl

theorem r25 : cRVs Go.Proofs.Try.prog Go.Proofs.Try.f25.results.toList = some [RV.t 4, RV.t 5] := by kernel_rfl

theorem e25 {args : List Value} {h : Hp} {Q : Value → Hp → Prop} (hl : Nat.ble args.length 20 = true) (hk : codeK PR none c25 (retK Q [RV.t 4, RV.t 5]) (fun _ _ _ _ => False) (retK Q [RV.t 4, RV.t 5]) (argsE 0 args) [] h) : Ok PR 25 args h Q :=
  Ok.of mixed Go.Proofs.Try.func25 rfl k25 r25 hl hk

def c26 : IC := IC.seq (IC.ops [I.mk none (some 4) (Ef.pr Pr.mv) [X.c (Value.pointer none)], I.mk none (some 5) (Ef.pr Pr.mv) [X.c (Value.bool false)]]) 
  (IC.seq (IC.ops [I.mk none (some 6) (Ef.pr Pr.mv) [X.c (Value.pointer none)]]) 
  (IC.seq 
  (IC.seq (IC.ops [I.mk none (some 8) (Ef.pr Pr.mv) [X.t 0], I.mk none (some 9) (Ef.pr Pr.mv) [X.t 1], I.mk none (some 10) (Ef.call 29) [X.t 8, X.t 9], I.mk none (some 11) (Ef.pr (Pr.un UnOp.not)) [X.t 10]]) 
  (IC.cond (X.t 11) 
  (IC.seq (IC.ops [I.mk none (some 12) (Ef.pr Pr.mv) [X.t 6], I.mk none (some 4) (Ef.pr Pr.mv) [X.t 12], I.mk none (some 5) (Ef.pr Pr.mv) [X.c (Value.bool false)]]) IC.ret) IC.skip)) 
  (IC.seq (IC.ops [I.mk none (some 13) (Ef.pr Pr.mv) [X.t 0], I.mk none (some 14) (Ef.pr Pr.nilc) [X.t 13], I.mk none (some 15) (Ef.pr (Pr.fa 0)) [X.t 14], I.mk none (some 16) (Ef.pr (Pr.ld 1 false)) [X.t 15], I.mk none (some 17) (Ef.pr Pr.mv) [X.t 1], I.mk none (some 18) (Ef.pr (Pr.iaS 2)) [X.t 16, X.t 17], I.mk none (some 19) (Ef.pr (Pr.fa 1)) [X.t 18], I.mk none (some 20) (Ef.pr (Pr.ld 1 false)) [X.t 19], I.mk none (some 7) (Ef.pr Pr.mv) [X.t 20]]) 
  (IC.seq (IC.ops [I.mk none (some 21) (Ef.pr Pr.mv) [X.t 0], I.mk none (some 22) (Ef.pr Pr.nilc) [X.t 21], I.mk none (some 23) (Ef.pr (Pr.fa 0)) [X.t 22], I.mk none (some 24) (Ef.pr (Pr.ld 1 false)) [X.t 23], I.mk none (some 25) (Ef.pr Pr.mv) [X.t 1], I.mk none (some 26) (Ef.pr (Pr.bld [Value.bool false, Value.pointer none] [])) [], I.mk none (some 27) (Ef.pr (Pr.iaS 2)) [X.t 24, X.t 25], I.mk none none (Ef.st 2) [X.t 27, X.t 26]]) 
  (IC.seq (IC.ops [I.mk none (some 28) (Ef.pr Pr.mv) [X.t 0], I.mk none (some 29) (Ef.pr Pr.nilc) [X.t 28], I.mk none (some 30) (Ef.pr (Pr.fa 1)) [X.t 29], I.mk none (some 31) (Ef.pr (Pr.ld 1 false)) [X.t 30], I.mk none (some 32) (Ef.pr (Pr.ar BinOp.sub)) [X.t 31, X.c (Value.int IntKind.i64 1)], I.mk none (some 33) (Ef.pr Pr.nilc) [X.t 28], I.mk none (some 34) (Ef.pr (Pr.fa 1)) [X.t 33], I.mk none none (Ef.st 1) [X.t 34, X.t 32]]) 
  (IC.seq (IC.ops [I.mk none (some 35) (Ef.pr Pr.mv) [X.t 0], I.mk none (some 36) (Ef.pr Pr.mv) [X.t 0], I.mk none (some 37) (Ef.pr Pr.nilc) [X.t 36], I.mk none (some 38) (Ef.pr (Pr.fa 2)) [X.t 37], I.mk none (some 39) (Ef.pr (Pr.ld 1 false)) [X.t 38], I.mk none (some 40) (Ef.pr Pr.mv) [X.t 1], I.mk none (some 41) (Ef.pr Pr.min2) [X.t 39, X.t 40], I.mk none (some 42) (Ef.pr Pr.nilc) [X.t 35], I.mk none (some 43) (Ef.pr (Pr.fa 2)) [X.t 42], I.mk none none (Ef.st 1) [X.t 43, X.t 41]]) 
  (IC.seq (IC.ops [I.mk none (some 44) (Ef.pr Pr.mv) [X.t 7], I.mk none (some 4) (Ef.pr Pr.mv) [X.t 44], I.mk none (some 5) (Ef.pr Pr.mv) [X.c (Value.bool true)]]) IC.ret)))))))

theorem k26 : Go.Proofs.Try.f26.body.bind (comp Go.Proofs.Try.prog 45 [] []) = some c26 := by kernel_rfl

theorem r26 : cRVs Go.Proofs.Try.prog Go.Proofs.Try.f26.results.toList = some [RV.t 4, RV.t 5] := by kernel_rfl

theorem e26 {args : List Value} {h : Hp} {Q : Value → Hp → Prop} (hl : Nat.ble args.length 45 = true) (hk : codeK PR none c26 (retK Q [RV.t 4, RV.t 5]) (fun _ _ _ _ => False) (retK Q [RV.t 4, RV.t 5]) (argsE 0 args) [] h) : Ok PR 26 args h Q :=
  Ok.of mixed Go.Proofs.Try.func26 rfl k26 r26 hl hk

def c27 : IC := IC.seq (IC.ops [I.mk none (some 1) (Ef.bxh 37) [X.t 0], I.mk none (some 2) (Ef.pr Pr.mv) [X.c Value.nilFunc]]) 
  (IC.seq (IC.ops [I.mk none (some 3) (Ef.pr (Pr.mkf (Fn.func 30) 0)) [X.t 1], I.mk none (some 2) (Ef.pr Pr.mv) [X.t 3]]) IC.ret)

theorem k27 : Go.Proofs.Try.f27.body.bind (comp Go.Proofs.Try.prog 4 [] []) = some c27 := by kernel_rfl

theorem r27 : cRVs Go.Proofs.Try.prog Go.Proofs.Try.f27.results.toList = some [RV.t 2] := by kernel_rfl

theorem e27 {args : List Value} {h : Hp} {Q : Value → Hp → Prop} (hl : Nat.ble args.length 4 = true) (hk : codeK PR none c27 (retK Q [RV.t 2]) (fun _ _ _ _ => False) (retK Q [RV.t 2]) (argsE 0 args) [] h) : Ok PR 27 args h Q :=
  Ok.of mixed Go.Proofs.Try.func27 rfl k27 r27 hl hk

def c28 : IC := IC.seq (IC.ops [I.mk none (some 6) (Ef.pr Pr.mv) [X.t 0], I.mk none (some 7) (Ef.pr Pr.nilc) [X.t 6], I.mk none (some 8) (Ef.pr (Pr.fa 0)) [X.t 7], I.mk none (some 9) (Ef.pr (Pr.ld 1 false)) [X.t 8], I.mk none (some 10) (Ef.pr Pr.mv) [X.t 1], I.mk none (some 11) (Ef.pr Pr.mv) [X.t 2], I.mk none (some 12) (Ef.pr (Pr.bld [Value.bool false, Value.pointer none] [(0, 1), (1, 1)])) [X.c (Value.bool true), X.t 11], I.mk none (some 13) (Ef.pr (Pr.iaS 2)) [X.t 9, X.t 10], I.mk none none (Ef.st 2) [X.t 13, X.t 12]]) (IC.ops [I.mk none (some 14) (Ef.pr Pr.mv) [X.t 0], I.mk none (some 15) (Ef.pr Pr.nilc) [X.t 14], I.mk none (some 16) (Ef.pr (Pr.fa 1)) [X.t 15], I.mk none (some 17) (Ef.pr (Pr.ld 1 false)) [X.t 16], I.mk none (some 18) (Ef.pr (Pr.ar BinOp.add)) [X.t 17, X.c (Value.int IntKind.i64 1)], I.mk none (some 19) (Ef.pr Pr.nilc) [X.t 14], I.mk none (some 20) (Ef.pr (Pr.fa 1)) [X.t 19], I.mk none none (Ef.st 1) [X.t 20, X.t 18]])

theorem k28 : Go.Proofs.Try.f28.body.bind (comp Go.Proofs.Try.prog 21 [] []) = some c28 := by kernel_rfl

theorem r28 : cRVs Go.Proofs.Try.prog Go.Proofs.Try.f28.results.toList = some [] := by kernel_rfl

theorem e28 {args : List Value} {h : Hp} {Q : Value → Hp → Prop} (hl : Nat.ble args.length 21 = true) (hk : codeK PR none c28 (retK Q []) (fun _ _ _ _ => False) (retK Q []) (argsE 0 args) [] h) : Ok PR 28 args h Q :=
  Ok.of mixed Go.Proofs.Try.func28 rfl k28 r28 hl hk

def c29 : IC := IC.seq (IC.ops [I.mk none (some 4) (Ef.pr Pr.mv) [X.c (Value.bool false)]]) 
  (IC.seq (IC.ops [I.mk none (some 5) (Ef.pr Pr.mv) [X.t 1], I.mk none (some 6) (Ef.pr (Pr.cm BinOp.geq)) [X.t 5, X.c (Value.int IntKind.i64 0)], I.mk none (some 7) (Ef.pr Pr.mv) [X.t 6], I.mk (some (7, true)) (some 8) (Ef.pr Pr.mv) [X.t 1], I.mk (some (7, true)) (some 9) (Ef.pr Pr.mv) [X.t 0], I.mk (some (7, true)) (some 10) (Ef.pr Pr.nilc) [X.t 9], I.mk (some (7, true)) (some 11) (Ef.pr (Pr.fa 0)) [X.t 10], I.mk (some (7, true)) (some 12) (Ef.pr (Pr.ld 1 false)) [X.t 11], I.mk (some (7, true)) (some 13) (Ef.pr Pr.lenS) [X.t 12], I.mk (some (7, true)) (some 14) (Ef.pr (Pr.cm BinOp.lss)) [X.t 8, X.t 13], I.mk none (some 15) (Ef.pr Pr.pick) [X.t 7, X.t 14, X.c (Value.bool false)], I.mk none (some 16) (Ef.pr Pr.mv) [X.t 15], I.mk (some (16, true)) (some 17) (Ef.pr Pr.mv) [X.t 0], I.mk (some (16, true)) (some 18) (Ef.pr Pr.nilc) [X.t 17], I.mk (some (16, true)) (some 19) (Ef.pr (Pr.fa 0)) [X.t 18], I.mk (some (16, true)) (some 20) (Ef.pr (Pr.ld 1 false)) [X.t 19], I.mk (some (16, true)) (some 21) (Ef.pr Pr.mv) [X.t 1], I.mk (some (16, true)) (some 22) (Ef.pr (Pr.iaS 2)) [X.t 20, X.t 21], I.mk (some (16, true)) (some 23) (Ef.pr (Pr.fa 0)) [X.t 22], I.mk (some (16, true)) (some 24) (Ef.pr (Pr.ld 1 false)) [X.t 23], I.mk none (some 25) (Ef.pr Pr.pick) [X.t 16, X.t 24, X.c (Value.bool false)], I.mk none (some 4) (Ef.pr Pr.mv) [X.t 25]]) IC.ret)

theorem k29 : Go.Proofs.Try.f29.body.bind (comp Go.Proofs.Try.prog 26 [] []) = some c29 := by kernel_rfl

theorem r29 : cRVs Go.Proofs.Try.prog Go.Proofs.Try.f29.results.toList = some [RV.t 4] := by kernel_rfl

theorem e29 {args : List Value} {h : Hp} {Q : Value → Hp → Prop} (hl : Nat.ble args.length 26 = true) (hk : codeK PR none c29 (retK Q [RV.t 4]) (fun _ _ _ _ => False) (retK Q [RV.t 4]) (argsE 0 args) [] h) : Ok PR 29 args h Q :=
  Ok.of mixed Go.Proofs.Try.func29 rfl k29 r29 hl hk

def c30 : IC := IC.seq (IC.ops [I.mk none (some 4) (Ef.pr (Pr.ld 1 false)) [X.t 1], I.mk none (some 5) (Ef.call 31) [X.t 4, X.c (Value.int IntKind.i64 0)], I.mk none (some 3) (Ef.pr Pr.mv) [X.t 5]]) 
  (IC.block 0 
  (IC.loop 
  (IC.seq 
  (IC.seq (IC.ops [I.mk none (some 6) (Ef.pr Pr.mv) [X.t 3], I.mk none (some 7) (Ef.pr (Pr.cm BinOp.geq)) [X.t 6, X.c (Value.int IntKind.i64 0)]]) 
  (IC.cond (X.t 7) IC.skip (IC.exit 0))) 
  (IC.seq 
  (IC.block 1 
  (IC.seq (IC.ops [I.mk none (some 12) (Ef.pr Pr.mv) [X.t 0], I.mk none (some 13) (Ef.pr Pr.mv) [X.t 3], I.mk none (some 14) (Ef.pr (Pr.ld 1 false)) [X.t 1], I.mk none (some 15) (Ef.pr Pr.nilc) [X.t 14], I.mk none (some 16) (Ef.pr (Pr.fa 0)) [X.t 15], I.mk none (some 17) (Ef.pr (Pr.ld 1 false)) [X.t 16], I.mk none (some 18) (Ef.pr Pr.mv) [X.t 3], I.mk none (some 19) (Ef.pr (Pr.iaS 2)) [X.t 17, X.t 18], I.mk none (some 20) (Ef.pr (Pr.fa 1)) [X.t 19], I.mk none (some 21) (Ef.pr (Pr.ld 1 false)) [X.t 20], I.mk none (some 22) Ef.callv [X.t 12, X.t 13, X.t 21], I.mk none (some 23) (Ef.pr (Pr.un UnOp.not)) [X.t 22]]) 
  (IC.cond (X.t 23) IC.ret IC.skip))) (IC.ops [I.mk none (some 8) (Ef.pr (Pr.ld 1 false)) [X.t 1], I.mk none (some 9) (Ef.pr Pr.mv) [X.t 3], I.mk none (some 10) (Ef.pr (Pr.ar BinOp.add)) [X.t 9, X.c (Value.int IntKind.i64 1)], I.mk none (some 11) (Ef.call 31) [X.t 8, X.t 10], I.mk none (some 3) (Ef.pr Pr.mv) [X.t 11]])))))

theorem k30 : Go.Proofs.Try.f30.body.bind (comp Go.Proofs.Try.prog 24 [] []) = some c30 := by kernel_rfl

theorem r30 : cRVs Go.Proofs.Try.prog Go.Proofs.Try.f30.results.toList = some [] := by kernel_rfl

theorem e30 {args : List Value} {h : Hp} {Q : Value → Hp → Prop} (hl : Nat.ble args.length 24 = true) (hk : codeK PR none c30 (retK Q []) (fun _ _ _ _ => False) (retK Q []) (argsE 0 args) [] h) : Ok PR 30 args h Q :=
  Ok.of mixed Go.Proofs.Try.func30 rfl k30 r30 hl hk

def c31 : IC := IC.seq (IC.ops [I.mk none (some 4) (Ef.pr Pr.mv) [X.c (Value.int IntKind.i64 0)]]) 
  (IC.seq 
  (IC.seq (IC.ops [I.mk none (some 6) (Ef.pr Pr.mv) [X.t 1], I.mk none (some 7) (Ef.pr Pr.max2) [X.t 6, X.c (Value.int IntKind.i64 0)], I.mk none (some 5) (Ef.pr Pr.mv) [X.t 7]]) 
  (IC.block 0 
  (IC.loop 
  (IC.seq 
  (IC.seq (IC.ops [I.mk none (some 8) (Ef.pr Pr.mv) [X.t 5], I.mk none (some 9) (Ef.pr Pr.mv) [X.t 0], I.mk none (some 10) (Ef.pr Pr.nilc) [X.t 9], I.mk none (some 11) (Ef.pr (Pr.fa 0)) [X.t 10], I.mk none (some 12) (Ef.pr (Pr.ld 1 false)) [X.t 11], I.mk none (some 13) (Ef.pr Pr.lenS) [X.t 12], I.mk none (some 14) (Ef.pr (Pr.cm BinOp.lss)) [X.t 8, X.t 13]]) 
  (IC.cond (X.t 14) IC.skip (IC.exit 0))) 
  (IC.seq 
  (IC.block 1 
  (IC.seq (IC.ops [I.mk none (some 17) (Ef.pr Pr.mv) [X.t 0], I.mk none (some 18) (Ef.pr Pr.nilc) [X.t 17], I.mk none (some 19) (Ef.pr (Pr.fa 0)) [X.t 18], I.mk none (some 20) (Ef.pr (Pr.ld 1 false)) [X.t 19], I.mk none (some 21) (Ef.pr Pr.mv) [X.t 5], I.mk none (some 22) (Ef.pr (Pr.iaS 2)) [X.t 20, X.t 21], I.mk none (some 23) (Ef.pr (Pr.fa 0)) [X.t 22], I.mk none (some 24) (Ef.pr (Pr.ld 1 false)) [X.t 23]]) 
  (IC.cond (X.t 24) 
  (IC.seq (IC.ops [I.mk none (some 25) (Ef.pr Pr.mv) [X.t 5], I.mk none (some 4) (Ef.pr Pr.mv) [X.t 25]]) IC.ret) IC.skip))) (IC.ops [I.mk none (some 15) (Ef.pr Pr.mv) [X.t 5], I.mk none (some 16) (Ef.pr (Pr.ar BinOp.add)) [X.t 15, X.c (Value.int IntKind.i64 1)], I.mk none (some 5) (Ef.pr Pr.mv) [X.t 16]])))))) 
  (IC.seq (IC.ops [I.mk none (some 4) (Ef.pr Pr.mv) [X.c (Value.int IntKind.i64 (-1))]]) IC.ret))

theorem k31 : Go.Proofs.Try.f31.body.bind (comp Go.Proofs.Try.prog 26 [] []) = some c31 := by kernel_rfl

theorem r31 : cRVs Go.Proofs.Try.prog Go.Proofs.Try.f31.results.toList = some [RV.t 4] := by kernel_rfl

theorem e31 {args : List Value} {h : Hp} {Q : Value → Hp → Prop} (hl : Nat.ble args.length 26 = true) (hk : codeK PR none c31 (retK Q [RV.t 4]) (fun _ _ _ _ => False) (retK Q [RV.t 4]) (argsE 0 args) [] h) : Ok PR 31 args h Q :=
  Ok.of mixed Go.Proofs.Try.func31 rfl k31 r31 hl hk

end Go.Proofs.Ythpkgkoojhgedaa.V
