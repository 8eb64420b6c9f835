/- The functions 70, 71, 72, 73, 74, 77, 78, 92, 93, 49, 55, 56, 31, 35, 36, 37, 38, 39, 40, 41, 11, 12, 13, 14, 19, 10, 28, resolved. -/
import Derived.Test.YthpkgkoojhgedaaDoorVP
namespace Go.Proofs.YthpkgkoojhgedaaDoor.V
set_option linter.unusedVariables false
set_option linter.unusedSimpArgs false
set_option linter.unusedSectionVars false
open Go
set_option maxRecDepth 100000

def c70 : IC := IC.seq (IC.ops [I.mk none (some 2) (Ef.pr Pr.mv) [X.c (Value.pointer none)]]) 
  (IC.seq (IC.ops [I.mk none (some 3) (Ef.pr Pr.mv) [X.t 0], I.mk none (some 4) (Ef.pr Pr.max2) [X.t 3, X.c (Value.int IntKind.i64 0)], I.mk none (some 5) (Ef.pr Pr.min2) [X.t 4, X.c (Value.int IntKind.i64 4096)], I.mk none (some 6) (Ef.mks [Value.bool false, Value.pointer none] 121 16) [X.t 5, X.t 5], I.mk none (some 7) (Ef.pr (Pr.bld [Value.slice none 0 0, Value.int IntKind.i64 0, Value.int IntKind.i64 0] [(0, 1)])) [X.t 6], I.mk none (some 8) (Ef.bxh 124) [X.t 7], I.mk none (some 2) (Ef.pr Pr.mv) [X.t 8]]) IC.ret)

theorem k70 : Go.Proofs.Tryd.f70.body.bind (comp Go.Proofs.Tryd.prog 9 [] []) = some c70 := by kernel_rfl

theorem r70 : cRVs Go.Proofs.Tryd.prog Go.Proofs.Tryd.f70.results.toList = some [RV.t 2] := by kernel_rfl

theorem e70 {args : List Value} {h : Hp} {Q : Value → Hp → Prop} (hl : Nat.ble args.length 9 = true) (hk : codeK PR none c70 (retK Q [RV.t 2]) (fun _ _ _ _ => False) (retK Q [RV.t 2]) (argsE 0 args) [] h) : Ok PR 70 args h Q :=
  Ok.of mixed Go.Proofs.Tryd.func70 rfl k70 r70 hl hk

def c71 : IC := IC.seq (IC.ops [I.mk none (some 4) (Ef.pr Pr.mv) [X.c (Value.pointer none)], I.mk none (some 5) (Ef.pr Pr.mv) [X.c (Value.bool false)]]) 
  (IC.seq 
  (IC.seq (IC.ops [I.mk none (some 7) (Ef.pr Pr.mv) [X.t 0], I.mk none (some 8) (Ef.pr Pr.mv) [X.t 1], I.mk none (some 9) (Ef.call 92) [X.t 7, X.t 8], I.mk none (some 10) (Ef.pr (Pr.un UnOp.not)) [X.t 9]]) 
  (IC.cond (X.t 10) 
  (IC.seq (IC.ops [I.mk none (some 6) (Ef.pr Pr.mv) [X.c (Value.pointer none)]]) 
  (IC.seq (IC.ops [I.mk none (some 11) (Ef.pr Pr.mv) [X.t 6], I.mk none (some 4) (Ef.pr Pr.mv) [X.t 11], I.mk none (some 5) (Ef.pr Pr.mv) [X.c (Value.bool false)]]) IC.ret)) IC.skip)) 
  (IC.seq (IC.ops [I.mk none (some 12) (Ef.pr Pr.mv) [X.t 0], I.mk none (some 13) (Ef.pr Pr.nilc) [X.t 12], I.mk none (some 14) (Ef.pr (Pr.fa 0)) [X.t 13], I.mk none (some 15) (Ef.pr (Pr.ld 1 false)) [X.t 14], I.mk none (some 16) (Ef.pr Pr.mv) [X.t 1], I.mk none (some 17) (Ef.pr (Pr.iaS 2)) [X.t 15, X.t 16], I.mk none (some 18) (Ef.pr (Pr.fa 1)) [X.t 17], I.mk none (some 19) (Ef.pr (Pr.ld 1 false)) [X.t 18], I.mk none (some 4) (Ef.pr Pr.mv) [X.t 19], I.mk none (some 5) (Ef.pr Pr.mv) [X.c (Value.bool true)]]) IC.ret))

theorem k71 : Go.Proofs.Tryd.f71.body.bind (comp Go.Proofs.Tryd.prog 20 [] []) = some c71 := by kernel_rfl

theorem r71 : cRVs Go.Proofs.Tryd.prog Go.Proofs.Tryd.f71.results.toList = some [RV.t 4, RV.t 5] := by kernel_rfl

theorem e71 {args : List Value} {h : Hp} {Q : Value → Hp → Prop} (hl : Nat.ble args.length 20 = true) (hk : codeK PR none c71 (retK Q [RV.t 4, RV.t 5]) (fun _ _ _ _ => False) (retK Q [RV.t 4, RV.t 5]) (argsE 0 args) [] h) : Ok PR 71 args h Q :=
  Ok.of mixed Go.Proofs.Tryd.func71 rfl k71 r71 hl hk

def c72 : IC := IC.seq (IC.ops [I.mk none (some 6) (Ef.pr Pr.mv) [X.c (Value.int IntKind.i64 0)]]) 
  (IC.seq 
  (IC.seq (IC.ops [I.mk none (some 7) (Ef.pr Pr.mv) [X.t 1], I.mk none (some 8) (Ef.pr (Pr.cm BinOp.lss)) [X.t 7, X.c (Value.int IntKind.i64 0)], I.mk none (some 9) (Ef.pr Pr.mv) [X.t 8], I.mk (some (9, false)) (some 10) (Ef.pr Pr.mv) [X.t 1], I.mk (some (9, false)) (some 11) (Ef.pr Pr.mv) [X.t 0], I.mk (some (9, false)) (some 12) (Ef.pr Pr.nilc) [X.t 11], I.mk (some (9, false)) (some 13) (Ef.pr (Pr.fa 0)) [X.t 12], I.mk (some (9, false)) (some 14) (Ef.pr (Pr.ld 1 false)) [X.t 13], I.mk (some (9, false)) (some 15) (Ef.pr Pr.lenS) [X.t 14], I.mk (some (9, false)) (some 16) (Ef.pr (Pr.cm BinOp.geq)) [X.t 10, X.t 15], I.mk none (some 17) (Ef.pr Pr.pick) [X.t 9, X.c (Value.bool true), X.t 16]]) 
  (IC.cond (X.t 17) 
  (IC.seq (IC.ops [I.mk none (some 6) (Ef.pr Pr.mv) [X.c (Value.int IntKind.i64 30)]]) IC.ret) IC.skip)) 
  (IC.seq 
  (IC.seq (IC.ops [I.mk none (some 18) (Ef.pr Pr.mv) [X.t 0], I.mk none (some 19) (Ef.pr Pr.nilc) [X.t 18], I.mk none (some 20) (Ef.pr (Pr.fa 0)) [X.t 19], I.mk none (some 21) (Ef.pr (Pr.ld 1 false)) [X.t 20], I.mk none (some 22) (Ef.pr Pr.mv) [X.t 1], I.mk none (some 23) (Ef.pr (Pr.iaS 2)) [X.t 21, X.t 22], I.mk none (some 24) (Ef.pr (Pr.fa 0)) [X.t 23], I.mk none (some 25) (Ef.pr (Pr.ld 1 false)) [X.t 24]]) 
  (IC.cond (X.t 25) 
  (IC.seq (IC.ops [I.mk none (some 6) (Ef.pr Pr.mv) [X.c (Value.int IntKind.i64 31)]]) IC.ret) IC.skip)) 
  (IC.seq (IC.ops [I.mk none (some 26) (Ef.pr Pr.mv) [X.t 0], I.mk none (some 27) (Ef.pr Pr.mv) [X.t 1], I.mk none (some 28) (Ef.pr Pr.mv) [X.t 2], I.mk none (some 29) (Ef.call 93) [X.t 26, X.t 27, X.t 28]]) 
  (IC.seq (IC.ops [I.mk none (some 6) (Ef.pr Pr.mv) [X.c (Value.int IntKind.i64 0)]]) IC.ret))))

theorem k72 : Go.Proofs.Tryd.f72.body.bind (comp Go.Proofs.Tryd.prog 30 [] []) = some c72 := by kernel_rfl

theorem r72 : cRVs Go.Proofs.Tryd.prog Go.Proofs.Tryd.f72.results.toList = some [RV.t 6] := by kernel_rfl

theorem e72 {args : List Value} {h : Hp} {Q : Value → Hp → Prop} (hl : Nat.ble args.length 30 = true) (hk : codeK PR none c72 (retK Q [RV.t 6]) (fun _ _ _ _ => False) (retK Q [RV.t 6]) (argsE 0 args) [] h) : Ok PR 72 args h Q :=
  Ok.of mixed Go.Proofs.Tryd.func72 rfl k72 r72 hl hk

def c73 : IC := IC.seq (IC.ops [I.mk none (some 4) (Ef.pr Pr.mv) [X.c (Value.int IntKind.i64 0)], I.mk none (some 5) (Ef.pr Pr.mv) [X.c (Value.int IntKind.i64 0)]]) 
  (IC.seq 
  (IC.block 0 
  (IC.loop 
  (IC.seq 
  (IC.seq (IC.plan (Plan.q (I.mk none (some 7) (Ef.pr Pr.mv) [X.t 0]) (Plan.q (I.mk none (some 8) (Ef.pr Pr.nilc) [X.t 7]) (Plan.q (I.mk none (some 9) (Ef.pr (Pr.fa 2)) [X.t 8]) (Plan.q (I.mk none (some 10) (Ef.pr (Pr.ld 1 false)) [X.t 9]) (Plan.q (I.mk none (some 11) (Ef.pr Pr.mv) [X.t 0]) (Plan.q (I.mk none (some 12) (Ef.pr Pr.nilc) [X.t 11]) (Plan.q (I.mk none (some 13) (Ef.pr (Pr.fa 0)) [X.t 12]) (Plan.q (I.mk none (some 14) (Ef.pr (Pr.ld 1 false)) [X.t 13]) (Plan.q (I.mk none (some 15) (Ef.pr Pr.lenS) [X.t 14]) (Plan.q (I.mk none (some 16) (Ef.pr (Pr.cm BinOp.lss)) [X.t 10, X.t 15]) (Plan.q (I.mk none (some 17) (Ef.pr Pr.mv) [X.t 16]) (Plan.q (I.mk (some (17, true)) (some 18) (Ef.pr Pr.mv) [X.t 0]) (Plan.q (I.mk (some (17, true)) (some 19) (Ef.pr Pr.nilc) [X.t 18]) (Plan.q (I.mk (some (17, true)) (some 20) (Ef.pr (Pr.fa 0)) [X.t 19]) (Plan.q (I.mk (some (17, true)) (some 21) (Ef.pr (Pr.ld 1 false)) [X.t 20]) (Plan.q (I.mk (some (17, true)) (some 22) (Ef.pr Pr.mv) [X.t 0]) (Plan.q (I.mk (some (17, true)) (some 23) (Ef.pr Pr.nilc) [X.t 22]) (Plan.q (I.mk (some (17, true)) (some 24) (Ef.pr (Pr.fa 2)) [X.t 23]) (Plan.q (I.mk (some (17, true)) (some 25) (Ef.pr (Pr.ld 1 false)) [X.t 24]) (Plan.q (I.mk (some (17, true)) (some 26) (Ef.pr (Pr.iaS 2)) [X.t 21, X.t 25]) (Plan.q (I.mk (some (17, true)) (some 27) (Ef.pr (Pr.fa 0)) [X.t 26]) (Plan.q (I.mk (some (17, true)) (some 28) (Ef.pr (Pr.ld 1 false)) [X.t 27]) (Plan.q (I.mk none (some 29) (Ef.pr Pr.pick) [X.t 17, X.t 28, X.c (Value.bool false)]) Plan.done)))))))))))))))))))))))) 
  (IC.cond (X.t 29) IC.skip (IC.exit 0))) 
  (IC.block 1 (IC.ops [I.mk none (some 30) (Ef.pr Pr.mv) [X.t 0], I.mk none (some 31) (Ef.pr Pr.nilc) [X.t 30], I.mk none (some 32) (Ef.pr (Pr.fa 2)) [X.t 31], I.mk none (some 33) (Ef.pr (Pr.ld 1 false)) [X.t 32], I.mk none (some 34) (Ef.pr (Pr.ar BinOp.add)) [X.t 33, X.c (Value.int IntKind.i64 1)], I.mk none (some 35) (Ef.pr Pr.nilc) [X.t 30], I.mk none (some 36) (Ef.pr (Pr.fa 2)) [X.t 35], I.mk none none (Ef.st 1) [X.t 36, X.t 34]]))))) 
  (IC.seq 
  (IC.seq (IC.plan (Plan.q (I.mk none (some 37) (Ef.pr Pr.mv) [X.t 0]) (Plan.q (I.mk none (some 38) (Ef.pr Pr.nilc) [X.t 37]) (Plan.q (I.mk none (some 39) (Ef.pr (Pr.fa 2)) [X.t 38]) (Plan.q (I.mk none (some 40) (Ef.pr (Pr.ld 1 false)) [X.t 39]) (Plan.q (I.mk none (some 41) (Ef.pr Pr.mv) [X.t 0]) (Plan.q (I.mk none (some 42) (Ef.pr Pr.nilc) [X.t 41]) (Plan.q (I.mk none (some 43) (Ef.pr (Pr.fa 0)) [X.t 42]) (Plan.q (I.mk none (some 44) (Ef.pr (Pr.ld 1 false)) [X.t 43]) (Plan.q (I.mk none (some 45) (Ef.pr Pr.lenS) [X.t 44]) (Plan.q (I.mk none (some 46) (Ef.pr (Pr.cm BinOp.eql)) [X.t 40, X.t 45]) Plan.done))))))))))) 
  (IC.cond (X.t 46) 
  (IC.seq (IC.ops [I.mk none (some 4) (Ef.pr Pr.mv) [X.c (Value.int IntKind.i64 (-1))], I.mk none (some 5) (Ef.pr Pr.mv) [X.c (Value.int IntKind.i64 2)]]) IC.ret) IC.skip)) 
  (IC.seq (IC.ops [I.mk none (some 47) (Ef.pr Pr.mv) [X.t 0], I.mk none (some 48) (Ef.pr Pr.nilc) [X.t 47], I.mk none (some 49) (Ef.pr (Pr.fa 2)) [X.t 48], I.mk none (some 50) (Ef.pr (Pr.ld 1 false)) [X.t 49], I.mk none (some 6) (Ef.pr Pr.mv) [X.t 50]]) 
  (IC.seq (IC.ops [I.mk none (some 51) (Ef.pr Pr.mv) [X.t 0], I.mk none (some 52) (Ef.pr Pr.mv) [X.t 6], I.mk none (some 53) (Ef.pr Pr.mv) [X.t 1], I.mk none (some 54) (Ef.call 93) [X.t 51, X.t 52, X.t 53]]) 
  (IC.seq (IC.ops [I.mk none (some 55) (Ef.pr Pr.mv) [X.t 6], I.mk none (some 4) (Ef.pr Pr.mv) [X.t 55], I.mk none (some 5) (Ef.pr Pr.mv) [X.c (Value.int IntKind.i64 0)]]) IC.ret)))))

theorem k73 : Go.Proofs.Tryd.f73.body.bind (comp Go.Proofs.Tryd.prog 56 [] []) = some c73 := by kernel_rfl

theorem r73 : cRVs Go.Proofs.Tryd.prog Go.Proofs.Tryd.f73.results.toList = some [RV.t 4, RV.t 5] := by kernel_rfl

theorem e73 {args : List Value} {h : Hp} {Q : Value → Hp → Prop} (hl : Nat.ble args.length 56 = true) (hk : codeK PR none c73 (retK Q [RV.t 4, RV.t 5]) (fun _ _ _ _ => False) (retK Q [RV.t 4, RV.t 5]) (argsE 0 args) [] h) : Ok PR 73 args h Q :=
  Ok.of mixed Go.Proofs.Tryd.func73 rfl k73 r73 hl hk

def c74 : IC := IC.seq (IC.ops [I.mk none (some 4) (Ef.pr Pr.mv) [X.c (Value.pointer none)], I.mk none (some 5) (Ef.pr Pr.mv) [X.c (Value.bool false)]]) 
  (IC.seq (IC.ops [I.mk none (some 6) (Ef.pr Pr.mv) [X.c (Value.pointer none)]]) 
  (IC.seq 
  (IC.seq (IC.ops [I.mk none (some 8) (Ef.pr Pr.mv) [X.t 0], I.mk none (some 9) (Ef.pr Pr.mv) [X.t 1], I.mk none (some 10) (Ef.call 92) [X.t 8, X.t 9], I.mk none (some 11) (Ef.pr (Pr.un UnOp.not)) [X.t 10]]) 
  (IC.cond (X.t 11) 
  (IC.seq (IC.ops [I.mk none (some 12) (Ef.pr Pr.mv) [X.t 6], I.mk none (some 4) (Ef.pr Pr.mv) [X.t 12], I.mk none (some 5) (Ef.pr Pr.mv) [X.c (Value.bool false)]]) IC.ret) IC.skip)) 
  (IC.seq (IC.ops [I.mk none (some 13) (Ef.pr Pr.mv) [X.t 0], I.mk none (some 14) (Ef.pr Pr.nilc) [X.t 13], I.mk none (some 15) (Ef.pr (Pr.fa 0)) [X.t 14], I.mk none (some 16) (Ef.pr (Pr.ld 1 false)) [X.t 15], I.mk none (some 17) (Ef.pr Pr.mv) [X.t 1], I.mk none (some 18) (Ef.pr (Pr.iaS 2)) [X.t 16, X.t 17], I.mk none (some 19) (Ef.pr (Pr.fa 1)) [X.t 18], I.mk none (some 20) (Ef.pr (Pr.ld 1 false)) [X.t 19], I.mk none (some 7) (Ef.pr Pr.mv) [X.t 20]]) 
  (IC.seq (IC.ops [I.mk none (some 21) (Ef.pr Pr.mv) [X.t 0], I.mk none (some 22) (Ef.pr Pr.nilc) [X.t 21], I.mk none (some 23) (Ef.pr (Pr.fa 0)) [X.t 22], I.mk none (some 24) (Ef.pr (Pr.ld 1 false)) [X.t 23], I.mk none (some 25) (Ef.pr Pr.mv) [X.t 1], I.mk none (some 26) (Ef.pr (Pr.bld [Value.bool false, Value.pointer none] [])) [], I.mk none (some 27) (Ef.pr (Pr.iaS 2)) [X.t 24, X.t 25], I.mk none none (Ef.st 2) [X.t 27, X.t 26]]) 
  (IC.seq (IC.ops [I.mk none (some 28) (Ef.pr Pr.mv) [X.t 0], I.mk none (some 29) (Ef.pr Pr.nilc) [X.t 28], I.mk none (some 30) (Ef.pr (Pr.fa 1)) [X.t 29], I.mk none (some 31) (Ef.pr (Pr.ld 1 false)) [X.t 30], I.mk none (some 32) (Ef.pr (Pr.ar BinOp.sub)) [X.t 31, X.c (Value.int IntKind.i64 1)], I.mk none (some 33) (Ef.pr Pr.nilc) [X.t 28], I.mk none (some 34) (Ef.pr (Pr.fa 1)) [X.t 33], I.mk none none (Ef.st 1) [X.t 34, X.t 32]]) 
  (IC.seq (IC.ops [I.mk none (some 35) (Ef.pr Pr.mv) [X.t 0], I.mk none (some 36) (Ef.pr Pr.mv) [X.t 0], I.mk none (some 37) (Ef.pr Pr.nilc) [X.t 36], I.mk none (some 38) (Ef.pr (Pr.fa 2)) [X.t 37], I.mk none (some 39) (Ef.pr (Pr.ld 1 false)) [X.t 38], I.mk none (some 40) (Ef.pr Pr.mv) [X.t 1], I.mk none (some 41) (Ef.pr Pr.min2) [X.t 39, X.t 40], I.mk none (some 42) (Ef.pr Pr.nilc) [X.t 35], I.mk none (some 43) (Ef.pr (Pr.fa 2)) [X.t 42], I.mk none none (Ef.st 1) [X.t 43, X.t 41]]) 
  (IC.seq (IC.ops [I.mk none (some 44) (Ef.pr Pr.mv) [X.t 7], I.mk none (some 4) (Ef.pr Pr.mv) [X.t 44], I.mk none (some 5) (Ef.pr Pr.mv) [X.c (Value.bool true)]]) IC.ret)))))))

theorem k74 : Go.Proofs.Tryd.f74.body.bind (comp Go.Proofs.Tryd.prog 45 [] []) = some c74 := by kernel_rfl

theorem r74 : cRVs Go.Proofs.Tryd.prog Go.Proofs.Tryd.f74.results.toList = some [RV.t 4, RV.t 5] := by kernel_rfl

theorem e74 {args : List Value} {h : Hp} {Q : Value → Hp → Prop} (hl : Nat.ble args.length 45 = true) (hk : codeK PR none c74 (retK Q [RV.t 4, RV.t 5]) (fun _ _ _ _ => False) (retK Q [RV.t 4, RV.t 5]) (argsE 0 args) [] h) : Ok PR 74 args h Q :=
  Ok.of mixed Go.Proofs.Tryd.func74 rfl k74 r74 hl hk

def c77 : IC := IC.seq (IC.ops [I.mk none (some 4) (Ef.pr (Pr.ld 1 false)) [X.t 1], I.mk none (some 5) (Ef.call 78) [X.t 4, X.c (Value.int IntKind.i64 0)], I.mk none (some 3) (Ef.pr Pr.mv) [X.t 5]]) 
  (IC.block 0 
  (IC.loop 
  (IC.seq 
  (IC.seq (IC.ops [I.mk none (some 6) (Ef.pr Pr.mv) [X.t 3], I.mk none (some 7) (Ef.pr (Pr.cm BinOp.geq)) [X.t 6, X.c (Value.int IntKind.i64 0)]]) 
  (IC.cond (X.t 7) IC.skip (IC.exit 0))) 
  (IC.seq 
  (IC.block 1 
  (IC.seq (IC.ops [I.mk none (some 12) (Ef.pr Pr.mv) [X.t 0], I.mk none (some 13) (Ef.pr Pr.mv) [X.t 3], I.mk none (some 14) (Ef.pr (Pr.ld 1 false)) [X.t 1], I.mk none (some 15) (Ef.pr Pr.nilc) [X.t 14], I.mk none (some 16) (Ef.pr (Pr.fa 0)) [X.t 15], I.mk none (some 17) (Ef.pr (Pr.ld 1 false)) [X.t 16], I.mk none (some 18) (Ef.pr Pr.mv) [X.t 3], I.mk none (some 19) (Ef.pr (Pr.iaS 2)) [X.t 17, X.t 18], I.mk none (some 20) (Ef.pr (Pr.fa 1)) [X.t 19], I.mk none (some 21) (Ef.pr (Pr.ld 1 false)) [X.t 20], I.mk none (some 22) Ef.callv [X.t 12, X.t 13, X.t 21], I.mk none (some 23) (Ef.pr (Pr.un UnOp.not)) [X.t 22]]) 
  (IC.cond (X.t 23) IC.ret IC.skip))) (IC.ops [I.mk none (some 8) (Ef.pr (Pr.ld 1 false)) [X.t 1], I.mk none (some 9) (Ef.pr Pr.mv) [X.t 3], I.mk none (some 10) (Ef.pr (Pr.ar BinOp.add)) [X.t 9, X.c (Value.int IntKind.i64 1)], I.mk none (some 11) (Ef.call 78) [X.t 8, X.t 10], I.mk none (some 3) (Ef.pr Pr.mv) [X.t 11]])))))

theorem k77 : Go.Proofs.Tryd.f77.body.bind (comp Go.Proofs.Tryd.prog 24 [] []) = some c77 := by kernel_rfl

theorem r77 : cRVs Go.Proofs.Tryd.prog Go.Proofs.Tryd.f77.results.toList = some [] := by kernel_rfl

theorem e77 {args : List Value} {h : Hp} {Q : Value → Hp → Prop} (hl : Nat.ble args.length 24 = true) (hk : codeK PR none c77 (retK Q []) (fun _ _ _ _ => False) (retK Q []) (argsE 0 args) [] h) : Ok PR 77 args h Q :=
  Ok.of mixed Go.Proofs.Tryd.func77 rfl k77 r77 hl hk

def c78 : IC := IC.seq (IC.ops [I.mk none (some 4) (Ef.pr Pr.mv) [X.c (Value.int IntKind.i64 0)]]) 
  (IC.seq 
  (IC.seq (IC.ops [I.mk none (some 6) (Ef.pr Pr.mv) [X.t 1], I.mk none (some 7) (Ef.pr Pr.max2) [X.t 6, X.c (Value.int IntKind.i64 0)], I.mk none (some 5) (Ef.pr Pr.mv) [X.t 7]]) 
  (IC.block 0 
  (IC.loop 
  (IC.seq 
  (IC.seq (IC.ops [I.mk none (some 8) (Ef.pr Pr.mv) [X.t 5], I.mk none (some 9) (Ef.pr Pr.mv) [X.t 0], I.mk none (some 10) (Ef.pr Pr.nilc) [X.t 9], I.mk none (some 11) (Ef.pr (Pr.fa 0)) [X.t 10], I.mk none (some 12) (Ef.pr (Pr.ld 1 false)) [X.t 11], I.mk none (some 13) (Ef.pr Pr.lenS) [X.t 12], I.mk none (some 14) (Ef.pr (Pr.cm BinOp.lss)) [X.t 8, X.t 13]]) 
  (IC.cond (X.t 14) IC.skip (IC.exit 0))) 
  (IC.seq 
  (IC.block 1 
  (IC.seq (IC.ops [I.mk none (some 17) (Ef.pr Pr.mv) [X.t 0], I.mk none (some 18) (Ef.pr Pr.nilc) [X.t 17], I.mk none (some 19) (Ef.pr (Pr.fa 0)) [X.t 18], I.mk none (some 20) (Ef.pr (Pr.ld 1 false)) [X.t 19], I.mk none (some 21) (Ef.pr Pr.mv) [X.t 5], I.mk none (some 22) (Ef.pr (Pr.iaS 2)) [X.t 20, X.t 21], I.mk none (some 23) (Ef.pr (Pr.fa 0)) [X.t 22], I.mk none (some 24) (Ef.pr (Pr.ld 1 false)) [X.t 23]]) 
  (IC.cond (X.t 24) 
  (IC.seq (IC.ops [I.mk none (some 25) (Ef.pr Pr.mv) [X.t 5], I.mk none (some 4) (Ef.pr Pr.mv) [X.t 25]]) IC.ret) IC.skip))) (IC.ops [I.mk none (some 15) (Ef.pr Pr.mv) [X.t 5], I.mk none (some 16) (Ef.pr (Pr.ar BinOp.add)) [X.t 15, X.c (Value.int IntKind.i64 1)], I.mk none (some 5) (Ef.pr Pr.mv) [X.t 16]])))))) 
  (IC.seq (IC.ops [I.mk none (some 4) (Ef.pr Pr.mv) [X.c (Value.int IntKind.i64 (-1))]]) IC.ret))

theorem k78 : Go.Proofs.Tryd.f78.body.bind (comp Go.Proofs.Tryd.prog 26 [] []) = some c78 := by kernel_rfl

theorem r78 : cRVs Go.Proofs.Tryd.prog Go.Proofs.Tryd.f78.results.toList = some [RV.t 4] := by kernel_rfl

theorem e78 {args : List Value} {h : Hp} {Q : Value → Hp → Prop} (hl : Nat.ble args.length 26 = true) (hk : codeK PR none c78 (retK Q [RV.t 4]) (fun _ _ _ _ => False) (retK Q [RV.t 4]) (argsE 0 args) [] h) : Ok PR 78 args h Q :=
  Ok.of mixed Go.Proofs.Tryd.func78 rfl k78 r78 hl hk

def c92 : IC := IC.seq (IC.ops [I.mk none (some 4) (Ef.pr Pr.mv) [X.c (Value.bool false)]]) 
  (IC.seq (IC.ops [I.mk none (some 5) (Ef.pr Pr.mv) [X.t 1], I.mk none (some 6) (Ef.pr (Pr.cm BinOp.geq)) [X.t 5, X.c (Value.int IntKind.i64 0)], I.mk none (some 7) (Ef.pr Pr.mv) [X.t 6], I.mk (some (7, true)) (some 8) (Ef.pr Pr.mv) [X.t 1], I.mk (some (7, true)) (some 9) (Ef.pr Pr.mv) [X.t 0], I.mk (some (7, true)) (some 10) (Ef.pr Pr.nilc) [X.t 9], I.mk (some (7, true)) (some 11) (Ef.pr (Pr.fa 0)) [X.t 10], I.mk (some (7, true)) (some 12) (Ef.pr (Pr.ld 1 false)) [X.t 11], I.mk (some (7, true)) (some 13) (Ef.pr Pr.lenS) [X.t 12], I.mk (some (7, true)) (some 14) (Ef.pr (Pr.cm BinOp.lss)) [X.t 8, X.t 13], I.mk none (some 15) (Ef.pr Pr.pick) [X.t 7, X.t 14, X.c (Value.bool false)], I.mk none (some 16) (Ef.pr Pr.mv) [X.t 15], I.mk (some (16, true)) (some 17) (Ef.pr Pr.mv) [X.t 0], I.mk (some (16, true)) (some 18) (Ef.pr Pr.nilc) [X.t 17], I.mk (some (16, true)) (some 19) (Ef.pr (Pr.fa 0)) [X.t 18], I.mk (some (16, true)) (some 20) (Ef.pr (Pr.ld 1 false)) [X.t 19], I.mk (some (16, true)) (some 21) (Ef.pr Pr.mv) [X.t 1], I.mk (some (16, true)) (some 22) (Ef.pr (Pr.iaS 2)) [X.t 20, X.t 21], I.mk (some (16, true)) (some 23) (Ef.pr (Pr.fa 0)) [X.t 22], I.mk (some (16, true)) (some 24) (Ef.pr (Pr.ld 1 false)) [X.t 23], I.mk none (some 25) (Ef.pr Pr.pick) [X.t 16, X.t 24, X.c (Value.bool false)], I.mk none (some 4) (Ef.pr Pr.mv) [X.t 25]]) IC.ret)

theorem k92 : Go.Proofs.Tryd.f92.body.bind (comp Go.Proofs.Tryd.prog 26 [] []) = some c92 := by kernel_rfl

theorem r92 : cRVs Go.Proofs.Tryd.prog Go.Proofs.Tryd.f92.results.toList = some [RV.t 4] := by kernel_rfl

theorem e92 {args : List Value} {h : Hp} {Q : Value → Hp → Prop} (hl : Nat.ble args.length 26 = true) (hk : codeK PR none c92 (retK Q [RV.t 4]) (fun _ _ _ _ => False) (retK Q [RV.t 4]) (argsE 0 args) [] h) : Ok PR 92 args h Q :=
  Ok.of mixed Go.Proofs.Tryd.func92 rfl k92 r92 hl hk

def c93 : IC := IC.seq (IC.ops [I.mk none (some 6) (Ef.pr Pr.mv) [X.t 0], I.mk none (some 7) (Ef.pr Pr.nilc) [X.t 6], I.mk none (some 8) (Ef.pr (Pr.fa 0)) [X.t 7], I.mk none (some 9) (Ef.pr (Pr.ld 1 false)) [X.t 8], I.mk none (some 10) (Ef.pr Pr.mv) [X.t 1], I.mk none (some 11) (Ef.pr Pr.mv) [X.t 2], I.mk none (some 12) (Ef.pr (Pr.bld [Value.bool false, Value.pointer none] [(0, 1), (1, 1)])) [X.c (Value.bool true), X.t 11], I.mk none (some 13) (Ef.pr (Pr.iaS 2)) [X.t 9, X.t 10], I.mk none none (Ef.st 2) [X.t 13, X.t 12]]) (IC.ops [I.mk none (some 14) (Ef.pr Pr.mv) [X.t 0], I.mk none (some 15) (Ef.pr Pr.nilc) [X.t 14], I.mk none (some 16) (Ef.pr (Pr.fa 1)) [X.t 15], I.mk none (some 17) (Ef.pr (Pr.ld 1 false)) [X.t 16], I.mk none (some 18) (Ef.pr (Pr.ar BinOp.add)) [X.t 17, X.c (Value.int IntKind.i64 1)], I.mk none (some 19) (Ef.pr Pr.nilc) [X.t 14], I.mk none (some 20) (Ef.pr (Pr.fa 1)) [X.t 19], I.mk none none (Ef.st 1) [X.t 20, X.t 18]])

theorem k93 : Go.Proofs.Tryd.f93.body.bind (comp Go.Proofs.Tryd.prog 21 [] []) = some c93 := by kernel_rfl

theorem r93 : cRVs Go.Proofs.Tryd.prog Go.Proofs.Tryd.f93.results.toList = some [] := by kernel_rfl

theorem e93 {args : List Value} {h : Hp} {Q : Value → Hp → Prop} (hl : Nat.ble args.length 21 = true) (hk : codeK PR none c93 (retK Q []) (fun _ _ _ _ => False) (retK Q []) (argsE 0 args) [] h) : Ok PR 93 args h Q :=
  Ok.of mixed Go.Proofs.Tryd.func93 rfl k93 r93 hl hk

def c49 : IC := IC.seq (IC.ops [I.mk none (some 1) (Ef.bxh 77) [X.t 0], I.mk none (some 2) (Ef.pr Pr.mv) [X.c Value.nilFunc]]) 
  (IC.seq (IC.ops [I.mk none (some 3) (Ef.pr (Pr.mkf (Fn.func 77) 0)) [X.t 1], I.mk none (some 2) (Ef.pr Pr.mv) [X.t 3]]) IC.ret)

theorem k49 : Go.Proofs.Tryd.f49.body.bind (comp Go.Proofs.Tryd.prog 4 [] []) = some c49 := by kernel_rfl

theorem r49 : cRVs Go.Proofs.Tryd.prog Go.Proofs.Tryd.f49.results.toList = some [RV.t 2] := by kernel_rfl

theorem e49 {args : List Value} {h : Hp} {Q : Value → Hp → Prop} (hl : Nat.ble args.length 4 = true) (hk : codeK PR none c49 (retK Q [RV.t 2]) (fun _ _ _ _ => False) (retK Q [RV.t 2]) (argsE 0 args) [] h) : Ok PR 49 args h Q :=
  Ok.of mixed Go.Proofs.Tryd.func49 rfl k49 r49 hl hk

def c55 : IC := IC.seq (IC.ops [I.mk none (some 2) (Ef.pr Pr.mv) [X.c (Value.int IntKind.i64 0)]]) 
  (IC.seq (IC.ops [I.mk none (some 3) (Ef.pr Pr.mv) [X.t 0], I.mk none (some 4) (Ef.pr Pr.nilc) [X.t 3], I.mk none (some 5) (Ef.pr (Pr.fa 0)) [X.t 4], I.mk none (some 6) (Ef.pr (Pr.ld 1 false)) [X.t 5], I.mk none (some 7) (Ef.pr Pr.lenS) [X.t 6], I.mk none (some 2) (Ef.pr Pr.mv) [X.t 7]]) IC.ret)

theorem k55 : Go.Proofs.Tryd.f55.body.bind (comp Go.Proofs.Tryd.prog 8 [] []) = some c55 := by kernel_rfl

theorem r55 : cRVs Go.Proofs.Tryd.prog Go.Proofs.Tryd.f55.results.toList = some [RV.t 2] := by kernel_rfl

theorem e55 {args : List Value} {h : Hp} {Q : Value → Hp → Prop} (hl : Nat.ble args.length 8 = true) (hk : codeK PR none c55 (retK Q [RV.t 2]) (fun _ _ _ _ => False) (retK Q [RV.t 2]) (argsE 0 args) [] h) : Ok PR 55 args h Q :=
  Ok.of mixed Go.Proofs.Tryd.func55 rfl k55 r55 hl hk

def c56 : IC := IC.seq (IC.ops [I.mk none (some 2) (Ef.pr Pr.mv) [X.c (Value.int IntKind.i64 0)]]) 
  (IC.seq (IC.ops [I.mk none (some 3) (Ef.pr Pr.mv) [X.t 0], I.mk none (some 4) (Ef.pr Pr.nilc) [X.t 3], I.mk none (some 5) (Ef.pr (Pr.fa 1)) [X.t 4], I.mk none (some 6) (Ef.pr (Pr.ld 1 false)) [X.t 5], I.mk none (some 2) (Ef.pr Pr.mv) [X.t 6]]) IC.ret)

theorem k56 : Go.Proofs.Tryd.f56.body.bind (comp Go.Proofs.Tryd.prog 7 [] []) = some c56 := by kernel_rfl

theorem r56 : cRVs Go.Proofs.Tryd.prog Go.Proofs.Tryd.f56.results.toList = some [RV.t 2] := by kernel_rfl

theorem e56 {args : List Value} {h : Hp} {Q : Value → Hp → Prop} (hl : Nat.ble args.length 7 = true) (hk : codeK PR none c56 (retK Q [RV.t 2]) (fun _ _ _ _ => False) (retK Q [RV.t 2]) (argsE 0 args) [] h) : Ok PR 56 args h Q :=
  Ok.of mixed Go.Proofs.Tryd.func56 rfl k56 r56 hl hk

def c31 : IC := IC.seq (IC.ops [I.mk none (some 0) (Ef.pr Pr.mv) [X.c (Value.pointer none)]]) 
  (IC.seq (IC.ops [I.mk none (some 1) (Ef.pr (Pr.bld [Value.pointer none, Value.pointer none, Value.pointer none, Value.pointer none, Value.pointer none, Value.pointer none, Value.pointer none, Value.pointer none, Value.pointer none, Value.pointer none, Value.pointer none, Value.pointer none, Value.pointer none, Value.pointer none, Value.pointer none, Value.pointer none] [])) [], I.mk none (some 2) (Ef.bxh 107) [X.t 1], I.mk none (some 0) (Ef.pr Pr.mv) [X.t 2]]) IC.ret)

theorem k31 : Go.Proofs.Tryd.f31.body.bind (comp Go.Proofs.Tryd.prog 3 [] []) = some c31 := by kernel_rfl

theorem r31 : cRVs Go.Proofs.Tryd.prog Go.Proofs.Tryd.f31.results.toList = some [RV.t 0] := by kernel_rfl

theorem e31 {args : List Value} {h : Hp} {Q : Value → Hp → Prop} (hl : Nat.ble args.length 3 = true) (hk : codeK PR none c31 (retK Q [RV.t 0]) (fun _ _ _ _ => False) (retK Q [RV.t 0]) (argsE 0 args) [] h) : Ok PR 31 args h Q :=
  Ok.of mixed Go.Proofs.Tryd.func31 rfl k31 r31 hl hk

def c35 : IC := IC.seq (IC.ops [I.mk none (some 4) (Ef.pr Pr.mv) [X.c (Value.int IntKind.i64 0)]]) 
  (IC.seq 
  (IC.seq (IC.ops [I.mk none (some 5) (Ef.pr Pr.mv) [X.t 1], I.mk none (some 6) (Ef.pr (Pr.cm BinOp.lss)) [X.t 5, X.c (Value.int IntKind.i64 0)], I.mk none (some 7) (Ef.pr Pr.mv) [X.t 6], I.mk (some (7, false)) (some 8) (Ef.pr Pr.mv) [X.t 1], I.mk (some (7, false)) (some 9) (Ef.pr (Pr.cm BinOp.geq)) [X.t 8, X.c (Value.int IntKind.i64 16)], I.mk none (some 10) (Ef.pr Pr.pick) [X.t 7, X.c (Value.bool true), X.t 9], I.mk none (some 11) (Ef.pr Pr.mv) [X.t 10], I.mk (some (11, false)) (some 12) (Ef.pr Pr.mv) [X.t 0], I.mk (some (11, false)) (some 13) (Ef.pr Pr.mv) [X.t 1], I.mk (some (11, false)) (some 14) (Ef.pr Pr.nilc) [X.t 12], I.mk (some (11, false)) (some 15) (Ef.pr (Pr.fa 0)) [X.t 14], I.mk (some (11, false)) (some 16) (Ef.pr (Pr.iaA 16 1)) [X.t 15, X.t 13], I.mk (some (11, false)) (some 17) (Ef.pr (Pr.ld 1 false)) [X.t 16], I.mk (some (11, false)) (some 18) (Ef.pr (Pr.eq true (EqT.one EqS.p))) [X.t 17, X.c (Value.pointer none)], I.mk none (some 19) (Ef.pr Pr.pick) [X.t 11, X.c (Value.bool true), X.t 18]]) 
  (IC.cond (X.t 19) 
  (IC.seq (IC.ops [I.mk none (some 4) (Ef.pr Pr.mv) [X.c (Value.int IntKind.i64 83)]]) IC.ret) IC.skip)) 
  (IC.seq (IC.plan (Plan.q (I.mk none (some 20) (Ef.pr Pr.mv) [X.t 0]) (Plan.q (I.mk none (some 21) (Ef.pr Pr.mv) [X.t 1]) (Plan.q (I.mk none (some 23) (Ef.pr Pr.nilc) [X.t 20]) (Plan.q (I.mk none (some 24) (Ef.pr (Pr.fa 0)) [X.t 23]) (Plan.br (PlanL.cons false false (I.mk none (some 22) (Ef.call 70) [X.c (Value.int IntKind.i64 48)]) (Plan.q (I.mk none (some 25) (Ef.pr (Pr.iaA 16 1)) [X.t 24, X.t 21]) (Plan.br (PlanL.cons false false (I.mk none none (Ef.st 1) [X.t 25, X.t 22]) Plan.done PlanL.nil))) PlanL.nil))))))) 
  (IC.seq (IC.ops [I.mk none (some 4) (Ef.pr Pr.mv) [X.c (Value.int IntKind.i64 0)]]) IC.ret)))

theorem k35 : Go.Proofs.Tryd.f35.body.bind (comp Go.Proofs.Tryd.prog 26 [] []) = some c35 := by kernel_rfl

theorem r35 : cRVs Go.Proofs.Tryd.prog Go.Proofs.Tryd.f35.results.toList = some [RV.t 4] := by kernel_rfl

theorem e35 {args : List Value} {h : Hp} {Q : Value → Hp → Prop} (hl : Nat.ble args.length 26 = true) (hk : codeK PR none c35 (retK Q [RV.t 4]) (fun _ _ _ _ => False) (retK Q [RV.t 4]) (argsE 0 args) [] h) : Ok PR 35 args h Q :=
  Ok.of mixed Go.Proofs.Tryd.func35 rfl k35 r35 hl hk

def c36 : IC := IC.seq (IC.ops [I.mk none (some 7) Ef.bx [X.t 3], I.mk none (some 8) (Ef.pr Pr.mv) [X.c (Value.int IntKind.i64 0)], I.mk none (some 9) (Ef.pr Pr.mv) [X.c (Value.int IntKind.i64 0)]]) 
  (IC.seq 
  (IC.seq (IC.ops [I.mk none (some 10) (Ef.pr Pr.mv) [X.t 0], I.mk none (some 11) (Ef.pr Pr.mv) [X.t 1], I.mk none (some 12) (Ef.call 37) [X.t 10, X.t 11], I.mk none (some 13) (Ef.pr (Pr.eq false (EqT.one EqS.p))) [X.t 12, X.c (Value.pointer none)]]) 
  (IC.cond (X.t 13) 
  (IC.seq (IC.ops [I.mk none (some 8) (Ef.pr Pr.mv) [X.c (Value.int IntKind.i64 (-1))], I.mk none (some 9) (Ef.pr Pr.mv) [X.c (Value.int IntKind.i64 83)]]) IC.ret) IC.skip)) 
  (IC.seq 
  (IC.seq (IC.ops [I.mk none (some 14) (Ef.pr Pr.mv) [X.t 2], I.mk none (some 15) (Ef.call 39) [X.t 14], I.mk none (some 16) (Ef.pr (Pr.un UnOp.not)) [X.t 15], I.mk none (some 17) (Ef.pr Pr.mv) [X.t 16], I.mk (some (17, false)) (some 18) (Ef.pr (Pr.fa 0)) [X.t 7], I.mk (some (17, false)) (some 19) (Ef.pr (Pr.ld 1 false)) [X.t 18], I.mk (some (17, false)) (some 20) (Ef.pr (Pr.cm BinOp.lss)) [X.t 19, X.c (Value.int IntKind.i64 1)], I.mk none (some 21) (Ef.pr Pr.pick) [X.t 17, X.c (Value.bool true), X.t 20], I.mk none (some 22) (Ef.pr Pr.mv) [X.t 21], I.mk (some (22, false)) (some 23) (Ef.pr (Pr.fa 0)) [X.t 7], I.mk (some (22, false)) (some 24) (Ef.pr (Pr.ld 1 false)) [X.t 23], I.mk (some (22, false)) (some 25) (Ef.pr (Pr.cm BinOp.gtr)) [X.t 24, X.c (Value.int IntKind.i64 3)], I.mk none (some 26) (Ef.pr Pr.pick) [X.t 22, X.c (Value.bool true), X.t 25], I.mk none (some 27) (Ef.pr Pr.mv) [X.t 26], I.mk (some (27, false)) (some 28) (Ef.pr (Pr.fa 1)) [X.t 7], I.mk (some (27, false)) (some 29) (Ef.pr (Pr.ld 1 false)) [X.t 28], I.mk (some (27, false)) (some 30) (Ef.pr (Pr.cm BinOp.lss)) [X.t 29, X.c (Value.int IntKind.i64 0)], I.mk none (some 31) (Ef.pr Pr.pick) [X.t 27, X.c (Value.bool true), X.t 30], I.mk none (some 32) (Ef.pr Pr.mv) [X.t 31], I.mk (some (32, false)) (some 33) (Ef.pr (Pr.fa 1)) [X.t 7], I.mk (some (32, false)) (some 34) (Ef.pr (Pr.ld 1 false)) [X.t 33], I.mk (some (32, false)) (some 35) (Ef.pr (Pr.cm BinOp.gtr)) [X.t 34, X.c (Value.int IntKind.i64 4611686018427387903)], I.mk none (some 36) (Ef.pr Pr.pick) [X.t 32, X.c (Value.bool true), X.t 35], I.mk none (some 37) (Ef.pr Pr.mv) [X.t 36], I.mk (some (37, false)) (some 38) (Ef.pr (Pr.fa 2)) [X.t 7], I.mk (some (37, false)) (some 39) (Ef.pr (Pr.ld 1 false)) [X.t 38], I.mk (some (37, false)) (some 40) (Ef.pr (Pr.cm BinOp.lss)) [X.t 39, X.c (Value.int IntKind.i64 1)], I.mk none (some 41) (Ef.pr Pr.pick) [X.t 37, X.c (Value.bool true), X.t 40], I.mk none (some 42) (Ef.pr Pr.mv) [X.t 41], I.mk (some (42, false)) (some 43) (Ef.pr (Pr.fa 2)) [X.t 7], I.mk (some (42, false)) (some 44) (Ef.pr (Pr.ld 1 false)) [X.t 43], I.mk (some (42, false)) (some 45) (Ef.pr (Pr.cm BinOp.gtr)) [X.t 44, X.c (Value.int IntKind.i64 4611686018427387903)], I.mk none (some 46) (Ef.pr Pr.pick) [X.t 42, X.c (Value.bool true), X.t 45], I.mk none (some 47) (Ef.pr Pr.mv) [X.t 46], I.mk (some (47, false)) (some 48) (Ef.pr (Pr.fa 3)) [X.t 7], I.mk (some (47, false)) (some 49) (Ef.pr (Pr.ld 1 false)) [X.t 48], I.mk (some (47, false)) (some 50) (Ef.pr (Pr.cm BinOp.lss)) [X.t 49, X.c (Value.int IntKind.i64 0)], I.mk none (some 51) (Ef.pr Pr.pick) [X.t 47, X.c (Value.bool true), X.t 50], I.mk none (some 52) (Ef.pr Pr.mv) [X.t 51], I.mk (some (52, false)) (some 53) (Ef.pr (Pr.fa 3)) [X.t 7], I.mk (some (52, false)) (some 54) (Ef.pr (Pr.ld 1 false)) [X.t 53], I.mk (some (52, false)) (some 55) (Ef.pr (Pr.cm BinOp.gtr)) [X.t 54, X.c (Value.int IntKind.i64 15)], I.mk none (some 56) (Ef.pr Pr.pick) [X.t 52, X.c (Value.bool true), X.t 55]]) 
  (IC.cond (X.t 56) 
  (IC.seq (IC.ops [I.mk none (some 8) (Ef.pr Pr.mv) [X.c (Value.int IntKind.i64 (-1))], I.mk none (some 9) (Ef.pr Pr.mv) [X.c (Value.int IntKind.i64 1)]]) IC.ret) IC.skip)) 
  (IC.seq (IC.ops [I.mk none (some 57) (Ef.pr Pr.mv) [X.t 0], I.mk none (some 58) (Ef.pr (Pr.ld 4 true)) [X.t 7], I.mk none (some 59) (Ef.pr (Pr.bld [Value.int IntKind.i64 0, Value.int IntKind.i64 0, Value.int IntKind.i64 0, Value.int IntKind.i64 0, Value.int IntKind.i64 0, Value.int IntKind.i64 0, Value.pointer none, Value.slice none 0 0] [(2, 4)])) [X.t 58], I.mk none (some 60) (Ef.bxh 84) [X.t 59], I.mk none (some 61) (Ef.pr Pr.mv) [X.t 1], I.mk none (some 62) (Ef.pr Pr.mv) [X.t 2], I.mk none (some 63) (Ef.call 40) [X.t 57, X.t 60, X.t 61, X.t 62], I.mk none (some 64) (Ef.pr (Pr.ext 0)) [X.t 63], I.mk none (some 65) (Ef.pr (Pr.ext 1)) [X.t 63], I.mk none (some 8) (Ef.pr Pr.mv) [X.t 64], I.mk none (some 9) (Ef.pr Pr.mv) [X.t 65]]) IC.ret)))

theorem k36 : Go.Proofs.Tryd.f36.body.bind (comp Go.Proofs.Tryd.prog 66 [7] []) = some c36 := by kernel_rfl

theorem r36 : cRVs Go.Proofs.Tryd.prog Go.Proofs.Tryd.f36.results.toList = some [RV.t 8, RV.t 9] := by kernel_rfl

theorem e36 {args : List Value} {h : Hp} {Q : Value → Hp → Prop} (hl : Nat.ble args.length 66 = true) (hk : codeK PR none c36 (retK Q [RV.t 8, RV.t 9]) (fun _ _ _ _ => False) (retK Q [RV.t 8, RV.t 9]) (argsE 0 args) [] h) : Ok PR 36 args h Q :=
  Ok.of mixed Go.Proofs.Tryd.func36 rfl k36 r36 hl hk

def c37 : IC := IC.seq (IC.ops [I.mk none (some 4) (Ef.pr Pr.mv) [X.c (Value.pointer none)]]) 
  (IC.seq 
  (IC.seq (IC.ops [I.mk none (some 5) (Ef.pr Pr.mv) [X.t 1], I.mk none (some 6) (Ef.pr (Pr.cm BinOp.lss)) [X.t 5, X.c (Value.int IntKind.i64 0)], I.mk none (some 7) (Ef.pr Pr.mv) [X.t 6], I.mk (some (7, false)) (some 8) (Ef.pr Pr.mv) [X.t 1], I.mk (some (7, false)) (some 9) (Ef.pr (Pr.cm BinOp.geq)) [X.t 8, X.c (Value.int IntKind.i64 16)], I.mk none (some 10) (Ef.pr Pr.pick) [X.t 7, X.c (Value.bool true), X.t 9]]) 
  (IC.cond (X.t 10) 
  (IC.seq (IC.ops [I.mk none (some 4) (Ef.pr Pr.mv) [X.c (Value.pointer none)]]) IC.ret) IC.skip)) 
  (IC.seq (IC.ops [I.mk none (some 11) (Ef.pr Pr.mv) [X.t 0], I.mk none (some 12) (Ef.pr Pr.mv) [X.t 1], I.mk none (some 13) (Ef.pr Pr.nilc) [X.t 11], I.mk none (some 14) (Ef.pr (Pr.fa 0)) [X.t 13], I.mk none (some 15) (Ef.pr (Pr.iaA 16 1)) [X.t 14, X.t 12], I.mk none (some 16) (Ef.pr (Pr.ld 1 false)) [X.t 15], I.mk none (some 4) (Ef.pr Pr.mv) [X.t 16]]) IC.ret))

theorem k37 : Go.Proofs.Tryd.f37.body.bind (comp Go.Proofs.Tryd.prog 17 [] []) = some c37 := by kernel_rfl

theorem r37 : cRVs Go.Proofs.Tryd.prog Go.Proofs.Tryd.f37.results.toList = some [RV.t 4] := by kernel_rfl

theorem e37 {args : List Value} {h : Hp} {Q : Value → Hp → Prop} (hl : Nat.ble args.length 17 = true) (hk : codeK PR none c37 (retK Q [RV.t 4]) (fun _ _ _ _ => False) (retK Q [RV.t 4]) (argsE 0 args) [] h) : Ok PR 37 args h Q :=
  Ok.of mixed Go.Proofs.Tryd.func37 rfl k37 r37 hl hk

def c38 : IC := IC.seq (IC.ops [I.mk none (some 6) (Ef.pr Pr.mv) [X.c (Value.pointer none)], I.mk none (some 7) (Ef.pr Pr.mv) [X.c (Value.int IntKind.i64 0)]]) 
  (IC.seq (IC.ops [I.mk none (some 11) (Ef.pr Pr.mv) [X.t 0], I.mk none (some 12) (Ef.pr Pr.mv) [X.t 1], I.mk none (some 13) (Ef.call 37) [X.t 11, X.t 12], I.mk none (some 8) (Ef.pr Pr.mv) [X.t 13]]) 
  (IC.seq 
  (IC.seq (IC.ops [I.mk none (some 14) (Ef.pr Pr.mv) [X.t 8], I.mk none (some 15) (Ef.pr (Pr.eq false (EqT.one EqS.p))) [X.t 14, X.c (Value.pointer none)]]) 
  (IC.cond (X.t 15) 
  (IC.seq (IC.ops [I.mk none (some 6) (Ef.pr Pr.mv) [X.c (Value.pointer none)], I.mk none (some 7) (Ef.pr Pr.mv) [X.c (Value.int IntKind.i64 83)]]) IC.ret) IC.skip)) 
  (IC.seq (IC.ops [I.mk none (some 17) (Ef.pr Pr.mv) [X.t 8], I.mk none (some 18) (Ef.pr Pr.mv) [X.t 2], I.mk none (some 19) (Ef.call 71) [X.t 17, X.t 18], I.mk none (some 16) (Ef.pr Pr.mv) [X.t 19], I.mk none (some 20) (Ef.pr (Pr.ext 0)) [X.t 16], I.mk none (some 21) (Ef.pr (Pr.ext 1)) [X.t 16], I.mk none (some 9) (Ef.pr Pr.mv) [X.t 20], I.mk none (some 10) (Ef.pr Pr.mv) [X.t 21]]) 
  (IC.seq 
  (IC.seq (IC.ops [I.mk none (some 22) (Ef.pr Pr.mv) [X.t 10], I.mk none (some 23) (Ef.pr (Pr.un UnOp.not)) [X.t 22]]) 
  (IC.cond (X.t 23) 
  (IC.seq (IC.ops [I.mk none (some 6) (Ef.pr Pr.mv) [X.c (Value.pointer none)], I.mk none (some 7) (Ef.pr Pr.mv) [X.c (Value.int IntKind.i64 80)]]) IC.ret) IC.skip)) 
  (IC.seq (IC.ops [I.mk none (some 24) (Ef.pr Pr.mv) [X.t 9], I.mk none (some 6) (Ef.pr Pr.mv) [X.t 24], I.mk none (some 7) (Ef.pr Pr.mv) [X.c (Value.int IntKind.i64 0)]]) IC.ret)))))

theorem k38 : Go.Proofs.Tryd.f38.body.bind (comp Go.Proofs.Tryd.prog 25 [] []) = some c38 := by kernel_rfl

theorem r38 : cRVs Go.Proofs.Tryd.prog Go.Proofs.Tryd.f38.results.toList = some [RV.t 6, RV.t 7] := by kernel_rfl

theorem e38 {args : List Value} {h : Hp} {Q : Value → Hp → Prop} (hl : Nat.ble args.length 25 = true) (hk : codeK PR none c38 (retK Q [RV.t 6, RV.t 7]) (fun _ _ _ _ => False) (retK Q [RV.t 6, RV.t 7]) (argsE 0 args) [] h) : Ok PR 38 args h Q :=
  Ok.of mixed Go.Proofs.Tryd.func38 rfl k38 r38 hl hk

def c39 : IC := IC.seq (IC.ops [I.mk none (some 2) (Ef.pr Pr.mv) [X.c (Value.bool false)]]) 
  (IC.seq (IC.ops [I.mk none (some 3) (Ef.pr Pr.mv) [X.t 0], I.mk none (some 4) (Ef.pr (Pr.cm BinOp.geq)) [X.t 3, X.c (Value.int IntKind.i64 (-1))], I.mk none (some 5) (Ef.pr Pr.mv) [X.t 4], I.mk (some (5, true)) (some 6) (Ef.pr Pr.mv) [X.t 0], I.mk (some (5, true)) (some 7) (Ef.pr (Pr.cm BinOp.lss)) [X.t 6, X.c (Value.int IntKind.i64 48)], I.mk none (some 8) (Ef.pr Pr.pick) [X.t 5, X.t 7, X.c (Value.bool false)], I.mk none (some 2) (Ef.pr Pr.mv) [X.t 8]]) IC.ret)

theorem k39 : Go.Proofs.Tryd.f39.body.bind (comp Go.Proofs.Tryd.prog 9 [] []) = some c39 := by kernel_rfl

theorem r39 : cRVs Go.Proofs.Tryd.prog Go.Proofs.Tryd.f39.results.toList = some [RV.t 2] := by kernel_rfl

theorem e39 {args : List Value} {h : Hp} {Q : Value → Hp → Prop} (hl : Nat.ble args.length 9 = true) (hk : codeK PR none c39 (retK Q [RV.t 2]) (fun _ _ _ _ => False) (retK Q [RV.t 2]) (argsE 0 args) [] h) : Ok PR 39 args h Q :=
  Ok.of mixed Go.Proofs.Tryd.func39 rfl k39 r39 hl hk

def c40 : IC := IC.seq (IC.ops [I.mk none (some 8) (Ef.pr Pr.mv) [X.c (Value.int IntKind.i64 0)], I.mk none (some 9) (Ef.pr Pr.mv) [X.c (Value.int IntKind.i64 0)]]) 
  (IC.seq (IC.ops [I.mk none (some 14) (Ef.pr Pr.mv) [X.t 0], I.mk none (some 15) (Ef.pr Pr.mv) [X.t 2], I.mk none (some 16) (Ef.pr Pr.nilc) [X.t 14], I.mk none (some 17) (Ef.pr (Pr.fa 0)) [X.t 16], I.mk none (some 18) (Ef.pr (Pr.iaA 16 1)) [X.t 17, X.t 15], I.mk none (some 19) (Ef.pr (Pr.ld 1 false)) [X.t 18], I.mk none (some 10) (Ef.pr Pr.mv) [X.t 19]]) 
  (IC.seq 
  (IC.seq (IC.ops [I.mk none (some 20) (Ef.pr Pr.mv) [X.t 3], I.mk none (some 21) (Ef.pr (Pr.cm BinOp.geq)) [X.t 20, X.c (Value.int IntKind.i64 0)]]) 
  (IC.cond (X.t 21) 
  (IC.seq (IC.ops [I.mk none (some 22) (Ef.pr Pr.mv) [X.t 10], I.mk none (some 23) (Ef.pr Pr.mv) [X.t 3], I.mk none (some 24) (Ef.pr Pr.mv) [X.t 1], I.mk none (some 25) (Ef.call 72) [X.t 22, X.t 23, X.t 24], I.mk none (some 11) (Ef.pr Pr.mv) [X.t 25]]) 
  (IC.seq (IC.ops [I.mk none (some 26) (Ef.pr Pr.mv) [X.t 11], I.mk none (some 27) (Ef.pr (Pr.cm BinOp.neq)) [X.t 26, X.c (Value.int IntKind.i64 0)]]) 
  (IC.cond (X.t 27) 
  (IC.seq (IC.ops [I.mk none (some 28) (Ef.pr Pr.mv) [X.t 11], I.mk none (some 8) (Ef.pr Pr.mv) [X.c (Value.int IntKind.i64 (-1))], I.mk none (some 9) (Ef.pr Pr.mv) [X.t 28]]) IC.ret) IC.skip))) 
  (IC.seq (IC.ops [I.mk none (some 30) (Ef.pr Pr.mv) [X.t 10], I.mk none (some 31) (Ef.pr Pr.mv) [X.t 1], I.mk none (some 32) (Ef.call 73) [X.t 30, X.t 31], I.mk none (some 29) (Ef.pr Pr.mv) [X.t 32], I.mk none (some 33) (Ef.pr (Pr.ext 0)) [X.t 29], I.mk none (some 34) (Ef.pr (Pr.ext 1)) [X.t 29], I.mk none (some 12) (Ef.pr Pr.mv) [X.t 33], I.mk none (some 13) (Ef.pr Pr.mv) [X.t 34]]) 
  (IC.seq 
  (IC.seq (IC.ops [I.mk none (some 35) (Ef.pr Pr.mv) [X.t 13], I.mk none (some 36) (Ef.pr (Pr.cm BinOp.neq)) [X.t 35, X.c (Value.int IntKind.i64 0)]]) 
  (IC.cond (X.t 36) 
  (IC.seq (IC.ops [I.mk none (some 37) (Ef.pr Pr.mv) [X.t 13], I.mk none (some 8) (Ef.pr Pr.mv) [X.c (Value.int IntKind.i64 (-1))], I.mk none (some 9) (Ef.pr Pr.mv) [X.t 37]]) IC.ret) IC.skip)) (IC.ops [I.mk none (some 38) (Ef.pr Pr.mv) [X.t 12], I.mk none (some 3) (Ef.pr Pr.mv) [X.t 38]]))))) 
  (IC.seq (IC.ops [I.mk none (some 39) (Ef.pr Pr.mv) [X.t 1], I.mk none (some 40) (Ef.pr Pr.mv) [X.t 2], I.mk none (some 41) (Ef.pr Pr.mv) [X.t 3], I.mk none (some 42) (Ef.pr (Pr.bld [Value.int IntKind.i64 0, Value.int IntKind.i64 0] [(0, 1), (1, 1)])) [X.t 40, X.t 41], I.mk none (some 43) (Ef.pr Pr.nilc) [X.t 39], I.mk none (some 44) (Ef.pr (Pr.fa 0)) [X.t 43], I.mk none none (Ef.st 2) [X.t 44, X.t 42]]) 
  (IC.seq (IC.ops [I.mk none (some 45) (Ef.pr Pr.mv) [X.t 3], I.mk none (some 8) (Ef.pr Pr.mv) [X.t 45], I.mk none (some 9) (Ef.pr Pr.mv) [X.c (Value.int IntKind.i64 0)]]) IC.ret))))

theorem k40 : Go.Proofs.Tryd.f40.body.bind (comp Go.Proofs.Tryd.prog 46 [] []) = some c40 := by kernel_rfl

theorem r40 : cRVs Go.Proofs.Tryd.prog Go.Proofs.Tryd.f40.results.toList = some [RV.t 8, RV.t 9] := by kernel_rfl

theorem e40 {args : List Value} {h : Hp} {Q : Value → Hp → Prop} (hl : Nat.ble args.length 46 = true) (hk : codeK PR none c40 (retK Q [RV.t 8, RV.t 9]) (fun _ _ _ _ => False) (retK Q [RV.t 8, RV.t 9]) (argsE 0 args) [] h) : Ok PR 40 args h Q :=
  Ok.of mixed Go.Proofs.Tryd.func40 rfl k40 r40 hl hk

def c41 : IC := IC.seq (IC.plan (Plan.q (I.mk none (some 10) (Ef.pr Pr.mv) [X.t 0]) (Plan.q (I.mk none (some 11) (Ef.pr Pr.mv) [X.t 1]) (Plan.q (I.mk none (some 12) (Ef.pr Pr.nilc) [X.t 11]) (Plan.q (I.mk none (some 13) (Ef.pr (Pr.fa 0)) [X.t 12]) (Plan.q (I.mk none (some 14) (Ef.pr (Pr.fa 0)) [X.t 13]) (Plan.q (I.mk none (some 15) (Ef.pr (Pr.ld 1 false)) [X.t 14]) (Plan.q (I.mk none (some 16) (Ef.pr Pr.nilc) [X.t 10]) (Plan.q (I.mk none (some 17) (Ef.pr (Pr.fa 0)) [X.t 16]) (Plan.q (I.mk none (some 18) (Ef.pr (Pr.iaA 16 1)) [X.t 17, X.t 15]) (Plan.q (I.mk none (some 19) (Ef.pr (Pr.ld 1 false)) [X.t 18]) (Plan.q (I.mk none (some 20) (Ef.pr Pr.mv) [X.t 1]) (Plan.q (I.mk none (some 21) (Ef.pr Pr.nilc) [X.t 20]) (Plan.q (I.mk none (some 22) (Ef.pr (Pr.fa 0)) [X.t 21]) (Plan.q (I.mk none (some 23) (Ef.pr (Pr.fa 1)) [X.t 22]) (Plan.q (I.mk none (some 24) (Ef.pr (Pr.ld 1 false)) [X.t 23]) (Plan.br (PlanL.cons false false (I.mk none (some 25) (Ef.call 74) [X.t 19, X.t 24]) Plan.done PlanL.nil)))))))))))))))))) 
  (IC.seq 
  (IC.seq (IC.ops [I.mk none (some 26) (Ef.pr Pr.mv) [X.t 1], I.mk none (some 27) (Ef.pr Pr.nilc) [X.t 26], I.mk none (some 28) (Ef.pr (Pr.fa 7)) [X.t 27], I.mk none (some 29) (Ef.pr (Pr.ld 1 false)) [X.t 28], I.mk none (some 30) (Ef.pr Pr.lenS) [X.t 29], I.mk none (some 31) (Ef.pr Pr.mv) [X.c (Value.int IntKind.i64 0)]]) 
  (IC.block 0 
  (IC.loop 
  (IC.seq (IC.ops [I.mk none (some 32) (Ef.pr (Pr.cm BinOp.lss)) [X.t 31, X.t 30]]) 
  (IC.seq 
  (IC.cond (X.t 32) IC.skip (IC.exit 0)) 
  (IC.seq 
  (IC.block 1 
  (IC.seq (IC.ops [I.mk none (some 33) (Ef.pr (Pr.iaS 1)) [X.t 29, X.t 31], I.mk none (some 34) (Ef.pr (Pr.ld 1 false)) [X.t 33], I.mk none (some 5) (Ef.pr Pr.mv) [X.t 34]]) (IC.ops [I.mk none (some 35) (Ef.pr Pr.mv) [X.t 5], I.mk none (some 36) (Ef.pr Pr.mv) [X.t 1], I.mk none (some 37) (Ef.pr Pr.nilc) [X.t 36], I.mk none (some 38) (Ef.pr (Pr.fa 6)) [X.t 37], I.mk none (some 39) (Ef.pr (Pr.ld 1 false)) [X.t 38], I.mk none (some 40) (Ef.pr Pr.nilc) [X.t 35], I.mk none (some 41) (Ef.pr (Pr.fa 6)) [X.t 40], I.mk none none (Ef.st 1) [X.t 41, X.t 39]]))) (IC.ops [I.mk none (some 42) (Ef.pr (Pr.ar BinOp.add)) [X.t 31, X.c (Value.int IntKind.i64 1)], I.mk none (some 31) (Ef.pr Pr.mv) [X.t 42]]))))))) 
  (IC.seq 
  (IC.seq (IC.ops [I.mk none (some 43) (Ef.pr Pr.mv) [X.t 1], I.mk none (some 44) (Ef.pr Pr.nilc) [X.t 43], I.mk none (some 45) (Ef.pr (Pr.fa 6)) [X.t 44], I.mk none (some 46) (Ef.pr (Pr.ld 1 false)) [X.t 45], I.mk none (some 6) (Ef.pr Pr.mv) [X.t 46]]) 
  (IC.seq (IC.ops [I.mk none (some 47) (Ef.pr Pr.mv) [X.t 6], I.mk none (some 48) (Ef.pr (Pr.eq true (EqT.one EqS.p))) [X.t 47, X.c (Value.pointer none)]]) 
  (IC.cond (X.t 48) 
  (IC.seq (IC.ops [I.mk none (some 7) (Ef.pr Pr.mv) [X.c (Value.slice none 0 0)]]) 
  (IC.seq 
  (IC.seq (IC.ops [I.mk none (some 49) (Ef.pr Pr.mv) [X.t 6], I.mk none (some 50) (Ef.pr Pr.nilc) [X.t 49], I.mk none (some 51) (Ef.pr (Pr.fa 7)) [X.t 50], I.mk none (some 52) (Ef.pr (Pr.ld 1 false)) [X.t 51], I.mk none (some 53) (Ef.pr Pr.lenS) [X.t 52], I.mk none (some 54) (Ef.pr Pr.mv) [X.c (Value.int IntKind.i64 0)]]) 
  (IC.block 2 
  (IC.loop 
  (IC.seq (IC.ops [I.mk none (some 55) (Ef.pr (Pr.cm BinOp.lss)) [X.t 54, X.t 53]]) 
  (IC.seq 
  (IC.cond (X.t 55) IC.skip (IC.exit 2)) 
  (IC.seq 
  (IC.block 3 
  (IC.seq (IC.ops [I.mk none (some 56) (Ef.pr (Pr.iaS 1)) [X.t 52, X.t 54], I.mk none (some 57) (Ef.pr (Pr.ld 1 false)) [X.t 56], I.mk none (some 9) (Ef.pr Pr.mv) [X.t 57]]) 
  (IC.seq (IC.ops [I.mk none (some 58) (Ef.pr Pr.mv) [X.t 9], I.mk none (some 59) (Ef.pr Pr.mv) [X.t 1], I.mk none (some 60) (Ef.pr (Pr.eq true (EqT.one EqS.p))) [X.t 58, X.t 59]]) 
  (IC.cond (X.t 60) (IC.ops [I.mk none (some 61) (Ef.pr Pr.mv) [X.t 7], I.mk none (some 62) (Ef.pr Pr.mv) [X.t 9], I.mk none (some 63) (Ef.bsl [Value.pointer none] 79 1 1 [0]) [X.t 62], I.mk none (some 64) (Ef.app [Value.pointer none] 79 8) [X.t 61, X.t 63], I.mk none (some 7) (Ef.pr Pr.mv) [X.t 64]]) IC.skip)))) (IC.ops [I.mk none (some 65) (Ef.pr (Pr.ar BinOp.add)) [X.t 54, X.c (Value.int IntKind.i64 1)], I.mk none (some 54) (Ef.pr Pr.mv) [X.t 65]]))))))) (IC.ops [I.mk none (some 66) (Ef.pr Pr.mv) [X.t 6], I.mk none (some 67) (Ef.pr Pr.mv) [X.t 7], I.mk none (some 68) (Ef.pr Pr.mv) [X.t 1], I.mk none (some 69) (Ef.pr Pr.nilc) [X.t 68], I.mk none (some 70) (Ef.pr (Pr.fa 7)) [X.t 69], I.mk none (some 71) (Ef.pr (Pr.ld 1 false)) [X.t 70], I.mk none (some 72) (Ef.app [Value.pointer none] 79 8) [X.t 67, X.t 71], I.mk none (some 73) (Ef.pr Pr.nilc) [X.t 66], I.mk none (some 74) (Ef.pr (Pr.fa 7)) [X.t 73], I.mk none none (Ef.st 1) [X.t 74, X.t 72]]))) IC.skip))) (IC.ops [I.mk none (some 75) (Ef.pr Pr.mv) [X.t 1], I.mk none (some 76) (Ef.pr Pr.nilc) [X.t 75], I.mk none (some 77) (Ef.pr (Pr.fa 7)) [X.t 76], I.mk none none (Ef.st 1) [X.t 77, X.c (Value.slice none 0 0)]])))

theorem k41 : Go.Proofs.Tryd.f41.body.bind (comp Go.Proofs.Tryd.prog 78 [] []) = some c41 := by kernel_rfl

theorem r41 : cRVs Go.Proofs.Tryd.prog Go.Proofs.Tryd.f41.results.toList = some [] := by kernel_rfl

theorem e41 {args : List Value} {h : Hp} {Q : Value → Hp → Prop} (hl : Nat.ble args.length 78 = true) (hk : codeK PR none c41 (retK Q []) (fun _ _ _ _ => False) (retK Q []) (argsE 0 args) [] h) : Ok PR 41 args h Q :=
  Ok.of mixed Go.Proofs.Tryd.func41 rfl k41 r41 hl hk

def c11 : IC := IC.seq (IC.ops [I.mk none (some 12) (Ef.pr Pr.mv) [X.c (Value.int IntKind.i64 0)], I.mk none (some 13) (Ef.pr Pr.mv) [X.c (Value.int IntKind.i64 0)]]) 
  (IC.seq 
  (IC.seq (IC.ops [I.mk none (some 18) (Ef.pr Pr.mv) [X.t 0], I.mk none (some 19) (Ef.pr Pr.mv) [X.t 1], I.mk none (some 20) (Ef.call 37) [X.t 18, X.t 19], I.mk none (some 21) (Ef.pr (Pr.eq false (EqT.one EqS.p))) [X.t 20, X.c (Value.pointer none)], I.mk none (some 22) (Ef.pr Pr.mv) [X.t 21], I.mk (some (22, false)) (some 23) (Ef.pr Pr.mv) [X.t 0], I.mk (some (22, false)) (some 24) (Ef.pr Pr.mv) [X.t 3], I.mk (some (22, false)) (some 25) (Ef.call 37) [X.t 23, X.t 24], I.mk (some (22, false)) (some 26) (Ef.pr (Pr.eq false (EqT.one EqS.p))) [X.t 25, X.c (Value.pointer none)], I.mk none (some 27) (Ef.pr Pr.pick) [X.t 22, X.c (Value.bool true), X.t 26]]) 
  (IC.cond (X.t 27) 
  (IC.seq (IC.ops [I.mk none (some 12) (Ef.pr Pr.mv) [X.c (Value.int IntKind.i64 (-1))], I.mk none (some 13) (Ef.pr Pr.mv) [X.c (Value.int IntKind.i64 83)]]) IC.ret) IC.skip)) 
  (IC.seq (IC.ops [I.mk none (some 29) (Ef.pr Pr.mv) [X.t 0], I.mk none (some 30) (Ef.pr Pr.mv) [X.t 1], I.mk none (some 31) (Ef.pr Pr.mv) [X.t 2], I.mk none (some 32) (Ef.call 38) [X.t 29, X.t 30, X.t 31], I.mk none (some 28) (Ef.pr Pr.mv) [X.t 32], I.mk none (some 33) (Ef.pr (Pr.ext 0)) [X.t 28], I.mk none (some 34) (Ef.pr (Pr.ext 1)) [X.t 28], I.mk none (some 14) (Ef.pr Pr.mv) [X.t 33], I.mk none (some 15) (Ef.pr Pr.mv) [X.t 34]]) 
  (IC.seq 
  (IC.seq (IC.ops [I.mk none (some 35) (Ef.pr Pr.mv) [X.t 15], I.mk none (some 36) (Ef.pr (Pr.cm BinOp.neq)) [X.t 35, X.c (Value.int IntKind.i64 0)]]) 
  (IC.cond (X.t 36) 
  (IC.seq (IC.ops [I.mk none (some 37) (Ef.pr Pr.mv) [X.t 15], I.mk none (some 12) (Ef.pr Pr.mv) [X.c (Value.int IntKind.i64 (-1))], I.mk none (some 13) (Ef.pr Pr.mv) [X.t 37]]) IC.ret) IC.skip)) 
  (IC.seq 
  (IC.seq (IC.ops [I.mk none (some 38) (Ef.pr Pr.mv) [X.t 4], I.mk none (some 39) (Ef.call 39) [X.t 38], I.mk none (some 40) (Ef.pr (Pr.un UnOp.not)) [X.t 39], I.mk none (some 41) (Ef.pr Pr.mv) [X.t 40], I.mk (some (41, false)) (some 42) (Ef.pr Pr.mv) [X.t 5], I.mk (some (41, false)) (some 43) (Ef.pr (Pr.cm BinOp.lss)) [X.t 42, X.c (Value.int IntKind.i64 0)], I.mk none (some 44) (Ef.pr Pr.pick) [X.t 41, X.c (Value.bool true), X.t 43], I.mk none (some 45) (Ef.pr Pr.mv) [X.t 44], I.mk (some (45, false)) (some 46) (Ef.pr Pr.mv) [X.t 5], I.mk (some (45, false)) (some 47) (Ef.pr (Pr.cm BinOp.gtr)) [X.t 46, X.c (Value.int IntKind.i64 15)], I.mk none (some 48) (Ef.pr Pr.pick) [X.t 45, X.c (Value.bool true), X.t 47]]) 
  (IC.cond (X.t 48) 
  (IC.seq (IC.ops [I.mk none (some 12) (Ef.pr Pr.mv) [X.c (Value.int IntKind.i64 (-1))], I.mk none (some 13) (Ef.pr Pr.mv) [X.c (Value.int IntKind.i64 1)]]) IC.ret) IC.skip)) 
  (IC.seq 
  (IC.seq (IC.ops [I.mk none (some 49) (Ef.pr Pr.mv) [X.t 14], I.mk none (some 50) (Ef.pr Pr.nilc) [X.t 49], I.mk none (some 51) (Ef.pr (Pr.fa 2)) [X.t 50], I.mk none (some 52) (Ef.pr (Pr.fa 3)) [X.t 51], I.mk none (some 53) (Ef.pr (Pr.ld 1 false)) [X.t 52], I.mk none (some 54) (Ef.pr (Pr.bt BinOp.and)) [X.t 53, X.c (Value.int IntKind.i64 4)], I.mk none (some 55) (Ef.pr (Pr.cm BinOp.eql)) [X.t 54, X.c (Value.int IntKind.i64 0)], I.mk none (some 56) (Ef.pr Pr.mv) [X.t 55], I.mk (some (56, false)) (some 57) (Ef.pr Pr.mv) [X.t 5], I.mk (some (56, false)) (some 58) (Ef.pr Pr.mv) [X.t 14], I.mk (some (56, false)) (some 59) (Ef.pr Pr.nilc) [X.t 58], I.mk (some (56, false)) (some 60) (Ef.pr (Pr.fa 2)) [X.t 59], I.mk (some (56, false)) (some 61) (Ef.pr (Pr.fa 3)) [X.t 60], I.mk (some (56, false)) (some 62) (Ef.pr (Pr.ld 1 false)) [X.t 61], I.mk (some (56, false)) (some 63) (Ef.pr (Pr.bt BinOp.andNot)) [X.t 57, X.t 62], I.mk (some (56, false)) (some 64) (Ef.pr (Pr.cm BinOp.neq)) [X.t 63, X.c (Value.int IntKind.i64 0)], I.mk none (some 65) (Ef.pr Pr.pick) [X.t 56, X.c (Value.bool true), X.t 64]]) 
  (IC.cond (X.t 65) 
  (IC.seq (IC.ops [I.mk none (some 12) (Ef.pr Pr.mv) [X.c (Value.int IntKind.i64 (-1))], I.mk none (some 13) (Ef.pr Pr.mv) [X.c (Value.int IntKind.i64 81)]]) IC.ret) IC.skip)) 
  (IC.seq (IC.ops [I.mk none (some 66) (Ef.pr Pr.mv) [X.t 14], I.mk none (some 67) (Ef.pr Pr.nilc) [X.t 66], I.mk none (some 68) (Ef.pr (Pr.fa 2)) [X.t 67], I.mk none (some 69) (Ef.pr (Pr.ld 4 true)) [X.t 68], I.mk none (some 70) (Ef.pr Pr.mv) [X.t 14], I.mk none (some 71) (Ef.pr (Pr.bld [Value.int IntKind.i64 0, Value.int IntKind.i64 0, Value.int IntKind.i64 0, Value.int IntKind.i64 0, Value.int IntKind.i64 0, Value.int IntKind.i64 0, Value.pointer none, Value.slice none 0 0] [(2, 4), (6, 1)])) [X.t 69, X.t 70], I.mk none (some 72) (Ef.bxh 84) [X.t 71], I.mk none (some 16) (Ef.pr Pr.mv) [X.t 72]]) 
  (IC.seq (IC.ops [I.mk none (some 73) (Ef.pr Pr.mv) [X.t 16], I.mk none (some 74) (Ef.pr Pr.mv) [X.t 5], I.mk none (some 75) (Ef.pr Pr.nilc) [X.t 73], I.mk none (some 76) (Ef.pr (Pr.fa 2)) [X.t 75], I.mk none (some 77) (Ef.pr (Pr.fa 3)) [X.t 76], I.mk none none (Ef.st 1) [X.t 77, X.t 74]]) 
  (IC.seq (IC.ops [I.mk none (some 79) (Ef.pr Pr.mv) [X.t 0], I.mk none (some 80) (Ef.pr Pr.mv) [X.t 16], I.mk none (some 81) (Ef.pr Pr.mv) [X.t 3], I.mk none (some 82) (Ef.pr Pr.mv) [X.t 4], I.mk none (some 83) (Ef.call 40) [X.t 79, X.t 80, X.t 81, X.t 82], I.mk none (some 78) (Ef.pr Pr.mv) [X.t 83], I.mk none (some 84) (Ef.pr (Pr.ext 0)) [X.t 78], I.mk none (some 85) (Ef.pr (Pr.ext 1)) [X.t 78], I.mk none (some 17) (Ef.pr Pr.mv) [X.t 84], I.mk none (some 15) (Ef.pr Pr.mv) [X.t 85]]) 
  (IC.seq 
  (IC.seq (IC.ops [I.mk none (some 86) (Ef.pr Pr.mv) [X.t 15], I.mk none (some 87) (Ef.pr (Pr.cm BinOp.eql)) [X.t 86, X.c (Value.int IntKind.i64 0)]]) 
  (IC.cond (X.t 87) (IC.ops [I.mk none (some 88) (Ef.pr Pr.mv) [X.t 14], I.mk none (some 89) (Ef.pr Pr.mv) [X.t 14], I.mk none (some 90) (Ef.pr Pr.nilc) [X.t 89], I.mk none (some 91) (Ef.pr (Pr.fa 7)) [X.t 90], I.mk none (some 92) (Ef.pr (Pr.ld 1 false)) [X.t 91], I.mk none (some 93) (Ef.pr Pr.mv) [X.t 16], I.mk none (some 94) (Ef.bsl [Value.pointer none] 79 1 1 [0]) [X.t 93], I.mk none (some 95) (Ef.app [Value.pointer none] 79 8) [X.t 92, X.t 94], I.mk none (some 96) (Ef.pr Pr.nilc) [X.t 88], I.mk none (some 97) (Ef.pr (Pr.fa 7)) [X.t 96], I.mk none none (Ef.st 1) [X.t 97, X.t 95]]) IC.skip)) 
  (IC.seq (IC.ops [I.mk none (some 98) (Ef.pr Pr.mv) [X.t 17], I.mk none (some 99) (Ef.pr Pr.mv) [X.t 15], I.mk none (some 12) (Ef.pr Pr.mv) [X.t 98], I.mk none (some 13) (Ef.pr Pr.mv) [X.t 99]]) IC.ret))))))))))

theorem k11 : Go.Proofs.Tryd.f11.body.bind (comp Go.Proofs.Tryd.prog 100 [] []) = some c11 := by kernel_rfl

theorem r11 : cRVs Go.Proofs.Tryd.prog Go.Proofs.Tryd.f11.results.toList = some [RV.t 12, RV.t 13] := by kernel_rfl

theorem e11 {args : List Value} {h : Hp} {Q : Value → Hp → Prop} (hl : Nat.ble args.length 100 = true) (hk : codeK PR none c11 (retK Q [RV.t 12, RV.t 13]) (fun _ _ _ _ => False) (retK Q [RV.t 12, RV.t 13]) (argsE 0 args) [] h) : Ok PR 11 args h Q :=
  Ok.of mixed Go.Proofs.Tryd.func11 rfl k11 r11 hl hk

def c12 : IC := IC.seq (IC.ops [I.mk none (some 6) (Ef.al [Value.int IntKind.i64 0, Value.int IntKind.i64 0, Value.int IntKind.i64 0, Value.int IntKind.i64 0]) [], I.mk none (some 7) (Ef.pr Pr.mv) [X.c (Value.int IntKind.i64 0)]]) 
  (IC.seq (IC.ops [I.mk none (some 11) (Ef.pr Pr.mv) [X.t 0], I.mk none (some 12) (Ef.pr Pr.mv) [X.t 1], I.mk none (some 13) (Ef.pr Pr.mv) [X.t 2], I.mk none (some 14) (Ef.call 38) [X.t 11, X.t 12, X.t 13], I.mk none (some 10) (Ef.pr Pr.mv) [X.t 14], I.mk none (some 15) (Ef.pr (Pr.ext 0)) [X.t 10], I.mk none (some 16) (Ef.pr (Pr.ext 1)) [X.t 10], I.mk none (some 8) (Ef.pr Pr.mv) [X.t 15], I.mk none (some 9) (Ef.pr Pr.mv) [X.t 16]]) 
  (IC.seq 
  (IC.seq (IC.ops [I.mk none (some 17) (Ef.pr Pr.mv) [X.t 9], I.mk none (some 18) (Ef.pr (Pr.cm BinOp.neq)) [X.t 17, X.c (Value.int IntKind.i64 0)]]) 
  (IC.cond (X.t 18) 
  (IC.seq (IC.ops [I.mk none (some 19) (Ef.pr (Pr.bld [Value.int IntKind.i64 0, Value.int IntKind.i64 0, Value.int IntKind.i64 0, Value.int IntKind.i64 0] [])) [], I.mk none (some 20) (Ef.pr Pr.mv) [X.t 9], I.mk none none (Ef.st 4) [X.t 6, X.t 19], I.mk none (some 7) (Ef.pr Pr.mv) [X.t 20]]) IC.ret) IC.skip)) 
  (IC.seq (IC.ops [I.mk none (some 21) (Ef.pr Pr.mv) [X.t 0], I.mk none (some 22) (Ef.pr Pr.mv) [X.t 8], I.mk none (some 23) (Ef.call 41) [X.t 21, X.t 22]]) 
  (IC.seq (IC.ops [I.mk none (some 24) (Ef.pr Pr.mv) [X.t 8], I.mk none (some 25) (Ef.pr Pr.nilc) [X.t 24], I.mk none (some 26) (Ef.pr (Pr.fa 2)) [X.t 25], I.mk none (some 27) (Ef.pr (Pr.ld 4 true)) [X.t 26], I.mk none none (Ef.st 4) [X.t 6, X.t 27], I.mk none (some 7) (Ef.pr Pr.mv) [X.c (Value.int IntKind.i64 0)]]) IC.ret))))

theorem k12 : Go.Proofs.Tryd.f12.body.bind (comp Go.Proofs.Tryd.prog 28 [6] []) = some c12 := by kernel_rfl

theorem r12 : cRVs Go.Proofs.Tryd.prog Go.Proofs.Tryd.f12.results.toList = some [RV.c 6 4 true, RV.t 7] := by kernel_rfl

theorem e12 {args : List Value} {h : Hp} {Q : Value → Hp → Prop} (hl : Nat.ble args.length 28 = true) (hk : codeK PR none c12 (retK Q [RV.c 6 4 true, RV.t 7]) (fun _ _ _ _ => False) (retK Q [RV.c 6 4 true, RV.t 7]) (argsE 0 args) [] h) : Ok PR 12 args h Q :=
  Ok.of mixed Go.Proofs.Tryd.func12 rfl k12 r12 hl hk

def c13 : IC := IC.seq (IC.ops [I.mk none (some 6) (Ef.al [Value.int IntKind.i64 0, Value.int IntKind.i64 0]) [], I.mk none (some 7) (Ef.pr Pr.mv) [X.c (Value.int IntKind.i64 0)]]) 
  (IC.seq (IC.ops [I.mk none (some 11) (Ef.pr Pr.mv) [X.t 0], I.mk none (some 12) (Ef.pr Pr.mv) [X.t 1], I.mk none (some 13) (Ef.pr Pr.mv) [X.t 2], I.mk none (some 14) (Ef.call 38) [X.t 11, X.t 12, X.t 13], I.mk none (some 10) (Ef.pr Pr.mv) [X.t 14], I.mk none (some 15) (Ef.pr (Pr.ext 0)) [X.t 10], I.mk none (some 16) (Ef.pr (Pr.ext 1)) [X.t 10], I.mk none (some 8) (Ef.pr Pr.mv) [X.t 15], I.mk none (some 9) (Ef.pr Pr.mv) [X.t 16]]) 
  (IC.seq 
  (IC.seq (IC.ops [I.mk none (some 17) (Ef.pr Pr.mv) [X.t 9], I.mk none (some 18) (Ef.pr (Pr.cm BinOp.neq)) [X.t 17, X.c (Value.int IntKind.i64 0)], I.mk none (some 19) (Ef.pr Pr.mv) [X.t 18], I.mk (some (19, false)) (some 20) (Ef.pr Pr.mv) [X.t 8], I.mk (some (19, false)) (some 21) (Ef.pr Pr.nilc) [X.t 20], I.mk (some (19, false)) (some 22) (Ef.pr (Pr.fa 6)) [X.t 21], I.mk (some (19, false)) (some 23) (Ef.pr (Pr.ld 1 false)) [X.t 22], I.mk (some (19, false)) (some 24) (Ef.pr (Pr.eq false (EqT.one EqS.p))) [X.t 23, X.c (Value.pointer none)], I.mk none (some 25) (Ef.pr Pr.pick) [X.t 19, X.c (Value.bool true), X.t 24]]) 
  (IC.cond (X.t 25) 
  (IC.seq (IC.ops [I.mk none (some 26) (Ef.pr (Pr.ld 2 true)) [X.c (Value.pointer (some (Addr.mk 0 0 none)))], I.mk none (some 27) (Ef.pr Pr.mv) [X.t 9], I.mk none none (Ef.st 2) [X.t 6, X.t 26], I.mk none (some 7) (Ef.pr Pr.mv) [X.t 27]]) IC.ret) IC.skip)) 
  (IC.seq (IC.ops [I.mk none (some 28) (Ef.pr Pr.mv) [X.t 8], I.mk none (some 29) (Ef.pr Pr.nilc) [X.t 28], I.mk none (some 30) (Ef.pr (Pr.fa 6)) [X.t 29], I.mk none (some 31) (Ef.pr (Pr.ld 1 false)) [X.t 30], I.mk none (some 32) (Ef.pr Pr.nilc) [X.t 31], I.mk none (some 33) (Ef.pr (Pr.fa 0)) [X.t 32], I.mk none (some 34) (Ef.pr (Pr.ld 2 true)) [X.t 33], I.mk none none (Ef.st 2) [X.t 6, X.t 34], I.mk none (some 7) (Ef.pr Pr.mv) [X.c (Value.int IntKind.i64 0)]]) IC.ret)))

theorem k13 : Go.Proofs.Tryd.f13.body.bind (comp Go.Proofs.Tryd.prog 35 [6] []) = some c13 := by kernel_rfl

theorem r13 : cRVs Go.Proofs.Tryd.prog Go.Proofs.Tryd.f13.results.toList = some [RV.c 6 2 true, RV.t 7] := by kernel_rfl

theorem e13 {args : List Value} {h : Hp} {Q : Value → Hp → Prop} (hl : Nat.ble args.length 35 = true) (hk : codeK PR none c13 (retK Q [RV.c 6 2 true, RV.t 7]) (fun _ _ _ _ => False) (retK Q [RV.c 6 2 true, RV.t 7]) (argsE 0 args) [] h) : Ok PR 13 args h Q :=
  Ok.of mixed Go.Proofs.Tryd.func13 rfl k13 r13 hl hk

def c14 : IC := IC.seq (IC.ops [I.mk none (some 8) (Ef.al [Value.int IntKind.i64 0, Value.int IntKind.i64 0]) [], I.mk none (some 9) (Ef.pr Pr.mv) [X.c (Value.int IntKind.i64 0)]]) 
  (IC.seq (IC.ops [I.mk none (some 16) (Ef.pr Pr.mv) [X.t 0], I.mk none (some 17) (Ef.pr Pr.mv) [X.t 1], I.mk none (some 18) (Ef.pr Pr.mv) [X.t 2], I.mk none (some 19) (Ef.call 38) [X.t 16, X.t 17, X.t 18], I.mk none (some 15) (Ef.pr Pr.mv) [X.t 19], I.mk none (some 20) (Ef.pr (Pr.ext 0)) [X.t 15], I.mk none (some 21) (Ef.pr (Pr.ext 1)) [X.t 15], I.mk none (some 10) (Ef.pr Pr.mv) [X.t 20], I.mk none (some 11) (Ef.pr Pr.mv) [X.t 21]]) 
  (IC.seq 
  (IC.seq (IC.ops [I.mk none (some 22) (Ef.pr Pr.mv) [X.t 11], I.mk none (some 23) (Ef.pr (Pr.cm BinOp.neq)) [X.t 22, X.c (Value.int IntKind.i64 0)]]) 
  (IC.cond (X.t 23) 
  (IC.seq (IC.ops [I.mk none (some 24) (Ef.pr (Pr.ld 2 true)) [X.c (Value.pointer (some (Addr.mk 0 0 none)))], I.mk none (some 25) (Ef.pr Pr.mv) [X.t 11], I.mk none none (Ef.st 2) [X.t 8, X.t 24], I.mk none (some 9) (Ef.pr Pr.mv) [X.t 25]]) IC.ret) IC.skip)) 
  (IC.seq 
  (IC.seq (IC.ops [I.mk none (some 26) (Ef.pr Pr.mv) [X.t 10], I.mk none (some 27) (Ef.pr Pr.nilc) [X.t 26], I.mk none (some 28) (Ef.pr (Pr.fa 6)) [X.t 27], I.mk none (some 29) (Ef.pr (Pr.ld 1 false)) [X.t 28], I.mk none (some 12) (Ef.pr Pr.mv) [X.t 29]]) 
  (IC.block 0 
  (IC.loop 
  (IC.seq 
  (IC.seq (IC.ops [I.mk none (some 30) (Ef.pr Pr.mv) [X.t 12], I.mk none (some 31) (Ef.pr (Pr.eq true (EqT.one EqS.p))) [X.t 30, X.c (Value.pointer none)]]) 
  (IC.cond (X.t 31) IC.skip (IC.exit 0))) 
  (IC.seq 
  (IC.block 1 
  (IC.seq (IC.ops [I.mk none (some 36) (Ef.pr Pr.mv) [X.t 3], I.mk none (some 37) (Ef.pr Pr.lenS) [X.t 36], I.mk none (some 38) (Ef.pr Pr.mv) [X.c (Value.int IntKind.i64 0)]]) 
  (IC.block 2 
  (IC.loop 
  (IC.seq (IC.ops [I.mk none (some 39) (Ef.pr (Pr.cm BinOp.lss)) [X.t 38, X.t 37]]) 
  (IC.seq 
  (IC.cond (X.t 39) IC.skip (IC.exit 2)) 
  (IC.seq 
  (IC.block 3 
  (IC.seq (IC.ops [I.mk none (some 40) (Ef.pr (Pr.iaS 1)) [X.t 36, X.t 38], I.mk none (some 41) (Ef.pr (Pr.ld 1 false)) [X.t 40], I.mk none (some 14) (Ef.pr Pr.mv) [X.t 41]]) 
  (IC.seq (IC.ops [I.mk none (some 42) (Ef.pr Pr.mv) [X.t 14], I.mk none (some 43) (Ef.pr Pr.mv) [X.t 12], I.mk none (some 44) (Ef.pr Pr.nilc) [X.t 43], I.mk none (some 45) (Ef.pr (Pr.fa 0)) [X.t 44], I.mk none (some 46) (Ef.pr (Pr.fa 0)) [X.t 45], I.mk none (some 47) (Ef.pr (Pr.ld 1 false)) [X.t 46], I.mk none (some 48) (Ef.pr (Pr.cm BinOp.eql)) [X.t 42, X.t 47]]) 
  (IC.cond (X.t 48) 
  (IC.seq (IC.ops [I.mk none (some 49) (Ef.pr Pr.mv) [X.t 12], I.mk none (some 50) (Ef.pr Pr.nilc) [X.t 49], I.mk none (some 51) (Ef.pr (Pr.fa 0)) [X.t 50], I.mk none (some 52) (Ef.pr (Pr.ld 2 true)) [X.t 51], I.mk none none (Ef.st 2) [X.t 8, X.t 52], I.mk none (some 9) (Ef.pr Pr.mv) [X.c (Value.int IntKind.i64 0)]]) IC.ret) IC.skip)))) (IC.ops [I.mk none (some 53) (Ef.pr (Pr.ar BinOp.add)) [X.t 38, X.c (Value.int IntKind.i64 1)], I.mk none (some 38) (Ef.pr Pr.mv) [X.t 53]])))))))) (IC.ops [I.mk none (some 32) (Ef.pr Pr.mv) [X.t 12], I.mk none (some 33) (Ef.pr Pr.nilc) [X.t 32], I.mk none (some 34) (Ef.pr (Pr.fa 6)) [X.t 33], I.mk none (some 35) (Ef.pr (Pr.ld 1 false)) [X.t 34], I.mk none (some 12) (Ef.pr Pr.mv) [X.t 35]])))))) 
  (IC.seq (IC.ops [I.mk none (some 54) (Ef.pr (Pr.ld 2 true)) [X.c (Value.pointer (some (Addr.mk 0 0 none)))], I.mk none none (Ef.st 2) [X.t 8, X.t 54], I.mk none (some 9) (Ef.pr Pr.mv) [X.c (Value.int IntKind.i64 0)]]) IC.ret))))

theorem k14 : Go.Proofs.Tryd.f14.body.bind (comp Go.Proofs.Tryd.prog 55 [8] []) = some c14 := by kernel_rfl

theorem r14 : cRVs Go.Proofs.Tryd.prog Go.Proofs.Tryd.f14.results.toList = some [RV.c 8 2 true, RV.t 9] := by kernel_rfl

theorem e14 {args : List Value} {h : Hp} {Q : Value → Hp → Prop} (hl : Nat.ble args.length 55 = true) (hk : codeK PR none c14 (retK Q [RV.c 8 2 true, RV.t 9]) (fun _ _ _ _ => False) (retK Q [RV.c 8 2 true, RV.t 9]) (argsE 0 args) [] h) : Ok PR 14 args h Q :=
  Ok.of mixed Go.Proofs.Tryd.func14 rfl k14 r14 hl hk

def c19 : IC := IC.seq (IC.ops [I.mk none (some 6) (Ef.al [Value.int IntKind.i64 0, Value.int IntKind.i64 0, Value.int IntKind.i64 0, Value.int IntKind.i64 0]) [], I.mk none (some 7) (Ef.pr Pr.mv) [X.c (Value.int IntKind.i64 0)]]) 
  (IC.seq (IC.ops [I.mk none (some 11) (Ef.pr Pr.mv) [X.t 0], I.mk none (some 12) (Ef.pr Pr.mv) [X.t 1], I.mk none (some 13) (Ef.pr Pr.mv) [X.t 2], I.mk none (some 14) (Ef.call 38) [X.t 11, X.t 12, X.t 13], I.mk none (some 10) (Ef.pr Pr.mv) [X.t 14], I.mk none (some 15) (Ef.pr (Pr.ext 0)) [X.t 10], I.mk none (some 16) (Ef.pr (Pr.ext 1)) [X.t 10], I.mk none (some 8) (Ef.pr Pr.mv) [X.t 15], I.mk none (some 9) (Ef.pr Pr.mv) [X.t 16]]) 
  (IC.seq 
  (IC.seq (IC.ops [I.mk none (some 17) (Ef.pr Pr.mv) [X.t 9], I.mk none (some 18) (Ef.pr (Pr.cm BinOp.neq)) [X.t 17, X.c (Value.int IntKind.i64 0)]]) 
  (IC.cond (X.t 18) 
  (IC.seq (IC.ops [I.mk none (some 19) (Ef.pr (Pr.bld [Value.int IntKind.i64 0, Value.int IntKind.i64 0, Value.int IntKind.i64 0, Value.int IntKind.i64 0] [])) [], I.mk none (some 20) (Ef.pr Pr.mv) [X.t 9], I.mk none none (Ef.st 4) [X.t 6, X.t 19], I.mk none (some 7) (Ef.pr Pr.mv) [X.t 20]]) IC.ret) IC.skip)) 
  (IC.seq (IC.ops [I.mk none (some 21) (Ef.pr Pr.mv) [X.t 8], I.mk none (some 22) (Ef.pr Pr.nilc) [X.t 21], I.mk none (some 23) (Ef.pr (Pr.fa 2)) [X.t 22], I.mk none (some 24) (Ef.pr (Pr.ld 4 true)) [X.t 23], I.mk none none (Ef.st 4) [X.t 6, X.t 24], I.mk none (some 7) (Ef.pr Pr.mv) [X.c (Value.int IntKind.i64 0)]]) IC.ret)))

theorem k19 : Go.Proofs.Tryd.f19.body.bind (comp Go.Proofs.Tryd.prog 25 [6] []) = some c19 := by kernel_rfl

theorem r19 : cRVs Go.Proofs.Tryd.prog Go.Proofs.Tryd.f19.results.toList = some [RV.c 6 4 true, RV.t 7] := by kernel_rfl

theorem e19 {args : List Value} {h : Hp} {Q : Value → Hp → Prop} (hl : Nat.ble args.length 25 = true) (hk : codeK PR none c19 (retK Q [RV.c 6 4 true, RV.t 7]) (fun _ _ _ _ => False) (retK Q [RV.c 6 4 true, RV.t 7]) (argsE 0 args) [] h) : Ok PR 19 args h Q :=
  Ok.of mixed Go.Proofs.Tryd.func19 rfl k19 r19 hl hk

def c10 : IC := IC.seq (IC.ops [I.mk none (some 1) Ef.bx [X.t 0], I.mk none (some 2) (Ef.pr Pr.mv) [X.c (Value.pointer none)]]) 
  (IC.seq (IC.ops [I.mk none (some 10) (Ef.call 31) [], I.mk none (some 3) (Ef.pr Pr.mv) [X.t 10]]) 
  (IC.seq 
  (IC.seq (IC.ops [I.mk none (some 11) (Ef.pr Pr.mv) [X.t 3], I.mk none (some 12) (Ef.pr (Pr.eq false (EqT.one EqS.p))) [X.t 11, X.c (Value.pointer none)]]) 
  (IC.cond (X.t 12) 
  (IC.seq (IC.ops [I.mk none (some 2) (Ef.pr Pr.mv) [X.c (Value.pointer none)]]) IC.ret) IC.skip)) 
  (IC.seq 
  (IC.seq (IC.ops [I.mk none (some 4) (Ef.pr Pr.mv) [X.c (Value.int IntKind.i64 0)]]) 
  (IC.block 0 
  (IC.loop 
  (IC.seq 
  (IC.seq (IC.ops [I.mk none (some 13) (Ef.pr Pr.mv) [X.t 4], I.mk none (some 14) (Ef.pr (Pr.cm BinOp.lss)) [X.t 13, X.c (Value.int IntKind.i64 4)]]) 
  (IC.cond (X.t 14) IC.skip (IC.exit 0))) 
  (IC.seq 
  (IC.block 1 
  (IC.seq (IC.ops [I.mk none (some 17) (Ef.pr Pr.mv) [X.t 3], I.mk none (some 18) (Ef.pr Pr.mv) [X.t 4], I.mk none (some 19) (Ef.call 35) [X.t 17, X.t 18], I.mk none (some 20) (Ef.pr (Pr.cm BinOp.neq)) [X.t 19, X.c (Value.int IntKind.i64 0)]]) 
  (IC.cond (X.t 20) 
  (IC.seq (IC.ops [I.mk none (some 2) (Ef.pr Pr.mv) [X.c (Value.pointer none)]]) IC.ret) IC.skip))) (IC.ops [I.mk none (some 15) (Ef.pr Pr.mv) [X.t 4], I.mk none (some 16) (Ef.pr (Pr.ar BinOp.add)) [X.t 15, X.c (Value.int IntKind.i64 1)], I.mk none (some 4) (Ef.pr Pr.mv) [X.t 16]])))))) 
  (IC.seq (IC.ops [I.mk none (some 22) (Ef.pr Pr.mv) [X.t 3], I.mk none (some 23) (Ef.pr (Pr.ld 4 true)) [X.t 1], I.mk none (some 24) (Ef.call 36) [X.t 22, X.c (Value.int IntKind.i64 0), X.c (Value.int IntKind.i64 (-1)), X.t 23], I.mk none (some 21) (Ef.pr Pr.mv) [X.t 24], I.mk none (some 25) (Ef.pr (Pr.ext 0)) [X.t 21], I.mk none (some 26) (Ef.pr (Pr.ext 1)) [X.t 21], I.mk none (some 5) (Ef.pr Pr.mv) [X.t 25], I.mk none (some 6) (Ef.pr Pr.mv) [X.t 26]]) 
  (IC.seq 
  (IC.seq (IC.ops [I.mk none (some 27) (Ef.pr Pr.mv) [X.t 5], I.mk none (some 28) (Ef.pr (Pr.cm BinOp.neq)) [X.t 27, X.c (Value.int IntKind.i64 0)], I.mk none (some 29) (Ef.pr Pr.mv) [X.t 28], I.mk (some (29, false)) (some 30) (Ef.pr Pr.mv) [X.t 6], I.mk (some (29, false)) (some 31) (Ef.pr (Pr.cm BinOp.neq)) [X.t 30, X.c (Value.int IntKind.i64 0)], I.mk none (some 32) (Ef.pr Pr.pick) [X.t 29, X.c (Value.bool true), X.t 31]]) 
  (IC.cond (X.t 32) 
  (IC.seq (IC.ops [I.mk none (some 2) (Ef.pr Pr.mv) [X.c (Value.pointer none)]]) IC.ret) IC.skip)) 
  (IC.seq 
  (IC.seq (IC.ops [I.mk none (some 33) (Ef.pr (Pr.fa 3)) [X.t 1], I.mk none (some 34) (Ef.pr (Pr.ld 1 false)) [X.t 33], I.mk none (some 35) (Ef.pr (Pr.bt BinOp.and)) [X.t 34, X.c (Value.int IntKind.i64 4)], I.mk none (some 36) (Ef.pr (Pr.cm BinOp.eql)) [X.t 35, X.c (Value.int IntKind.i64 0)]]) 
  (IC.cond (X.t 36) 
  (IC.seq (IC.ops [I.mk none (some 37) (Ef.pr Pr.mv) [X.t 3], I.mk none (some 2) (Ef.pr Pr.mv) [X.t 37]]) IC.ret) IC.skip)) 
  (IC.seq (IC.ops [I.mk none (some 39) (Ef.pr Pr.mv) [X.t 3], I.mk none (some 40) (Ef.pr (Pr.fa 3)) [X.t 1], I.mk none (some 41) (Ef.pr (Pr.ld 1 false)) [X.t 40], I.mk none (some 42) (Ef.call 11) [X.t 39, X.c (Value.int IntKind.i64 0), X.c (Value.int IntKind.i64 0), X.c (Value.int IntKind.i64 3), X.c (Value.int IntKind.i64 47), X.t 41], I.mk none (some 38) (Ef.pr Pr.mv) [X.t 42], I.mk none (some 43) (Ef.pr (Pr.ext 0)) [X.t 38], I.mk none (some 44) (Ef.pr (Pr.ext 1)) [X.t 38], I.mk none (some 5) (Ef.pr Pr.mv) [X.t 43], I.mk none (some 6) (Ef.pr Pr.mv) [X.t 44]]) 
  (IC.seq (IC.ops [I.mk none (some 46) (Ef.pr Pr.mv) [X.t 3], I.mk none (some 47) (Ef.call 13) [X.t 46, X.c (Value.int IntKind.i64 3), X.c (Value.int IntKind.i64 47)], I.mk none (some 45) (Ef.pr Pr.mv) [X.t 47], I.mk none (some 48) (Ef.pr (Pr.ext 0)) [X.t 45], I.mk none (some 49) (Ef.pr (Pr.ext 1)) [X.t 45], I.mk none (some 7) (Ef.al [Value.int IntKind.i64 0, Value.int IntKind.i64 0]) [], I.mk none none (Ef.st 2) [X.t 7, X.t 48], I.mk none (some 8) (Ef.pr Pr.mv) [X.t 49]]) 
  (IC.seq 
  (IC.seq (IC.ops [I.mk none (some 50) (Ef.pr Pr.mv) [X.t 5], I.mk none (some 51) (Ef.pr (Pr.cm BinOp.neq)) [X.t 50, X.c (Value.int IntKind.i64 47)], I.mk none (some 52) (Ef.pr Pr.mv) [X.t 51], I.mk (some (52, false)) (some 53) (Ef.pr Pr.mv) [X.t 6], I.mk (some (52, false)) (some 54) (Ef.pr (Pr.cm BinOp.neq)) [X.t 53, X.c (Value.int IntKind.i64 0)], I.mk none (some 55) (Ef.pr Pr.pick) [X.t 52, X.c (Value.bool true), X.t 54], I.mk none (some 56) (Ef.pr Pr.mv) [X.t 55], I.mk (some (56, false)) (some 57) (Ef.pr Pr.mv) [X.t 8], I.mk (some (56, false)) (some 58) (Ef.pr (Pr.cm BinOp.neq)) [X.t 57, X.c (Value.int IntKind.i64 0)], I.mk none (some 59) (Ef.pr Pr.pick) [X.t 56, X.c (Value.bool true), X.t 58], I.mk none (some 60) (Ef.pr Pr.mv) [X.t 59], I.mk (some (60, false)) (some 61) (Ef.pr (Pr.fa 0)) [X.t 7], I.mk (some (60, false)) (some 62) (Ef.pr (Pr.ld 1 false)) [X.t 61], I.mk (some (60, false)) (some 63) (Ef.pr (Pr.cm BinOp.neq)) [X.t 62, X.c (Value.int IntKind.i64 0)], I.mk none (some 64) (Ef.pr Pr.pick) [X.t 60, X.c (Value.bool true), X.t 63], I.mk none (some 65) (Ef.pr Pr.mv) [X.t 64], I.mk (some (65, false)) (some 66) (Ef.pr (Pr.fa 1)) [X.t 7], I.mk (some (65, false)) (some 67) (Ef.pr (Pr.ld 1 false)) [X.t 66], I.mk (some (65, false)) (some 68) (Ef.pr (Pr.cm BinOp.neq)) [X.t 67, X.c (Value.int IntKind.i64 0)], I.mk none (some 69) (Ef.pr Pr.pick) [X.t 65, X.c (Value.bool true), X.t 68]]) 
  (IC.cond (X.t 69) 
  (IC.seq (IC.ops [I.mk none (some 2) (Ef.pr Pr.mv) [X.c (Value.pointer none)]]) IC.ret) IC.skip)) 
  (IC.seq (IC.ops [I.mk none (some 71) (Ef.pr Pr.mv) [X.t 3], I.mk none (some 72) (Ef.call 12) [X.t 71, X.c (Value.int IntKind.i64 3), X.c (Value.int IntKind.i64 47)], I.mk none (some 70) (Ef.pr Pr.mv) [X.t 72], I.mk none (some 73) (Ef.pr (Pr.ext 0)) [X.t 70], I.mk none (some 74) (Ef.pr (Pr.ext 1)) [X.t 70], I.mk none (some 9) (Ef.al [Value.int IntKind.i64 0, Value.int IntKind.i64 0, Value.int IntKind.i64 0, Value.int IntKind.i64 0]) [], I.mk none none (Ef.st 4) [X.t 9, X.t 73], I.mk none (some 6) (Ef.pr Pr.mv) [X.t 74]]) 
  (IC.seq 
  (IC.seq (IC.ops [I.mk none (some 75) (Ef.pr (Pr.ld 4 true)) [X.t 9], I.mk none (some 76) (Ef.pr (Pr.ld 4 true)) [X.t 1], I.mk none (some 77) (Ef.pr (Pr.eq true (EqT.ag [(0, EqS.i), (1, EqS.i), (2, EqS.i), (3, EqS.i)]))) [X.t 75, X.t 76], I.mk none (some 78) (Ef.pr Pr.mv) [X.t 77], I.mk (some (78, false)) (some 79) (Ef.pr Pr.mv) [X.t 6], I.mk (some (78, false)) (some 80) (Ef.pr (Pr.cm BinOp.neq)) [X.t 79, X.c (Value.int IntKind.i64 0)], I.mk none (some 81) (Ef.pr Pr.pick) [X.t 78, X.c (Value.bool true), X.t 80]]) 
  (IC.cond (X.t 81) 
  (IC.seq (IC.ops [I.mk none (some 2) (Ef.pr Pr.mv) [X.c (Value.pointer none)]]) IC.ret) IC.skip)) 
  (IC.seq (IC.ops [I.mk none (some 82) (Ef.pr Pr.mv) [X.t 3], I.mk none (some 2) (Ef.pr Pr.mv) [X.t 82]]) IC.ret))))))))))))

theorem k10 : Go.Proofs.Tryd.f10.body.bind (comp Go.Proofs.Tryd.prog 83 [1, 7, 9] []) = some c10 := by kernel_rfl

theorem r10 : cRVs Go.Proofs.Tryd.prog Go.Proofs.Tryd.f10.results.toList = some [RV.t 2] := by kernel_rfl

theorem e10 {args : List Value} {h : Hp} {Q : Value → Hp → Prop} (hl : Nat.ble args.length 83 = true) (hk : codeK PR none c10 (retK Q [RV.t 2]) (fun _ _ _ _ => False) (retK Q [RV.t 2]) (argsE 0 args) [] h) : Ok PR 10 args h Q :=
  Ok.of mixed Go.Proofs.Tryd.func10 rfl k10 r10 hl hk

def c28 : IC := IC.seq (IC.ops [I.mk none (some 4) (Ef.pr Pr.mv) [X.c (Value.int IntKind.i64 0)]]) 
  (IC.seq (IC.ops [I.mk none (some 6) (Ef.pr Pr.mv) [X.t 0], I.mk none (some 7) (Ef.pr Pr.mv) [X.t 1], I.mk none (some 8) (Ef.call 37) [X.t 6, X.t 7], I.mk none (some 5) (Ef.pr Pr.mv) [X.t 8]]) 
  (IC.seq 
  (IC.seq (IC.ops [I.mk none (some 9) (Ef.pr Pr.mv) [X.t 5], I.mk none (some 10) (Ef.pr (Pr.eq false (EqT.one EqS.p))) [X.t 9, X.c (Value.pointer none)]]) 
  (IC.cond (X.t 10) 
  (IC.seq (IC.ops [I.mk none (some 4) (Ef.pr Pr.mv) [X.c (Value.int IntKind.i64 0)]]) IC.ret) IC.skip)) 
  (IC.seq (IC.ops [I.mk none (some 11) (Ef.pr Pr.mv) [X.t 5], I.mk none (some 12) (Ef.call 55) [X.t 11], I.mk none (some 13) (Ef.pr Pr.mv) [X.t 5], I.mk none (some 14) (Ef.call 56) [X.t 13], I.mk none (some 15) (Ef.pr (Pr.ar BinOp.sub)) [X.t 12, X.t 14], I.mk none (some 4) (Ef.pr Pr.mv) [X.t 15]]) IC.ret)))

theorem k28 : Go.Proofs.Tryd.f28.body.bind (comp Go.Proofs.Tryd.prog 16 [] []) = some c28 := by kernel_rfl

theorem r28 : cRVs Go.Proofs.Tryd.prog Go.Proofs.Tryd.f28.results.toList = some [RV.t 4] := by kernel_rfl

theorem e28 {args : List Value} {h : Hp} {Q : Value → Hp → Prop} (hl : Nat.ble args.length 16 = true) (hk : codeK PR none c28 (retK Q [RV.t 4]) (fun _ _ _ _ => False) (retK Q [RV.t 4]) (argsE 0 args) [] h) : Ok PR 28 args h Q :=
  Ok.of mixed Go.Proofs.Tryd.func28 rfl k28 r28 hl hk

end Go.Proofs.YthpkgkoojhgedaaDoor.V
