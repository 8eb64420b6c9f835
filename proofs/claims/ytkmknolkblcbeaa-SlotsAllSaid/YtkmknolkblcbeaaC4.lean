/- The functions 56, 57, 59, 60, 61, 63, 64, 65, 67, 68, 101, 102, 39, resolved. -/
import Derived.Test.YtkmknolkblcbeaaVP
namespace Go.Proofs.Ytkmknolkblcbeaa.V
set_option linter.unusedVariables false
set_option linter.unusedSimpArgs false
set_option linter.unusedSectionVars false
open Go
set_option maxRecDepth 100000

def c56 : IC := IC.seq (IC.ops [I.mk none (some 2) (Ef.pr Pr.mv) [X.c (Value.pointer none)]]) 
  (IC.seq (IC.ops [I.mk none (some 3) (Ef.pr Pr.mv) [X.t 0], I.mk none (some 4) (Ef.pr Pr.max2) [X.t 3, X.c (Value.int IntKind.i64 0)], I.mk none (some 5) (Ef.pr Pr.min2) [X.t 4, X.c (Value.int IntKind.i64 4096)], I.mk none (some 6) (Ef.mks [Value.bool false, Value.int IntKind.i64 0] 132 16) [X.t 5, X.t 5], I.mk none (some 7) (Ef.pr (Pr.bld [Value.slice none 0 0, Value.int IntKind.i64 0, Value.int IntKind.i64 0] [(0, 1)])) [X.t 6], I.mk none (some 8) (Ef.bxh 135) [X.t 7], I.mk none (some 2) (Ef.pr Pr.mv) [X.t 8]]) IC.ret)

theorem k56 : Go.Proofs.Try.f56.body.bind (comp Go.Proofs.Try.prog 9 [] []) = some c56 := by kernel_rfl

theorem r56 : cRVs Go.Proofs.Try.prog Go.Proofs.Try.f56.results.toList = some [RV.t 2] := by kernel_rfl

theorem e56 {args : List Value} {h : Hp} {Q : Value → Hp → Prop} (hl : Nat.ble args.length 9 = true) (hk : codeK PR none c56 (retK Q [RV.t 2]) (fun _ _ _ _ => False) (retK Q [RV.t 2]) (argsE 0 args) [] h) : Ok PR 56 args h Q :=
  Ok.of mixed Go.Proofs.Try.func56 rfl k56 r56 hl hk

def c57 : IC := IC.seq (IC.ops [I.mk none (some 4) (Ef.pr Pr.mv) [X.c (Value.int IntKind.i64 0)], I.mk none (some 5) (Ef.pr Pr.mv) [X.c (Value.int IntKind.i64 0)]]) 
  (IC.seq 
  (IC.block 0 
  (IC.loop 
  (IC.seq 
  (IC.seq (IC.plan (Plan.q (I.mk none (some 7) (Ef.pr Pr.mv) [X.t 0]) (Plan.q (I.mk none (some 8) (Ef.pr Pr.nilc) [X.t 7]) (Plan.q (I.mk none (some 9) (Ef.pr (Pr.fa 2)) [X.t 8]) (Plan.q (I.mk none (some 10) (Ef.pr (Pr.ld 1 false)) [X.t 9]) (Plan.q (I.mk none (some 11) (Ef.pr Pr.mv) [X.t 0]) (Plan.q (I.mk none (some 12) (Ef.pr Pr.nilc) [X.t 11]) (Plan.q (I.mk none (some 13) (Ef.pr (Pr.fa 0)) [X.t 12]) (Plan.q (I.mk none (some 14) (Ef.pr (Pr.ld 1 false)) [X.t 13]) (Plan.q (I.mk none (some 15) (Ef.pr Pr.lenS) [X.t 14]) (Plan.q (I.mk none (some 16) (Ef.pr (Pr.cm BinOp.lss)) [X.t 10, X.t 15]) (Plan.q (I.mk none (some 17) (Ef.pr Pr.mv) [X.t 16]) (Plan.q (I.mk (some (17, true)) (some 18) (Ef.pr Pr.mv) [X.t 0]) (Plan.q (I.mk (some (17, true)) (some 19) (Ef.pr Pr.nilc) [X.t 18]) (Plan.q (I.mk (some (17, true)) (some 20) (Ef.pr (Pr.fa 0)) [X.t 19]) (Plan.q (I.mk (some (17, true)) (some 21) (Ef.pr (Pr.ld 1 false)) [X.t 20]) (Plan.q (I.mk (some (17, true)) (some 22) (Ef.pr Pr.mv) [X.t 0]) (Plan.q (I.mk (some (17, true)) (some 23) (Ef.pr Pr.nilc) [X.t 22]) (Plan.q (I.mk (some (17, true)) (some 24) (Ef.pr (Pr.fa 2)) [X.t 23]) (Plan.q (I.mk (some (17, true)) (some 25) (Ef.pr (Pr.ld 1 false)) [X.t 24]) (Plan.q (I.mk (some (17, true)) (some 26) (Ef.pr (Pr.iaS 2)) [X.t 21, X.t 25]) (Plan.q (I.mk (some (17, true)) (some 27) (Ef.pr (Pr.fa 0)) [X.t 26]) (Plan.q (I.mk (some (17, true)) (some 28) (Ef.pr (Pr.ld 1 false)) [X.t 27]) (Plan.q (I.mk none (some 29) (Ef.pr Pr.pick) [X.t 17, X.t 28, X.c (Value.bool false)]) Plan.done)))))))))))))))))))))))) 
  (IC.cond (X.t 29) IC.skip (IC.exit 0))) 
  (IC.block 1 (IC.ops [I.mk none (some 30) (Ef.pr Pr.mv) [X.t 0], I.mk none (some 31) (Ef.pr Pr.nilc) [X.t 30], I.mk none (some 32) (Ef.pr (Pr.fa 2)) [X.t 31], I.mk none (some 33) (Ef.pr (Pr.ld 1 false)) [X.t 32], I.mk none (some 34) (Ef.pr (Pr.ar BinOp.add)) [X.t 33, X.c (Value.int IntKind.i64 1)], I.mk none (some 35) (Ef.pr Pr.nilc) [X.t 30], I.mk none (some 36) (Ef.pr (Pr.fa 2)) [X.t 35], I.mk none none (Ef.st 1) [X.t 36, X.t 34]]))))) 
  (IC.seq 
  (IC.seq (IC.plan (Plan.q (I.mk none (some 37) (Ef.pr Pr.mv) [X.t 0]) (Plan.q (I.mk none (some 38) (Ef.pr Pr.nilc) [X.t 37]) (Plan.q (I.mk none (some 39) (Ef.pr (Pr.fa 2)) [X.t 38]) (Plan.q (I.mk none (some 40) (Ef.pr (Pr.ld 1 false)) [X.t 39]) (Plan.q (I.mk none (some 41) (Ef.pr Pr.mv) [X.t 0]) (Plan.q (I.mk none (some 42) (Ef.pr Pr.nilc) [X.t 41]) (Plan.q (I.mk none (some 43) (Ef.pr (Pr.fa 0)) [X.t 42]) (Plan.q (I.mk none (some 44) (Ef.pr (Pr.ld 1 false)) [X.t 43]) (Plan.q (I.mk none (some 45) (Ef.pr Pr.lenS) [X.t 44]) (Plan.q (I.mk none (some 46) (Ef.pr (Pr.cm BinOp.eql)) [X.t 40, X.t 45]) Plan.done))))))))))) 
  (IC.cond (X.t 46) 
  (IC.seq (IC.ops [I.mk none (some 4) (Ef.pr Pr.mv) [X.c (Value.int IntKind.i64 (-1))], I.mk none (some 5) (Ef.pr Pr.mv) [X.c (Value.int IntKind.i64 2)]]) IC.ret) IC.skip)) 
  (IC.seq (IC.ops [I.mk none (some 47) (Ef.pr Pr.mv) [X.t 0], I.mk none (some 48) (Ef.pr Pr.nilc) [X.t 47], I.mk none (some 49) (Ef.pr (Pr.fa 2)) [X.t 48], I.mk none (some 50) (Ef.pr (Pr.ld 1 false)) [X.t 49], I.mk none (some 6) (Ef.pr Pr.mv) [X.t 50]]) 
  (IC.seq (IC.ops [I.mk none (some 51) (Ef.pr Pr.mv) [X.t 0], I.mk none (some 52) (Ef.pr Pr.mv) [X.t 6], I.mk none (some 53) (Ef.pr Pr.mv) [X.t 1], I.mk none (some 54) (Ef.call 101) [X.t 51, X.t 52, X.t 53]]) 
  (IC.seq (IC.ops [I.mk none (some 55) (Ef.pr Pr.mv) [X.t 6], I.mk none (some 4) (Ef.pr Pr.mv) [X.t 55], I.mk none (some 5) (Ef.pr Pr.mv) [X.c (Value.int IntKind.i64 0)]]) IC.ret)))))

theorem k57 : Go.Proofs.Try.f57.body.bind (comp Go.Proofs.Try.prog 56 [] []) = some c57 := by kernel_rfl

theorem r57 : cRVs Go.Proofs.Try.prog Go.Proofs.Try.f57.results.toList = some [RV.t 4, RV.t 5] := by kernel_rfl

theorem e57 {args : List Value} {h : Hp} {Q : Value → Hp → Prop} (hl : Nat.ble args.length 56 = true) (hk : codeK PR none c57 (retK Q [RV.t 4, RV.t 5]) (fun _ _ _ _ => False) (retK Q [RV.t 4, RV.t 5]) (argsE 0 args) [] h) : Ok PR 57 args h Q :=
  Ok.of mixed Go.Proofs.Try.func57 rfl k57 r57 hl hk

def c59 : IC := IC.seq (IC.ops [I.mk none (some 4) (Ef.pr Pr.mv) [X.c (Value.int IntKind.i64 0)]]) 
  (IC.seq 
  (IC.seq (IC.ops [I.mk none (some 6) (Ef.pr Pr.mv) [X.t 1], I.mk none (some 7) (Ef.pr Pr.max2) [X.t 6, X.c (Value.int IntKind.i64 0)], I.mk none (some 5) (Ef.pr Pr.mv) [X.t 7]]) 
  (IC.block 0 
  (IC.loop 
  (IC.seq 
  (IC.seq (IC.ops [I.mk none (some 8) (Ef.pr Pr.mv) [X.t 5], I.mk none (some 9) (Ef.pr Pr.mv) [X.t 0], I.mk none (some 10) (Ef.pr Pr.nilc) [X.t 9], I.mk none (some 11) (Ef.pr (Pr.fa 0)) [X.t 10], I.mk none (some 12) (Ef.pr (Pr.ld 1 false)) [X.t 11], I.mk none (some 13) (Ef.pr Pr.lenS) [X.t 12], I.mk none (some 14) (Ef.pr (Pr.cm BinOp.lss)) [X.t 8, X.t 13]]) 
  (IC.cond (X.t 14) IC.skip (IC.exit 0))) 
  (IC.seq 
  (IC.block 1 
  (IC.seq (IC.ops [I.mk none (some 17) (Ef.pr Pr.mv) [X.t 0], I.mk none (some 18) (Ef.pr Pr.nilc) [X.t 17], I.mk none (some 19) (Ef.pr (Pr.fa 0)) [X.t 18], I.mk none (some 20) (Ef.pr (Pr.ld 1 false)) [X.t 19], I.mk none (some 21) (Ef.pr Pr.mv) [X.t 5], I.mk none (some 22) (Ef.pr (Pr.iaS 2)) [X.t 20, X.t 21], I.mk none (some 23) (Ef.pr (Pr.fa 0)) [X.t 22], I.mk none (some 24) (Ef.pr (Pr.ld 1 false)) [X.t 23]]) 
  (IC.cond (X.t 24) 
  (IC.seq (IC.ops [I.mk none (some 25) (Ef.pr Pr.mv) [X.t 5], I.mk none (some 4) (Ef.pr Pr.mv) [X.t 25]]) IC.ret) IC.skip))) (IC.ops [I.mk none (some 15) (Ef.pr Pr.mv) [X.t 5], I.mk none (some 16) (Ef.pr (Pr.ar BinOp.add)) [X.t 15, X.c (Value.int IntKind.i64 1)], I.mk none (some 5) (Ef.pr Pr.mv) [X.t 16]])))))) 
  (IC.seq (IC.ops [I.mk none (some 4) (Ef.pr Pr.mv) [X.c (Value.int IntKind.i64 (-1))]]) IC.ret))

theorem k59 : Go.Proofs.Try.f59.body.bind (comp Go.Proofs.Try.prog 26 [] []) = some c59 := by kernel_rfl

theorem r59 : cRVs Go.Proofs.Try.prog Go.Proofs.Try.f59.results.toList = some [RV.t 4] := by kernel_rfl

theorem e59 {args : List Value} {h : Hp} {Q : Value → Hp → Prop} (hl : Nat.ble args.length 26 = true) (hk : codeK PR none c59 (retK Q [RV.t 4]) (fun _ _ _ _ => False) (retK Q [RV.t 4]) (argsE 0 args) [] h) : Ok PR 59 args h Q :=
  Ok.of mixed Go.Proofs.Try.func59 rfl k59 r59 hl hk

def c60 : IC := IC.seq (IC.ops [I.mk none (some 4) (Ef.pr Pr.mv) [X.c (Value.int IntKind.i64 0)], I.mk none (some 5) (Ef.pr Pr.mv) [X.c (Value.bool false)]]) 
  (IC.seq 
  (IC.seq (IC.ops [I.mk none (some 7) (Ef.pr Pr.mv) [X.t 0], I.mk none (some 8) (Ef.pr Pr.mv) [X.t 1], I.mk none (some 9) (Ef.call 102) [X.t 7, X.t 8], I.mk none (some 10) (Ef.pr (Pr.un UnOp.not)) [X.t 9]]) 
  (IC.cond (X.t 10) 
  (IC.seq (IC.ops [I.mk none (some 6) (Ef.pr Pr.mv) [X.c (Value.int IntKind.i64 0)]]) 
  (IC.seq (IC.ops [I.mk none (some 11) (Ef.pr Pr.mv) [X.t 6], I.mk none (some 4) (Ef.pr Pr.mv) [X.t 11], I.mk none (some 5) (Ef.pr Pr.mv) [X.c (Value.bool false)]]) IC.ret)) IC.skip)) 
  (IC.seq (IC.ops [I.mk none (some 12) (Ef.pr Pr.mv) [X.t 0], I.mk none (some 13) (Ef.pr Pr.nilc) [X.t 12], I.mk none (some 14) (Ef.pr (Pr.fa 0)) [X.t 13], I.mk none (some 15) (Ef.pr (Pr.ld 1 false)) [X.t 14], I.mk none (some 16) (Ef.pr Pr.mv) [X.t 1], I.mk none (some 17) (Ef.pr (Pr.iaS 2)) [X.t 15, X.t 16], I.mk none (some 18) (Ef.pr (Pr.fa 1)) [X.t 17], I.mk none (some 19) (Ef.pr (Pr.ld 1 false)) [X.t 18], I.mk none (some 4) (Ef.pr Pr.mv) [X.t 19], I.mk none (some 5) (Ef.pr Pr.mv) [X.c (Value.bool true)]]) IC.ret))

theorem k60 : Go.Proofs.Try.f60.body.bind (comp Go.Proofs.Try.prog 20 [] []) = some c60 := by kernel_rfl

theorem r60 : cRVs Go.Proofs.Try.prog Go.Proofs.Try.f60.results.toList = some [RV.t 4, RV.t 5] := by kernel_rfl

theorem e60 {args : List Value} {h : Hp} {Q : Value → Hp → Prop} (hl : Nat.ble args.length 20 = true) (hk : codeK PR none c60 (retK Q [RV.t 4, RV.t 5]) (fun _ _ _ _ => False) (retK Q [RV.t 4, RV.t 5]) (argsE 0 args) [] h) : Ok PR 60 args h Q :=
  Ok.of mixed Go.Proofs.Try.func60 rfl k60 r60 hl hk

def c61 : IC := IC.seq (IC.ops [I.mk none (some 2) (Ef.pr Pr.mv) [X.c (Value.int IntKind.i64 0)]]) 
  (IC.seq (IC.ops [I.mk none (some 3) (Ef.pr Pr.mv) [X.t 0], I.mk none (some 4) (Ef.pr Pr.nilc) [X.t 3], I.mk none (some 5) (Ef.pr (Pr.fa 1)) [X.t 4], I.mk none (some 6) (Ef.pr (Pr.ld 1 false)) [X.t 5], I.mk none (some 2) (Ef.pr Pr.mv) [X.t 6]]) IC.ret)

theorem k61 : Go.Proofs.Try.f61.body.bind (comp Go.Proofs.Try.prog 7 [] []) = some c61 := by kernel_rfl

theorem r61 : cRVs Go.Proofs.Try.prog Go.Proofs.Try.f61.results.toList = some [RV.t 2] := by kernel_rfl

theorem e61 {args : List Value} {h : Hp} {Q : Value → Hp → Prop} (hl : Nat.ble args.length 7 = true) (hk : codeK PR none c61 (retK Q [RV.t 2]) (fun _ _ _ _ => False) (retK Q [RV.t 2]) (argsE 0 args) [] h) : Ok PR 61 args h Q :=
  Ok.of mixed Go.Proofs.Try.func61 rfl k61 r61 hl hk

def c63 : IC := IC.seq (IC.ops [I.mk none (some 2) (Ef.pr Pr.mv) [X.c (Value.int IntKind.i64 0)]]) 
  (IC.seq (IC.ops [I.mk none (some 3) (Ef.pr Pr.mv) [X.t 0], I.mk none (some 4) (Ef.pr Pr.nilc) [X.t 3], I.mk none (some 5) (Ef.pr (Pr.fa 0)) [X.t 4], I.mk none (some 6) (Ef.pr (Pr.ld 1 false)) [X.t 5], I.mk none (some 7) (Ef.pr Pr.lenS) [X.t 6], I.mk none (some 2) (Ef.pr Pr.mv) [X.t 7]]) IC.ret)

theorem k63 : Go.Proofs.Try.f63.body.bind (comp Go.Proofs.Try.prog 8 [] []) = some c63 := by kernel_rfl

theorem r63 : cRVs Go.Proofs.Try.prog Go.Proofs.Try.f63.results.toList = some [RV.t 2] := by kernel_rfl

theorem e63 {args : List Value} {h : Hp} {Q : Value → Hp → Prop} (hl : Nat.ble args.length 8 = true) (hk : codeK PR none c63 (retK Q [RV.t 2]) (fun _ _ _ _ => False) (retK Q [RV.t 2]) (argsE 0 args) [] h) : Ok PR 63 args h Q :=
  Ok.of mixed Go.Proofs.Try.func63 rfl k63 r63 hl hk

def c64 : IC := IC.seq (IC.ops [I.mk none (some 6) (Ef.pr Pr.mv) [X.c (Value.bool false)]]) 
  (IC.seq 
  (IC.seq (IC.ops [I.mk none (some 7) (Ef.pr Pr.mv) [X.t 0], I.mk none (some 8) (Ef.pr Pr.mv) [X.t 1], I.mk none (some 9) (Ef.call 102) [X.t 7, X.t 8], I.mk none (some 10) (Ef.pr (Pr.un UnOp.not)) [X.t 9]]) 
  (IC.cond (X.t 10) 
  (IC.seq (IC.ops [I.mk none (some 6) (Ef.pr Pr.mv) [X.c (Value.bool false)]]) IC.ret) IC.skip)) 
  (IC.seq (IC.ops [I.mk none (some 11) (Ef.pr Pr.mv) [X.t 0], I.mk none (some 12) (Ef.pr Pr.nilc) [X.t 11], I.mk none (some 13) (Ef.pr (Pr.fa 0)) [X.t 12], I.mk none (some 14) (Ef.pr (Pr.ld 1 false)) [X.t 13], I.mk none (some 15) (Ef.pr Pr.mv) [X.t 1], I.mk none (some 16) (Ef.pr Pr.mv) [X.t 2], I.mk none (some 17) (Ef.pr (Pr.iaS 2)) [X.t 14, X.t 15], I.mk none (some 18) (Ef.pr (Pr.fa 1)) [X.t 17], I.mk none none (Ef.st 1) [X.t 18, X.t 16]]) 
  (IC.seq (IC.ops [I.mk none (some 6) (Ef.pr Pr.mv) [X.c (Value.bool true)]]) IC.ret)))

theorem k64 : Go.Proofs.Try.f64.body.bind (comp Go.Proofs.Try.prog 19 [] []) = some c64 := by kernel_rfl

theorem r64 : cRVs Go.Proofs.Try.prog Go.Proofs.Try.f64.results.toList = some [RV.t 6] := by kernel_rfl

theorem e64 {args : List Value} {h : Hp} {Q : Value → Hp → Prop} (hl : Nat.ble args.length 19 = true) (hk : codeK PR none c64 (retK Q [RV.t 6]) (fun _ _ _ _ => False) (retK Q [RV.t 6]) (argsE 0 args) [] h) : Ok PR 64 args h Q :=
  Ok.of mixed Go.Proofs.Try.func64 rfl k64 r64 hl hk

def c65 : IC := IC.seq (IC.ops [I.mk none (some 2) (Ef.pr Pr.mv) [X.t 0], I.mk none (some 3) (Ef.pr Pr.nilc) [X.t 2], I.mk none (some 4) (Ef.pr (Pr.fa 0)) [X.t 3], I.mk none (some 5) (Ef.pr (Pr.ld 1 false)) [X.t 4], I.mk none none (Ef.clrS [Value.bool false, Value.int IntKind.i64 0]) [X.t 5]]) (IC.ops [I.mk none (some 6) (Ef.pr Pr.mv) [X.t 0], I.mk none (some 7) (Ef.pr Pr.mv) [X.t 0], I.mk none (some 8) (Ef.pr Pr.nilc) [X.t 6], I.mk none (some 9) (Ef.pr (Pr.fa 1)) [X.t 8], I.mk none none (Ef.st 1) [X.t 9, X.c (Value.int IntKind.i64 0)], I.mk none (some 10) (Ef.pr Pr.nilc) [X.t 7], I.mk none (some 11) (Ef.pr (Pr.fa 2)) [X.t 10], I.mk none none (Ef.st 1) [X.t 11, X.c (Value.int IntKind.i64 0)]])

theorem k65 : Go.Proofs.Try.f65.body.bind (comp Go.Proofs.Try.prog 12 [] []) = some c65 := by kernel_rfl

theorem r65 : cRVs Go.Proofs.Try.prog Go.Proofs.Try.f65.results.toList = some [] := by kernel_rfl

theorem e65 {args : List Value} {h : Hp} {Q : Value → Hp → Prop} (hl : Nat.ble args.length 12 = true) (hk : codeK PR none c65 (retK Q []) (fun _ _ _ _ => False) (retK Q []) (argsE 0 args) [] h) : Ok PR 65 args h Q :=
  Ok.of mixed Go.Proofs.Try.func65 rfl k65 r65 hl hk

def c67 : IC := IC.seq (IC.ops [I.mk none (some 6) (Ef.pr Pr.mv) [X.c (Value.int IntKind.i64 0)]]) 
  (IC.seq 
  (IC.seq (IC.ops [I.mk none (some 7) (Ef.pr Pr.mv) [X.t 1], I.mk none (some 8) (Ef.pr (Pr.cm BinOp.lss)) [X.t 7, X.c (Value.int IntKind.i64 0)], I.mk none (some 9) (Ef.pr Pr.mv) [X.t 8], I.mk (some (9, false)) (some 10) (Ef.pr Pr.mv) [X.t 1], I.mk (some (9, false)) (some 11) (Ef.pr Pr.mv) [X.t 0], I.mk (some (9, false)) (some 12) (Ef.pr Pr.nilc) [X.t 11], I.mk (some (9, false)) (some 13) (Ef.pr (Pr.fa 0)) [X.t 12], I.mk (some (9, false)) (some 14) (Ef.pr (Pr.ld 1 false)) [X.t 13], I.mk (some (9, false)) (some 15) (Ef.pr Pr.lenS) [X.t 14], I.mk (some (9, false)) (some 16) (Ef.pr (Pr.cm BinOp.geq)) [X.t 10, X.t 15], I.mk none (some 17) (Ef.pr Pr.pick) [X.t 9, X.c (Value.bool true), X.t 16]]) 
  (IC.cond (X.t 17) 
  (IC.seq (IC.ops [I.mk none (some 6) (Ef.pr Pr.mv) [X.c (Value.int IntKind.i64 30)]]) IC.ret) IC.skip)) 
  (IC.seq 
  (IC.seq (IC.ops [I.mk none (some 18) (Ef.pr Pr.mv) [X.t 0], I.mk none (some 19) (Ef.pr Pr.nilc) [X.t 18], I.mk none (some 20) (Ef.pr (Pr.fa 0)) [X.t 19], I.mk none (some 21) (Ef.pr (Pr.ld 1 false)) [X.t 20], I.mk none (some 22) (Ef.pr Pr.mv) [X.t 1], I.mk none (some 23) (Ef.pr (Pr.iaS 2)) [X.t 21, X.t 22], I.mk none (some 24) (Ef.pr (Pr.fa 0)) [X.t 23], I.mk none (some 25) (Ef.pr (Pr.ld 1 false)) [X.t 24]]) 
  (IC.cond (X.t 25) 
  (IC.seq (IC.ops [I.mk none (some 6) (Ef.pr Pr.mv) [X.c (Value.int IntKind.i64 31)]]) IC.ret) IC.skip)) 
  (IC.seq (IC.ops [I.mk none (some 26) (Ef.pr Pr.mv) [X.t 0], I.mk none (some 27) (Ef.pr Pr.mv) [X.t 1], I.mk none (some 28) (Ef.pr Pr.mv) [X.t 2], I.mk none (some 29) (Ef.call 101) [X.t 26, X.t 27, X.t 28]]) 
  (IC.seq (IC.ops [I.mk none (some 6) (Ef.pr Pr.mv) [X.c (Value.int IntKind.i64 0)]]) IC.ret))))

theorem k67 : Go.Proofs.Try.f67.body.bind (comp Go.Proofs.Try.prog 30 [] []) = some c67 := by kernel_rfl

theorem r67 : cRVs Go.Proofs.Try.prog Go.Proofs.Try.f67.results.toList = some [RV.t 6] := by kernel_rfl

theorem e67 {args : List Value} {h : Hp} {Q : Value → Hp → Prop} (hl : Nat.ble args.length 30 = true) (hk : codeK PR none c67 (retK Q [RV.t 6]) (fun _ _ _ _ => False) (retK Q [RV.t 6]) (argsE 0 args) [] h) : Ok PR 67 args h Q :=
  Ok.of mixed Go.Proofs.Try.func67 rfl k67 r67 hl hk

def c68 : IC := IC.seq (IC.ops [I.mk none (some 4) (Ef.pr Pr.mv) [X.c (Value.int IntKind.i64 0)], I.mk none (some 5) (Ef.pr Pr.mv) [X.c (Value.bool false)]]) 
  (IC.seq (IC.ops [I.mk none (some 6) (Ef.pr Pr.mv) [X.c (Value.int IntKind.i64 0)]]) 
  (IC.seq 
  (IC.seq (IC.ops [I.mk none (some 8) (Ef.pr Pr.mv) [X.t 0], I.mk none (some 9) (Ef.pr Pr.mv) [X.t 1], I.mk none (some 10) (Ef.call 102) [X.t 8, X.t 9], I.mk none (some 11) (Ef.pr (Pr.un UnOp.not)) [X.t 10]]) 
  (IC.cond (X.t 11) 
  (IC.seq (IC.ops [I.mk none (some 12) (Ef.pr Pr.mv) [X.t 6], I.mk none (some 4) (Ef.pr Pr.mv) [X.t 12], I.mk none (some 5) (Ef.pr Pr.mv) [X.c (Value.bool false)]]) IC.ret) IC.skip)) 
  (IC.seq (IC.ops [I.mk none (some 13) (Ef.pr Pr.mv) [X.t 0], I.mk none (some 14) (Ef.pr Pr.nilc) [X.t 13], I.mk none (some 15) (Ef.pr (Pr.fa 0)) [X.t 14], I.mk none (some 16) (Ef.pr (Pr.ld 1 false)) [X.t 15], I.mk none (some 17) (Ef.pr Pr.mv) [X.t 1], I.mk none (some 18) (Ef.pr (Pr.iaS 2)) [X.t 16, X.t 17], I.mk none (some 19) (Ef.pr (Pr.fa 1)) [X.t 18], I.mk none (some 20) (Ef.pr (Pr.ld 1 false)) [X.t 19], I.mk none (some 7) (Ef.pr Pr.mv) [X.t 20]]) 
  (IC.seq (IC.ops [I.mk none (some 21) (Ef.pr Pr.mv) [X.t 0], I.mk none (some 22) (Ef.pr Pr.nilc) [X.t 21], I.mk none (some 23) (Ef.pr (Pr.fa 0)) [X.t 22], I.mk none (some 24) (Ef.pr (Pr.ld 1 false)) [X.t 23], I.mk none (some 25) (Ef.pr Pr.mv) [X.t 1], I.mk none (some 26) (Ef.pr (Pr.bld [Value.bool false, Value.int IntKind.i64 0] [])) [], I.mk none (some 27) (Ef.pr (Pr.iaS 2)) [X.t 24, X.t 25], I.mk none none (Ef.st 2) [X.t 27, X.t 26]]) 
  (IC.seq (IC.ops [I.mk none (some 28) (Ef.pr Pr.mv) [X.t 0], I.mk none (some 29) (Ef.pr Pr.nilc) [X.t 28], I.mk none (some 30) (Ef.pr (Pr.fa 1)) [X.t 29], I.mk none (some 31) (Ef.pr (Pr.ld 1 false)) [X.t 30], I.mk none (some 32) (Ef.pr (Pr.ar BinOp.sub)) [X.t 31, X.c (Value.int IntKind.i64 1)], I.mk none (some 33) (Ef.pr Pr.nilc) [X.t 28], I.mk none (some 34) (Ef.pr (Pr.fa 1)) [X.t 33], I.mk none none (Ef.st 1) [X.t 34, X.t 32]]) 
  (IC.seq (IC.ops [I.mk none (some 35) (Ef.pr Pr.mv) [X.t 0], I.mk none (some 36) (Ef.pr Pr.mv) [X.t 0], I.mk none (some 37) (Ef.pr Pr.nilc) [X.t 36], I.mk none (some 38) (Ef.pr (Pr.fa 2)) [X.t 37], I.mk none (some 39) (Ef.pr (Pr.ld 1 false)) [X.t 38], I.mk none (some 40) (Ef.pr Pr.mv) [X.t 1], I.mk none (some 41) (Ef.pr Pr.min2) [X.t 39, X.t 40], I.mk none (some 42) (Ef.pr Pr.nilc) [X.t 35], I.mk none (some 43) (Ef.pr (Pr.fa 2)) [X.t 42], I.mk none none (Ef.st 1) [X.t 43, X.t 41]]) 
  (IC.seq (IC.ops [I.mk none (some 44) (Ef.pr Pr.mv) [X.t 7], I.mk none (some 4) (Ef.pr Pr.mv) [X.t 44], I.mk none (some 5) (Ef.pr Pr.mv) [X.c (Value.bool true)]]) IC.ret)))))))

theorem k68 : Go.Proofs.Try.f68.body.bind (comp Go.Proofs.Try.prog 45 [] []) = some c68 := by kernel_rfl

theorem r68 : cRVs Go.Proofs.Try.prog Go.Proofs.Try.f68.results.toList = some [RV.t 4, RV.t 5] := by kernel_rfl

theorem e68 {args : List Value} {h : Hp} {Q : Value → Hp → Prop} (hl : Nat.ble args.length 45 = true) (hk : codeK PR none c68 (retK Q [RV.t 4, RV.t 5]) (fun _ _ _ _ => False) (retK Q [RV.t 4, RV.t 5]) (argsE 0 args) [] h) : Ok PR 68 args h Q :=
  Ok.of mixed Go.Proofs.Try.func68 rfl k68 r68 hl hk

def c101 : IC := IC.seq (IC.ops [I.mk none (some 6) (Ef.pr Pr.mv) [X.t 0], I.mk none (some 7) (Ef.pr Pr.nilc) [X.t 6], I.mk none (some 8) (Ef.pr (Pr.fa 0)) [X.t 7], I.mk none (some 9) (Ef.pr (Pr.ld 1 false)) [X.t 8], I.mk none (some 10) (Ef.pr Pr.mv) [X.t 1], I.mk none (some 11) (Ef.pr Pr.mv) [X.t 2], I.mk none (some 12) (Ef.pr (Pr.bld [Value.bool false, Value.int IntKind.i64 0] [(0, 1), (1, 1)])) [X.c (Value.bool true), X.t 11], I.mk none (some 13) (Ef.pr (Pr.iaS 2)) [X.t 9, X.t 10], I.mk none none (Ef.st 2) [X.t 13, X.t 12]]) (IC.ops [I.mk none (some 14) (Ef.pr Pr.mv) [X.t 0], I.mk none (some 15) (Ef.pr Pr.nilc) [X.t 14], I.mk none (some 16) (Ef.pr (Pr.fa 1)) [X.t 15], I.mk none (some 17) (Ef.pr (Pr.ld 1 false)) [X.t 16], I.mk none (some 18) (Ef.pr (Pr.ar BinOp.add)) [X.t 17, X.c (Value.int IntKind.i64 1)], I.mk none (some 19) (Ef.pr Pr.nilc) [X.t 14], I.mk none (some 20) (Ef.pr (Pr.fa 1)) [X.t 19], I.mk none none (Ef.st 1) [X.t 20, X.t 18]])

theorem k101 : Go.Proofs.Try.f101.body.bind (comp Go.Proofs.Try.prog 21 [] []) = some c101 := by kernel_rfl

theorem r101 : cRVs Go.Proofs.Try.prog Go.Proofs.Try.f101.results.toList = some [] := by kernel_rfl

theorem e101 {args : List Value} {h : Hp} {Q : Value → Hp → Prop} (hl : Nat.ble args.length 21 = true) (hk : codeK PR none c101 (retK Q []) (fun _ _ _ _ => False) (retK Q []) (argsE 0 args) [] h) : Ok PR 101 args h Q :=
  Ok.of mixed Go.Proofs.Try.func101 rfl k101 r101 hl hk

def c102 : IC := IC.seq (IC.ops [I.mk none (some 4) (Ef.pr Pr.mv) [X.c (Value.bool false)]]) 
  (IC.seq (IC.ops [I.mk none (some 5) (Ef.pr Pr.mv) [X.t 1], I.mk none (some 6) (Ef.pr (Pr.cm BinOp.geq)) [X.t 5, X.c (Value.int IntKind.i64 0)], I.mk none (some 7) (Ef.pr Pr.mv) [X.t 6], I.mk (some (7, true)) (some 8) (Ef.pr Pr.mv) [X.t 1], I.mk (some (7, true)) (some 9) (Ef.pr Pr.mv) [X.t 0], I.mk (some (7, true)) (some 10) (Ef.pr Pr.nilc) [X.t 9], I.mk (some (7, true)) (some 11) (Ef.pr (Pr.fa 0)) [X.t 10], I.mk (some (7, true)) (some 12) (Ef.pr (Pr.ld 1 false)) [X.t 11], I.mk (some (7, true)) (some 13) (Ef.pr Pr.lenS) [X.t 12], I.mk (some (7, true)) (some 14) (Ef.pr (Pr.cm BinOp.lss)) [X.t 8, X.t 13], I.mk none (some 15) (Ef.pr Pr.pick) [X.t 7, X.t 14, X.c (Value.bool false)], I.mk none (some 16) (Ef.pr Pr.mv) [X.t 15], I.mk (some (16, true)) (some 17) (Ef.pr Pr.mv) [X.t 0], I.mk (some (16, true)) (some 18) (Ef.pr Pr.nilc) [X.t 17], I.mk (some (16, true)) (some 19) (Ef.pr (Pr.fa 0)) [X.t 18], I.mk (some (16, true)) (some 20) (Ef.pr (Pr.ld 1 false)) [X.t 19], I.mk (some (16, true)) (some 21) (Ef.pr Pr.mv) [X.t 1], I.mk (some (16, true)) (some 22) (Ef.pr (Pr.iaS 2)) [X.t 20, X.t 21], I.mk (some (16, true)) (some 23) (Ef.pr (Pr.fa 0)) [X.t 22], I.mk (some (16, true)) (some 24) (Ef.pr (Pr.ld 1 false)) [X.t 23], I.mk none (some 25) (Ef.pr Pr.pick) [X.t 16, X.t 24, X.c (Value.bool false)], I.mk none (some 4) (Ef.pr Pr.mv) [X.t 25]]) IC.ret)

theorem k102 : Go.Proofs.Try.f102.body.bind (comp Go.Proofs.Try.prog 26 [] []) = some c102 := by kernel_rfl

theorem r102 : cRVs Go.Proofs.Try.prog Go.Proofs.Try.f102.results.toList = some [RV.t 4] := by kernel_rfl

theorem e102 {args : List Value} {h : Hp} {Q : Value → Hp → Prop} (hl : Nat.ble args.length 26 = true) (hk : codeK PR none c102 (retK Q [RV.t 4]) (fun _ _ _ _ => False) (retK Q [RV.t 4]) (argsE 0 args) [] h) : Ok PR 102 args h Q :=
  Ok.of mixed Go.Proofs.Try.func102 rfl k102 r102 hl hk

def c39 : IC := IC.seq (IC.ops [I.mk none (some 0) (Ef.pr Pr.mv) [X.c (Value.bool false)]]) 
  (IC.seq (IC.ops [I.mk none (some 8) (Ef.call 56) [X.c (Value.int IntKind.i64 3)], I.mk none (some 1) (Ef.pr Pr.mv) [X.t 8]]) 
  (IC.seq 
  (IC.seq (IC.ops [I.mk none (some 9) (Ef.pr Pr.mv) [X.t 1], I.mk none (some 10) (Ef.pr (Pr.eq false (EqT.one EqS.p))) [X.t 9, X.c (Value.pointer none)]]) 
  (IC.cond (X.t 10) 
  (IC.seq (IC.ops [I.mk none (some 0) (Ef.pr Pr.mv) [X.c (Value.bool false)]]) IC.ret) IC.skip)) 
  (IC.seq (IC.ops [I.mk none (some 12) (Ef.pr Pr.mv) [X.t 1], I.mk none (some 13) (Ef.call 57) [X.t 12, X.c (Value.int IntKind.i64 7)], I.mk none (some 11) (Ef.pr Pr.mv) [X.t 13], I.mk none (some 14) (Ef.pr (Pr.ext 0)) [X.t 11], I.mk none (some 15) (Ef.pr (Pr.ext 1)) [X.t 11], I.mk none (some 2) (Ef.pr Pr.mv) [X.t 14], I.mk none (some 3) (Ef.pr Pr.mv) [X.t 15]]) 
  (IC.seq (IC.ops [I.mk none (some 17) (Ef.pr Pr.mv) [X.t 1], I.mk none (some 18) (Ef.call 57) [X.t 17, X.c (Value.int IntKind.i64 8)], I.mk none (some 16) (Ef.pr Pr.mv) [X.t 18], I.mk none (some 19) (Ef.pr (Pr.ext 0)) [X.t 16], I.mk none (some 20) (Ef.pr (Pr.ext 1)) [X.t 16], I.mk none (some 4) (Ef.pr Pr.mv) [X.t 19], I.mk none (some 5) (Ef.pr Pr.mv) [X.t 20]]) 
  (IC.seq (IC.ops [I.mk none (some 22) (Ef.pr Pr.mv) [X.t 1], I.mk none (some 23) (Ef.call 60) [X.t 22, X.c (Value.int IntKind.i64 1)], I.mk none (some 21) (Ef.pr Pr.mv) [X.t 23], I.mk none (some 24) (Ef.pr (Pr.ext 0)) [X.t 21], I.mk none (some 25) (Ef.pr (Pr.ext 1)) [X.t 21], I.mk none (some 6) (Ef.pr Pr.mv) [X.t 24], I.mk none (some 7) (Ef.pr Pr.mv) [X.t 25]]) 
  (IC.seq (IC.ops [I.mk none (some 26) (Ef.pr Pr.mv) [X.t 2], I.mk none (some 27) (Ef.pr (Pr.cm BinOp.eql)) [X.t 26, X.c (Value.int IntKind.i64 0)], I.mk none (some 28) (Ef.pr Pr.mv) [X.t 27], I.mk (some (28, true)) (some 29) (Ef.pr Pr.mv) [X.t 3], I.mk (some (28, true)) (some 30) (Ef.pr (Pr.cm BinOp.eql)) [X.t 29, X.c (Value.int IntKind.i64 0)], I.mk none (some 31) (Ef.pr Pr.pick) [X.t 28, X.t 30, X.c (Value.bool false)], I.mk none (some 32) (Ef.pr Pr.mv) [X.t 31], I.mk (some (32, true)) (some 33) (Ef.pr Pr.mv) [X.t 4], I.mk (some (32, true)) (some 34) (Ef.pr (Pr.cm BinOp.eql)) [X.t 33, X.c (Value.int IntKind.i64 1)], I.mk none (some 35) (Ef.pr Pr.pick) [X.t 32, X.t 34, X.c (Value.bool false)], I.mk none (some 36) (Ef.pr Pr.mv) [X.t 35], I.mk (some (36, true)) (some 37) (Ef.pr Pr.mv) [X.t 5], I.mk (some (36, true)) (some 38) (Ef.pr (Pr.cm BinOp.eql)) [X.t 37, X.c (Value.int IntKind.i64 0)], I.mk none (some 39) (Ef.pr Pr.pick) [X.t 36, X.t 38, X.c (Value.bool false)], I.mk none (some 40) (Ef.pr Pr.mv) [X.t 39], I.mk (some (40, true)) (some 41) (Ef.pr Pr.mv) [X.t 6], I.mk (some (40, true)) (some 42) (Ef.pr (Pr.cm BinOp.eql)) [X.t 41, X.c (Value.int IntKind.i64 8)], I.mk none (some 43) (Ef.pr Pr.pick) [X.t 40, X.t 42, X.c (Value.bool false)], I.mk none (some 44) (Ef.pr Pr.mv) [X.t 43], I.mk (some (44, true)) (some 45) (Ef.pr Pr.mv) [X.t 7], I.mk none (some 46) (Ef.pr Pr.pick) [X.t 44, X.t 45, X.c (Value.bool false)], I.mk none (some 47) (Ef.pr Pr.mv) [X.t 46], I.mk (some (47, true)) (some 48) (Ef.pr Pr.mv) [X.t 1], I.mk (some (47, true)) (some 49) (Ef.call 63) [X.t 48], I.mk (some (47, true)) (some 50) (Ef.pr (Pr.cm BinOp.eql)) [X.t 49, X.c (Value.int IntKind.i64 3)], I.mk none (some 51) (Ef.pr Pr.pick) [X.t 47, X.t 50, X.c (Value.bool false)], I.mk none (some 52) (Ef.pr Pr.mv) [X.t 51], I.mk (some (52, true)) (some 53) (Ef.pr Pr.mv) [X.t 1], I.mk (some (52, true)) (some 54) (Ef.call 61) [X.t 53], I.mk (some (52, true)) (some 55) (Ef.pr (Pr.cm BinOp.eql)) [X.t 54, X.c (Value.int IntKind.i64 2)], I.mk none (some 56) (Ef.pr Pr.pick) [X.t 52, X.t 55, X.c (Value.bool false)], I.mk none (some 0) (Ef.pr Pr.mv) [X.t 56]]) IC.ret))))))

theorem k39 : Go.Proofs.Try.f39.body.bind (comp Go.Proofs.Try.prog 57 [] []) = some c39 := by kernel_rfl

theorem r39 : cRVs Go.Proofs.Try.prog Go.Proofs.Try.f39.results.toList = some [RV.t 0] := by kernel_rfl

theorem e39 {args : List Value} {h : Hp} {Q : Value → Hp → Prop} (hl : Nat.ble args.length 57 = true) (hk : codeK PR none c39 (retK Q [RV.t 0]) (fun _ _ _ _ => False) (retK Q [RV.t 0]) (argsE 0 args) [] h) : Ok PR 39 args h Q :=
  Ok.of mixed Go.Proofs.Try.func39 rfl k39 r39 hl hk

end Go.Proofs.Ytkmknolkblcbeaa.V
