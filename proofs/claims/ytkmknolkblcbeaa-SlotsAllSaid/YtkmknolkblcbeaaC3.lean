/- The functions 37, 38, 40, 41, 42, 43, 44, 48, 87, 88, 89, 90, 103, resolved. -/
import Derived.Test.YtkmknolkblcbeaaVP
namespace Go.Proofs.Ytkmknolkblcbeaa.V
set_option linter.unusedVariables false
set_option linter.unusedSimpArgs false
set_option linter.unusedSectionVars false
open Go
set_option maxRecDepth 100000

def c37 : IC := IC.seq (IC.ops [I.mk none (some 2) (Ef.pr Pr.mv) [X.c (Value.pointer none)]]) 
  (IC.seq (IC.ops [I.mk none (some 3) (Ef.pr Pr.mv) [X.t 0], I.mk none (some 4) (Ef.pr Pr.max2) [X.t 3, X.c (Value.int IntKind.i64 0)], I.mk none (some 5) (Ef.pr Pr.min2) [X.t 4, X.c (Value.int IntKind.i64 4096)], I.mk none (some 6) (Ef.mks [Value.bool false, Value.string (ByteArray.mk (Array.mk [])), Value.int IntKind.i64 0, Value.int IntKind.i64 0] 125 40) [X.t 5, X.t 5], I.mk none (some 7) (Ef.pr (Pr.bld [Value.slice none 0 0, Value.int IntKind.i64 0, Value.int IntKind.i64 0] [(0, 1)])) [X.t 6], I.mk none (some 8) (Ef.bxh 123) [X.t 7], I.mk none (some 2) (Ef.pr Pr.mv) [X.t 8]]) IC.ret)

theorem k37 : Go.Proofs.Try.f37.body.bind (comp Go.Proofs.Try.prog 9 [] []) = some c37 := by kernel_rfl

theorem r37 : cRVs Go.Proofs.Try.prog Go.Proofs.Try.f37.results.toList = some [RV.t 2] := by kernel_rfl

theorem e37 {args : List Value} {h : Hp} {Q : Value → Hp → Prop} (hl : Nat.ble args.length 9 = true) (hk : codeK PR none c37 (retK Q [RV.t 2]) (fun _ _ _ _ => False) (retK Q [RV.t 2]) (argsE 0 args) [] h) : Ok PR 37 args h Q :=
  Ok.of mixed Go.Proofs.Try.func37 rfl k37 r37 hl hk

def c38 : IC := IC.seq (IC.ops [I.mk none (some 2) (Ef.pr Pr.mv) [X.c (Value.int IntKind.i64 0)]]) 
  (IC.seq (IC.ops [I.mk none (some 3) (Ef.pr Pr.mv) [X.t 0], I.mk none (some 4) (Ef.pr Pr.min2) [X.t 3, X.c (Value.int IntKind.i64 4096)], I.mk none (some 5) (Ef.pr Pr.max2) [X.c (Value.int IntKind.i64 0), X.t 4], I.mk none (some 2) (Ef.pr Pr.mv) [X.t 5]]) IC.ret)

theorem k38 : Go.Proofs.Try.f38.body.bind (comp Go.Proofs.Try.prog 6 [] []) = some c38 := by kernel_rfl

theorem r38 : cRVs Go.Proofs.Try.prog Go.Proofs.Try.f38.results.toList = some [RV.t 2] := by kernel_rfl

theorem e38 {args : List Value} {h : Hp} {Q : Value → Hp → Prop} (hl : Nat.ble args.length 6 = true) (hk : codeK PR none c38 (retK Q [RV.t 2]) (fun _ _ _ _ => False) (retK Q [RV.t 2]) (argsE 0 args) [] h) : Ok PR 38 args h Q :=
  Ok.of mixed Go.Proofs.Try.func38 rfl k38 r38 hl hk

def c40 : IC := IC.seq (IC.ops [I.mk none (some 3) Ef.bx [X.t 1], I.mk none (some 4) (Ef.pr Pr.mv) [X.c (Value.int IntKind.i64 0)], I.mk none (some 5) (Ef.pr Pr.mv) [X.c (Value.int IntKind.i64 0)]]) 
  (IC.seq 
  (IC.block 0 
  (IC.loop 
  (IC.seq 
  (IC.seq (IC.plan (Plan.q (I.mk none (some 7) (Ef.pr Pr.mv) [X.t 0]) (Plan.q (I.mk none (some 8) (Ef.pr Pr.nilc) [X.t 7]) (Plan.q (I.mk none (some 9) (Ef.pr (Pr.fa 2)) [X.t 8]) (Plan.q (I.mk none (some 10) (Ef.pr (Pr.ld 1 false)) [X.t 9]) (Plan.q (I.mk none (some 11) (Ef.pr Pr.mv) [X.t 0]) (Plan.q (I.mk none (some 12) (Ef.pr Pr.nilc) [X.t 11]) (Plan.q (I.mk none (some 13) (Ef.pr (Pr.fa 0)) [X.t 12]) (Plan.q (I.mk none (some 14) (Ef.pr (Pr.ld 1 false)) [X.t 13]) (Plan.q (I.mk none (some 15) (Ef.pr Pr.lenS) [X.t 14]) (Plan.q (I.mk none (some 16) (Ef.pr (Pr.cm BinOp.lss)) [X.t 10, X.t 15]) (Plan.q (I.mk none (some 17) (Ef.pr Pr.mv) [X.t 16]) (Plan.q (I.mk (some (17, true)) (some 18) (Ef.pr Pr.mv) [X.t 0]) (Plan.q (I.mk (some (17, true)) (some 19) (Ef.pr Pr.nilc) [X.t 18]) (Plan.q (I.mk (some (17, true)) (some 20) (Ef.pr (Pr.fa 0)) [X.t 19]) (Plan.q (I.mk (some (17, true)) (some 21) (Ef.pr (Pr.ld 1 false)) [X.t 20]) (Plan.q (I.mk (some (17, true)) (some 22) (Ef.pr Pr.mv) [X.t 0]) (Plan.q (I.mk (some (17, true)) (some 23) (Ef.pr Pr.nilc) [X.t 22]) (Plan.q (I.mk (some (17, true)) (some 24) (Ef.pr (Pr.fa 2)) [X.t 23]) (Plan.q (I.mk (some (17, true)) (some 25) (Ef.pr (Pr.ld 1 false)) [X.t 24]) (Plan.q (I.mk (some (17, true)) (some 26) (Ef.pr (Pr.iaS 4)) [X.t 21, X.t 25]) (Plan.q (I.mk (some (17, true)) (some 27) (Ef.pr (Pr.fa 0)) [X.t 26]) (Plan.q (I.mk (some (17, true)) (some 28) (Ef.pr (Pr.ld 1 false)) [X.t 27]) (Plan.q (I.mk none (some 29) (Ef.pr Pr.pick) [X.t 17, X.t 28, X.c (Value.bool false)]) Plan.done)))))))))))))))))))))))) 
  (IC.cond (X.t 29) IC.skip (IC.exit 0))) 
  (IC.block 1 (IC.ops [I.mk none (some 30) (Ef.pr Pr.mv) [X.t 0], I.mk none (some 31) (Ef.pr Pr.nilc) [X.t 30], I.mk none (some 32) (Ef.pr (Pr.fa 2)) [X.t 31], I.mk none (some 33) (Ef.pr (Pr.ld 1 false)) [X.t 32], I.mk none (some 34) (Ef.pr (Pr.ar BinOp.add)) [X.t 33, X.c (Value.int IntKind.i64 1)], I.mk none (some 35) (Ef.pr Pr.nilc) [X.t 30], I.mk none (some 36) (Ef.pr (Pr.fa 2)) [X.t 35], I.mk none none (Ef.st 1) [X.t 36, X.t 34]]))))) 
  (IC.seq 
  (IC.seq (IC.plan (Plan.q (I.mk none (some 37) (Ef.pr Pr.mv) [X.t 0]) (Plan.q (I.mk none (some 38) (Ef.pr Pr.nilc) [X.t 37]) (Plan.q (I.mk none (some 39) (Ef.pr (Pr.fa 2)) [X.t 38]) (Plan.q (I.mk none (some 40) (Ef.pr (Pr.ld 1 false)) [X.t 39]) (Plan.q (I.mk none (some 41) (Ef.pr Pr.mv) [X.t 0]) (Plan.q (I.mk none (some 42) (Ef.pr Pr.nilc) [X.t 41]) (Plan.q (I.mk none (some 43) (Ef.pr (Pr.fa 0)) [X.t 42]) (Plan.q (I.mk none (some 44) (Ef.pr (Pr.ld 1 false)) [X.t 43]) (Plan.q (I.mk none (some 45) (Ef.pr Pr.lenS) [X.t 44]) (Plan.q (I.mk none (some 46) (Ef.pr (Pr.cm BinOp.eql)) [X.t 40, X.t 45]) Plan.done))))))))))) 
  (IC.cond (X.t 46) 
  (IC.seq (IC.ops [I.mk none (some 4) (Ef.pr Pr.mv) [X.c (Value.int IntKind.i64 (-1))], I.mk none (some 5) (Ef.pr Pr.mv) [X.c (Value.int IntKind.i64 2)]]) IC.ret) IC.skip)) 
  (IC.seq (IC.ops [I.mk none (some 47) (Ef.pr Pr.mv) [X.t 0], I.mk none (some 48) (Ef.pr Pr.nilc) [X.t 47], I.mk none (some 49) (Ef.pr (Pr.fa 2)) [X.t 48], I.mk none (some 50) (Ef.pr (Pr.ld 1 false)) [X.t 49], I.mk none (some 6) (Ef.pr Pr.mv) [X.t 50]]) 
  (IC.seq (IC.ops [I.mk none (some 51) (Ef.pr Pr.mv) [X.t 0], I.mk none (some 52) (Ef.pr Pr.mv) [X.t 6], I.mk none (some 53) (Ef.pr (Pr.ld 3 true)) [X.t 3], I.mk none (some 54) (Ef.call 87) [X.t 51, X.t 52, X.t 53]]) 
  (IC.seq (IC.ops [I.mk none (some 55) (Ef.pr Pr.mv) [X.t 6], I.mk none (some 4) (Ef.pr Pr.mv) [X.t 55], I.mk none (some 5) (Ef.pr Pr.mv) [X.c (Value.int IntKind.i64 0)]]) IC.ret)))))

theorem k40 : Go.Proofs.Try.f40.body.bind (comp Go.Proofs.Try.prog 56 [3] []) = some c40 := by kernel_rfl

theorem r40 : cRVs Go.Proofs.Try.prog Go.Proofs.Try.f40.results.toList = some [RV.t 4, RV.t 5] := by kernel_rfl

theorem e40 {args : List Value} {h : Hp} {Q : Value → Hp → Prop} (hl : Nat.ble args.length 56 = true) (hk : codeK PR none c40 (retK Q [RV.t 4, RV.t 5]) (fun _ _ _ _ => False) (retK Q [RV.t 4, RV.t 5]) (argsE 0 args) [] h) : Ok PR 40 args h Q :=
  Ok.of mixed Go.Proofs.Try.func40 rfl k40 r40 hl hk

def c41 : IC := IC.seq (IC.ops [I.mk none (some 2) (Ef.pr Pr.mv) [X.c (Value.int IntKind.i64 0)]]) 
  (IC.seq (IC.ops [I.mk none (some 3) (Ef.pr Pr.mv) [X.t 0], I.mk none (some 4) (Ef.pr Pr.nilc) [X.t 3], I.mk none (some 5) (Ef.pr (Pr.fa 1)) [X.t 4], I.mk none (some 6) (Ef.pr (Pr.ld 1 false)) [X.t 5], I.mk none (some 2) (Ef.pr Pr.mv) [X.t 6]]) IC.ret)

theorem k41 : Go.Proofs.Try.f41.body.bind (comp Go.Proofs.Try.prog 7 [] []) = some c41 := by kernel_rfl

theorem r41 : cRVs Go.Proofs.Try.prog Go.Proofs.Try.f41.results.toList = some [RV.t 2] := by kernel_rfl

theorem e41 {args : List Value} {h : Hp} {Q : Value → Hp → Prop} (hl : Nat.ble args.length 7 = true) (hk : codeK PR none c41 (retK Q [RV.t 2]) (fun _ _ _ _ => False) (retK Q [RV.t 2]) (argsE 0 args) [] h) : Ok PR 41 args h Q :=
  Ok.of mixed Go.Proofs.Try.func41 rfl k41 r41 hl hk

def c42 : IC := IC.seq (IC.ops [I.mk none (some 4) (Ef.al [Value.string (ByteArray.mk (Array.mk [])), Value.int IntKind.i64 0, Value.int IntKind.i64 0]) [], I.mk none (some 5) (Ef.pr Pr.mv) [X.c (Value.bool false)]]) 
  (IC.seq (IC.ops [I.mk none (some 6) (Ef.al [Value.string (ByteArray.mk (Array.mk [])), Value.int IntKind.i64 0, Value.int IntKind.i64 0]) []]) 
  (IC.seq 
  (IC.seq (IC.ops [I.mk none (some 8) (Ef.pr Pr.mv) [X.t 0], I.mk none (some 9) (Ef.pr Pr.mv) [X.t 1], I.mk none (some 10) (Ef.call 88) [X.t 8, X.t 9], I.mk none (some 11) (Ef.pr (Pr.un UnOp.not)) [X.t 10]]) 
  (IC.cond (X.t 11) 
  (IC.seq (IC.ops [I.mk none (some 12) (Ef.pr (Pr.ld 3 true)) [X.t 6], I.mk none none (Ef.st 3) [X.t 4, X.t 12], I.mk none (some 5) (Ef.pr Pr.mv) [X.c (Value.bool false)]]) IC.ret) IC.skip)) 
  (IC.seq (IC.ops [I.mk none (some 13) (Ef.pr Pr.mv) [X.t 0], I.mk none (some 14) (Ef.pr Pr.nilc) [X.t 13], I.mk none (some 15) (Ef.pr (Pr.fa 0)) [X.t 14], I.mk none (some 16) (Ef.pr (Pr.ld 1 false)) [X.t 15], I.mk none (some 17) (Ef.pr Pr.mv) [X.t 1], I.mk none (some 18) (Ef.pr (Pr.iaS 4)) [X.t 16, X.t 17], I.mk none (some 19) (Ef.pr (Pr.fa 1)) [X.t 18], I.mk none (some 20) (Ef.pr (Pr.ld 3 true)) [X.t 19], I.mk none (some 7) (Ef.al [Value.string (ByteArray.mk (Array.mk [])), Value.int IntKind.i64 0, Value.int IntKind.i64 0]) [], I.mk none none (Ef.st 3) [X.t 7, X.t 20]]) 
  (IC.seq (IC.ops [I.mk none (some 21) (Ef.pr Pr.mv) [X.t 0], I.mk none (some 22) (Ef.pr Pr.nilc) [X.t 21], I.mk none (some 23) (Ef.pr (Pr.fa 0)) [X.t 22], I.mk none (some 24) (Ef.pr (Pr.ld 1 false)) [X.t 23], I.mk none (some 25) (Ef.pr Pr.mv) [X.t 1], I.mk none (some 26) (Ef.pr (Pr.bld [Value.bool false, Value.string (ByteArray.mk (Array.mk [])), Value.int IntKind.i64 0, Value.int IntKind.i64 0] [])) [], I.mk none (some 27) (Ef.pr (Pr.iaS 4)) [X.t 24, X.t 25], I.mk none none (Ef.st 4) [X.t 27, X.t 26]]) 
  (IC.seq (IC.ops [I.mk none (some 28) (Ef.pr Pr.mv) [X.t 0], I.mk none (some 29) (Ef.pr Pr.nilc) [X.t 28], I.mk none (some 30) (Ef.pr (Pr.fa 1)) [X.t 29], I.mk none (some 31) (Ef.pr (Pr.ld 1 false)) [X.t 30], I.mk none (some 32) (Ef.pr (Pr.ar BinOp.sub)) [X.t 31, X.c (Value.int IntKind.i64 1)], I.mk none (some 33) (Ef.pr Pr.nilc) [X.t 28], I.mk none (some 34) (Ef.pr (Pr.fa 1)) [X.t 33], I.mk none none (Ef.st 1) [X.t 34, X.t 32]]) 
  (IC.seq (IC.ops [I.mk none (some 35) (Ef.pr Pr.mv) [X.t 0], I.mk none (some 36) (Ef.pr Pr.mv) [X.t 0], I.mk none (some 37) (Ef.pr Pr.nilc) [X.t 36], I.mk none (some 38) (Ef.pr (Pr.fa 2)) [X.t 37], I.mk none (some 39) (Ef.pr (Pr.ld 1 false)) [X.t 38], I.mk none (some 40) (Ef.pr Pr.mv) [X.t 1], I.mk none (some 41) (Ef.pr Pr.min2) [X.t 39, X.t 40], I.mk none (some 42) (Ef.pr Pr.nilc) [X.t 35], I.mk none (some 43) (Ef.pr (Pr.fa 2)) [X.t 42], I.mk none none (Ef.st 1) [X.t 43, X.t 41]]) 
  (IC.seq (IC.ops [I.mk none (some 44) (Ef.pr (Pr.ld 3 true)) [X.t 7], I.mk none none (Ef.st 3) [X.t 4, X.t 44], I.mk none (some 5) (Ef.pr Pr.mv) [X.c (Value.bool true)]]) IC.ret)))))))

theorem k42 : Go.Proofs.Try.f42.body.bind (comp Go.Proofs.Try.prog 45 [4, 6, 7] []) = some c42 := by kernel_rfl

theorem r42 : cRVs Go.Proofs.Try.prog Go.Proofs.Try.f42.results.toList = some [RV.c 4 3 true, RV.t 5] := by kernel_rfl

theorem e42 {args : List Value} {h : Hp} {Q : Value → Hp → Prop} (hl : Nat.ble args.length 45 = true) (hk : codeK PR none c42 (retK Q [RV.c 4 3 true, RV.t 5]) (fun _ _ _ _ => False) (retK Q [RV.c 4 3 true, RV.t 5]) (argsE 0 args) [] h) : Ok PR 42 args h Q :=
  Ok.of mixed Go.Proofs.Try.func42 rfl k42 r42 hl hk

def c43 : IC := IC.seq (IC.ops [I.mk none (some 4) (Ef.pr Pr.mv) [X.c (Value.int IntKind.i64 0)]]) 
  (IC.seq 
  (IC.seq (IC.ops [I.mk none (some 6) (Ef.pr Pr.mv) [X.t 1], I.mk none (some 7) (Ef.pr Pr.max2) [X.t 6, X.c (Value.int IntKind.i64 0)], I.mk none (some 5) (Ef.pr Pr.mv) [X.t 7]]) 
  (IC.block 0 
  (IC.loop 
  (IC.seq 
  (IC.seq (IC.ops [I.mk none (some 8) (Ef.pr Pr.mv) [X.t 5], I.mk none (some 9) (Ef.pr Pr.mv) [X.t 0], I.mk none (some 10) (Ef.pr Pr.nilc) [X.t 9], I.mk none (some 11) (Ef.pr (Pr.fa 0)) [X.t 10], I.mk none (some 12) (Ef.pr (Pr.ld 1 false)) [X.t 11], I.mk none (some 13) (Ef.pr Pr.lenS) [X.t 12], I.mk none (some 14) (Ef.pr (Pr.cm BinOp.lss)) [X.t 8, X.t 13]]) 
  (IC.cond (X.t 14) IC.skip (IC.exit 0))) 
  (IC.seq 
  (IC.block 1 
  (IC.seq (IC.ops [I.mk none (some 17) (Ef.pr Pr.mv) [X.t 0], I.mk none (some 18) (Ef.pr Pr.nilc) [X.t 17], I.mk none (some 19) (Ef.pr (Pr.fa 0)) [X.t 18], I.mk none (some 20) (Ef.pr (Pr.ld 1 false)) [X.t 19], I.mk none (some 21) (Ef.pr Pr.mv) [X.t 5], I.mk none (some 22) (Ef.pr (Pr.iaS 4)) [X.t 20, X.t 21], I.mk none (some 23) (Ef.pr (Pr.fa 0)) [X.t 22], I.mk none (some 24) (Ef.pr (Pr.ld 1 false)) [X.t 23]]) 
  (IC.cond (X.t 24) 
  (IC.seq (IC.ops [I.mk none (some 25) (Ef.pr Pr.mv) [X.t 5], I.mk none (some 4) (Ef.pr Pr.mv) [X.t 25]]) IC.ret) IC.skip))) (IC.ops [I.mk none (some 15) (Ef.pr Pr.mv) [X.t 5], I.mk none (some 16) (Ef.pr (Pr.ar BinOp.add)) [X.t 15, X.c (Value.int IntKind.i64 1)], I.mk none (some 5) (Ef.pr Pr.mv) [X.t 16]])))))) 
  (IC.seq (IC.ops [I.mk none (some 4) (Ef.pr Pr.mv) [X.c (Value.int IntKind.i64 (-1))]]) IC.ret))

theorem k43 : Go.Proofs.Try.f43.body.bind (comp Go.Proofs.Try.prog 26 [] []) = some c43 := by kernel_rfl

theorem r43 : cRVs Go.Proofs.Try.prog Go.Proofs.Try.f43.results.toList = some [RV.t 4] := by kernel_rfl

theorem e43 {args : List Value} {h : Hp} {Q : Value → Hp → Prop} (hl : Nat.ble args.length 26 = true) (hk : codeK PR none c43 (retK Q [RV.t 4]) (fun _ _ _ _ => False) (retK Q [RV.t 4]) (argsE 0 args) [] h) : Ok PR 43 args h Q :=
  Ok.of mixed Go.Proofs.Try.func43 rfl k43 r43 hl hk

def c44 : IC := IC.seq (IC.ops [I.mk none (some 2) (Ef.pr Pr.mv) [X.c (Value.int IntKind.i64 0)]]) 
  (IC.seq (IC.ops [I.mk none (some 3) (Ef.pr Pr.mv) [X.t 0], I.mk none (some 4) (Ef.pr Pr.nilc) [X.t 3], I.mk none (some 5) (Ef.pr (Pr.fa 0)) [X.t 4], I.mk none (some 6) (Ef.pr (Pr.ld 1 false)) [X.t 5], I.mk none (some 7) (Ef.pr Pr.lenS) [X.t 6], I.mk none (some 2) (Ef.pr Pr.mv) [X.t 7]]) IC.ret)

theorem k44 : Go.Proofs.Try.f44.body.bind (comp Go.Proofs.Try.prog 8 [] []) = some c44 := by kernel_rfl

theorem r44 : cRVs Go.Proofs.Try.prog Go.Proofs.Try.f44.results.toList = some [RV.t 2] := by kernel_rfl

theorem e44 {args : List Value} {h : Hp} {Q : Value → Hp → Prop} (hl : Nat.ble args.length 8 = true) (hk : codeK PR none c44 (retK Q [RV.t 2]) (fun _ _ _ _ => False) (retK Q [RV.t 2]) (argsE 0 args) [] h) : Ok PR 44 args h Q :=
  Ok.of mixed Go.Proofs.Try.func44 rfl k44 r44 hl hk

def c48 : IC := IC.seq (IC.ops [I.mk none (some 2) (Ef.pr Pr.mv) [X.t 0], I.mk none (some 3) (Ef.pr Pr.nilc) [X.t 2], I.mk none (some 4) (Ef.pr (Pr.fa 0)) [X.t 3], I.mk none (some 5) (Ef.pr (Pr.ld 1 false)) [X.t 4], I.mk none none (Ef.clrS [Value.bool false, Value.string (ByteArray.mk (Array.mk [])), Value.int IntKind.i64 0, Value.int IntKind.i64 0]) [X.t 5]]) (IC.ops [I.mk none (some 6) (Ef.pr Pr.mv) [X.t 0], I.mk none (some 7) (Ef.pr Pr.mv) [X.t 0], I.mk none (some 8) (Ef.pr Pr.nilc) [X.t 6], I.mk none (some 9) (Ef.pr (Pr.fa 1)) [X.t 8], I.mk none none (Ef.st 1) [X.t 9, X.c (Value.int IntKind.i64 0)], I.mk none (some 10) (Ef.pr Pr.nilc) [X.t 7], I.mk none (some 11) (Ef.pr (Pr.fa 2)) [X.t 10], I.mk none none (Ef.st 1) [X.t 11, X.c (Value.int IntKind.i64 0)]])

theorem k48 : Go.Proofs.Try.f48.body.bind (comp Go.Proofs.Try.prog 12 [] []) = some c48 := by kernel_rfl

theorem r48 : cRVs Go.Proofs.Try.prog Go.Proofs.Try.f48.results.toList = some [] := by kernel_rfl

theorem e48 {args : List Value} {h : Hp} {Q : Value → Hp → Prop} (hl : Nat.ble args.length 12 = true) (hk : codeK PR none c48 (retK Q []) (fun _ _ _ _ => False) (retK Q []) (argsE 0 args) [] h) : Ok PR 48 args h Q :=
  Ok.of mixed Go.Proofs.Try.func48 rfl k48 r48 hl hk

def c87 : IC := IC.seq (IC.ops [I.mk none (some 5) Ef.bx [X.t 2]]) 
  (IC.seq (IC.plan (Plan.q (I.mk none (some 6) (Ef.pr Pr.mv) [X.t 0]) (Plan.q (I.mk none (some 7) (Ef.pr Pr.nilc) [X.t 6]) (Plan.q (I.mk none (some 8) (Ef.pr (Pr.fa 0)) [X.t 7]) (Plan.q (I.mk none (some 9) (Ef.pr (Pr.ld 1 false)) [X.t 8]) (Plan.q (I.mk none (some 10) (Ef.pr Pr.mv) [X.t 1]) (Plan.q (I.mk none (some 11) (Ef.pr (Pr.ld 3 true)) [X.t 5]) (Plan.q (I.mk none (some 12) (Ef.pr (Pr.bld [Value.bool false, Value.string (ByteArray.mk (Array.mk [])), Value.int IntKind.i64 0, Value.int IntKind.i64 0] [(0, 1), (1, 3)])) [X.c (Value.bool true), X.t 11]) (Plan.q (I.mk none (some 13) (Ef.pr (Pr.iaS 4)) [X.t 9, X.t 10]) (Plan.br (PlanL.cons false false (I.mk none none (Ef.st 4) [X.t 13, X.t 12]) Plan.done PlanL.nil))))))))))) (IC.ops [I.mk none (some 14) (Ef.pr Pr.mv) [X.t 0], I.mk none (some 15) (Ef.pr Pr.nilc) [X.t 14], I.mk none (some 16) (Ef.pr (Pr.fa 1)) [X.t 15], I.mk none (some 17) (Ef.pr (Pr.ld 1 false)) [X.t 16], I.mk none (some 18) (Ef.pr (Pr.ar BinOp.add)) [X.t 17, X.c (Value.int IntKind.i64 1)], I.mk none (some 19) (Ef.pr Pr.nilc) [X.t 14], I.mk none (some 20) (Ef.pr (Pr.fa 1)) [X.t 19], I.mk none none (Ef.st 1) [X.t 20, X.t 18]]))

theorem k87 : Go.Proofs.Try.f87.body.bind (comp Go.Proofs.Try.prog 21 [5] []) = some c87 := by kernel_rfl

theorem r87 : cRVs Go.Proofs.Try.prog Go.Proofs.Try.f87.results.toList = some [] := by kernel_rfl

theorem e87 {args : List Value} {h : Hp} {Q : Value → Hp → Prop} (hl : Nat.ble args.length 21 = true) (hk : codeK PR none c87 (retK Q []) (fun _ _ _ _ => False) (retK Q []) (argsE 0 args) [] h) : Ok PR 87 args h Q :=
  Ok.of mixed Go.Proofs.Try.func87 rfl k87 r87 hl hk

def c88 : IC := IC.seq (IC.ops [I.mk none (some 4) (Ef.pr Pr.mv) [X.c (Value.bool false)]]) 
  (IC.seq (IC.ops [I.mk none (some 5) (Ef.pr Pr.mv) [X.t 1], I.mk none (some 6) (Ef.pr (Pr.cm BinOp.geq)) [X.t 5, X.c (Value.int IntKind.i64 0)], I.mk none (some 7) (Ef.pr Pr.mv) [X.t 6], I.mk (some (7, true)) (some 8) (Ef.pr Pr.mv) [X.t 1], I.mk (some (7, true)) (some 9) (Ef.pr Pr.mv) [X.t 0], I.mk (some (7, true)) (some 10) (Ef.pr Pr.nilc) [X.t 9], I.mk (some (7, true)) (some 11) (Ef.pr (Pr.fa 0)) [X.t 10], I.mk (some (7, true)) (some 12) (Ef.pr (Pr.ld 1 false)) [X.t 11], I.mk (some (7, true)) (some 13) (Ef.pr Pr.lenS) [X.t 12], I.mk (some (7, true)) (some 14) (Ef.pr (Pr.cm BinOp.lss)) [X.t 8, X.t 13], I.mk none (some 15) (Ef.pr Pr.pick) [X.t 7, X.t 14, X.c (Value.bool false)], I.mk none (some 16) (Ef.pr Pr.mv) [X.t 15], I.mk (some (16, true)) (some 17) (Ef.pr Pr.mv) [X.t 0], I.mk (some (16, true)) (some 18) (Ef.pr Pr.nilc) [X.t 17], I.mk (some (16, true)) (some 19) (Ef.pr (Pr.fa 0)) [X.t 18], I.mk (some (16, true)) (some 20) (Ef.pr (Pr.ld 1 false)) [X.t 19], I.mk (some (16, true)) (some 21) (Ef.pr Pr.mv) [X.t 1], I.mk (some (16, true)) (some 22) (Ef.pr (Pr.iaS 4)) [X.t 20, X.t 21], I.mk (some (16, true)) (some 23) (Ef.pr (Pr.fa 0)) [X.t 22], I.mk (some (16, true)) (some 24) (Ef.pr (Pr.ld 1 false)) [X.t 23], I.mk none (some 25) (Ef.pr Pr.pick) [X.t 16, X.t 24, X.c (Value.bool false)], I.mk none (some 4) (Ef.pr Pr.mv) [X.t 25]]) IC.ret)

theorem k88 : Go.Proofs.Try.f88.body.bind (comp Go.Proofs.Try.prog 26 [] []) = some c88 := by kernel_rfl

theorem r88 : cRVs Go.Proofs.Try.prog Go.Proofs.Try.f88.results.toList = some [RV.t 4] := by kernel_rfl

theorem e88 {args : List Value} {h : Hp} {Q : Value → Hp → Prop} (hl : Nat.ble args.length 26 = true) (hk : codeK PR none c88 (retK Q [RV.t 4]) (fun _ _ _ _ => False) (retK Q [RV.t 4]) (argsE 0 args) [] h) : Ok PR 88 args h Q :=
  Ok.of mixed Go.Proofs.Try.func88 rfl k88 r88 hl hk

def c89 : IC := IC.seq (IC.ops [I.mk none (some 4) (Ef.al [Value.string (ByteArray.mk (Array.mk [])), Value.int IntKind.i64 0, Value.int IntKind.i64 0]) [], I.mk none (some 5) (Ef.pr Pr.mv) [X.c (Value.bool false)]]) 
  (IC.seq 
  (IC.seq (IC.ops [I.mk none (some 7) (Ef.pr Pr.mv) [X.t 0], I.mk none (some 8) (Ef.pr Pr.mv) [X.t 1], I.mk none (some 9) (Ef.call 88) [X.t 7, X.t 8], I.mk none (some 10) (Ef.pr (Pr.un UnOp.not)) [X.t 9]]) 
  (IC.cond (X.t 10) 
  (IC.seq (IC.ops [I.mk none (some 6) (Ef.al [Value.string (ByteArray.mk (Array.mk [])), Value.int IntKind.i64 0, Value.int IntKind.i64 0]) []]) 
  (IC.seq (IC.ops [I.mk none (some 11) (Ef.pr (Pr.ld 3 true)) [X.t 6], I.mk none none (Ef.st 3) [X.t 4, X.t 11], I.mk none (some 5) (Ef.pr Pr.mv) [X.c (Value.bool false)]]) IC.ret)) IC.skip)) 
  (IC.seq (IC.ops [I.mk none (some 12) (Ef.pr Pr.mv) [X.t 0], I.mk none (some 13) (Ef.pr Pr.nilc) [X.t 12], I.mk none (some 14) (Ef.pr (Pr.fa 0)) [X.t 13], I.mk none (some 15) (Ef.pr (Pr.ld 1 false)) [X.t 14], I.mk none (some 16) (Ef.pr Pr.mv) [X.t 1], I.mk none (some 17) (Ef.pr (Pr.iaS 4)) [X.t 15, X.t 16], I.mk none (some 18) (Ef.pr (Pr.fa 1)) [X.t 17], I.mk none (some 19) (Ef.pr (Pr.ld 3 true)) [X.t 18], I.mk none none (Ef.st 3) [X.t 4, X.t 19], I.mk none (some 5) (Ef.pr Pr.mv) [X.c (Value.bool true)]]) IC.ret))

theorem k89 : Go.Proofs.Try.f89.body.bind (comp Go.Proofs.Try.prog 20 [4, 6] []) = some c89 := by kernel_rfl

theorem r89 : cRVs Go.Proofs.Try.prog Go.Proofs.Try.f89.results.toList = some [RV.c 4 3 true, RV.t 5] := by kernel_rfl

theorem e89 {args : List Value} {h : Hp} {Q : Value → Hp → Prop} (hl : Nat.ble args.length 20 = true) (hk : codeK PR none c89 (retK Q [RV.c 4 3 true, RV.t 5]) (fun _ _ _ _ => False) (retK Q [RV.c 4 3 true, RV.t 5]) (argsE 0 args) [] h) : Ok PR 89 args h Q :=
  Ok.of mixed Go.Proofs.Try.func89 rfl k89 r89 hl hk

def c90 : IC := IC.seq (IC.ops [I.mk none (some 5) Ef.bx [X.t 2], I.mk none (some 6) (Ef.pr Pr.mv) [X.c (Value.int IntKind.i64 0)]]) 
  (IC.seq 
  (IC.seq (IC.ops [I.mk none (some 7) (Ef.pr Pr.mv) [X.t 1], I.mk none (some 8) (Ef.pr (Pr.cm BinOp.lss)) [X.t 7, X.c (Value.int IntKind.i64 0)], I.mk none (some 9) (Ef.pr Pr.mv) [X.t 8], I.mk (some (9, false)) (some 10) (Ef.pr Pr.mv) [X.t 1], I.mk (some (9, false)) (some 11) (Ef.pr Pr.mv) [X.t 0], I.mk (some (9, false)) (some 12) (Ef.pr Pr.nilc) [X.t 11], I.mk (some (9, false)) (some 13) (Ef.pr (Pr.fa 0)) [X.t 12], I.mk (some (9, false)) (some 14) (Ef.pr (Pr.ld 1 false)) [X.t 13], I.mk (some (9, false)) (some 15) (Ef.pr Pr.lenS) [X.t 14], I.mk (some (9, false)) (some 16) (Ef.pr (Pr.cm BinOp.geq)) [X.t 10, X.t 15], I.mk none (some 17) (Ef.pr Pr.pick) [X.t 9, X.c (Value.bool true), X.t 16]]) 
  (IC.cond (X.t 17) 
  (IC.seq (IC.ops [I.mk none (some 6) (Ef.pr Pr.mv) [X.c (Value.int IntKind.i64 30)]]) IC.ret) IC.skip)) 
  (IC.seq 
  (IC.seq (IC.ops [I.mk none (some 18) (Ef.pr Pr.mv) [X.t 0], I.mk none (some 19) (Ef.pr Pr.nilc) [X.t 18], I.mk none (some 20) (Ef.pr (Pr.fa 0)) [X.t 19], I.mk none (some 21) (Ef.pr (Pr.ld 1 false)) [X.t 20], I.mk none (some 22) (Ef.pr Pr.mv) [X.t 1], I.mk none (some 23) (Ef.pr (Pr.iaS 4)) [X.t 21, X.t 22], I.mk none (some 24) (Ef.pr (Pr.fa 0)) [X.t 23], I.mk none (some 25) (Ef.pr (Pr.ld 1 false)) [X.t 24]]) 
  (IC.cond (X.t 25) 
  (IC.seq (IC.ops [I.mk none (some 6) (Ef.pr Pr.mv) [X.c (Value.int IntKind.i64 31)]]) IC.ret) IC.skip)) 
  (IC.seq (IC.ops [I.mk none (some 26) (Ef.pr Pr.mv) [X.t 0], I.mk none (some 27) (Ef.pr Pr.mv) [X.t 1], I.mk none (some 28) (Ef.pr (Pr.ld 3 true)) [X.t 5], I.mk none (some 29) (Ef.call 87) [X.t 26, X.t 27, X.t 28]]) 
  (IC.seq (IC.ops [I.mk none (some 6) (Ef.pr Pr.mv) [X.c (Value.int IntKind.i64 0)]]) IC.ret))))

theorem k90 : Go.Proofs.Try.f90.body.bind (comp Go.Proofs.Try.prog 30 [5] []) = some c90 := by kernel_rfl

theorem r90 : cRVs Go.Proofs.Try.prog Go.Proofs.Try.f90.results.toList = some [RV.t 6] := by kernel_rfl

theorem e90 {args : List Value} {h : Hp} {Q : Value → Hp → Prop} (hl : Nat.ble args.length 30 = true) (hk : codeK PR none c90 (retK Q [RV.t 6]) (fun _ _ _ _ => False) (retK Q [RV.t 6]) (argsE 0 args) [] h) : Ok PR 90 args h Q :=
  Ok.of mixed Go.Proofs.Try.func90 rfl k90 r90 hl hk

def c103 : IC := IC.seq (IC.ops [I.mk none (some 5) Ef.bx [X.t 2], I.mk none (some 6) (Ef.pr Pr.mv) [X.c (Value.bool false)]]) 
  (IC.seq 
  (IC.seq (IC.ops [I.mk none (some 7) (Ef.pr Pr.mv) [X.t 0], I.mk none (some 8) (Ef.pr Pr.mv) [X.t 1], I.mk none (some 9) (Ef.call 88) [X.t 7, X.t 8], I.mk none (some 10) (Ef.pr (Pr.un UnOp.not)) [X.t 9]]) 
  (IC.cond (X.t 10) 
  (IC.seq (IC.ops [I.mk none (some 6) (Ef.pr Pr.mv) [X.c (Value.bool false)]]) IC.ret) IC.skip)) 
  (IC.seq (IC.plan (Plan.q (I.mk none (some 11) (Ef.pr Pr.mv) [X.t 0]) (Plan.q (I.mk none (some 12) (Ef.pr Pr.nilc) [X.t 11]) (Plan.q (I.mk none (some 13) (Ef.pr (Pr.fa 0)) [X.t 12]) (Plan.q (I.mk none (some 14) (Ef.pr (Pr.ld 1 false)) [X.t 13]) (Plan.q (I.mk none (some 15) (Ef.pr Pr.mv) [X.t 1]) (Plan.q (I.mk none (some 16) (Ef.pr (Pr.ld 3 true)) [X.t 5]) (Plan.q (I.mk none (some 17) (Ef.pr (Pr.iaS 4)) [X.t 14, X.t 15]) (Plan.q (I.mk none (some 18) (Ef.pr (Pr.fa 1)) [X.t 17]) (Plan.br (PlanL.cons false false (I.mk none none (Ef.st 3) [X.t 18, X.t 16]) Plan.done PlanL.nil))))))))))) 
  (IC.seq (IC.ops [I.mk none (some 6) (Ef.pr Pr.mv) [X.c (Value.bool true)]]) IC.ret)))

theorem k103 : Go.Proofs.Try.f103.body.bind (comp Go.Proofs.Try.prog 19 [5] []) = some c103 := by kernel_rfl

theorem r103 : cRVs Go.Proofs.Try.prog Go.Proofs.Try.f103.results.toList = some [RV.t 6] := by kernel_rfl

theorem e103 {args : List Value} {h : Hp} {Q : Value → Hp → Prop} (hl : Nat.ble args.length 19 = true) (hk : codeK PR none c103 (retK Q [RV.t 6]) (fun _ _ _ _ => False) (retK Q [RV.t 6]) (argsE 0 args) [] h) : Ok PR 103 args h Q :=
  Ok.of mixed Go.Proofs.Try.func103 rfl k103 r103 hl hk

end Go.Proofs.Ytkmknolkblcbeaa.V
