/- The functions 38, 39, 40, 41, resolved. -/
import Derived.Test.YtpkleblggehghaaVP
namespace Go.Proofs.Ytpkleblggehghaa.V
set_option linter.unusedVariables false
set_option linter.unusedSimpArgs false
set_option linter.unusedSectionVars false
open Go
set_option maxRecDepth 100000

def c38 : IC := IC.seq (IC.ops [I.mk none (some 0) (Ef.pr Pr.mv) [X.c (Value.pointer none)]]) 
  (IC.seq (IC.ops [I.mk none (some 1) (Ef.pr (Pr.bld [Value.slice none 0 0, Value.slice none 0 0, Value.int IntKind.i64 0, Value.bool false, Value.int IntKind.i64 0] [(2, 1)])) [X.c (Value.int IntKind.i64 (-1))], I.mk none (some 2) (Ef.bxh 92) [X.t 1], I.mk none (some 0) (Ef.pr Pr.mv) [X.t 2]]) IC.ret)

theorem k38 : Go.Proofs.Try.f38.body.bind (comp Go.Proofs.Try.prog 3 [] []) = some c38 := by kernel_rfl

theorem r38 : cRVs Go.Proofs.Try.prog Go.Proofs.Try.f38.results.toList = some [RV.t 0] := by kernel_rfl

theorem e38 {args : List Value} {h : Hp} {Q : Value → Hp → Prop} (hl : Nat.ble args.length 3 = true) (hk : codeK PR none c38 (retK Q [RV.t 0]) (fun _ _ _ _ => False) (retK Q [RV.t 0]) (argsE 0 args) [] h) : Ok PR 38 args h Q :=
  Ok.of mixed Go.Proofs.Try.func38 rfl k38 r38 hl hk

def c39 : IC := IC.seq (IC.ops [I.mk none (some 2) (Ef.pr Pr.mv) [X.c (Value.pointer none)], I.mk none (some 3) (Ef.pr Pr.mv) [X.c (Value.int IntKind.i64 0)]]) 
  (IC.seq 
  (IC.seq (IC.ops [I.mk none (some 7) (Ef.pr Pr.mv) [X.t 0], I.mk none (some 8) (Ef.pr Pr.lenS) [X.t 7], I.mk none (some 9) (Ef.pr (Pr.cm BinOp.neq)) [X.t 8, X.c (Value.int IntKind.i64 131072)]]) 
  (IC.cond (X.t 9) 
  (IC.seq (IC.ops [I.mk none (some 2) (Ef.pr Pr.mv) [X.c (Value.pointer none)], I.mk none (some 3) (Ef.pr Pr.mv) [X.c (Value.int IntKind.i64 41)]]) IC.ret) IC.skip)) 
  (IC.seq (IC.ops [I.mk none (some 10) (Ef.call 38) [], I.mk none (some 4) (Ef.pr Pr.mv) [X.t 10]]) 
  (IC.seq 
  (IC.seq (IC.ops [I.mk none (some 5) (Ef.pr Pr.mv) [X.c (Value.int IntKind.i64 0)]]) 
  (IC.block 0 
  (IC.loop 
  (IC.seq 
  (IC.seq (IC.ops [I.mk none (some 11) (Ef.pr Pr.mv) [X.t 5], I.mk none (some 12) (Ef.pr (Pr.cm BinOp.lss)) [X.t 11, X.c (Value.int IntKind.i64 1024)]]) 
  (IC.cond (X.t 12) IC.skip (IC.exit 0))) 
  (IC.seq 
  (IC.block 1 
  (IC.seq (IC.ops [I.mk none (some 15) (Ef.pr Pr.mv) [X.t 0], I.mk none (some 16) (Ef.pr Pr.mv) [X.t 5], I.mk none (some 17) (Ef.pr (Pr.ar BinOp.mul)) [X.t 16, X.c (Value.int IntKind.i64 128)], I.mk none (some 18) (Ef.pr Pr.mv) [X.t 5], I.mk none (some 19) (Ef.pr (Pr.ar BinOp.add)) [X.t 18, X.c (Value.int IntKind.i64 1)], I.mk none (some 20) (Ef.pr (Pr.ar BinOp.mul)) [X.t 19, X.c (Value.int IntKind.i64 128)], I.mk none (some 21) (Ef.pr (Pr.slS 1 true true false)) [X.t 15, X.t 17, X.t 20], I.mk none (some 22) (Ef.call 51) [X.t 21], I.mk none (some 6) (Ef.pr Pr.mv) [X.t 22]]) 
  (IC.seq (IC.plan (Plan.q (I.mk none (some 23) (Ef.pr Pr.mv) [X.t 6]) (Plan.q (I.mk none (some 24) (Ef.pr Pr.b2s) [X.t 23]) (Plan.br (PlanL.cons true false (I.mk none (some 25) (Ef.mks [Value.int IntKind.u8 0] 5 1) [X.c (Value.int IntKind.i64 128), X.c (Value.int IntKind.i64 128)]) (Plan.q (I.mk none (some 26) (Ef.pr Pr.b2s) [X.t 25]) (Plan.q (I.mk none (some 27) (Ef.pr (Pr.sop BinOp.neq)) [X.t 24, X.t 26]) Plan.done)) PlanL.nil))))) 
  (IC.cond (X.t 27) (IC.ops [I.mk none (some 28) (Ef.pr Pr.mv) [X.t 4], I.mk none (some 29) (Ef.pr Pr.mv) [X.t 4], I.mk none (some 30) (Ef.pr Pr.nilc) [X.t 29], I.mk none (some 31) (Ef.pr (Pr.fa 0)) [X.t 30], I.mk none (some 32) (Ef.pr (Pr.ld 1 false)) [X.t 31], I.mk none (some 33) (Ef.pr Pr.mv) [X.t 5], I.mk none (some 34) (Ef.pr Pr.mv) [X.t 6], I.mk none (some 35) (Ef.pr (Pr.bld [Value.int IntKind.i64 0, Value.int IntKind.i64 0, Value.slice none 0 0] [(0, 1), (2, 1)])) [X.t 33, X.t 34], I.mk none (some 36) (Ef.bsl [Value.int IntKind.i64 0, Value.int IntKind.i64 0, Value.slice none 0 0] 94 1 3 [0]) [X.t 35], I.mk none (some 37) (Ef.app [Value.int IntKind.i64 0, Value.int IntKind.i64 0, Value.slice none 0 0] 94 40) [X.t 32, X.t 36], I.mk none (some 38) (Ef.pr Pr.nilc) [X.t 28], I.mk none (some 39) (Ef.pr (Pr.fa 0)) [X.t 38], I.mk none none (Ef.st 1) [X.t 39, X.t 37]]) IC.skip)))) (IC.ops [I.mk none (some 13) (Ef.pr Pr.mv) [X.t 5], I.mk none (some 14) (Ef.pr (Pr.ar BinOp.add)) [X.t 13, X.c (Value.int IntKind.i64 1)], I.mk none (some 5) (Ef.pr Pr.mv) [X.t 14]])))))) 
  (IC.seq (IC.ops [I.mk none (some 40) (Ef.pr Pr.mv) [X.t 4], I.mk none (some 2) (Ef.pr Pr.mv) [X.t 40], I.mk none (some 3) (Ef.pr Pr.mv) [X.c (Value.int IntKind.i64 0)]]) IC.ret))))

theorem k39 : Go.Proofs.Try.f39.body.bind (comp Go.Proofs.Try.prog 41 [] []) = some c39 := by kernel_rfl

theorem r39 : cRVs Go.Proofs.Try.prog Go.Proofs.Try.f39.results.toList = some [RV.t 2, RV.t 3] := by kernel_rfl

theorem e39 {args : List Value} {h : Hp} {Q : Value → Hp → Prop} (hl : Nat.ble args.length 41 = true) (hk : codeK PR none c39 (retK Q [RV.t 2, RV.t 3]) (fun _ _ _ _ => False) (retK Q [RV.t 2, RV.t 3]) (argsE 0 args) [] h) : Ok PR 39 args h Q :=
  Ok.of mixed Go.Proofs.Try.func39 rfl k39 r39 hl hk

def c40 : IC := IC.seq (IC.ops [I.mk none (some 2) (Ef.pr Pr.mv) [X.c (Value.slice none 0 0)]]) 
  (IC.seq (IC.ops [I.mk none (some 7) (Ef.mks [Value.int IntKind.u8 0] 5 1) [X.c (Value.int IntKind.i64 131072), X.c (Value.int IntKind.i64 131072)], I.mk none (some 3) (Ef.pr Pr.mv) [X.t 7]]) 
  (IC.seq 
  (IC.seq (IC.ops [I.mk none (some 4) (Ef.pr Pr.mv) [X.c (Value.int IntKind.i64 0)]]) 
  (IC.block 0 
  (IC.loop 
  (IC.seq 
  (IC.seq (IC.ops [I.mk none (some 8) (Ef.pr Pr.mv) [X.t 4], I.mk none (some 9) (Ef.pr Pr.mv) [X.t 0], I.mk none (some 10) (Ef.pr Pr.nilc) [X.t 9], I.mk none (some 11) (Ef.pr (Pr.fa 0)) [X.t 10], I.mk none (some 12) (Ef.pr (Pr.ld 1 false)) [X.t 11], I.mk none (some 13) (Ef.pr Pr.lenS) [X.t 12], I.mk none (some 14) (Ef.pr (Pr.cm BinOp.lss)) [X.t 8, X.t 13]]) 
  (IC.cond (X.t 14) IC.skip (IC.exit 0))) 
  (IC.seq 
  (IC.block 1 
  (IC.seq (IC.ops [I.mk none (some 17) (Ef.pr Pr.mv) [X.t 0], I.mk none (some 18) (Ef.pr Pr.nilc) [X.t 17], I.mk none (some 19) (Ef.pr (Pr.fa 0)) [X.t 18], I.mk none (some 20) (Ef.pr (Pr.ld 1 false)) [X.t 19], I.mk none (some 21) (Ef.pr Pr.mv) [X.t 4], I.mk none (some 22) (Ef.pr (Pr.iaS 3)) [X.t 20, X.t 21], I.mk none (some 23) (Ef.pr (Pr.ld 3 true)) [X.t 22], I.mk none (some 5) (Ef.al [Value.int IntKind.i64 0, Value.int IntKind.i64 0, Value.slice none 0 0]) [], I.mk none none (Ef.st 3) [X.t 5, X.t 23]]) 
  (IC.seq (IC.ops [I.mk none (some 6) (Ef.pr Pr.mv) [X.c (Value.int IntKind.i64 0)]]) 
  (IC.block 2 
  (IC.loop 
  (IC.seq 
  (IC.seq (IC.ops [I.mk none (some 24) (Ef.pr Pr.mv) [X.t 6], I.mk none (some 25) (Ef.pr (Pr.fa 2)) [X.t 5], I.mk none (some 26) (Ef.pr (Pr.ld 1 false)) [X.t 25], I.mk none (some 27) (Ef.pr Pr.lenS) [X.t 26], I.mk none (some 28) (Ef.pr (Pr.cm BinOp.lss)) [X.t 24, X.t 27]]) 
  (IC.cond (X.t 28) IC.skip (IC.exit 2))) 
  (IC.seq 
  (IC.block 3 (IC.plan (Plan.q (I.mk none (some 31) (Ef.pr Pr.mv) [X.t 3]) (Plan.q (I.mk none (some 32) (Ef.pr (Pr.fa 0)) [X.t 5]) (Plan.q (I.mk none (some 33) (Ef.pr (Pr.ld 1 false)) [X.t 32]) (Plan.q (I.mk none (some 34) (Ef.pr (Pr.ar BinOp.mul)) [X.t 33, X.c (Value.int IntKind.i64 128)]) (Plan.q (I.mk none (some 35) (Ef.pr (Pr.fa 1)) [X.t 5]) (Plan.q (I.mk none (some 36) (Ef.pr (Pr.ld 1 false)) [X.t 35]) (Plan.q (I.mk none (some 37) (Ef.pr (Pr.ar BinOp.add)) [X.t 34, X.t 36]) (Plan.q (I.mk none (some 38) (Ef.pr Pr.mv) [X.t 6]) (Plan.q (I.mk none (some 39) (Ef.pr (Pr.ar BinOp.add)) [X.t 37, X.t 38]) (Plan.q (I.mk none (some 40) (Ef.pr (Pr.fa 2)) [X.t 5]) (Plan.q (I.mk none (some 41) (Ef.pr (Pr.ld 1 false)) [X.t 40]) (Plan.q (I.mk none (some 42) (Ef.pr Pr.mv) [X.t 6]) (Plan.q (I.mk none (some 43) (Ef.pr (Pr.iaS 1)) [X.t 41, X.t 42]) (Plan.q (I.mk none (some 44) (Ef.pr (Pr.ld 1 false)) [X.t 43]) (Plan.q (I.mk none (some 45) (Ef.pr (Pr.iaS 1)) [X.t 31, X.t 39]) (Plan.br (PlanL.cons false false (I.mk none none (Ef.st 1) [X.t 45, X.t 44]) Plan.done PlanL.nil))))))))))))))))))) (IC.ops [I.mk none (some 29) (Ef.pr Pr.mv) [X.t 6], I.mk none (some 30) (Ef.pr (Pr.ar BinOp.add)) [X.t 29, X.c (Value.int IntKind.i64 1)], I.mk none (some 6) (Ef.pr Pr.mv) [X.t 30]])))))))) (IC.ops [I.mk none (some 15) (Ef.pr Pr.mv) [X.t 4], I.mk none (some 16) (Ef.pr (Pr.ar BinOp.add)) [X.t 15, X.c (Value.int IntKind.i64 1)], I.mk none (some 4) (Ef.pr Pr.mv) [X.t 16]])))))) 
  (IC.seq (IC.ops [I.mk none (some 46) (Ef.pr Pr.mv) [X.t 3], I.mk none (some 2) (Ef.pr Pr.mv) [X.t 46]]) IC.ret)))

theorem k40 : Go.Proofs.Try.f40.body.bind (comp Go.Proofs.Try.prog 47 [5] []) = some c40 := by kernel_rfl

theorem r40 : cRVs Go.Proofs.Try.prog Go.Proofs.Try.f40.results.toList = some [RV.t 2] := by kernel_rfl

theorem e40 {args : List Value} {h : Hp} {Q : Value → Hp → Prop} (hl : Nat.ble args.length 47 = true) (hk : codeK PR none c40 (retK Q [RV.t 2]) (fun _ _ _ _ => False) (retK Q [RV.t 2]) (argsE 0 args) [] h) : Ok PR 40 args h Q :=
  Ok.of mixed Go.Proofs.Try.func40 rfl k40 r40 hl hk

def c41 : IC := IC.seq (IC.ops [I.mk none (some 5) Ef.bx [X.t 2], I.mk none (some 6) (Ef.pr Pr.mv) [X.c (Value.bool false)]]) 
  (IC.seq 
  (IC.seq (IC.ops [I.mk none (some 23) (Ef.pr (Pr.fa 0)) [X.t 5], I.mk none (some 24) (Ef.pr (Pr.ld 1 false)) [X.t 23]]) 
  (IC.block 0 
  (IC.seq (IC.ops [I.mk none (some 26) (Ef.pr (Pr.cm BinOp.eql)) [X.t 24, X.c (Value.int IntKind.i64 2)], I.mk none (some 25) (Ef.pr Pr.mv) [X.t 26]]) 
  (IC.cond (X.t 25) 
  (IC.seq (IC.ops [I.mk none (some 27) (Ef.pr (Pr.ld 7 true)) [X.t 5], I.mk none (some 28) (Ef.call 52) [X.t 27], I.mk none (some 7) (Ef.pr Pr.mv) [X.t 28]]) 
  (IC.seq (IC.ops [I.mk none (some 29) (Ef.pr Pr.mv) [X.t 0], I.mk none (some 30) (Ef.pr (Pr.fa 2)) [X.t 5], I.mk none (some 31) (Ef.pr (Pr.ld 1 false)) [X.t 30], I.mk none (some 32) (Ef.pr Pr.mv) [X.t 7], I.mk none (some 33) (Ef.call 15) [X.t 29, X.t 31, X.t 32], I.mk none (some 8) (Ef.pr Pr.mv) [X.t 33]]) 
  (IC.seq 
  (IC.seq (IC.ops [I.mk none (some 34) (Ef.pr Pr.mv) [X.t 7], I.mk none (some 35) (Ef.pr (Pr.ld 7 true)) [X.t 5], I.mk none (some 36) (Ef.call 52) [X.t 35], I.mk none (some 37) (Ef.call 26) [X.t 34, X.t 36], I.mk none (some 38) (Ef.pr (Pr.un UnOp.not)) [X.t 37]]) 
  (IC.cond (X.t 38) 
  (IC.seq (IC.ops [I.mk none (some 6) (Ef.pr Pr.mv) [X.c (Value.bool false)]]) IC.ret) IC.skip)) 
  (IC.seq 
  (IC.seq (IC.ops [I.mk none (some 9) (Ef.pr Pr.mv) [X.c (Value.int IntKind.i64 0)]]) 
  (IC.block 1 
  (IC.loop 
  (IC.seq 
  (IC.seq (IC.ops [I.mk none (some 39) (Ef.pr Pr.mv) [X.t 9], I.mk none (some 40) (Ef.pr Pr.mv) [X.t 7], I.mk none (some 41) (Ef.pr Pr.lenS) [X.t 40], I.mk none (some 42) (Ef.pr (Pr.cm BinOp.lss)) [X.t 39, X.t 41]]) 
  (IC.cond (X.t 42) IC.skip (IC.exit 1))) 
  (IC.seq 
  (IC.block 2 (IC.ops [I.mk none (some 45) (Ef.pr Pr.mv) [X.t 7], I.mk none (some 46) (Ef.pr Pr.mv) [X.t 9], I.mk none (some 47) (Ef.pr Pr.mv) [X.t 7], I.mk none (some 48) (Ef.pr Pr.mv) [X.t 9], I.mk none (some 49) (Ef.pr (Pr.iaS 1)) [X.t 47, X.t 48], I.mk none (some 50) (Ef.pr (Pr.ld 1 false)) [X.t 49], I.mk none (some 51) (Ef.pr (Pr.un UnOp.xor)) [X.t 50], I.mk none (some 52) (Ef.pr (Pr.iaS 1)) [X.t 45, X.t 46], I.mk none none (Ef.st 1) [X.t 52, X.t 51]])) (IC.ops [I.mk none (some 43) (Ef.pr Pr.mv) [X.t 9], I.mk none (some 44) (Ef.pr (Pr.ar BinOp.add)) [X.t 43, X.c (Value.int IntKind.i64 1)], I.mk none (some 9) (Ef.pr Pr.mv) [X.t 44]])))))) 
  (IC.seq (IC.plan (Plan.q (I.mk none (some 53) (Ef.pr Pr.mv) [X.t 1]) (Plan.q (I.mk none (some 54) (Ef.pr (Pr.fa 2)) [X.t 5]) (Plan.q (I.mk none (some 55) (Ef.pr (Pr.ld 1 false)) [X.t 54]) (Plan.q (I.mk none (some 56) (Ef.pr (Pr.ld 7 true)) [X.t 5]) (Plan.br (PlanL.cons true false (I.mk none (some 57) (Ef.call 52) [X.t 56]) (Plan.br (PlanL.cons false false (I.mk none (some 58) (Ef.call 53) [X.t 53, X.t 55, X.t 57]) (Plan.q (I.mk none (some 10) (Ef.pr Pr.mv) [X.t 58]) Plan.done) PlanL.nil)) PlanL.nil))))))) 
  (IC.seq (IC.ops [I.mk none (some 59) (Ef.pr Pr.mv) [X.t 8], I.mk none (some 60) (Ef.pr Pr.mv) [X.t 10], I.mk none (some 61) (Ef.pr (Pr.cm BinOp.eql)) [X.t 59, X.t 60], I.mk none (some 6) (Ef.pr Pr.mv) [X.t 61]]) IC.ret)))))) 
  (IC.seq (IC.ops [I.mk none (some 63) (Ef.pr (Pr.cm BinOp.eql)) [X.t 24, X.c (Value.int IntKind.i64 3)], I.mk none (some 62) (Ef.pr Pr.mv) [X.t 63]]) 
  (IC.cond (X.t 62) 
  (IC.seq (IC.ops [I.mk none (some 64) (Ef.pr Pr.mv) [X.t 0], I.mk none (some 65) (Ef.call 14) [X.t 64], I.mk none (some 11) (Ef.pr Pr.mv) [X.t 65]]) 
  (IC.seq (IC.ops [I.mk none (some 66) (Ef.pr Pr.mv) [X.t 1], I.mk none (some 67) (Ef.call 54) [X.t 66], I.mk none (some 12) (Ef.pr Pr.mv) [X.t 67]]) 
  (IC.seq (IC.ops [I.mk none (some 68) (Ef.pr Pr.mv) [X.t 11], I.mk none (some 69) (Ef.pr Pr.mv) [X.t 12], I.mk none (some 70) (Ef.pr (Pr.cm BinOp.eql)) [X.t 68, X.t 69], I.mk none (some 6) (Ef.pr Pr.mv) [X.t 70]]) IC.ret))) 
  (IC.seq (IC.ops [I.mk none (some 72) (Ef.pr (Pr.cm BinOp.eql)) [X.t 24, X.c (Value.int IntKind.i64 5)], I.mk none (some 71) (Ef.pr Pr.mv) [X.t 72]]) 
  (IC.cond (X.t 71) 
  (IC.seq (IC.ops [I.mk none (some 73) (Ef.pr Pr.mv) [X.t 0], I.mk none (some 74) (Ef.pr (Pr.fa 3)) [X.t 5], I.mk none (some 75) (Ef.pr (Pr.ld 1 false)) [X.t 74], I.mk none (some 76) (Ef.call 12) [X.t 73, X.t 75], I.mk none (some 13) (Ef.pr Pr.mv) [X.t 76]]) 
  (IC.seq (IC.ops [I.mk none (some 77) (Ef.pr Pr.mv) [X.t 1], I.mk none (some 78) (Ef.pr (Pr.fa 3)) [X.t 5], I.mk none (some 79) (Ef.pr (Pr.ld 1 false)) [X.t 78], I.mk none (some 80) (Ef.call 55) [X.t 77, X.t 79], I.mk none (some 14) (Ef.pr Pr.mv) [X.t 80]]) 
  (IC.seq (IC.ops [I.mk none (some 81) (Ef.pr Pr.mv) [X.t 13], I.mk none (some 82) (Ef.pr Pr.mv) [X.t 14], I.mk none (some 83) (Ef.pr (Pr.cm BinOp.eql)) [X.t 81, X.t 82], I.mk none (some 6) (Ef.pr Pr.mv) [X.t 83]]) IC.ret))) 
  (IC.seq (IC.ops [I.mk none (some 85) (Ef.pr (Pr.cm BinOp.eql)) [X.t 24, X.c (Value.int IntKind.i64 7)], I.mk none (some 84) (Ef.pr Pr.mv) [X.t 85]]) 
  (IC.cond (X.t 84) 
  (IC.seq (IC.ops [I.mk none (some 86) (Ef.pr (Pr.fa 6)) [X.t 5], I.mk none (some 87) (Ef.pr (Pr.ld 1 false)) [X.t 86], I.mk none (some 88) (Ef.call 24) [X.t 87], I.mk none (some 15) (Ef.pr Pr.mv) [X.t 88]]) 
  (IC.seq (IC.ops [I.mk none (some 89) (Ef.pr Pr.mv) [X.t 15], I.mk none (some 90) (Ef.bsl [Value.bool false] 4 2 1 [0, 1]) [X.c (Value.bool true), X.c (Value.bool false)], I.mk none (some 91) (Ef.app [Value.bool false] 4 1) [X.t 89, X.t 90], I.mk none (some 15) (Ef.pr Pr.mv) [X.t 91]]) 
  (IC.seq (IC.ops [I.mk none (some 92) (Ef.pr Pr.mv) [X.t 0], I.mk none (some 93) (Ef.pr Pr.mv) [X.t 15], I.mk none (some 94) (Ef.pr (Pr.fa 6)) [X.t 5], I.mk none (some 95) (Ef.pr (Pr.ld 1 false)) [X.t 94], I.mk none (some 96) (Ef.pr Pr.lenS) [X.t 95], I.mk none (some 97) (Ef.pr (Pr.slS 1 false true false)) [X.t 93, X.t 96], I.mk none (some 98) (Ef.call 20) [X.t 92, X.t 97], I.mk none (some 16) (Ef.pr Pr.mv) [X.t 98]]) 
  (IC.seq 
  (IC.seq (IC.ops [I.mk none (some 17) (Ef.pr Pr.mv) [X.c (Value.int IntKind.i64 0)]]) 
  (IC.block 3 
  (IC.loop 
  (IC.seq 
  (IC.seq (IC.ops [I.mk none (some 99) (Ef.pr Pr.mv) [X.t 17], I.mk none (some 100) (Ef.pr (Pr.fa 6)) [X.t 5], I.mk none (some 101) (Ef.pr (Pr.ld 1 false)) [X.t 100], I.mk none (some 102) (Ef.pr Pr.lenS) [X.t 101], I.mk none (some 103) (Ef.pr (Pr.cm BinOp.lss)) [X.t 99, X.t 102]]) 
  (IC.cond (X.t 103) IC.skip (IC.exit 3))) 
  (IC.seq 
  (IC.block 4 
  (IC.seq 
  (IC.seq (IC.plan (Plan.q (I.mk none (some 106) (Ef.pr Pr.mv) [X.t 15]) (Plan.q (I.mk none (some 107) (Ef.pr Pr.mv) [X.t 17]) (Plan.q (I.mk none (some 108) (Ef.pr (Pr.iaS 1)) [X.t 106, X.t 107]) (Plan.q (I.mk none (some 109) (Ef.pr (Pr.ld 1 false)) [X.t 108]) (Plan.q (I.mk none (some 110) (Ef.pr (Pr.fa 6)) [X.t 5]) (Plan.q (I.mk none (some 111) (Ef.pr (Pr.ld 1 false)) [X.t 110]) (Plan.q (I.mk none (some 112) (Ef.pr Pr.mv) [X.t 17]) (Plan.q (I.mk none (some 113) (Ef.pr (Pr.iaS 1)) [X.t 111, X.t 112]) (Plan.q (I.mk none (some 114) (Ef.pr (Pr.ld 1 false)) [X.t 113]) (Plan.q (I.mk none (some 115) (Ef.pr (Pr.eq true (EqT.one EqS.b))) [X.t 109, X.t 114]) Plan.done))))))))))) 
  (IC.cond (X.t 115) 
  (IC.seq (IC.ops [I.mk none (some 6) (Ef.pr Pr.mv) [X.c (Value.bool false)]]) IC.ret) IC.skip)) (IC.ops [I.mk none (some 116) (Ef.pr Pr.mv) [X.t 15], I.mk none (some 117) (Ef.pr Pr.mv) [X.t 17], I.mk none (some 118) (Ef.pr Pr.mv) [X.t 15], I.mk none (some 119) (Ef.pr Pr.mv) [X.t 17], I.mk none (some 120) (Ef.pr (Pr.iaS 1)) [X.t 118, X.t 119], I.mk none (some 121) (Ef.pr (Pr.ld 1 false)) [X.t 120], I.mk none (some 122) (Ef.pr (Pr.un UnOp.not)) [X.t 121], I.mk none (some 123) (Ef.pr (Pr.iaS 1)) [X.t 116, X.t 117], I.mk none none (Ef.st 1) [X.t 123, X.t 122]]))) (IC.ops [I.mk none (some 104) (Ef.pr Pr.mv) [X.t 17], I.mk none (some 105) (Ef.pr (Pr.ar BinOp.add)) [X.t 104, X.c (Value.int IntKind.i64 1)], I.mk none (some 17) (Ef.pr Pr.mv) [X.t 105]])))))) 
  (IC.seq 
  (IC.seq (IC.ops [I.mk none (some 124) (Ef.pr Pr.mv) [X.t 15], I.mk none (some 125) (Ef.pr (Pr.fa 6)) [X.t 5], I.mk none (some 126) (Ef.pr (Pr.ld 1 false)) [X.t 125], I.mk none (some 127) (Ef.pr Pr.lenS) [X.t 126], I.mk none (some 128) (Ef.pr (Pr.iaS 1)) [X.t 124, X.t 127], I.mk none (some 129) (Ef.pr (Pr.ld 1 false)) [X.t 128], I.mk none (some 130) (Ef.pr (Pr.un UnOp.not)) [X.t 129], I.mk none (some 131) (Ef.pr Pr.mv) [X.t 130], I.mk (some (131, false)) (some 132) (Ef.pr Pr.mv) [X.t 15], I.mk (some (131, false)) (some 133) (Ef.pr (Pr.fa 6)) [X.t 5], I.mk (some (131, false)) (some 134) (Ef.pr (Pr.ld 1 false)) [X.t 133], I.mk (some (131, false)) (some 135) (Ef.pr Pr.lenS) [X.t 134], I.mk (some (131, false)) (some 136) (Ef.pr (Pr.ar BinOp.add)) [X.t 135, X.c (Value.int IntKind.i64 1)], I.mk (some (131, false)) (some 137) (Ef.pr (Pr.iaS 1)) [X.t 132, X.t 136], I.mk (some (131, false)) (some 138) (Ef.pr (Pr.ld 1 false)) [X.t 137], I.mk none (some 139) (Ef.pr Pr.pick) [X.t 131, X.c (Value.bool true), X.t 138]]) 
  (IC.cond (X.t 139) 
  (IC.seq (IC.ops [I.mk none (some 6) (Ef.pr Pr.mv) [X.c (Value.bool false)]]) IC.ret) IC.skip)) 
  (IC.seq (IC.ops [I.mk none (some 140) (Ef.pr Pr.mv) [X.t 1], I.mk none (some 141) (Ef.pr (Pr.fa 6)) [X.t 5], I.mk none (some 142) (Ef.pr (Pr.ld 1 false)) [X.t 141], I.mk none (some 143) (Ef.call 56) [X.t 140, X.t 142], I.mk none (some 18) (Ef.pr Pr.mv) [X.t 143]]) 
  (IC.seq (IC.ops [I.mk none (some 144) (Ef.pr Pr.mv) [X.t 16], I.mk none (some 145) (Ef.pr Pr.mv) [X.t 18], I.mk none (some 146) (Ef.pr (Pr.cm BinOp.eql)) [X.t 144, X.t 145], I.mk none (some 6) (Ef.pr Pr.mv) [X.t 146]]) IC.ret))))))) 
  (IC.seq (IC.ops [I.mk none (some 148) (Ef.pr (Pr.cm BinOp.eql)) [X.t 24, X.c (Value.int IntKind.i64 8)], I.mk none (some 147) (Ef.pr Pr.mv) [X.t 148]]) 
  (IC.cond (X.t 147) 
  (IC.seq (IC.ops [I.mk none (some 149) (Ef.pr (Pr.fa 4)) [X.t 5], I.mk none (some 150) (Ef.pr (Pr.ld 1 false)) [X.t 149], I.mk none (some 151) (Ef.call 27) [X.t 150], I.mk none (some 19) (Ef.pr Pr.mv) [X.t 151]]) 
  (IC.seq (IC.ops [I.mk none (some 152) (Ef.pr Pr.mv) [X.t 19], I.mk none (some 153) (Ef.bsl [Value.int IntKind.u8 0] 5 3 1 [0, 1, 2]) [X.c (Value.int IntKind.u8 165), X.c (Value.int IntKind.u8 166), X.c (Value.int IntKind.u8 167)], I.mk none (some 154) (Ef.app [Value.int IntKind.u8 0] 5 1) [X.t 152, X.t 153], I.mk none (some 19) (Ef.pr Pr.mv) [X.t 154]]) 
  (IC.seq (IC.plan (Plan.q (I.mk none (some 155) (Ef.pr Pr.mv) [X.t 0]) (Plan.q (I.mk none (some 156) (Ef.pr (Pr.fa 2)) [X.t 5]) (Plan.q (I.mk none (some 157) (Ef.pr (Pr.ld 1 false)) [X.t 156]) (Plan.q (I.mk none (some 158) (Ef.pr (Pr.fa 3)) [X.t 5]) (Plan.q (I.mk none (some 159) (Ef.pr (Pr.ld 1 false)) [X.t 158]) (Plan.q (I.mk none (some 160) (Ef.pr Pr.mv) [X.t 19]) (Plan.q (I.mk none (some 161) (Ef.pr (Pr.fa 4)) [X.t 5]) (Plan.q (I.mk none (some 162) (Ef.pr (Pr.ld 1 false)) [X.t 161]) (Plan.q (I.mk none (some 163) (Ef.pr Pr.lenS) [X.t 162]) (Plan.q (I.mk none (some 164) (Ef.pr (Pr.slS 1 false true false)) [X.t 160, X.t 163]) (Plan.br (PlanL.cons false false (I.mk none (some 165) (Ef.call 28) [X.t 155, X.t 157, X.t 159, X.t 164]) (Plan.q (I.mk none (some 20) (Ef.pr Pr.mv) [X.t 165]) Plan.done) PlanL.nil))))))))))))) 
  (IC.seq 
  (IC.seq (IC.plan (Plan.q (I.mk none (some 166) (Ef.pr Pr.mv) [X.t 19]) (Plan.q (I.mk none (some 167) (Ef.pr (Pr.fa 4)) [X.t 5]) (Plan.q (I.mk none (some 168) (Ef.pr (Pr.ld 1 false)) [X.t 167]) (Plan.q (I.mk none (some 169) (Ef.pr Pr.lenS) [X.t 168]) (Plan.q (I.mk none (some 170) (Ef.pr (Pr.slS 1 false true false)) [X.t 166, X.t 169]) (Plan.q (I.mk none (some 171) (Ef.pr (Pr.fa 4)) [X.t 5]) (Plan.q (I.mk none (some 172) (Ef.pr (Pr.ld 1 false)) [X.t 171]) (Plan.br (PlanL.cons false true (I.mk none (some 173) (Ef.call 26) [X.t 170, X.t 172]) (Plan.q (I.mk none (some 174) (Ef.pr (Pr.un UnOp.not)) [X.t 173]) (Plan.q (I.mk none (some 175) (Ef.pr Pr.mv) [X.t 174]) (Plan.q (I.mk (some (175, false)) (some 176) (Ef.pr Pr.mv) [X.t 19]) (Plan.q (I.mk (some (175, false)) (some 177) (Ef.pr (Pr.fa 4)) [X.t 5]) (Plan.q (I.mk (some (175, false)) (some 178) (Ef.pr (Pr.ld 1 false)) [X.t 177]) (Plan.q (I.mk (some (175, false)) (some 179) (Ef.pr Pr.lenS) [X.t 178]) (Plan.q (I.mk (some (175, false)) (some 180) (Ef.pr (Pr.slS 1 true false false)) [X.t 176, X.t 179]) (Plan.br (PlanL.cons true false (I.mk (some (175, false)) (some 181) (Ef.bsl [Value.int IntKind.u8 0] 5 3 1 [0, 1, 2]) [X.c (Value.int IntKind.u8 165), X.c (Value.int IntKind.u8 166), X.c (Value.int IntKind.u8 167)]) (Plan.br (PlanL.cons false false (I.mk (some (175, false)) (some 182) (Ef.call 26) [X.t 180, X.t 181]) (Plan.q (I.mk (some (175, false)) (some 183) (Ef.pr (Pr.un UnOp.not)) [X.t 182]) (Plan.q (I.mk none (some 184) (Ef.pr Pr.pick) [X.t 175, X.c (Value.bool true), X.t 183]) Plan.done)) PlanL.nil)) PlanL.nil))))))))) PlanL.nil)))))))))) 
  (IC.cond (X.t 184) 
  (IC.seq (IC.ops [I.mk none (some 6) (Ef.pr Pr.mv) [X.c (Value.bool false)]]) IC.ret) IC.skip)) 
  (IC.seq 
  (IC.seq (IC.ops [I.mk none (some 21) (Ef.pr Pr.mv) [X.c (Value.int IntKind.i64 0)]]) 
  (IC.block 5 
  (IC.loop 
  (IC.seq 
  (IC.seq (IC.ops [I.mk none (some 185) (Ef.pr Pr.mv) [X.t 21], I.mk none (some 186) (Ef.pr Pr.mv) [X.t 19], I.mk none (some 187) (Ef.pr Pr.lenS) [X.t 186], I.mk none (some 188) (Ef.pr (Pr.cm BinOp.lss)) [X.t 185, X.t 187]]) 
  (IC.cond (X.t 188) IC.skip (IC.exit 5))) 
  (IC.seq 
  (IC.block 6 (IC.ops [I.mk none (some 191) (Ef.pr Pr.mv) [X.t 19], I.mk none (some 192) (Ef.pr Pr.mv) [X.t 21], I.mk none (some 193) (Ef.pr Pr.mv) [X.t 19], I.mk none (some 194) (Ef.pr Pr.mv) [X.t 21], I.mk none (some 195) (Ef.pr (Pr.iaS 1)) [X.t 193, X.t 194], I.mk none (some 196) (Ef.pr (Pr.ld 1 false)) [X.t 195], I.mk none (some 197) (Ef.pr (Pr.un UnOp.xor)) [X.t 196], I.mk none (some 198) (Ef.pr (Pr.iaS 1)) [X.t 191, X.t 192], I.mk none none (Ef.st 1) [X.t 198, X.t 197]])) (IC.ops [I.mk none (some 189) (Ef.pr Pr.mv) [X.t 21], I.mk none (some 190) (Ef.pr (Pr.ar BinOp.add)) [X.t 189, X.c (Value.int IntKind.i64 1)], I.mk none (some 21) (Ef.pr Pr.mv) [X.t 190]])))))) 
  (IC.seq (IC.ops [I.mk none (some 199) (Ef.pr Pr.mv) [X.t 1], I.mk none (some 200) (Ef.pr (Pr.fa 2)) [X.t 5], I.mk none (some 201) (Ef.pr (Pr.ld 1 false)) [X.t 200], I.mk none (some 202) (Ef.pr (Pr.fa 3)) [X.t 5], I.mk none (some 203) (Ef.pr (Pr.ld 1 false)) [X.t 202], I.mk none (some 204) (Ef.pr (Pr.fa 4)) [X.t 5], I.mk none (some 205) (Ef.pr (Pr.ld 1 false)) [X.t 204], I.mk none (some 206) (Ef.call 57) [X.t 199, X.t 201, X.t 203, X.t 205], I.mk none (some 22) (Ef.pr Pr.mv) [X.t 206]]) 
  (IC.seq (IC.ops [I.mk none (some 207) (Ef.pr Pr.mv) [X.t 20], I.mk none (some 208) (Ef.pr Pr.mv) [X.t 22], I.mk none (some 209) (Ef.pr (Pr.cm BinOp.eql)) [X.t 207, X.t 208], I.mk none (some 6) (Ef.pr Pr.mv) [X.t 209]]) IC.ret))))))) IC.skip)))))))))))) 
  (IC.seq (IC.ops [I.mk none (some 210) (Ef.pr Pr.mv) [X.t 0], I.mk none (some 211) (Ef.pr Pr.mv) [X.t 1], I.mk none (some 212) (Ef.pr (Pr.ld 7 true)) [X.t 5], I.mk none (some 213) (Ef.call 58) [X.t 210, X.t 211, X.t 212], I.mk none (some 6) (Ef.pr Pr.mv) [X.t 213]]) IC.ret))

theorem k41 : Go.Proofs.Try.f41.body.bind (comp Go.Proofs.Try.prog 214 [5] []) = some c41 := by kernel_rfl

theorem r41 : cRVs Go.Proofs.Try.prog Go.Proofs.Try.f41.results.toList = some [RV.t 6] := by kernel_rfl

theorem e41 {args : List Value} {h : Hp} {Q : Value → Hp → Prop} (hl : Nat.ble args.length 214 = true) (hk : codeK PR none c41 (retK Q [RV.t 6]) (fun _ _ _ _ => False) (retK Q [RV.t 6]) (argsE 0 args) [] h) : Ok PR 41 args h Q :=
  Ok.of mixed Go.Proofs.Try.func41 rfl k41 r41 hl hk

end Go.Proofs.Ytpkleblggehghaa.V
