/- The functions 7, 45, 46, 47, 6, resolved. -/
import Derived.Test.YtkmknolkblcbeaaVP
namespace Go.Proofs.Ytkmknolkblcbeaa.V
set_option linter.unusedVariables false
set_option linter.unusedSimpArgs false
set_option linter.unusedSectionVars false
open Go
set_option maxRecDepth 100000

def c7 : IC := IC.seq (IC.ops [I.mk none (some 4) (Ef.pr Pr.mv) [X.c (Value.bool false)]]) 
  (IC.seq (IC.ops [I.mk none (some 11) (Ef.pr Pr.mv) [X.t 0], I.mk none (some 12) (Ef.call 37) [X.t 11], I.mk none (some 5) (Ef.pr Pr.mv) [X.t 12]]) 
  (IC.seq (IC.ops [I.mk none (some 13) (Ef.pr Pr.mv) [X.t 0], I.mk none (some 14) (Ef.call 38) [X.t 13], I.mk none (some 6) (Ef.pr Pr.mv) [X.t 14]]) 
  (IC.seq 
  (IC.seq (IC.ops [I.mk none (some 15) (Ef.pr Pr.mv) [X.t 5], I.mk none (some 16) (Ef.pr (Pr.eq false (EqT.one EqS.p))) [X.t 15, X.c (Value.pointer none)], I.mk none (some 17) (Ef.pr Pr.mv) [X.t 16], I.mk (some (17, false)) (some 18) (Ef.pr Pr.mv) [X.t 5], I.mk (some (17, false)) (some 19) (Ef.call 44) [X.t 18], I.mk (some (17, false)) (some 20) (Ef.pr Pr.mv) [X.t 6], I.mk (some (17, false)) (some 21) (Ef.pr (Pr.cm BinOp.neq)) [X.t 19, X.t 20], I.mk none (some 22) (Ef.pr Pr.pick) [X.t 17, X.c (Value.bool true), X.t 21], I.mk none (some 23) (Ef.pr Pr.mv) [X.t 22], I.mk (some (23, false)) (some 24) (Ef.pr Pr.mv) [X.t 5], I.mk (some (23, false)) (some 25) (Ef.call 41) [X.t 24], I.mk (some (23, false)) (some 26) (Ef.pr (Pr.cm BinOp.neq)) [X.t 25, X.c (Value.int IntKind.i64 0)], I.mk none (some 27) (Ef.pr Pr.pick) [X.t 23, X.c (Value.bool true), X.t 26]]) 
  (IC.cond (X.t 27) 
  (IC.seq (IC.ops [I.mk none (some 4) (Ef.pr Pr.mv) [X.c (Value.bool false)]]) IC.ret) IC.skip)) 
  (IC.seq (IC.ops [I.mk none (some 28) (Ef.pr Pr.mv) [X.t 5], I.mk none (some 29) (Ef.pr Pr.mv) [X.t 6], I.mk none (some 30) (Ef.pr (Pr.bld [Value.int IntKind.i64 0, Value.int IntKind.i64 0, Value.int IntKind.i64 0, Value.int IntKind.i64 0] [(3, 1)])) [X.c (Value.int IntKind.i64 1)], I.mk none (some 31) (Ef.call 45) [X.t 28, X.t 29, X.t 30], I.mk none (some 7) (Ef.pr Pr.mv) [X.t 31]]) 
  (IC.seq 
  (IC.seq (IC.ops [I.mk none (some 32) (Ef.pr Pr.mv) [X.t 7], I.mk none (some 33) (Ef.pr (Pr.un UnOp.not)) [X.t 32], I.mk none (some 34) (Ef.pr Pr.mv) [X.t 33], I.mk (some (34, false)) (some 35) (Ef.call 39) [], I.mk (some (34, false)) (some 36) (Ef.pr (Pr.un UnOp.not)) [X.t 35], I.mk none (some 37) (Ef.pr Pr.pick) [X.t 34, X.c (Value.bool true), X.t 36]]) 
  (IC.cond (X.t 37) 
  (IC.seq (IC.ops [I.mk none (some 4) (Ef.pr Pr.mv) [X.c (Value.bool false)]]) IC.ret) IC.skip)) 
  (IC.seq 
  (IC.seq (IC.ops [I.mk none (some 8) (Ef.pr Pr.mv) [X.c (Value.int IntKind.i64 0)]]) 
  (IC.block 0 
  (IC.loop 
  (IC.seq 
  (IC.seq (IC.ops [I.mk none (some 38) (Ef.pr Pr.mv) [X.t 8], I.mk none (some 39) (Ef.pr Pr.mv) [X.t 1], I.mk none (some 40) (Ef.pr Pr.lenS) [X.t 39], I.mk none (some 41) (Ef.pr (Pr.cm BinOp.lss)) [X.t 38, X.t 40]]) 
  (IC.cond (X.t 41) IC.skip (IC.exit 0))) 
  (IC.seq 
  (IC.block 1 
  (IC.seq (IC.ops [I.mk none (some 44) (Ef.pr Pr.mv) [X.t 1], I.mk none (some 45) (Ef.pr Pr.mv) [X.t 8], I.mk none (some 46) (Ef.pr (Pr.iaS 4)) [X.t 44, X.t 45], I.mk none (some 47) (Ef.pr (Pr.ld 4 true)) [X.t 46], I.mk none (some 9) (Ef.al [Value.int IntKind.i64 0, Value.int IntKind.i64 0, Value.int IntKind.i64 0, Value.int IntKind.i64 0]) [], I.mk none none (Ef.st 4) [X.t 9, X.t 47]]) 
  (IC.seq (IC.ops [I.mk none (some 10) (Ef.pr Pr.mv) [X.c (Value.bool true)]]) 
  (IC.seq 
  (IC.seq (IC.ops [I.mk none (some 48) (Ef.pr (Pr.fa 0)) [X.t 9], I.mk none (some 49) (Ef.pr (Pr.ld 1 false)) [X.t 48]]) 
  (IC.block 2 
  (IC.seq (IC.ops [I.mk none (some 51) (Ef.pr (Pr.cm BinOp.eql)) [X.t 49, X.c (Value.int IntKind.i64 1)], I.mk none (some 50) (Ef.pr Pr.mv) [X.t 51]]) 
  (IC.cond (X.t 50) (IC.ops [I.mk none (some 52) (Ef.pr Pr.mv) [X.t 5], I.mk none (some 53) (Ef.pr Pr.mv) [X.t 6], I.mk none (some 54) (Ef.pr (Pr.ld 4 true)) [X.t 9], I.mk none (some 55) (Ef.call 45) [X.t 52, X.t 53, X.t 54], I.mk none (some 10) (Ef.pr Pr.mv) [X.t 55]]) 
  (IC.seq (IC.ops [I.mk none (some 57) (Ef.pr (Pr.cm BinOp.eql)) [X.t 49, X.c (Value.int IntKind.i64 2)], I.mk none (some 56) (Ef.pr Pr.mv) [X.t 57]]) 
  (IC.cond (X.t 56) (IC.ops [I.mk none (some 58) (Ef.pr Pr.mv) [X.t 5], I.mk none (some 59) (Ef.pr Pr.mv) [X.t 6], I.mk none (some 60) (Ef.pr (Pr.ld 4 true)) [X.t 9], I.mk none (some 61) (Ef.call 46) [X.t 58, X.t 59, X.t 60], I.mk none (some 10) (Ef.pr Pr.mv) [X.t 61]]) 
  (IC.seq (IC.ops [I.mk none (some 63) (Ef.pr (Pr.cm BinOp.eql)) [X.t 49, X.c (Value.int IntKind.i64 5)], I.mk none (some 62) (Ef.pr Pr.mv) [X.t 63]]) 
  (IC.cond (X.t 62) (IC.ops [I.mk none (some 64) (Ef.pr Pr.mv) [X.t 5], I.mk none (some 65) (Ef.pr (Pr.ld 4 true)) [X.t 9], I.mk none (some 66) (Ef.call 47) [X.t 64, X.t 65], I.mk none (some 10) (Ef.pr Pr.mv) [X.t 66]]) 
  (IC.seq (IC.ops [I.mk none (some 68) (Ef.pr (Pr.cm BinOp.eql)) [X.t 49, X.c (Value.int IntKind.i64 7)], I.mk none (some 67) (Ef.pr Pr.mv) [X.t 68]]) 
  (IC.cond (X.t 67) 
  (IC.seq (IC.ops [I.mk none (some 69) (Ef.pr Pr.mv) [X.t 5], I.mk none (some 70) (Ef.call 48) [X.t 69]]) (IC.ops [I.mk none (some 71) (Ef.pr Pr.mv) [X.t 5], I.mk none (some 72) (Ef.call 41) [X.t 71], I.mk none (some 73) (Ef.pr (Pr.cm BinOp.eql)) [X.t 72, X.c (Value.int IntKind.i64 0)], I.mk none (some 74) (Ef.pr Pr.mv) [X.t 73], I.mk (some (74, true)) (some 75) (Ef.pr Pr.mv) [X.t 5], I.mk (some (74, true)) (some 76) (Ef.call 44) [X.t 75], I.mk (some (74, true)) (some 77) (Ef.pr Pr.mv) [X.t 6], I.mk (some (74, true)) (some 78) (Ef.pr (Pr.cm BinOp.eql)) [X.t 76, X.t 77], I.mk none (some 79) (Ef.pr Pr.pick) [X.t 74, X.t 78, X.c (Value.bool false)], I.mk none (some 80) (Ef.pr Pr.mv) [X.t 79], I.mk (some (80, true)) (some 81) (Ef.pr Pr.mv) [X.t 5], I.mk (some (80, true)) (some 82) (Ef.call 43) [X.t 81, X.c (Value.int IntKind.i64 0)], I.mk (some (80, true)) (some 83) (Ef.pr (Pr.cm BinOp.eql)) [X.t 82, X.c (Value.int IntKind.i64 (-1))], I.mk none (some 84) (Ef.pr Pr.pick) [X.t 80, X.t 83, X.c (Value.bool false)], I.mk none (some 10) (Ef.pr Pr.mv) [X.t 84]])) IC.skip)))))))))) 
  (IC.seq (IC.ops [I.mk none (some 85) (Ef.pr Pr.mv) [X.t 10], I.mk none (some 86) (Ef.pr (Pr.un UnOp.not)) [X.t 85]]) 
  (IC.cond (X.t 86) 
  (IC.seq (IC.ops [I.mk none (some 4) (Ef.pr Pr.mv) [X.c (Value.bool false)]]) IC.ret) IC.skip)))))) (IC.ops [I.mk none (some 42) (Ef.pr Pr.mv) [X.t 8], I.mk none (some 43) (Ef.pr (Pr.ar BinOp.add)) [X.t 42, X.c (Value.int IntKind.i64 1)], I.mk none (some 8) (Ef.pr Pr.mv) [X.t 43]])))))) 
  (IC.seq (IC.ops [I.mk none (some 4) (Ef.pr Pr.mv) [X.c (Value.bool true)]]) IC.ret)))))))

theorem k7 : Go.Proofs.Try.f7.body.bind (comp Go.Proofs.Try.prog 87 [9] []) = some c7 := by kernel_rfl

theorem r7 : cRVs Go.Proofs.Try.prog Go.Proofs.Try.f7.results.toList = some [RV.t 4] := by kernel_rfl

theorem e7 {args : List Value} {h : Hp} {Q : Value → Hp → Prop} (hl : Nat.ble args.length 87 = true) (hk : codeK PR none c7 (retK Q [RV.t 4]) (fun _ _ _ _ => False) (retK Q [RV.t 4]) (argsE 0 args) [] h) : Ok PR 7 args h Q :=
  Ok.of mixed Go.Proofs.Try.func7 rfl k7 r7 hl hk

def c45 : IC := IC.seq (IC.ops [I.mk none (some 5) Ef.bx [X.t 2], I.mk none (some 6) (Ef.pr Pr.mv) [X.c (Value.bool false)]]) 
  (IC.seq (IC.ops [I.mk none (some 7) (Ef.pr Pr.mv) [X.c (Value.int IntKind.i64 0)]]) 
  (IC.cut 
  (IC.block 0 
  (IC.loop 
  (IC.seq 
  (IC.seq (IC.ops [I.mk none (some 15) (Ef.pr Pr.mv) [X.t 7], I.mk none (some 16) (Ef.pr Pr.mv) [X.t 1], I.mk none (some 17) (Ef.pr (Pr.cm BinOp.lss)) [X.t 15, X.t 16]]) 
  (IC.cond (X.t 17) IC.skip (IC.exit 0))) 
  (IC.block 1 
  (IC.seq (IC.ops [I.mk none (some 19) (Ef.pr Pr.mv) [X.t 0], I.mk none (some 20) (Ef.pr Pr.mv) [X.t 7], I.mk none (some 21) (Ef.call 89) [X.t 19, X.t 20], I.mk none (some 18) (Ef.pr Pr.mv) [X.t 21], I.mk none (some 22) (Ef.pr (Pr.ext 0)) [X.t 18], I.mk none (some 23) (Ef.pr (Pr.ext 1)) [X.t 18], I.mk none (some 8) (Ef.al [Value.string (ByteArray.mk (Array.mk [])), Value.int IntKind.i64 0, Value.int IntKind.i64 0]) [], I.mk none none (Ef.st 3) [X.t 8, X.t 22], I.mk none (some 9) (Ef.pr Pr.mv) [X.t 23]]) 
  (IC.seq 
  (IC.seq (IC.ops [I.mk none (some 24) (Ef.pr Pr.mv) [X.t 9], I.mk none (some 25) (Ef.pr (Pr.un UnOp.not)) [X.t 24]]) 
  (IC.cond (X.t 25) (IC.exit 0) IC.skip)) (IC.ops [I.mk none (some 26) (Ef.pr Pr.mv) [X.t 7], I.mk none (some 27) (Ef.pr (Pr.ar BinOp.add)) [X.t 26, X.c (Value.int IntKind.i64 1)], I.mk none (some 7) (Ef.pr Pr.mv) [X.t 27]]))))))) 
  (IC.seq (IC.ops [I.mk none (some 28) (Ef.pr Pr.mv) [X.t 0], I.mk none (some 29) (Ef.call 41) [X.t 28], I.mk none (some 10) (Ef.pr Pr.mv) [X.t 29]]) 
  (IC.seq (IC.ops [I.mk none (some 31) (Ef.pr Pr.mv) [X.t 0], I.mk none (some 32) (Ef.pr (Pr.fa 3)) [X.t 5], I.mk none (some 33) (Ef.pr (Pr.ld 1 false)) [X.t 32], I.mk none (some 34) (Ef.call 28) [X.t 33], I.mk none (some 35) (Ef.call 40) [X.t 31, X.t 34], I.mk none (some 30) (Ef.pr Pr.mv) [X.t 35], I.mk none (some 36) (Ef.pr (Pr.ext 0)) [X.t 30], I.mk none (some 37) (Ef.pr (Pr.ext 1)) [X.t 30], I.mk none (some 11) (Ef.pr Pr.mv) [X.t 36], I.mk none (some 12) (Ef.pr Pr.mv) [X.t 37]]) 
  (IC.seq 
  (IC.seq (IC.ops [I.mk none (some 38) (Ef.pr Pr.mv) [X.t 7], I.mk none (some 39) (Ef.pr Pr.mv) [X.t 1], I.mk none (some 40) (Ef.pr (Pr.cm BinOp.eql)) [X.t 38, X.t 39]]) 
  (IC.cond (X.t 40) 
  (IC.seq (IC.ops [I.mk none (some 41) (Ef.pr Pr.mv) [X.t 11], I.mk none (some 42) (Ef.pr (Pr.cm BinOp.eql)) [X.t 41, X.c (Value.int IntKind.i64 (-1))], I.mk none (some 43) (Ef.pr Pr.mv) [X.t 42], I.mk (some (43, true)) (some 44) (Ef.pr Pr.mv) [X.t 12], I.mk (some (43, true)) (some 45) (Ef.pr (Pr.cm BinOp.eql)) [X.t 44, X.c (Value.int IntKind.i64 2)], I.mk none (some 46) (Ef.pr Pr.pick) [X.t 43, X.t 45, X.c (Value.bool false)], I.mk none (some 47) (Ef.pr Pr.mv) [X.t 46], I.mk (some (47, true)) (some 48) (Ef.pr Pr.mv) [X.t 0], I.mk (some (47, true)) (some 49) (Ef.call 41) [X.t 48], I.mk (some (47, true)) (some 50) (Ef.pr Pr.mv) [X.t 10], I.mk (some (47, true)) (some 51) (Ef.pr (Pr.cm BinOp.eql)) [X.t 49, X.t 50], I.mk none (some 52) (Ef.pr Pr.pick) [X.t 47, X.t 51, X.c (Value.bool false)], I.mk none (some 6) (Ef.pr Pr.mv) [X.t 52]]) IC.ret) IC.skip)) 
  (IC.seq (IC.ops [I.mk none (some 54) (Ef.pr Pr.mv) [X.t 0], I.mk none (some 55) (Ef.pr Pr.mv) [X.t 11], I.mk none (some 56) (Ef.call 89) [X.t 54, X.t 55], I.mk none (some 53) (Ef.pr Pr.mv) [X.t 56], I.mk none (some 57) (Ef.pr (Pr.ext 0)) [X.t 53], I.mk none (some 58) (Ef.pr (Pr.ext 1)) [X.t 53], I.mk none (some 13) (Ef.al [Value.string (ByteArray.mk (Array.mk [])), Value.int IntKind.i64 0, Value.int IntKind.i64 0]) [], I.mk none none (Ef.st 3) [X.t 13, X.t 57], I.mk none (some 14) (Ef.pr Pr.mv) [X.t 58]]) 
  (IC.seq (IC.plan (Plan.q (I.mk none (some 59) (Ef.pr Pr.mv) [X.t 11]) (Plan.q (I.mk none (some 60) (Ef.pr Pr.mv) [X.t 7]) (Plan.q (I.mk none (some 61) (Ef.pr (Pr.cm BinOp.eql)) [X.t 59, X.t 60]) (Plan.q (I.mk none (some 62) (Ef.pr Pr.mv) [X.t 61]) (Plan.q (I.mk (some (62, true)) (some 63) (Ef.pr Pr.mv) [X.t 12]) (Plan.q (I.mk (some (62, true)) (some 64) (Ef.pr (Pr.cm BinOp.eql)) [X.t 63, X.c (Value.int IntKind.i64 0)]) (Plan.q (I.mk none (some 65) (Ef.pr Pr.pick) [X.t 62, X.t 64, X.c (Value.bool false)]) (Plan.q (I.mk none (some 66) (Ef.pr Pr.mv) [X.t 65]) (Plan.q (I.mk (some (66, true)) (some 67) (Ef.pr Pr.mv) [X.t 14]) (Plan.q (I.mk none (some 68) (Ef.pr Pr.pick) [X.t 66, X.t 67, X.c (Value.bool false)]) (Plan.q (I.mk none (some 69) (Ef.pr Pr.mv) [X.t 68]) (Plan.q (I.mk (some (69, true)) (some 70) (Ef.pr (Pr.ld 3 true)) [X.t 13]) (Plan.q (I.mk (some (69, true)) (some 71) (Ef.pr (Pr.fa 3)) [X.t 5]) (Plan.q (I.mk (some (69, true)) (some 72) (Ef.pr (Pr.ld 1 false)) [X.t 71]) (Plan.br (PlanL.cons true false (I.mk (some (69, true)) (some 73) (Ef.call 28) [X.t 72]) (Plan.q (I.mk (some (69, true)) (some 74) (Ef.pr (Pr.eq false (EqT.ag [(0, EqS.s), (1, EqS.i), (2, EqS.i)]))) [X.t 70, X.t 73]) (Plan.q (I.mk none (some 75) (Ef.pr Pr.pick) [X.t 69, X.t 74, X.c (Value.bool false)]) (Plan.q (I.mk none (some 76) (Ef.pr Pr.mv) [X.t 75]) (Plan.q (I.mk (some (76, true)) (some 77) (Ef.pr Pr.mv) [X.t 0]) (Plan.q (I.mk (some (76, true)) (some 79) (Ef.pr Pr.mv) [X.t 10]) (Plan.q (I.mk (some (76, true)) (some 80) (Ef.pr (Pr.ar BinOp.add)) [X.t 79, X.c (Value.int IntKind.i64 1)]) (Plan.br (PlanL.cons false false (I.mk (some (76, true)) (some 78) (Ef.call 41) [X.t 77]) (Plan.q (I.mk (some (76, true)) (some 81) (Ef.pr (Pr.cm BinOp.eql)) [X.t 78, X.t 80]) (Plan.q (I.mk none (some 82) (Ef.pr Pr.pick) [X.t 76, X.t 81, X.c (Value.bool false)]) (Plan.q (I.mk none (some 6) (Ef.pr Pr.mv) [X.t 82]) Plan.done))) PlanL.nil)))))))) PlanL.nil))))))))))))))))) IC.ret)))))))

theorem k45 : Go.Proofs.Try.f45.body.bind (comp Go.Proofs.Try.prog 83 [5, 8, 13] [6]) = some c45 := by kernel_rfl

theorem r45 : cRVs Go.Proofs.Try.prog Go.Proofs.Try.f45.results.toList = some [RV.t 6] := by kernel_rfl

theorem e45 {args : List Value} {h : Hp} {Q : Value → Hp → Prop} (hl : Nat.ble args.length 83 = true) (hk : codeK PR none c45 (retK Q [RV.t 6]) (fun _ _ _ _ => False) (retK Q [RV.t 6]) (argsE 0 args) [] h) : Ok PR 45 args h Q :=
  Ok.of mixed Go.Proofs.Try.func45 rfl k45 r45 hl hk

def c46 : IC := IC.seq (IC.ops [I.mk none (some 5) Ef.bx [X.t 2], I.mk none (some 6) (Ef.pr Pr.mv) [X.c (Value.bool false)]]) 
  (IC.seq (IC.ops [I.mk none (some 13) (Ef.pr Pr.mv) [X.t 0], I.mk none (some 14) (Ef.pr (Pr.fa 2)) [X.t 5], I.mk none (some 15) (Ef.pr (Pr.ld 1 false)) [X.t 14], I.mk none (some 16) (Ef.call 89) [X.t 13, X.t 15], I.mk none (some 12) (Ef.pr Pr.mv) [X.t 16], I.mk none (some 17) (Ef.pr (Pr.ext 0)) [X.t 12], I.mk none (some 18) (Ef.pr (Pr.ext 1)) [X.t 12], I.mk none (some 7) (Ef.al [Value.string (ByteArray.mk (Array.mk [])), Value.int IntKind.i64 0, Value.int IntKind.i64 0]) [], I.mk none none (Ef.st 3) [X.t 7, X.t 17], I.mk none (some 8) (Ef.pr Pr.mv) [X.t 18]]) 
  (IC.seq (IC.plan (Plan.q (I.mk none (some 19) (Ef.pr Pr.mv) [X.t 0]) (Plan.q (I.mk none (some 20) (Ef.pr (Pr.fa 2)) [X.t 5]) (Plan.q (I.mk none (some 21) (Ef.pr (Pr.ld 1 false)) [X.t 20]) (Plan.q (I.mk none (some 22) (Ef.pr (Pr.fa 3)) [X.t 5]) (Plan.q (I.mk none (some 23) (Ef.pr (Pr.ld 1 false)) [X.t 22]) (Plan.br (PlanL.cons true false (I.mk none (some 24) (Ef.call 28) [X.t 23]) (Plan.br (PlanL.cons false false (I.mk none (some 25) (Ef.call 90) [X.t 19, X.t 21, X.t 24]) (Plan.q (I.mk none (some 9) (Ef.pr Pr.mv) [X.t 25]) Plan.done) PlanL.nil)) PlanL.nil)))))))) 
  (IC.seq (IC.ops [I.mk none (some 27) (Ef.pr Pr.mv) [X.t 0], I.mk none (some 28) (Ef.pr (Pr.fa 2)) [X.t 5], I.mk none (some 29) (Ef.pr (Pr.ld 1 false)) [X.t 28], I.mk none (some 30) (Ef.call 89) [X.t 27, X.t 29], I.mk none (some 26) (Ef.pr Pr.mv) [X.t 30], I.mk none (some 31) (Ef.pr (Pr.ext 0)) [X.t 26], I.mk none (some 32) (Ef.pr (Pr.ext 1)) [X.t 26], I.mk none (some 10) (Ef.al [Value.string (ByteArray.mk (Array.mk [])), Value.int IntKind.i64 0, Value.int IntKind.i64 0]) [], I.mk none none (Ef.st 3) [X.t 10, X.t 31], I.mk none (some 11) (Ef.pr Pr.mv) [X.t 32]]) 
  (IC.seq 
  (IC.block 0 
  (IC.seq (IC.ops [I.mk none (some 34) (Ef.pr (Pr.fa 2)) [X.t 5], I.mk none (some 35) (Ef.pr (Pr.ld 1 false)) [X.t 34], I.mk none (some 36) (Ef.pr (Pr.cm BinOp.lss)) [X.t 35, X.c (Value.int IntKind.i64 0)], I.mk none (some 37) (Ef.pr Pr.mv) [X.t 36], I.mk (some (37, false)) (some 38) (Ef.pr (Pr.fa 2)) [X.t 5], I.mk (some (37, false)) (some 39) (Ef.pr (Pr.ld 1 false)) [X.t 38], I.mk (some (37, false)) (some 40) (Ef.pr Pr.mv) [X.t 1], I.mk (some (37, false)) (some 41) (Ef.pr (Pr.cm BinOp.geq)) [X.t 39, X.t 40], I.mk none (some 42) (Ef.pr Pr.pick) [X.t 37, X.c (Value.bool true), X.t 41], I.mk none (some 33) (Ef.pr Pr.mv) [X.t 42]]) 
  (IC.cond (X.t 33) 
  (IC.seq (IC.ops [I.mk none (some 43) (Ef.pr Pr.mv) [X.t 9], I.mk none (some 44) (Ef.pr (Pr.cm BinOp.eql)) [X.t 43, X.c (Value.int IntKind.i64 30)], I.mk none (some 45) (Ef.pr Pr.mv) [X.t 44], I.mk (some (45, true)) (some 46) (Ef.pr Pr.mv) [X.t 8], I.mk (some (45, true)) (some 47) (Ef.pr (Pr.un UnOp.not)) [X.t 46], I.mk none (some 48) (Ef.pr Pr.pick) [X.t 45, X.t 47, X.c (Value.bool false)], I.mk none (some 49) (Ef.pr Pr.mv) [X.t 48], I.mk (some (49, true)) (some 50) (Ef.pr Pr.mv) [X.t 11], I.mk (some (49, true)) (some 51) (Ef.pr (Pr.un UnOp.not)) [X.t 50], I.mk none (some 52) (Ef.pr Pr.pick) [X.t 49, X.t 51, X.c (Value.bool false)], I.mk none (some 6) (Ef.pr Pr.mv) [X.t 52]]) IC.ret) 
  (IC.seq (IC.ops [I.mk none (some 54) (Ef.pr Pr.mv) [X.t 8], I.mk none (some 53) (Ef.pr Pr.mv) [X.t 54]]) 
  (IC.cond (X.t 53) 
  (IC.seq (IC.ops [I.mk none (some 55) (Ef.pr Pr.mv) [X.t 9], I.mk none (some 56) (Ef.pr (Pr.cm BinOp.eql)) [X.t 55, X.c (Value.int IntKind.i64 31)], I.mk none (some 57) (Ef.pr Pr.mv) [X.t 56], I.mk (some (57, true)) (some 58) (Ef.pr Pr.mv) [X.t 11], I.mk none (some 59) (Ef.pr Pr.pick) [X.t 57, X.t 58, X.c (Value.bool false)], I.mk none (some 60) (Ef.pr Pr.mv) [X.t 59], I.mk (some (60, true)) (some 61) (Ef.pr (Pr.ld 3 true)) [X.t 10], I.mk (some (60, true)) (some 62) (Ef.pr (Pr.ld 3 true)) [X.t 7], I.mk (some (60, true)) (some 63) (Ef.pr (Pr.eq false (EqT.ag [(0, EqS.s), (1, EqS.i), (2, EqS.i)]))) [X.t 61, X.t 62], I.mk none (some 64) (Ef.pr Pr.pick) [X.t 60, X.t 63, X.c (Value.bool false)], I.mk none (some 6) (Ef.pr Pr.mv) [X.t 64]]) IC.ret) IC.skip))))) 
  (IC.seq (IC.plan (Plan.q (I.mk none (some 65) (Ef.pr Pr.mv) [X.t 9]) (Plan.q (I.mk none (some 66) (Ef.pr (Pr.cm BinOp.eql)) [X.t 65, X.c (Value.int IntKind.i64 0)]) (Plan.q (I.mk none (some 67) (Ef.pr Pr.mv) [X.t 66]) (Plan.q (I.mk (some (67, true)) (some 68) (Ef.pr Pr.mv) [X.t 11]) (Plan.q (I.mk none (some 69) (Ef.pr Pr.pick) [X.t 67, X.t 68, X.c (Value.bool false)]) (Plan.q (I.mk none (some 70) (Ef.pr Pr.mv) [X.t 69]) (Plan.q (I.mk (some (70, true)) (some 71) (Ef.pr (Pr.ld 3 true)) [X.t 10]) (Plan.q (I.mk (some (70, true)) (some 72) (Ef.pr (Pr.fa 3)) [X.t 5]) (Plan.q (I.mk (some (70, true)) (some 73) (Ef.pr (Pr.ld 1 false)) [X.t 72]) (Plan.br (PlanL.cons true false (I.mk (some (70, true)) (some 74) (Ef.call 28) [X.t 73]) (Plan.q (I.mk (some (70, true)) (some 75) (Ef.pr (Pr.eq false (EqT.ag [(0, EqS.s), (1, EqS.i), (2, EqS.i)]))) [X.t 71, X.t 74]) (Plan.q (I.mk none (some 76) (Ef.pr Pr.pick) [X.t 70, X.t 75, X.c (Value.bool false)]) (Plan.q (I.mk none (some 6) (Ef.pr Pr.mv) [X.t 76]) Plan.done))) PlanL.nil)))))))))))) IC.ret)))))

theorem k46 : Go.Proofs.Try.f46.body.bind (comp Go.Proofs.Try.prog 77 [5, 7, 10] []) = some c46 := by kernel_rfl

theorem r46 : cRVs Go.Proofs.Try.prog Go.Proofs.Try.f46.results.toList = some [RV.t 6] := by kernel_rfl

theorem e46 {args : List Value} {h : Hp} {Q : Value → Hp → Prop} (hl : Nat.ble args.length 77 = true) (hk : codeK PR none c46 (retK Q [RV.t 6]) (fun _ _ _ _ => False) (retK Q [RV.t 6]) (argsE 0 args) [] h) : Ok PR 46 args h Q :=
  Ok.of mixed Go.Proofs.Try.func46 rfl k46 r46 hl hk

def c47 : IC := IC.seq (IC.ops [I.mk none (some 3) Ef.bx [X.t 1], I.mk none (some 4) (Ef.pr Pr.mv) [X.c (Value.bool false)]]) 
  (IC.seq (IC.ops [I.mk none (some 13) (Ef.pr Pr.mv) [X.t 0], I.mk none (some 14) (Ef.pr (Pr.fa 2)) [X.t 3], I.mk none (some 15) (Ef.pr (Pr.ld 1 false)) [X.t 14], I.mk none (some 16) (Ef.call 89) [X.t 13, X.t 15], I.mk none (some 12) (Ef.pr Pr.mv) [X.t 16], I.mk none (some 17) (Ef.pr (Pr.ext 0)) [X.t 12], I.mk none (some 18) (Ef.pr (Pr.ext 1)) [X.t 12], I.mk none (some 5) (Ef.al [Value.string (ByteArray.mk (Array.mk [])), Value.int IntKind.i64 0, Value.int IntKind.i64 0]) [], I.mk none none (Ef.st 3) [X.t 5, X.t 17], I.mk none (some 6) (Ef.pr Pr.mv) [X.t 18]]) 
  (IC.seq (IC.ops [I.mk none (some 19) (Ef.pr Pr.mv) [X.t 0], I.mk none (some 20) (Ef.call 41) [X.t 19], I.mk none (some 7) (Ef.pr Pr.mv) [X.t 20]]) 
  (IC.seq (IC.ops [I.mk none (some 22) (Ef.pr Pr.mv) [X.t 0], I.mk none (some 23) (Ef.pr (Pr.fa 2)) [X.t 3], I.mk none (some 24) (Ef.pr (Pr.ld 1 false)) [X.t 23], I.mk none (some 25) (Ef.call 42) [X.t 22, X.t 24], I.mk none (some 21) (Ef.pr Pr.mv) [X.t 25], I.mk none (some 26) (Ef.pr (Pr.ext 0)) [X.t 21], I.mk none (some 27) (Ef.pr (Pr.ext 1)) [X.t 21], I.mk none (some 8) (Ef.al [Value.string (ByteArray.mk (Array.mk [])), Value.int IntKind.i64 0, Value.int IntKind.i64 0]) [], I.mk none none (Ef.st 3) [X.t 8, X.t 26], I.mk none (some 9) (Ef.pr Pr.mv) [X.t 27]]) 
  (IC.seq (IC.ops [I.mk none (some 29) (Ef.pr Pr.mv) [X.t 0], I.mk none (some 30) (Ef.pr (Pr.fa 2)) [X.t 3], I.mk none (some 31) (Ef.pr (Pr.ld 1 false)) [X.t 30], I.mk none (some 32) (Ef.call 89) [X.t 29, X.t 31], I.mk none (some 28) (Ef.pr Pr.mv) [X.t 32], I.mk none (some 33) (Ef.pr (Pr.ext 0)) [X.t 28], I.mk none (some 34) (Ef.pr (Pr.ext 1)) [X.t 28], I.mk none (some 10) (Ef.al [Value.string (ByteArray.mk (Array.mk [])), Value.int IntKind.i64 0, Value.int IntKind.i64 0]) [], I.mk none none (Ef.st 3) [X.t 10, X.t 33], I.mk none (some 11) (Ef.pr Pr.mv) [X.t 34]]) 
  (IC.seq 
  (IC.seq (IC.ops [I.mk none (some 35) (Ef.pr Pr.mv) [X.t 6]]) 
  (IC.cond (X.t 35) (IC.ops [I.mk none (some 36) (Ef.pr Pr.mv) [X.t 7], I.mk none (some 37) (Ef.pr (Pr.ar BinOp.sub)) [X.t 36, X.c (Value.int IntKind.i64 1)], I.mk none (some 7) (Ef.pr Pr.mv) [X.t 37]]) IC.skip)) 
  (IC.seq (IC.ops [I.mk none (some 38) (Ef.pr Pr.mv) [X.t 9], I.mk none (some 39) (Ef.pr Pr.mv) [X.t 6], I.mk none (some 40) (Ef.pr (Pr.eq false (EqT.one EqS.b))) [X.t 38, X.t 39], I.mk none (some 41) (Ef.pr Pr.mv) [X.t 40], I.mk (some (41, true)) (some 42) (Ef.pr (Pr.ld 3 true)) [X.t 8], I.mk (some (41, true)) (some 43) (Ef.pr (Pr.ld 3 true)) [X.t 5], I.mk (some (41, true)) (some 44) (Ef.pr (Pr.eq false (EqT.ag [(0, EqS.s), (1, EqS.i), (2, EqS.i)]))) [X.t 42, X.t 43], I.mk none (some 45) (Ef.pr Pr.pick) [X.t 41, X.t 44, X.c (Value.bool false)], I.mk none (some 46) (Ef.pr Pr.mv) [X.t 45], I.mk (some (46, true)) (some 47) (Ef.pr Pr.mv) [X.t 11], I.mk (some (46, true)) (some 48) (Ef.pr (Pr.un UnOp.not)) [X.t 47], I.mk none (some 49) (Ef.pr Pr.pick) [X.t 46, X.t 48, X.c (Value.bool false)], I.mk none (some 50) (Ef.pr Pr.mv) [X.t 49], I.mk (some (50, true)) (some 51) (Ef.pr Pr.mv) [X.t 0], I.mk (some (50, true)) (some 52) (Ef.call 41) [X.t 51], I.mk (some (50, true)) (some 53) (Ef.pr Pr.mv) [X.t 7], I.mk (some (50, true)) (some 54) (Ef.pr (Pr.cm BinOp.eql)) [X.t 52, X.t 53], I.mk none (some 55) (Ef.pr Pr.pick) [X.t 50, X.t 54, X.c (Value.bool false)], I.mk none (some 4) (Ef.pr Pr.mv) [X.t 55]]) IC.ret))))))

theorem k47 : Go.Proofs.Try.f47.body.bind (comp Go.Proofs.Try.prog 56 [3, 5, 8, 10] []) = some c47 := by kernel_rfl

theorem r47 : cRVs Go.Proofs.Try.prog Go.Proofs.Try.f47.results.toList = some [RV.t 4] := by kernel_rfl

theorem e47 {args : List Value} {h : Hp} {Q : Value → Hp → Prop} (hl : Nat.ble args.length 56 = true) (hk : codeK PR none c47 (retK Q [RV.t 4]) (fun _ _ _ _ => False) (retK Q [RV.t 4]) (argsE 0 args) [] h) : Ok PR 47 args h Q :=
  Ok.of mixed Go.Proofs.Try.func47 rfl k47 r47 hl hk

def c6 : IC := IC.seq (IC.ops [I.mk none (some 4) (Ef.pr Pr.mv) [X.c (Value.bool false)]]) 
  (IC.seq (IC.ops [I.mk none (some 17) (Ef.pr Pr.mv) [X.t 0], I.mk none (some 18) (Ef.call 37) [X.t 17], I.mk none (some 5) (Ef.pr Pr.mv) [X.t 18]]) 
  (IC.seq (IC.ops [I.mk none (some 19) (Ef.pr Pr.mv) [X.t 0], I.mk none (some 20) (Ef.call 38) [X.t 19], I.mk none (some 6) (Ef.pr Pr.mv) [X.t 20]]) 
  (IC.seq 
  (IC.seq (IC.ops [I.mk none (some 21) (Ef.pr Pr.mv) [X.t 5], I.mk none (some 22) (Ef.pr (Pr.eq false (EqT.one EqS.p))) [X.t 21, X.c (Value.pointer none)], I.mk none (some 23) (Ef.pr Pr.mv) [X.t 22], I.mk (some (23, false)) (some 24) (Ef.call 39) [], I.mk (some (23, false)) (some 25) (Ef.pr (Pr.un UnOp.not)) [X.t 24], I.mk none (some 26) (Ef.pr Pr.pick) [X.t 23, X.c (Value.bool true), X.t 25]]) 
  (IC.cond (X.t 26) 
  (IC.seq (IC.ops [I.mk none (some 4) (Ef.pr Pr.mv) [X.c (Value.bool false)]]) IC.ret) IC.skip)) 
  (IC.seq 
  (IC.seq (IC.ops [I.mk none (some 7) (Ef.pr Pr.mv) [X.c (Value.int IntKind.i64 0)]]) 
  (IC.block 0 
  (IC.loop 
  (IC.seq 
  (IC.seq (IC.ops [I.mk none (some 27) (Ef.pr Pr.mv) [X.t 7], I.mk none (some 28) (Ef.pr (Pr.cm BinOp.lss)) [X.t 27, X.c (Value.int IntKind.i64 2)]]) 
  (IC.cond (X.t 28) IC.skip (IC.exit 0))) 
  (IC.seq 
  (IC.block 1 
  (IC.seq 
  (IC.seq (IC.ops [I.mk none (some 8) (Ef.pr Pr.mv) [X.c (Value.int IntKind.i64 0)]]) 
  (IC.block 2 
  (IC.loop 
  (IC.seq 
  (IC.seq (IC.ops [I.mk none (some 31) (Ef.pr Pr.mv) [X.t 8], I.mk none (some 32) (Ef.pr Pr.mv) [X.t 6], I.mk none (some 33) (Ef.pr (Pr.cm BinOp.lss)) [X.t 31, X.t 32]]) 
  (IC.cond (X.t 33) IC.skip (IC.exit 2))) 
  (IC.seq 
  (IC.block 3 
  (IC.seq (IC.ops [I.mk none (some 37) (Ef.pr Pr.mv) [X.t 5], I.mk none (some 38) (Ef.pr Pr.mv) [X.t 8], I.mk none (some 39) (Ef.call 28) [X.t 38], I.mk none (some 40) (Ef.call 40) [X.t 37, X.t 39], I.mk none (some 36) (Ef.pr Pr.mv) [X.t 40], I.mk none (some 41) (Ef.pr (Pr.ext 0)) [X.t 36], I.mk none (some 42) (Ef.pr (Pr.ext 1)) [X.t 36], I.mk none (some 9) (Ef.pr Pr.mv) [X.t 41], I.mk none (some 10) (Ef.pr Pr.mv) [X.t 42]]) 
  (IC.seq (IC.ops [I.mk none (some 43) (Ef.pr Pr.mv) [X.t 9], I.mk none (some 44) (Ef.pr Pr.mv) [X.t 8], I.mk none (some 45) (Ef.pr (Pr.cm BinOp.neq)) [X.t 43, X.t 44], I.mk none (some 46) (Ef.pr Pr.mv) [X.t 45], I.mk (some (46, false)) (some 47) (Ef.pr Pr.mv) [X.t 10], I.mk (some (46, false)) (some 48) (Ef.pr (Pr.cm BinOp.neq)) [X.t 47, X.c (Value.int IntKind.i64 0)], I.mk none (some 49) (Ef.pr Pr.pick) [X.t 46, X.c (Value.bool true), X.t 48]]) 
  (IC.cond (X.t 49) 
  (IC.seq (IC.ops [I.mk none (some 4) (Ef.pr Pr.mv) [X.c (Value.bool false)]]) IC.ret) IC.skip)))) (IC.ops [I.mk none (some 34) (Ef.pr Pr.mv) [X.t 8], I.mk none (some 35) (Ef.pr (Pr.ar BinOp.add)) [X.t 34, X.c (Value.int IntKind.i64 1)], I.mk none (some 8) (Ef.pr Pr.mv) [X.t 35]])))))) 
  (IC.seq (IC.ops [I.mk none (some 51) (Ef.pr Pr.mv) [X.t 5], I.mk none (some 52) (Ef.pr Pr.mv) [X.t 6], I.mk none (some 53) (Ef.call 28) [X.t 52], I.mk none (some 54) (Ef.call 40) [X.t 51, X.t 53], I.mk none (some 50) (Ef.pr Pr.mv) [X.t 54], I.mk none (some 55) (Ef.pr (Pr.ext 0)) [X.t 50], I.mk none (some 56) (Ef.pr (Pr.ext 1)) [X.t 50], I.mk none (some 11) (Ef.pr Pr.mv) [X.t 55], I.mk none (some 12) (Ef.pr Pr.mv) [X.t 56]]) 
  (IC.seq 
  (IC.seq (IC.ops [I.mk none (some 57) (Ef.pr Pr.mv) [X.t 11], I.mk none (some 58) (Ef.pr (Pr.cm BinOp.neq)) [X.t 57, X.c (Value.int IntKind.i64 (-1))], I.mk none (some 59) (Ef.pr Pr.mv) [X.t 58], I.mk (some (59, false)) (some 60) (Ef.pr Pr.mv) [X.t 12], I.mk (some (59, false)) (some 61) (Ef.pr (Pr.cm BinOp.neq)) [X.t 60, X.c (Value.int IntKind.i64 2)], I.mk none (some 62) (Ef.pr Pr.pick) [X.t 59, X.c (Value.bool true), X.t 61], I.mk none (some 63) (Ef.pr Pr.mv) [X.t 62], I.mk (some (63, false)) (some 64) (Ef.pr Pr.mv) [X.t 5], I.mk (some (63, false)) (some 65) (Ef.call 41) [X.t 64], I.mk (some (63, false)) (some 66) (Ef.pr Pr.mv) [X.t 6], I.mk (some (63, false)) (some 67) (Ef.pr (Pr.cm BinOp.neq)) [X.t 65, X.t 66], I.mk none (some 68) (Ef.pr Pr.pick) [X.t 63, X.c (Value.bool true), X.t 67]]) 
  (IC.cond (X.t 68) 
  (IC.seq (IC.ops [I.mk none (some 4) (Ef.pr Pr.mv) [X.c (Value.bool false)]]) IC.ret) IC.skip)) 
  (IC.seq 
  (IC.seq (IC.ops [I.mk none (some 13) (Ef.pr Pr.mv) [X.c (Value.int IntKind.i64 0)]]) 
  (IC.block 4 
  (IC.loop 
  (IC.seq 
  (IC.seq (IC.ops [I.mk none (some 69) (Ef.pr Pr.mv) [X.t 13], I.mk none (some 70) (Ef.pr Pr.mv) [X.t 1], I.mk none (some 71) (Ef.pr Pr.lenS) [X.t 70], I.mk none (some 72) (Ef.pr (Pr.cm BinOp.lss)) [X.t 69, X.t 71]]) 
  (IC.cond (X.t 72) IC.skip (IC.exit 4))) 
  (IC.seq 
  (IC.block 5 (IC.ops [I.mk none (some 75) (Ef.pr Pr.mv) [X.t 5], I.mk none (some 76) (Ef.pr Pr.mv) [X.t 1], I.mk none (some 77) (Ef.pr Pr.mv) [X.t 13], I.mk none (some 78) (Ef.pr (Pr.iaS 1)) [X.t 76, X.t 77], I.mk none (some 79) (Ef.pr (Pr.ld 1 false)) [X.t 78], I.mk none (some 80) (Ef.call 42) [X.t 75, X.t 79]])) (IC.ops [I.mk none (some 73) (Ef.pr Pr.mv) [X.t 13], I.mk none (some 74) (Ef.pr (Pr.ar BinOp.add)) [X.t 73, X.c (Value.int IntKind.i64 1)], I.mk none (some 13) (Ef.pr Pr.mv) [X.t 74]])))))) 
  (IC.seq 
  (IC.seq (IC.ops [I.mk none (some 81) (Ef.pr Pr.mv) [X.t 5], I.mk none (some 82) (Ef.call 43) [X.t 81, X.c (Value.int IntKind.i64 0)], I.mk none (some 14) (Ef.pr Pr.mv) [X.t 82]]) 
  (IC.block 6 
  (IC.loop 
  (IC.seq 
  (IC.seq (IC.ops [I.mk none (some 83) (Ef.pr Pr.mv) [X.t 14], I.mk none (some 84) (Ef.pr (Pr.cm BinOp.geq)) [X.t 83, X.c (Value.int IntKind.i64 0)]]) 
  (IC.cond (X.t 84) IC.skip (IC.exit 6))) 
  (IC.seq 
  (IC.block 7 
  (IC.seq 
  (IC.seq (IC.ops [I.mk none (some 89) (Ef.pr Pr.mv) [X.t 14], I.mk none (some 90) (Ef.pr Pr.mv) [X.t 6], I.mk none (some 91) (Ef.pr (Pr.cm BinOp.geq)) [X.t 89, X.t 90]]) 
  (IC.cond (X.t 91) 
  (IC.seq (IC.ops [I.mk none (some 4) (Ef.pr Pr.mv) [X.c (Value.bool false)]]) IC.ret) IC.skip)) 
  (IC.seq (IC.ops [I.mk none (some 93) (Ef.pr Pr.mv) [X.t 5], I.mk none (some 94) (Ef.pr Pr.mv) [X.t 14], I.mk none (some 95) (Ef.call 42) [X.t 93, X.t 94], I.mk none (some 92) (Ef.pr Pr.mv) [X.t 95], I.mk none (some 96) (Ef.pr (Pr.ext 0)) [X.t 92], I.mk none (some 97) (Ef.pr (Pr.ext 1)) [X.t 92], I.mk none (some 15) (Ef.al [Value.string (ByteArray.mk (Array.mk [])), Value.int IntKind.i64 0, Value.int IntKind.i64 0]) [], I.mk none none (Ef.st 3) [X.t 15, X.t 96], I.mk none (some 16) (Ef.pr Pr.mv) [X.t 97]]) 
  (IC.seq (IC.plan (Plan.q (I.mk none (some 98) (Ef.pr Pr.mv) [X.t 16]) (Plan.q (I.mk none (some 99) (Ef.pr (Pr.un UnOp.not)) [X.t 98]) (Plan.q (I.mk none (some 100) (Ef.pr Pr.mv) [X.t 99]) (Plan.q (I.mk (some (100, false)) (some 101) (Ef.pr (Pr.ld 3 true)) [X.t 15]) (Plan.q (I.mk (some (100, false)) (some 102) (Ef.pr Pr.mv) [X.t 14]) (Plan.br (PlanL.cons true false (I.mk (some (100, false)) (some 103) (Ef.call 28) [X.t 102]) (Plan.q (I.mk (some (100, false)) (some 104) (Ef.pr (Pr.eq true (EqT.ag [(0, EqS.s), (1, EqS.i), (2, EqS.i)]))) [X.t 101, X.t 103]) (Plan.q (I.mk none (some 105) (Ef.pr Pr.pick) [X.t 100, X.c (Value.bool true), X.t 104]) Plan.done)) PlanL.nil)))))))) 
  (IC.cond (X.t 105) 
  (IC.seq (IC.ops [I.mk none (some 4) (Ef.pr Pr.mv) [X.c (Value.bool false)]]) IC.ret) IC.skip))))) (IC.ops [I.mk none (some 85) (Ef.pr Pr.mv) [X.t 5], I.mk none (some 86) (Ef.pr Pr.mv) [X.t 14], I.mk none (some 87) (Ef.pr (Pr.ar BinOp.add)) [X.t 86, X.c (Value.int IntKind.i64 1)], I.mk none (some 88) (Ef.call 43) [X.t 85, X.t 87], I.mk none (some 14) (Ef.pr Pr.mv) [X.t 88]])))))) 
  (IC.seq (IC.ops [I.mk none (some 106) (Ef.pr Pr.mv) [X.t 5], I.mk none (some 107) (Ef.call 41) [X.t 106], I.mk none (some 108) (Ef.pr (Pr.cm BinOp.neq)) [X.t 107, X.c (Value.int IntKind.i64 0)]]) 
  (IC.cond (X.t 108) 
  (IC.seq (IC.ops [I.mk none (some 4) (Ef.pr Pr.mv) [X.c (Value.bool false)]]) IC.ret) IC.skip)))))))) (IC.ops [I.mk none (some 29) (Ef.pr Pr.mv) [X.t 7], I.mk none (some 30) (Ef.pr (Pr.ar BinOp.add)) [X.t 29, X.c (Value.int IntKind.i64 1)], I.mk none (some 7) (Ef.pr Pr.mv) [X.t 30]])))))) 
  (IC.seq (IC.ops [I.mk none (some 4) (Ef.pr Pr.mv) [X.c (Value.bool true)]]) IC.ret)))))

theorem k6 : Go.Proofs.Try.f6.body.bind (comp Go.Proofs.Try.prog 109 [15] []) = some c6 := by kernel_rfl

theorem r6 : cRVs Go.Proofs.Try.prog Go.Proofs.Try.f6.results.toList = some [RV.t 4] := by kernel_rfl

theorem e6 {args : List Value} {h : Hp} {Q : Value → Hp → Prop} (hl : Nat.ble args.length 109 = true) (hk : codeK PR none c6 (retK Q [RV.t 4]) (fun _ _ _ _ => False) (retK Q [RV.t 4]) (argsE 0 args) [] h) : Ok PR 6 args h Q :=
  Ok.of mixed Go.Proofs.Try.func6 rfl k6 r6 hl hk

end Go.Proofs.Ytkmknolkblcbeaa.V
