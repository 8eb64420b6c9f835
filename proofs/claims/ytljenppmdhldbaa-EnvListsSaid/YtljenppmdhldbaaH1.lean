/- The functions 13, 14, 15, 16, 17, 18, 19, 20, 21, 22, 23, 24, 25, 26, 27, 28, 29, 30, 31, 32, 33, 34, 35, 36, 37, 38, 39, 40, 41, 42, 43, 44, 45, 46, 47, 48, 49, 50, 51, 52, 53, 54, 55, 56, 57, 58, 59, 60, 61, 62, 63, 64, 65, 66, 67, 68, 69, 70, 71, 90, 91, 92, 93, 94, 95, 96, 97, 98, 99, 100, resolved. -/
import Derived.Test.YtljenppmdhldbaaVP
namespace Go.Proofs.Ytljenppmdhldbaa.V
set_option linter.unusedVariables false
set_option linter.unusedSimpArgs false
set_option linter.unusedSectionVars false
open Go
set_option maxRecDepth 100000

def c13 : IC := IC.seq (IC.ops [I.mk none (some 0) (Ef.pr Pr.mv) [X.c (Value.pointer none)], I.mk none (some 1) (Ef.pr Pr.mv) [X.c (Value.pointer none)]]) 
  (IC.seq (IC.ops [I.mk none (some 9) (Ef.pr (Pr.bld [Value.bool false, Value.bool false, Value.bool false, Value.bool false, Value.bool false, Value.bool false, Value.bool false, Value.bool false, Value.bool false, Value.bool false, Value.bool false, Value.bool false, Value.bool false, Value.bool false, Value.bool false, Value.bool false, Value.int IntKind.i64 0, Value.int IntKind.i64 0, Value.int IntKind.i64 0, Value.int IntKind.i64 0, Value.int IntKind.i64 0, Value.int IntKind.i64 0, Value.int IntKind.i64 0, Value.int IntKind.i64 0, Value.int IntKind.i64 0, Value.int IntKind.i64 0, Value.int IntKind.i64 0, Value.int IntKind.i64 0, Value.int IntKind.i64 0, Value.int IntKind.i64 0, Value.int IntKind.i64 0, Value.int IntKind.i64 0, Value.int IntKind.i64 0, Value.int IntKind.i64 0, Value.int IntKind.i64 0, Value.int IntKind.i64 0, Value.int IntKind.i64 0, Value.int IntKind.i64 0, Value.int IntKind.i64 0, Value.int IntKind.i64 0, Value.int IntKind.i64 0, Value.int IntKind.i64 0, Value.int IntKind.i64 0, Value.int IntKind.i64 0, Value.int IntKind.i64 0, Value.int IntKind.i64 0, Value.int IntKind.i64 0, Value.int IntKind.i64 0, Value.int IntKind.i64 0, Value.int IntKind.i64 0, Value.int IntKind.i64 0, Value.int IntKind.i64 0, Value.int IntKind.i64 0, Value.int IntKind.i64 0, Value.int IntKind.i64 0, Value.int IntKind.i64 0, Value.int IntKind.i64 0, Value.int IntKind.i64 0, Value.int IntKind.i64 0, Value.int IntKind.i64 0, Value.int IntKind.i64 0, Value.int IntKind.i64 0, Value.int IntKind.i64 0, Value.int IntKind.i64 0, Value.int IntKind.i64 0] [(64, 1)])) [X.c (Value.int IntKind.i64 3)], I.mk none (some 10) (Ef.bxh 58) [X.t 9], I.mk none (some 2) (Ef.pr Pr.mv) [X.t 10]]) 
  (IC.seq (IC.ops [I.mk none (some 11) (Ef.pr (Pr.bld [Value.int IntKind.i64 0, Value.int IntKind.i64 0, Value.int IntKind.i64 0] [(0, 1), (1, 1), (2, 1)])) [X.c (Value.int IntKind.i64 40), X.c (Value.int IntKind.i64 24), X.c (Value.int IntKind.i64 8)], I.mk none (some 12) (Ef.call 55) [X.c (Value.int IntKind.i64 1), X.t 11], I.mk none (some 3) (Ef.pr Pr.mv) [X.t 12]]) 
  (IC.seq 
  (IC.seq (IC.ops [I.mk none (some 13) (Ef.pr Pr.mv) [X.t 3], I.mk none (some 14) (Ef.pr (Pr.eq false (EqT.one EqS.p))) [X.t 13, X.c (Value.pointer none)]]) 
  (IC.cond (X.t 14) 
  (IC.seq (IC.ops [I.mk none (some 15) (Ef.pr Pr.mv) [X.t 2], I.mk none (some 0) (Ef.pr Pr.mv) [X.c (Value.pointer none)], I.mk none (some 1) (Ef.pr Pr.mv) [X.t 15]]) IC.ret) IC.skip)) 
  (IC.seq (IC.ops [I.mk none (some 17) (Ef.pr Pr.mv) [X.t 3], I.mk none (some 18) (Ef.pr (Pr.bld [Value.int IntKind.i64 0, Value.int IntKind.i64 0, Value.int IntKind.i64 0] [(0, 1), (1, 1), (2, 1)])) [X.c (Value.int IntKind.i64 20), X.c (Value.int IntKind.i64 7), X.c (Value.int IntKind.i64 3)], I.mk none (some 19) (Ef.call 22) [X.t 17, X.c (Value.int IntKind.i64 0), X.c (Value.int IntKind.i64 2), X.t 18], I.mk none (some 16) (Ef.pr Pr.mv) [X.t 19], I.mk none (some 20) (Ef.pr (Pr.ext 0)) [X.t 16], I.mk none (some 21) (Ef.pr (Pr.ext 1)) [X.t 16], I.mk none (some 4) (Ef.pr Pr.mv) [X.t 20], I.mk none (some 5) (Ef.pr Pr.mv) [X.t 21]]) 
  (IC.seq (IC.ops [I.mk none (some 23) (Ef.pr Pr.mv) [X.t 3], I.mk none (some 24) (Ef.pr (Pr.bld [Value.int IntKind.i64 0, Value.int IntKind.i64 0, Value.int IntKind.i64 0] [(0, 1), (1, 1), (2, 1)])) [X.c (Value.int IntKind.i64 6), X.c (Value.int IntKind.i64 2), X.c (Value.int IntKind.i64 1)], I.mk none (some 25) (Ef.call 22) [X.t 23, X.c (Value.int IntKind.i64 1), X.c (Value.int IntKind.i64 3), X.t 24], I.mk none (some 22) (Ef.pr Pr.mv) [X.t 25], I.mk none (some 26) (Ef.pr (Pr.ext 0)) [X.t 22], I.mk none (some 27) (Ef.pr (Pr.ext 1)) [X.t 22], I.mk none (some 6) (Ef.pr Pr.mv) [X.t 26], I.mk none (some 7) (Ef.pr Pr.mv) [X.t 27]]) 
  (IC.seq 
  (IC.seq (IC.ops [I.mk none (some 28) (Ef.pr Pr.mv) [X.t 4], I.mk none (some 29) (Ef.pr (Pr.cm BinOp.neq)) [X.t 28, X.c (Value.int IntKind.i64 1)], I.mk none (some 30) (Ef.pr Pr.mv) [X.t 29], I.mk (some (30, false)) (some 31) (Ef.pr Pr.mv) [X.t 6], I.mk (some (30, false)) (some 32) (Ef.pr (Pr.cm BinOp.neq)) [X.t 31, X.c (Value.int IntKind.i64 2)], I.mk none (some 33) (Ef.pr Pr.pick) [X.t 30, X.c (Value.bool true), X.t 32], I.mk none (some 34) (Ef.pr Pr.mv) [X.t 33], I.mk (some (34, false)) (some 35) (Ef.pr Pr.mv) [X.t 5], I.mk (some (34, false)) (some 36) (Ef.pr (Pr.cm BinOp.neq)) [X.t 35, X.c (Value.int IntKind.i64 0)], I.mk none (some 37) (Ef.pr Pr.pick) [X.t 34, X.c (Value.bool true), X.t 36], I.mk none (some 38) (Ef.pr Pr.mv) [X.t 37], I.mk (some (38, false)) (some 39) (Ef.pr Pr.mv) [X.t 7], I.mk (some (38, false)) (some 40) (Ef.pr (Pr.cm BinOp.neq)) [X.t 39, X.c (Value.int IntKind.i64 0)], I.mk none (some 41) (Ef.pr Pr.pick) [X.t 38, X.c (Value.bool true), X.t 40]]) 
  (IC.cond (X.t 41) 
  (IC.seq (IC.ops [I.mk none (some 42) (Ef.pr Pr.mv) [X.t 2], I.mk none (some 0) (Ef.pr Pr.mv) [X.c (Value.pointer none)], I.mk none (some 1) (Ef.pr Pr.mv) [X.t 42]]) IC.ret) IC.skip)) 
  (IC.seq 
  (IC.seq (IC.ops [I.mk none (some 8) (Ef.pr Pr.mv) [X.c (Value.int IntKind.i64 0)]]) 
  (IC.block 0 
  (IC.loop 
  (IC.seq 
  (IC.seq (IC.ops [I.mk none (some 43) (Ef.pr Pr.mv) [X.t 8], I.mk none (some 44) (Ef.pr (Pr.cm BinOp.lss)) [X.t 43, X.c (Value.int IntKind.i64 3)]]) 
  (IC.cond (X.t 44) IC.skip (IC.exit 0))) 
  (IC.seq 
  (IC.block 1 (IC.ops [I.mk none (some 47) (Ef.pr Pr.mv) [X.t 2], I.mk none (some 48) (Ef.pr Pr.mv) [X.t 8], I.mk none (some 49) (Ef.pr Pr.nilc) [X.t 47], I.mk none (some 50) (Ef.pr (Pr.fa 0)) [X.t 49], I.mk none (some 51) (Ef.pr (Pr.iaA 16 1)) [X.t 50, X.t 48], I.mk none none (Ef.st 1) [X.t 51, X.c (Value.bool true)]])) (IC.ops [I.mk none (some 45) (Ef.pr Pr.mv) [X.t 8], I.mk none (some 46) (Ef.pr (Pr.ar BinOp.add)) [X.t 45, X.c (Value.int IntKind.i64 1)], I.mk none (some 8) (Ef.pr Pr.mv) [X.t 46]])))))) 
  (IC.seq (IC.ops [I.mk none (some 52) (Ef.pr Pr.mv) [X.t 3], I.mk none (some 53) (Ef.pr Pr.mv) [X.t 2], I.mk none (some 0) (Ef.pr Pr.mv) [X.t 52], I.mk none (some 1) (Ef.pr Pr.mv) [X.t 53]]) IC.ret))))))))

theorem k13 : Go.Proofs.Try.f13.body.bind (comp Go.Proofs.Try.prog 54 [] []) = some c13 := by kernel_rfl

theorem r13 : cRVs Go.Proofs.Try.prog Go.Proofs.Try.f13.results.toList = some [RV.t 0, RV.t 1] := by kernel_rfl

theorem e13 {args : List Value} {h : Hp} {Q : Value → Hp → Prop} (hl : Nat.ble args.length 54 = true) (hk : codeK PR none c13 (retK Q [RV.t 0, RV.t 1]) (fun _ _ _ _ => False) (retK Q [RV.t 0, RV.t 1]) (argsE 0 args) [] h) : Ok PR 13 args h Q :=
  Ok.of mixed Go.Proofs.Try.func13 rfl k13 r13 hl hk

def c14 : IC := IC.seq (IC.ops [I.mk none (some 8) (Ef.pr Pr.mv) [X.c (Value.int IntKind.i64 0)]]) 
  (IC.seq (IC.ops [I.mk none (some 10) (Ef.pr Pr.mv) [X.t 0], I.mk none (some 11) (Ef.pr Pr.nilc) [X.t 10], I.mk none (some 12) (Ef.pr (Pr.fa 0)) [X.t 11], I.mk none (some 13) (Ef.pr (Pr.ld 1 true)) [X.t 12], I.mk none (some 14) (Ef.pr Pr.mv) [X.t 1], I.mk none (some 15) (Ef.call 56) [X.t 13, X.t 14], I.mk none (some 9) (Ef.pr Pr.mv) [X.t 15]]) 
  (IC.seq 
  (IC.seq (IC.ops [I.mk none (some 16) (Ef.pr Pr.mv) [X.t 9], I.mk none (some 17) (Ef.pr (Pr.eq false (EqT.one EqS.p))) [X.t 16, X.c (Value.pointer none)]]) 
  (IC.cond (X.t 17) 
  (IC.seq (IC.ops [I.mk none (some 8) (Ef.pr Pr.mv) [X.c (Value.int IntKind.i64 90)]]) IC.ret) IC.skip)) 
  (IC.seq 
  (IC.seq (IC.ops [I.mk none (some 18) (Ef.pr Pr.mv) [X.t 2], I.mk none (some 19) (Ef.pr (Pr.cm BinOp.lss)) [X.t 18, X.c (Value.int IntKind.i64 0)], I.mk none (some 20) (Ef.pr Pr.mv) [X.t 19], I.mk (some (20, false)) (some 21) (Ef.pr Pr.mv) [X.t 2], I.mk (some (20, false)) (some 22) (Ef.pr (Pr.cm BinOp.gtr)) [X.t 21, X.c (Value.int IntKind.i64 4)], I.mk none (some 23) (Ef.pr Pr.pick) [X.t 20, X.c (Value.bool true), X.t 22], I.mk none (some 24) (Ef.pr Pr.mv) [X.t 23], I.mk (some (24, false)) (some 25) (Ef.pr Pr.mv) [X.t 3], I.mk (some (24, false)) (some 26) (Ef.call 57) [X.t 25], I.mk (some (24, false)) (some 27) (Ef.pr (Pr.un UnOp.not)) [X.t 26], I.mk none (some 28) (Ef.pr Pr.pick) [X.t 24, X.c (Value.bool true), X.t 27]]) 
  (IC.cond (X.t 28) 
  (IC.seq (IC.ops [I.mk none (some 8) (Ef.pr Pr.mv) [X.c (Value.int IntKind.i64 1)]]) IC.ret) IC.skip)) 
  (IC.seq (IC.ops [I.mk none (some 29) (Ef.pr Pr.mv) [X.t 9], I.mk none (some 30) (Ef.pr Pr.mv) [X.t 9], I.mk none (some 31) (Ef.pr Pr.mv) [X.t 2], I.mk none (some 32) (Ef.pr Pr.mv) [X.t 3], I.mk none (some 33) (Ef.pr Pr.nilc) [X.t 29], I.mk none (some 34) (Ef.pr (Pr.fa 0)) [X.t 33], I.mk none (some 35) (Ef.pr (Pr.fa 2)) [X.t 34], I.mk none none (Ef.st 1) [X.t 35, X.t 31], I.mk none (some 36) (Ef.pr Pr.nilc) [X.t 30], I.mk none (some 37) (Ef.pr (Pr.fa 0)) [X.t 36], I.mk none (some 38) (Ef.pr (Pr.fa 3)) [X.t 37], I.mk none none (Ef.st 1) [X.t 38, X.t 32]]) 
  (IC.seq (IC.ops [I.mk none (some 8) (Ef.pr Pr.mv) [X.c (Value.int IntKind.i64 0)]]) IC.ret)))))

theorem k14 : Go.Proofs.Try.f14.body.bind (comp Go.Proofs.Try.prog 39 [] []) = some c14 := by kernel_rfl

theorem r14 : cRVs Go.Proofs.Try.prog Go.Proofs.Try.f14.results.toList = some [RV.t 8] := by kernel_rfl

theorem e14 {args : List Value} {h : Hp} {Q : Value → Hp → Prop} (hl : Nat.ble args.length 39 = true) (hk : codeK PR none c14 (retK Q [RV.t 8]) (fun _ _ _ _ => False) (retK Q [RV.t 8]) (argsE 0 args) [] h) : Ok PR 14 args h Q :=
  Ok.of mixed Go.Proofs.Try.func14 rfl k14 r14 hl hk

def c15 : IC := IC.seq (IC.ops [I.mk none (some 5) Ef.bx [X.t 2], I.mk none (some 6) (Ef.pr Pr.mv) [X.c (Value.int IntKind.i64 0)]]) 
  (IC.seq (IC.ops [I.mk none (some 8) (Ef.pr Pr.mv) [X.t 0], I.mk none (some 9) (Ef.pr Pr.nilc) [X.t 8], I.mk none (some 10) (Ef.pr (Pr.fa 0)) [X.t 9], I.mk none (some 11) (Ef.pr (Pr.ld 1 true)) [X.t 10], I.mk none (some 12) (Ef.pr Pr.mv) [X.t 1], I.mk none (some 13) (Ef.call 56) [X.t 11, X.t 12], I.mk none (some 7) (Ef.pr Pr.mv) [X.t 13]]) 
  (IC.seq 
  (IC.seq (IC.ops [I.mk none (some 14) (Ef.pr Pr.mv) [X.t 7], I.mk none (some 15) (Ef.pr (Pr.eq false (EqT.one EqS.p))) [X.t 14, X.c (Value.pointer none)]]) 
  (IC.cond (X.t 15) 
  (IC.seq (IC.ops [I.mk none (some 6) (Ef.pr Pr.mv) [X.c (Value.int IntKind.i64 90)]]) IC.ret) IC.skip)) 
  (IC.seq (IC.ops [I.mk none (some 16) (Ef.pr Pr.mv) [X.t 7], I.mk none (some 17) (Ef.pr (Pr.ld 9 true)) [X.t 5], I.mk none (some 18) (Ef.pr Pr.nilc) [X.t 16], I.mk none (some 19) (Ef.pr (Pr.fa 0)) [X.t 18], I.mk none (some 20) (Ef.pr (Pr.fa 6)) [X.t 19], I.mk none none (Ef.st 9) [X.t 20, X.t 17]]) 
  (IC.seq (IC.ops [I.mk none (some 6) (Ef.pr Pr.mv) [X.c (Value.int IntKind.i64 0)]]) IC.ret))))

theorem k15 : Go.Proofs.Try.f15.body.bind (comp Go.Proofs.Try.prog 21 [5] []) = some c15 := by kernel_rfl

theorem r15 : cRVs Go.Proofs.Try.prog Go.Proofs.Try.f15.results.toList = some [RV.t 6] := by kernel_rfl

theorem e15 {args : List Value} {h : Hp} {Q : Value → Hp → Prop} (hl : Nat.ble args.length 21 = true) (hk : codeK PR none c15 (retK Q [RV.t 6]) (fun _ _ _ _ => False) (retK Q [RV.t 6]) (argsE 0 args) [] h) : Ok PR 15 args h Q :=
  Ok.of mixed Go.Proofs.Try.func15 rfl k15 r15 hl hk

def c16 : IC := IC.seq (IC.ops [I.mk none (some 4) (Ef.pr Pr.mv) [X.c (Value.int IntKind.i64 0)], I.mk none (some 5) (Ef.pr Pr.mv) [X.c (Value.int IntKind.i64 0)]]) 
  (IC.seq (IC.ops [I.mk none (some 8) (Ef.pr Pr.mv) [X.t 0], I.mk none (some 9) (Ef.pr Pr.nilc) [X.t 8], I.mk none (some 10) (Ef.pr (Pr.fa 0)) [X.t 9], I.mk none (some 11) (Ef.pr (Pr.ld 1 true)) [X.t 10], I.mk none (some 12) (Ef.pr Pr.mv) [X.t 1], I.mk none (some 13) (Ef.call 56) [X.t 11, X.t 12], I.mk none (some 6) (Ef.pr Pr.mv) [X.t 13]]) 
  (IC.seq 
  (IC.seq (IC.ops [I.mk none (some 14) (Ef.pr Pr.mv) [X.t 6], I.mk none (some 15) (Ef.pr (Pr.eq false (EqT.one EqS.p))) [X.t 14, X.c (Value.pointer none)]]) 
  (IC.cond (X.t 15) 
  (IC.seq (IC.ops [I.mk none (some 4) (Ef.pr Pr.mv) [X.c (Value.int IntKind.i64 0)], I.mk none (some 5) (Ef.pr Pr.mv) [X.c (Value.int IntKind.i64 90)]]) IC.ret) IC.skip)) 
  (IC.seq (IC.ops [I.mk none (some 16) (Ef.pr Pr.mv) [X.t 6], I.mk none (some 17) (Ef.pr Pr.nilc) [X.t 16], I.mk none (some 18) (Ef.pr (Pr.fa 0)) [X.t 17], I.mk none (some 19) (Ef.pr (Pr.fa 4)) [X.t 18], I.mk none (some 20) (Ef.pr (Pr.ld 1 false)) [X.t 19], I.mk none (some 7) (Ef.pr Pr.mv) [X.t 20]]) 
  (IC.seq (IC.ops [I.mk none (some 21) (Ef.pr Pr.mv) [X.t 6], I.mk none (some 22) (Ef.pr Pr.nilc) [X.t 21], I.mk none (some 23) (Ef.pr (Pr.fa 0)) [X.t 22], I.mk none (some 24) (Ef.pr (Pr.fa 4)) [X.t 23], I.mk none none (Ef.st 1) [X.t 24, X.c (Value.int IntKind.i64 0)]]) 
  (IC.seq 
  (IC.seq (IC.ops [I.mk none (some 25) (Ef.pr Pr.mv) [X.t 7], I.mk none (some 26) (Ef.pr (Pr.cm BinOp.eql)) [X.t 25, X.c (Value.int IntKind.i64 0)]]) 
  (IC.cond (X.t 26) (IC.ops [I.mk none (some 27) (Ef.pr Pr.mv) [X.t 6], I.mk none (some 28) (Ef.pr Pr.nilc) [X.t 27], I.mk none (some 29) (Ef.pr (Pr.fa 0)) [X.t 28], I.mk none (some 30) (Ef.pr (Pr.fa 2)) [X.t 29], I.mk none none (Ef.st 1) [X.t 30, X.c (Value.int IntKind.i64 2)]]) IC.skip)) 
  (IC.seq (IC.ops [I.mk none (some 31) (Ef.pr Pr.mv) [X.t 7], I.mk none (some 4) (Ef.pr Pr.mv) [X.t 31], I.mk none (some 5) (Ef.pr Pr.mv) [X.c (Value.int IntKind.i64 0)]]) IC.ret))))))

theorem k16 : Go.Proofs.Try.f16.body.bind (comp Go.Proofs.Try.prog 32 [] []) = some c16 := by kernel_rfl

theorem r16 : cRVs Go.Proofs.Try.prog Go.Proofs.Try.f16.results.toList = some [RV.t 4, RV.t 5] := by kernel_rfl

theorem e16 {args : List Value} {h : Hp} {Q : Value → Hp → Prop} (hl : Nat.ble args.length 32 = true) (hk : codeK PR none c16 (retK Q [RV.t 4, RV.t 5]) (fun _ _ _ _ => False) (retK Q [RV.t 4, RV.t 5]) (argsE 0 args) [] h) : Ok PR 16 args h Q :=
  Ok.of mixed Go.Proofs.Try.func16 rfl k16 r16 hl hk

def c17 : IC := IC.seq (IC.ops [I.mk none (some 4) (Ef.pr Pr.mv) [X.c (Value.bool false)]]) 
  (IC.seq (IC.ops [I.mk none (some 6) (Ef.pr Pr.mv) [X.t 0], I.mk none (some 7) (Ef.pr Pr.nilc) [X.t 6], I.mk none (some 8) (Ef.pr (Pr.fa 0)) [X.t 7], I.mk none (some 9) (Ef.pr (Pr.ld 1 true)) [X.t 8], I.mk none (some 10) (Ef.pr Pr.mv) [X.t 1], I.mk none (some 11) (Ef.call 56) [X.t 9, X.t 10], I.mk none (some 5) (Ef.pr Pr.mv) [X.t 11]]) 
  (IC.seq 
  (IC.seq (IC.ops [I.mk none (some 12) (Ef.pr Pr.mv) [X.t 5], I.mk none (some 13) (Ef.pr (Pr.eq false (EqT.one EqS.p))) [X.t 12, X.c (Value.pointer none)], I.mk none (some 14) (Ef.pr Pr.mv) [X.t 13], I.mk (some (14, false)) (some 15) (Ef.pr Pr.mv) [X.t 5], I.mk (some (14, false)) (some 16) (Ef.pr Pr.nilc) [X.t 15], I.mk (some (14, false)) (some 17) (Ef.pr (Pr.fa 0)) [X.t 16], I.mk (some (14, false)) (some 18) (Ef.pr (Pr.fa 2)) [X.t 17], I.mk (some (14, false)) (some 19) (Ef.pr (Pr.ld 1 false)) [X.t 18], I.mk (some (14, false)) (some 20) (Ef.pr (Pr.cm BinOp.neq)) [X.t 19, X.c (Value.int IntKind.i64 1)], I.mk none (some 21) (Ef.pr Pr.pick) [X.t 14, X.c (Value.bool true), X.t 20]]) 
  (IC.cond (X.t 21) 
  (IC.seq (IC.ops [I.mk none (some 4) (Ef.pr Pr.mv) [X.c (Value.bool false)]]) IC.ret) IC.skip)) 
  (IC.seq 
  (IC.block 0 
  (IC.loop 
  (IC.seq 
  (IC.seq (IC.ops [I.mk none (some 22) (Ef.pr Pr.mv) [X.t 5], I.mk none (some 23) (Ef.pr (Pr.eq true (EqT.one EqS.p))) [X.t 22, X.c (Value.pointer none)]]) 
  (IC.cond (X.t 23) IC.skip (IC.exit 0))) 
  (IC.seq 
  (IC.block 1 
  (IC.seq (IC.ops [I.mk none (some 34) (Ef.pr Pr.mv) [X.t 5], I.mk none (some 35) (Ef.pr Pr.nilc) [X.t 34], I.mk none (some 36) (Ef.pr (Pr.fa 0)) [X.t 35], I.mk none (some 37) (Ef.pr (Pr.fa 5)) [X.t 36], I.mk none (some 38) (Ef.pr (Pr.ld 1 false)) [X.t 37]]) 
  (IC.cond (X.t 38) 
  (IC.seq (IC.ops [I.mk none (some 4) (Ef.pr Pr.mv) [X.c (Value.bool false)]]) IC.ret) IC.skip))) (IC.plan (Plan.q (I.mk none (some 24) (Ef.pr Pr.mv) [X.t 0]) (Plan.q (I.mk none (some 25) (Ef.pr Pr.nilc) [X.t 24]) (Plan.q (I.mk none (some 26) (Ef.pr (Pr.fa 0)) [X.t 25]) (Plan.q (I.mk none (some 27) (Ef.pr (Pr.ld 1 true)) [X.t 26]) (Plan.q (I.mk none (some 28) (Ef.pr Pr.mv) [X.t 5]) (Plan.q (I.mk none (some 29) (Ef.pr Pr.nilc) [X.t 28]) (Plan.q (I.mk none (some 30) (Ef.pr (Pr.fa 0)) [X.t 29]) (Plan.q (I.mk none (some 31) (Ef.pr (Pr.fa 1)) [X.t 30]) (Plan.q (I.mk none (some 32) (Ef.pr (Pr.ld 1 false)) [X.t 31]) (Plan.br (PlanL.cons false false (I.mk none (some 33) (Ef.call 56) [X.t 27, X.t 32]) (Plan.q (I.mk none (some 5) (Ef.pr Pr.mv) [X.t 33]) Plan.done) PlanL.nil)))))))))))))))) 
  (IC.seq (IC.ops [I.mk none (some 4) (Ef.pr Pr.mv) [X.c (Value.bool true)]]) IC.ret))))

theorem k17 : Go.Proofs.Try.f17.body.bind (comp Go.Proofs.Try.prog 39 [] []) = some c17 := by kernel_rfl

theorem r17 : cRVs Go.Proofs.Try.prog Go.Proofs.Try.f17.results.toList = some [RV.t 4] := by kernel_rfl

theorem e17 {args : List Value} {h : Hp} {Q : Value → Hp → Prop} (hl : Nat.ble args.length 39 = true) (hk : codeK PR none c17 (retK Q [RV.t 4]) (fun _ _ _ _ => False) (retK Q [RV.t 4]) (argsE 0 args) [] h) : Ok PR 17 args h Q :=
  Ok.of mixed Go.Proofs.Try.func17 rfl k17 r17 hl hk

def c18 : IC := IC.seq (IC.ops [I.mk none (some 6) (Ef.pr Pr.mv) [X.c (Value.int IntKind.i64 0)]]) 
  (IC.seq (IC.ops [I.mk none (some 8) (Ef.pr Pr.mv) [X.t 0], I.mk none (some 9) (Ef.pr Pr.nilc) [X.t 8], I.mk none (some 10) (Ef.pr (Pr.fa 0)) [X.t 9], I.mk none (some 11) (Ef.pr (Pr.ld 1 true)) [X.t 10], I.mk none (some 12) (Ef.pr Pr.mv) [X.t 1], I.mk none (some 13) (Ef.call 56) [X.t 11, X.t 12], I.mk none (some 7) (Ef.pr Pr.mv) [X.t 13]]) 
  (IC.seq 
  (IC.seq (IC.ops [I.mk none (some 14) (Ef.pr Pr.mv) [X.t 7], I.mk none (some 15) (Ef.pr (Pr.eq false (EqT.one EqS.p))) [X.t 14, X.c (Value.pointer none)]]) 
  (IC.cond (X.t 15) 
  (IC.seq (IC.ops [I.mk none (some 6) (Ef.pr Pr.mv) [X.c (Value.int IntKind.i64 90)]]) IC.ret) IC.skip)) 
  (IC.seq 
  (IC.seq (IC.ops [I.mk none (some 16) (Ef.pr Pr.mv) [X.t 2], I.mk none (some 17) (Ef.call 57) [X.t 16], I.mk none (some 18) (Ef.pr (Pr.un UnOp.not)) [X.t 17]]) 
  (IC.cond (X.t 18) 
  (IC.seq (IC.ops [I.mk none (some 6) (Ef.pr Pr.mv) [X.c (Value.int IntKind.i64 1)]]) IC.ret) IC.skip)) 
  (IC.seq (IC.ops [I.mk none (some 19) (Ef.pr Pr.mv) [X.t 7], I.mk none (some 20) (Ef.pr Pr.nilc) [X.t 19], I.mk none (some 21) (Ef.pr (Pr.fa 0)) [X.t 20], I.mk none (some 22) (Ef.pr (Pr.fa 4)) [X.t 21], I.mk none (some 23) (Ef.pr (Pr.ld 1 false)) [X.t 22], I.mk none (some 24) (Ef.pr Pr.mv) [X.t 2], I.mk none (some 25) (Ef.pr (Pr.bt BinOp.or)) [X.t 23, X.t 24], I.mk none (some 26) (Ef.pr Pr.nilc) [X.t 19], I.mk none (some 27) (Ef.pr (Pr.fa 0)) [X.t 26], I.mk none (some 28) (Ef.pr (Pr.fa 4)) [X.t 27], I.mk none none (Ef.st 1) [X.t 28, X.t 25]]) 
  (IC.seq 
  (IC.seq (IC.ops [I.mk none (some 29) (Ef.pr Pr.mv) [X.t 7], I.mk none (some 30) (Ef.pr Pr.nilc) [X.t 29], I.mk none (some 31) (Ef.pr (Pr.fa 0)) [X.t 30], I.mk none (some 32) (Ef.pr (Pr.fa 2)) [X.t 31], I.mk none (some 33) (Ef.pr (Pr.ld 1 false)) [X.t 32], I.mk none (some 34) (Ef.pr (Pr.cm BinOp.eql)) [X.t 33, X.c (Value.int IntKind.i64 2)], I.mk none (some 35) (Ef.pr Pr.mv) [X.t 34], I.mk (some (35, true)) (some 36) (Ef.pr Pr.mv) [X.t 7], I.mk (some (35, true)) (some 37) (Ef.pr Pr.nilc) [X.t 36], I.mk (some (35, true)) (some 38) (Ef.pr (Pr.fa 0)) [X.t 37], I.mk (some (35, true)) (some 39) (Ef.pr (Pr.fa 4)) [X.t 38], I.mk (some (35, true)) (some 40) (Ef.pr (Pr.ld 1 false)) [X.t 39], I.mk (some (35, true)) (some 41) (Ef.pr (Pr.cm BinOp.neq)) [X.t 40, X.c (Value.int IntKind.i64 0)], I.mk none (some 42) (Ef.pr Pr.pick) [X.t 35, X.t 41, X.c (Value.bool false)]]) 
  (IC.cond (X.t 42) 
  (IC.seq (IC.ops [I.mk none (some 43) (Ef.pr Pr.mv) [X.t 7], I.mk none (some 44) (Ef.pr Pr.nilc) [X.t 43], I.mk none (some 45) (Ef.pr (Pr.fa 0)) [X.t 44], I.mk none (some 46) (Ef.pr (Pr.fa 2)) [X.t 45], I.mk none none (Ef.st 1) [X.t 46, X.c (Value.int IntKind.i64 1)]]) 
  (IC.seq (IC.plan (Plan.q (I.mk none (some 47) (Ef.pr Pr.mv) [X.t 7]) (Plan.q (I.mk none (some 48) (Ef.pr Pr.mv) [X.t 7]) (Plan.q (I.mk none (some 49) (Ef.pr Pr.mv) [X.t 7]) (Plan.q (I.mk none (some 50) (Ef.pr Pr.nilc) [X.t 49]) (Plan.q (I.mk none (some 51) (Ef.pr (Pr.fa 0)) [X.t 50]) (Plan.q (I.mk none (some 52) (Ef.pr (Pr.fa 4)) [X.t 51]) (Plan.q (I.mk none (some 53) (Ef.pr (Pr.ld 1 false)) [X.t 52]) (Plan.q (I.mk none (some 54) (Ef.pr (Pr.cv IntKind.u32)) [X.t 53]) (Plan.q (I.mk none (some 55) (Ef.pr Pr.nilc) [X.t 47]) (Plan.q (I.mk none (some 56) (Ef.pr (Pr.fa 0)) [X.t 55]) (Plan.q (I.mk none (some 57) (Ef.pr (Pr.fa 6)) [X.t 56]) (Plan.q (I.mk none (some 58) (Ef.pr (Pr.fa 0)) [X.t 57]) (Plan.q (I.mk none (some 59) (Ef.pr (Pr.iaA 8 1)) [X.t 58, X.c (Value.int IntKind.i64 0)]) (Plan.q (I.mk none (some 60) (Ef.pr Pr.nilc) [X.t 48]) (Plan.q (I.mk none (some 61) (Ef.pr (Pr.fa 0)) [X.t 60]) (Plan.q (I.mk none (some 62) (Ef.pr (Pr.fa 6)) [X.t 61]) (Plan.q (I.mk none (some 63) (Ef.pr (Pr.fa 0)) [X.t 62]) (Plan.br (PlanL.cons false false (I.mk none none (Ef.st 1) [X.t 59, X.c (Value.int IntKind.u32 0)]) (Plan.q (I.mk none (some 64) (Ef.pr (Pr.iaA 8 1)) [X.t 63, X.c (Value.int IntKind.i64 1)]) (Plan.br (PlanL.cons false false (I.mk none none (Ef.st 1) [X.t 64, X.t 54]) Plan.done PlanL.nil))) PlanL.nil)))))))))))))))))))) (IC.ops [I.mk none (some 65) (Ef.pr Pr.mv) [X.t 7], I.mk none (some 66) (Ef.pr Pr.nilc) [X.t 65], I.mk none (some 67) (Ef.pr (Pr.fa 0)) [X.t 66], I.mk none (some 68) (Ef.pr (Pr.fa 4)) [X.t 67], I.mk none none (Ef.st 1) [X.t 68, X.c (Value.int IntKind.i64 0)]]))) IC.skip)) 
  (IC.seq (IC.ops [I.mk none (some 6) (Ef.pr Pr.mv) [X.c (Value.int IntKind.i64 0)]]) IC.ret))))))

theorem k18 : Go.Proofs.Try.f18.body.bind (comp Go.Proofs.Try.prog 69 [] []) = some c18 := by kernel_rfl

theorem r18 : cRVs Go.Proofs.Try.prog Go.Proofs.Try.f18.results.toList = some [RV.t 6] := by kernel_rfl

theorem e18 {args : List Value} {h : Hp} {Q : Value → Hp → Prop} (hl : Nat.ble args.length 69 = true) (hk : codeK PR none c18 (retK Q [RV.t 6]) (fun _ _ _ _ => False) (retK Q [RV.t 6]) (argsE 0 args) [] h) : Ok PR 18 args h Q :=
  Ok.of mixed Go.Proofs.Try.func18 rfl k18 r18 hl hk

def c19 : IC := IC.seq (IC.ops [I.mk none (some 4) (Ef.al [Value.int IntKind.i64 0, Value.int IntKind.i64 0, Value.int IntKind.i64 0, Value.int IntKind.i64 0, Value.int IntKind.i64 0, Value.bool false, Value.int IntKind.u32 0, Value.int IntKind.u32 0, Value.int IntKind.u32 0, Value.int IntKind.u32 0, Value.int IntKind.u32 0, Value.int IntKind.u32 0, Value.int IntKind.u32 0, Value.int IntKind.u32 0, Value.int IntKind.u32 0, Value.int IntKind.i64 0, Value.int IntKind.i64 0, Value.int IntKind.i64 0, Value.int IntKind.i64 0, Value.int IntKind.i64 0, Value.int IntKind.i64 0]) [], I.mk none (some 5) (Ef.pr Pr.mv) [X.c (Value.int IntKind.i64 0)]]) 
  (IC.seq (IC.ops [I.mk none (some 8) (Ef.pr Pr.mv) [X.t 0], I.mk none (some 9) (Ef.pr Pr.nilc) [X.t 8], I.mk none (some 10) (Ef.pr (Pr.fa 0)) [X.t 9], I.mk none (some 11) (Ef.pr (Pr.ld 1 true)) [X.t 10], I.mk none (some 12) (Ef.pr Pr.mv) [X.t 1], I.mk none (some 13) (Ef.call 56) [X.t 11, X.t 12], I.mk none (some 6) (Ef.pr Pr.mv) [X.t 13]]) 
  (IC.seq 
  (IC.seq (IC.ops [I.mk none (some 14) (Ef.pr Pr.mv) [X.t 6], I.mk none (some 15) (Ef.pr (Pr.eq false (EqT.one EqS.p))) [X.t 14, X.c (Value.pointer none)]]) 
  (IC.cond (X.t 15) 
  (IC.seq (IC.ops [I.mk none (some 16) (Ef.pr (Pr.bld [Value.int IntKind.i64 0, Value.int IntKind.i64 0, Value.int IntKind.i64 0, Value.int IntKind.i64 0, Value.int IntKind.i64 0, Value.bool false, Value.int IntKind.u32 0, Value.int IntKind.u32 0, Value.int IntKind.u32 0, Value.int IntKind.u32 0, Value.int IntKind.u32 0, Value.int IntKind.u32 0, Value.int IntKind.u32 0, Value.int IntKind.u32 0, Value.int IntKind.u32 0, Value.int IntKind.i64 0, Value.int IntKind.i64 0, Value.int IntKind.i64 0, Value.int IntKind.i64 0, Value.int IntKind.i64 0, Value.int IntKind.i64 0] [])) [], I.mk none none (Ef.st 21) [X.t 4, X.t 16], I.mk none (some 5) (Ef.pr Pr.mv) [X.c (Value.int IntKind.i64 90)]]) IC.ret) IC.skip)) 
  (IC.seq (IC.ops [I.mk none (some 17) (Ef.pr Pr.mv) [X.t 6], I.mk none (some 18) (Ef.pr Pr.nilc) [X.t 17], I.mk none (some 19) (Ef.pr (Pr.fa 0)) [X.t 18], I.mk none (some 20) (Ef.pr (Pr.ld 21 true)) [X.t 19], I.mk none (some 7) (Ef.al [Value.int IntKind.i64 0, Value.int IntKind.i64 0, Value.int IntKind.i64 0, Value.int IntKind.i64 0, Value.int IntKind.i64 0, Value.bool false, Value.int IntKind.u32 0, Value.int IntKind.u32 0, Value.int IntKind.u32 0, Value.int IntKind.u32 0, Value.int IntKind.u32 0, Value.int IntKind.u32 0, Value.int IntKind.u32 0, Value.int IntKind.u32 0, Value.int IntKind.u32 0, Value.int IntKind.i64 0, Value.int IntKind.i64 0, Value.int IntKind.i64 0, Value.int IntKind.i64 0, Value.int IntKind.i64 0, Value.int IntKind.i64 0]) [], I.mk none none (Ef.st 21) [X.t 7, X.t 20]]) 
  (IC.seq (IC.plan (Plan.q (I.mk none (some 21) (Ef.pr Pr.mv) [X.t 6]) (Plan.q (I.mk none (some 22) (Ef.pr Pr.nilc) [X.t 21]) (Plan.q (I.mk none (some 23) (Ef.pr (Pr.fa 21)) [X.t 22]) (Plan.q (I.mk none (some 24) (Ef.pr (Pr.fa 0)) [X.t 23]) (Plan.q (I.mk none (some 25) (Ef.pr (Pr.ld 3 true)) [X.t 24]) (Plan.q (I.mk none (some 26) (Ef.pr Pr.mv) [X.t 6]) (Plan.q (I.mk none (some 27) (Ef.pr Pr.nilc) [X.t 26]) (Plan.q (I.mk none (some 28) (Ef.pr (Pr.fa 21)) [X.t 27]) (Plan.q (I.mk none (some 30) (Ef.pr (Pr.fa 15)) [X.t 7]) (Plan.br (PlanL.cons true false (I.mk none (some 29) (Ef.call 58) [X.t 28]) (Plan.br (PlanL.cons false false (I.mk none none (Ef.st 3) [X.t 30, X.t 25]) (Plan.q (I.mk none (some 31) (Ef.pr (Pr.fa 18)) [X.t 7]) (Plan.br (PlanL.cons false false (I.mk none none (Ef.st 3) [X.t 31, X.t 29]) Plan.done PlanL.nil))) PlanL.nil)) PlanL.nil)))))))))))) 
  (IC.seq (IC.ops [I.mk none (some 32) (Ef.pr (Pr.ld 21 true)) [X.t 7], I.mk none none (Ef.st 21) [X.t 4, X.t 32], I.mk none (some 5) (Ef.pr Pr.mv) [X.c (Value.int IntKind.i64 0)]]) IC.ret)))))

theorem k19 : Go.Proofs.Try.f19.body.bind (comp Go.Proofs.Try.prog 33 [4, 7] []) = some c19 := by kernel_rfl

theorem r19 : cRVs Go.Proofs.Try.prog Go.Proofs.Try.f19.results.toList = some [RV.c 4 21 true, RV.t 5] := by kernel_rfl

theorem e19 {args : List Value} {h : Hp} {Q : Value → Hp → Prop} (hl : Nat.ble args.length 33 = true) (hk : codeK PR none c19 (retK Q [RV.c 4 21 true, RV.t 5]) (fun _ _ _ _ => False) (retK Q [RV.c 4 21 true, RV.t 5]) (argsE 0 args) [] h) : Ok PR 19 args h Q :=
  Ok.of mixed Go.Proofs.Try.func19 rfl k19 r19 hl hk

def c20 : IC := IC.seq (IC.ops [I.mk none (some 5) Ef.bx [X.t 2], I.mk none (some 6) (Ef.pr Pr.mv) [X.c (Value.bool false)]]) 
  (IC.seq 
  (IC.seq (IC.ops [I.mk none (some 14) (Ef.pr (Pr.fa 0)) [X.t 5], I.mk none (some 15) (Ef.pr (Pr.ld 1 false)) [X.t 14]]) 
  (IC.block 0 
  (IC.seq (IC.ops [I.mk none (some 17) (Ef.pr (Pr.cm BinOp.eql)) [X.t 15, X.c (Value.int IntKind.i64 2)], I.mk none (some 16) (Ef.pr Pr.mv) [X.t 17]]) 
  (IC.cond (X.t 16) 
  (IC.seq (IC.ops [I.mk none (some 19) (Ef.pr Pr.mv) [X.t 1], I.mk none (some 20) (Ef.pr (Pr.fa 2)) [X.t 5], I.mk none (some 21) (Ef.pr (Pr.ld 1 false)) [X.t 20], I.mk none (some 22) (Ef.pr (Pr.fa 3)) [X.t 5], I.mk none (some 23) (Ef.pr (Pr.ld 1 false)) [X.t 22], I.mk none (some 24) (Ef.pr (Pr.fa 5)) [X.t 5], I.mk none (some 25) (Ef.pr (Pr.ld 3 true)) [X.t 24], I.mk none (some 26) (Ef.call 22) [X.t 19, X.t 21, X.t 23, X.t 25], I.mk none (some 18) (Ef.pr Pr.mv) [X.t 26], I.mk none (some 27) (Ef.pr (Pr.ext 0)) [X.t 18], I.mk none (some 28) (Ef.pr (Pr.ext 1)) [X.t 18], I.mk none (some 7) (Ef.pr Pr.mv) [X.t 27], I.mk none (some 8) (Ef.pr Pr.mv) [X.t 28]]) 
  (IC.seq 
  (IC.seq (IC.ops [I.mk none (some 29) (Ef.pr Pr.mv) [X.t 8], I.mk none (some 30) (Ef.pr (Pr.cm BinOp.neq)) [X.t 29, X.c (Value.int IntKind.i64 0)]]) 
  (IC.cond (X.t 30) 
  (IC.seq (IC.ops [I.mk none (some 31) (Ef.pr Pr.mv) [X.t 7], I.mk none (some 32) (Ef.pr (Pr.cm BinOp.eql)) [X.t 31, X.c (Value.int IntKind.i64 (-1))], I.mk none (some 6) (Ef.pr Pr.mv) [X.t 32]]) IC.ret) IC.skip)) 
  (IC.seq 
  (IC.seq (IC.plan (Plan.q (I.mk none (some 33) (Ef.pr Pr.mv) [X.t 7]) (Plan.q (I.mk none (some 34) (Ef.pr (Pr.cm BinOp.lss)) [X.t 33, X.c (Value.int IntKind.i64 0)]) (Plan.q (I.mk none (some 35) (Ef.pr Pr.mv) [X.t 34]) (Plan.q (I.mk (some (35, false)) (some 36) (Ef.pr Pr.mv) [X.t 7]) (Plan.q (I.mk (some (35, false)) (some 37) (Ef.pr (Pr.cm BinOp.geq)) [X.t 36, X.c (Value.int IntKind.i64 16)]) (Plan.q (I.mk none (some 38) (Ef.pr Pr.pick) [X.t 35, X.c (Value.bool true), X.t 37]) (Plan.q (I.mk none (some 39) (Ef.pr Pr.mv) [X.t 38]) (Plan.q (I.mk (some (39, false)) (some 40) (Ef.pr Pr.mv) [X.t 0]) (Plan.q (I.mk (some (39, false)) (some 41) (Ef.pr Pr.mv) [X.t 7]) (Plan.q (I.mk (some (39, false)) (some 42) (Ef.pr Pr.nilc) [X.t 40]) (Plan.q (I.mk (some (39, false)) (some 43) (Ef.pr (Pr.fa 0)) [X.t 42]) (Plan.q (I.mk (some (39, false)) (some 44) (Ef.pr (Pr.iaA 16 1)) [X.t 43, X.t 41]) (Plan.q (I.mk (some (39, false)) (some 45) (Ef.pr (Pr.ld 1 false)) [X.t 44]) (Plan.q (I.mk none (some 46) (Ef.pr Pr.pick) [X.t 39, X.c (Value.bool true), X.t 45]) (Plan.q (I.mk none (some 47) (Ef.pr Pr.mv) [X.t 46]) (Plan.q (I.mk (some (47, false)) (some 48) (Ef.pr (Pr.fa 3)) [X.t 5]) (Plan.q (I.mk (some (47, false)) (some 49) (Ef.pr (Pr.ld 1 false)) [X.t 48]) (Plan.q (I.mk (some (47, false)) (some 50) (Ef.pr Pr.mv) [X.t 0]) (Plan.q (I.mk (some (47, false)) (some 51) (Ef.pr Pr.nilc) [X.t 50]) (Plan.q (I.mk (some (47, false)) (some 52) (Ef.pr (Pr.fa 64)) [X.t 51]) (Plan.q (I.mk (some (47, false)) (some 53) (Ef.pr (Pr.ld 1 false)) [X.t 52]) (Plan.q (I.mk (some (47, false)) (some 54) (Ef.pr (Pr.cm BinOp.leq)) [X.t 49, X.t 53]) (Plan.q (I.mk none (some 55) (Ef.pr Pr.pick) [X.t 47, X.c (Value.bool true), X.t 54]) Plan.done)))))))))))))))))))))))) 
  (IC.cond (X.t 55) 
  (IC.seq (IC.ops [I.mk none (some 6) (Ef.pr Pr.mv) [X.c (Value.bool false)]]) IC.ret) IC.skip)) 
  (IC.seq (IC.ops [I.mk none (some 56) (Ef.pr Pr.mv) [X.t 0], I.mk none (some 57) (Ef.pr Pr.mv) [X.t 7], I.mk none (some 58) (Ef.pr Pr.nilc) [X.t 56], I.mk none (some 59) (Ef.pr (Pr.fa 0)) [X.t 58], I.mk none (some 60) (Ef.pr (Pr.iaA 16 1)) [X.t 59, X.t 57], I.mk none none (Ef.st 1) [X.t 60, X.c (Value.bool true)]]) 
  (IC.seq (IC.ops [I.mk none (some 61) (Ef.pr Pr.mv) [X.t 0], I.mk none (some 62) (Ef.pr Pr.mv) [X.t 7], I.mk none (some 63) (Ef.pr (Pr.bld [Value.int IntKind.i64 0, Value.int IntKind.i64 0, Value.int IntKind.i64 0] [])) [], I.mk none (some 64) (Ef.pr Pr.nilc) [X.t 61], I.mk none (some 65) (Ef.pr (Pr.fa 16)) [X.t 64], I.mk none (some 66) (Ef.pr (Pr.iaA 16 3)) [X.t 65, X.t 62], I.mk none none (Ef.st 3) [X.t 66, X.t 63]]) (IC.ops [I.mk none (some 67) (Ef.pr Pr.mv) [X.t 0], I.mk none (some 68) (Ef.pr (Pr.fa 3)) [X.t 5], I.mk none (some 69) (Ef.pr (Pr.ld 1 false)) [X.t 68], I.mk none (some 70) (Ef.pr Pr.nilc) [X.t 67], I.mk none (some 71) (Ef.pr (Pr.fa 64)) [X.t 70], I.mk none none (Ef.st 1) [X.t 71, X.t 69]])))))) 
  (IC.seq (IC.ops [I.mk none (some 73) (Ef.pr (Pr.cm BinOp.eql)) [X.t 15, X.c (Value.int IntKind.i64 3)], I.mk none (some 72) (Ef.pr Pr.mv) [X.t 73]]) 
  (IC.cond (X.t 72) 
  (IC.seq (IC.ops [I.mk none (some 75) (Ef.pr Pr.mv) [X.t 1], I.mk none (some 76) (Ef.pr (Pr.fa 2)) [X.t 5], I.mk none (some 77) (Ef.pr (Pr.ld 1 false)) [X.t 76], I.mk none (some 78) (Ef.call 23) [X.t 75, X.t 77], I.mk none (some 74) (Ef.pr Pr.mv) [X.t 78], I.mk none (some 79) (Ef.pr (Pr.ext 0)) [X.t 74], I.mk none (some 80) (Ef.pr (Pr.ext 1)) [X.t 74], I.mk none (some 9) (Ef.pr Pr.mv) [X.t 79], I.mk none (some 10) (Ef.pr Pr.mv) [X.t 80]]) 
  (IC.seq 
  (IC.seq (IC.ops [I.mk none (some 81) (Ef.pr Pr.mv) [X.t 10], I.mk none (some 82) (Ef.pr (Pr.cm BinOp.neq)) [X.t 81, X.c (Value.int IntKind.i64 0)]]) 
  (IC.cond (X.t 82) 
  (IC.seq (IC.ops [I.mk none (some 83) (Ef.pr Pr.mv) [X.t 9], I.mk none (some 84) (Ef.pr Pr.lenS) [X.t 83], I.mk none (some 85) (Ef.pr (Pr.cm BinOp.eql)) [X.t 84, X.c (Value.int IntKind.i64 0)], I.mk none (some 6) (Ef.pr Pr.mv) [X.t 85]]) IC.ret) IC.skip)) 
  (IC.seq 
  (IC.seq (IC.ops [I.mk none (some 11) (Ef.pr Pr.mv) [X.c (Value.int IntKind.i64 0)]]) 
  (IC.block 1 
  (IC.loop 
  (IC.seq 
  (IC.seq (IC.ops [I.mk none (some 86) (Ef.pr Pr.mv) [X.t 11], I.mk none (some 87) (Ef.pr Pr.mv) [X.t 9], I.mk none (some 88) (Ef.pr Pr.lenS) [X.t 87], I.mk none (some 89) (Ef.pr (Pr.cm BinOp.lss)) [X.t 86, X.t 88]]) 
  (IC.cond (X.t 89) IC.skip (IC.exit 1))) 
  (IC.seq 
  (IC.block 2 
  (IC.seq 
  (IC.seq (IC.ops [I.mk none (some 92) (Ef.pr Pr.mv) [X.t 9], I.mk none (some 93) (Ef.pr Pr.mv) [X.t 11], I.mk none (some 94) (Ef.pr (Pr.iaS 1)) [X.t 92, X.t 93], I.mk none (some 95) (Ef.pr (Pr.ld 1 false)) [X.t 94], I.mk none (some 96) (Ef.pr (Pr.cm BinOp.leq)) [X.t 95, X.c (Value.int IntKind.i64 0)], I.mk none (some 97) (Ef.pr Pr.mv) [X.t 96], I.mk (some (97, false)) (some 98) (Ef.pr Pr.mv) [X.t 0], I.mk (some (97, false)) (some 99) (Ef.pr Pr.mv) [X.t 9], I.mk (some (97, false)) (some 100) (Ef.pr Pr.mv) [X.t 11], I.mk (some (97, false)) (some 101) (Ef.pr (Pr.iaS 1)) [X.t 99, X.t 100], I.mk (some (97, false)) (some 102) (Ef.pr (Pr.ld 1 false)) [X.t 101], I.mk (some (97, false)) (some 103) (Ef.call 28) [X.t 98, X.t 102], I.mk (some (97, false)) (some 104) (Ef.pr (Pr.un UnOp.not)) [X.t 103], I.mk none (some 105) (Ef.pr Pr.pick) [X.t 97, X.c (Value.bool true), X.t 104]]) 
  (IC.cond (X.t 105) 
  (IC.seq (IC.ops [I.mk none (some 6) (Ef.pr Pr.mv) [X.c (Value.bool false)]]) IC.ret) IC.skip)) (IC.plan (Plan.q (I.mk none (some 106) (Ef.pr Pr.mv) [X.t 0]) (Plan.q (I.mk none (some 107) (Ef.pr Pr.mv) [X.t 9]) (Plan.q (I.mk none (some 108) (Ef.pr Pr.mv) [X.t 11]) (Plan.q (I.mk none (some 109) (Ef.pr (Pr.iaS 1)) [X.t 107, X.t 108]) (Plan.q (I.mk none (some 110) (Ef.pr (Pr.ld 1 false)) [X.t 109]) (Plan.q (I.mk none (some 111) (Ef.pr Pr.nilc) [X.t 106]) (Plan.q (I.mk none (some 112) (Ef.pr (Pr.fa 0)) [X.t 111]) (Plan.q (I.mk none (some 113) (Ef.pr (Pr.iaA 16 1)) [X.t 112, X.t 110]) (Plan.br (PlanL.cons false false (I.mk none none (Ef.st 1) [X.t 113, X.c (Value.bool false)]) Plan.done PlanL.nil))))))))))))) (IC.ops [I.mk none (some 90) (Ef.pr Pr.mv) [X.t 11], I.mk none (some 91) (Ef.pr (Pr.ar BinOp.add)) [X.t 90, X.c (Value.int IntKind.i64 1)], I.mk none (some 11) (Ef.pr Pr.mv) [X.t 91]])))))) 
  (IC.seq (IC.plan (Plan.q (I.mk none (some 114) (Ef.pr Pr.mv) [X.t 9]) (Plan.q (I.mk none (some 115) (Ef.pr Pr.lenS) [X.t 114]) (Plan.q (I.mk none (some 116) (Ef.pr (Pr.cm BinOp.gtr)) [X.t 115, X.c (Value.int IntKind.i64 0)]) (Plan.q (I.mk none (some 117) (Ef.pr Pr.mv) [X.t 116]) (Plan.q (I.mk (some (117, true)) (some 118) (Ef.pr Pr.mv) [X.t 9]) (Plan.q (I.mk (some (117, true)) (some 119) (Ef.pr (Pr.iaS 1)) [X.t 118, X.c (Value.int IntKind.i64 0)]) (Plan.q (I.mk (some (117, true)) (some 120) (Ef.pr (Pr.ld 1 false)) [X.t 119]) (Plan.q (I.mk (some (117, true)) (some 121) (Ef.pr (Pr.fa 2)) [X.t 5]) (Plan.q (I.mk (some (117, true)) (some 122) (Ef.pr (Pr.ld 1 false)) [X.t 121]) (Plan.q (I.mk (some (117, true)) (some 123) (Ef.pr (Pr.cm BinOp.eql)) [X.t 120, X.t 122]) (Plan.q (I.mk none (some 124) (Ef.pr Pr.pick) [X.t 117, X.t 123, X.c (Value.bool false)]) (Plan.q (I.mk none (some 6) (Ef.pr Pr.mv) [X.t 124]) Plan.done))))))))))))) IC.ret)))) 
  (IC.seq (IC.ops [I.mk none (some 126) (Ef.pr (Pr.cm BinOp.eql)) [X.t 15, X.c (Value.int IntKind.i64 11)], I.mk none (some 125) (Ef.pr Pr.mv) [X.t 126]]) 
  (IC.cond (X.t 125) 
  (IC.seq (IC.ops [I.mk none (some 127) (Ef.pr Pr.mv) [X.t 1], I.mk none (some 128) (Ef.pr (Pr.fa 2)) [X.t 5], I.mk none (some 129) (Ef.pr (Pr.ld 1 false)) [X.t 128], I.mk none (some 130) (Ef.pr (Pr.fa 5)) [X.t 5], I.mk none (some 131) (Ef.pr (Pr.ld 3 true)) [X.t 130], I.mk none (some 132) (Ef.call 36) [X.t 127, X.t 129, X.t 131], I.mk none (some 12) (Ef.pr Pr.mv) [X.t 132]]) 
  (IC.seq (IC.ops [I.mk none (some 133) (Ef.pr Pr.mv) [X.t 12], I.mk none (some 134) (Ef.pr (Pr.cm BinOp.eql)) [X.t 133, X.c (Value.int IntKind.i64 0)]]) 
  (IC.cond (X.t 134) 
  (IC.seq 
  (IC.seq (IC.ops [I.mk none (some 135) (Ef.pr Pr.mv) [X.t 0], I.mk none (some 136) (Ef.pr (Pr.fa 2)) [X.t 5], I.mk none (some 137) (Ef.pr (Pr.ld 1 false)) [X.t 136], I.mk none (some 138) (Ef.call 28) [X.t 135, X.t 137], I.mk none (some 139) (Ef.pr (Pr.un UnOp.not)) [X.t 138]]) 
  (IC.cond (X.t 139) 
  (IC.seq (IC.ops [I.mk none (some 6) (Ef.pr Pr.mv) [X.c (Value.bool false)]]) IC.ret) IC.skip)) (IC.plan (Plan.q (I.mk none (some 140) (Ef.pr Pr.mv) [X.t 0]) (Plan.q (I.mk none (some 141) (Ef.pr (Pr.fa 2)) [X.t 5]) (Plan.q (I.mk none (some 142) (Ef.pr (Pr.ld 1 false)) [X.t 141]) (Plan.q (I.mk none (some 143) (Ef.pr Pr.mv) [X.t 0]) (Plan.q (I.mk none (some 144) (Ef.pr (Pr.fa 2)) [X.t 5]) (Plan.q (I.mk none (some 145) (Ef.pr (Pr.ld 1 false)) [X.t 144]) (Plan.q (I.mk none (some 146) (Ef.pr Pr.nilc) [X.t 143]) (Plan.q (I.mk none (some 147) (Ef.pr (Pr.fa 16)) [X.t 146]) (Plan.q (I.mk none (some 148) (Ef.pr (Pr.iaA 16 3)) [X.t 147, X.t 145]) (Plan.q (I.mk none (some 149) (Ef.pr (Pr.ld 3 true)) [X.t 148]) (Plan.q (I.mk none (some 150) (Ef.pr (Pr.fa 5)) [X.t 5]) (Plan.q (I.mk none (some 151) (Ef.pr (Pr.ld 3 true)) [X.t 150]) (Plan.q (I.mk none (some 153) (Ef.pr Pr.nilc) [X.t 140]) (Plan.q (I.mk none (some 154) (Ef.pr (Pr.fa 16)) [X.t 153]) (Plan.br (PlanL.cons true false (I.mk none (some 152) (Ef.call 29) [X.t 149, X.t 151, X.c (Value.int IntKind.i64 1)]) (Plan.q (I.mk none (some 155) (Ef.pr (Pr.iaA 16 3)) [X.t 154, X.t 142]) (Plan.br (PlanL.cons false false (I.mk none none (Ef.st 3) [X.t 155, X.t 152]) Plan.done PlanL.nil))) PlanL.nil)))))))))))))))))) IC.skip))) 
  (IC.seq (IC.ops [I.mk none (some 157) (Ef.pr (Pr.cm BinOp.eql)) [X.t 15, X.c (Value.int IntKind.i64 12)], I.mk none (some 156) (Ef.pr Pr.mv) [X.t 157]]) 
  (IC.cond (X.t 156) 
  (IC.seq (IC.ops [I.mk none (some 158) (Ef.pr Pr.mv) [X.t 1], I.mk none (some 159) (Ef.pr (Pr.fa 2)) [X.t 5], I.mk none (some 160) (Ef.pr (Pr.ld 1 false)) [X.t 159], I.mk none (some 161) (Ef.pr (Pr.fa 5)) [X.t 5], I.mk none (some 162) (Ef.pr (Pr.ld 3 true)) [X.t 161], I.mk none (some 163) (Ef.call 37) [X.t 158, X.t 160, X.t 162], I.mk none (some 13) (Ef.pr Pr.mv) [X.t 163]]) 
  (IC.seq (IC.ops [I.mk none (some 164) (Ef.pr Pr.mv) [X.t 13], I.mk none (some 165) (Ef.pr (Pr.cm BinOp.eql)) [X.t 164, X.c (Value.int IntKind.i64 0)]]) 
  (IC.cond (X.t 165) 
  (IC.seq 
  (IC.seq (IC.ops [I.mk none (some 166) (Ef.pr Pr.mv) [X.t 0], I.mk none (some 167) (Ef.pr (Pr.fa 2)) [X.t 5], I.mk none (some 168) (Ef.pr (Pr.ld 1 false)) [X.t 167], I.mk none (some 169) (Ef.call 28) [X.t 166, X.t 168], I.mk none (some 170) (Ef.pr (Pr.un UnOp.not)) [X.t 169]]) 
  (IC.cond (X.t 170) 
  (IC.seq (IC.ops [I.mk none (some 6) (Ef.pr Pr.mv) [X.c (Value.bool false)]]) IC.ret) IC.skip)) (IC.plan (Plan.q (I.mk none (some 171) (Ef.pr Pr.mv) [X.t 0]) (Plan.q (I.mk none (some 172) (Ef.pr (Pr.fa 2)) [X.t 5]) (Plan.q (I.mk none (some 173) (Ef.pr (Pr.ld 1 false)) [X.t 172]) (Plan.q (I.mk none (some 174) (Ef.pr Pr.mv) [X.t 0]) (Plan.q (I.mk none (some 175) (Ef.pr (Pr.fa 2)) [X.t 5]) (Plan.q (I.mk none (some 176) (Ef.pr (Pr.ld 1 false)) [X.t 175]) (Plan.q (I.mk none (some 177) (Ef.pr Pr.nilc) [X.t 174]) (Plan.q (I.mk none (some 178) (Ef.pr (Pr.fa 16)) [X.t 177]) (Plan.q (I.mk none (some 179) (Ef.pr (Pr.iaA 16 3)) [X.t 178, X.t 176]) (Plan.q (I.mk none (some 180) (Ef.pr (Pr.ld 3 true)) [X.t 179]) (Plan.q (I.mk none (some 181) (Ef.pr (Pr.fa 5)) [X.t 5]) (Plan.q (I.mk none (some 182) (Ef.pr (Pr.ld 3 true)) [X.t 181]) (Plan.q (I.mk none (some 184) (Ef.pr Pr.nilc) [X.t 171]) (Plan.q (I.mk none (some 185) (Ef.pr (Pr.fa 16)) [X.t 184]) (Plan.br (PlanL.cons true false (I.mk none (some 183) (Ef.call 29) [X.t 180, X.t 182, X.c (Value.int IntKind.i64 (-1))]) (Plan.q (I.mk none (some 186) (Ef.pr (Pr.iaA 16 3)) [X.t 185, X.t 173]) (Plan.br (PlanL.cons false false (I.mk none none (Ef.st 3) [X.t 186, X.t 183]) Plan.done PlanL.nil))) PlanL.nil)))))))))))))))))) IC.skip))) 
  (IC.seq (IC.ops [I.mk none (some 188) (Ef.pr (Pr.cm BinOp.eql)) [X.t 15, X.c (Value.int IntKind.i64 5)], I.mk none (some 187) (Ef.pr Pr.mv) [X.t 188]]) 
  (IC.cond (X.t 187) (IC.ops [I.mk none (some 189) (Ef.pr Pr.mv) [X.t 1], I.mk none (some 190) (Ef.pr (Pr.fa 2)) [X.t 5], I.mk none (some 191) (Ef.pr (Pr.ld 1 false)) [X.t 190], I.mk none (some 192) (Ef.pr (Pr.fa 8)) [X.t 5], I.mk none (some 193) (Ef.pr (Pr.ld 9 true)) [X.t 192], I.mk none (some 194) (Ef.call 15) [X.t 189, X.t 191, X.t 193]]) 
  (IC.seq (IC.ops [I.mk none (some 196) (Ef.pr (Pr.cm BinOp.eql)) [X.t 15, X.c (Value.int IntKind.i64 6)], I.mk none (some 195) (Ef.pr Pr.mv) [X.t 196]]) 
  (IC.cond (X.t 195) (IC.ops [I.mk none (some 197) (Ef.pr Pr.mv) [X.t 1], I.mk none (some 198) (Ef.pr (Pr.fa 2)) [X.t 5], I.mk none (some 199) (Ef.pr (Pr.ld 1 false)) [X.t 198], I.mk none (some 200) (Ef.pr (Pr.fa 3)) [X.t 5], I.mk none (some 201) (Ef.pr (Pr.ld 1 false)) [X.t 200], I.mk none (some 202) (Ef.pr (Pr.fa 4)) [X.t 5], I.mk none (some 203) (Ef.pr (Pr.ld 1 false)) [X.t 202], I.mk none (some 204) (Ef.call 14) [X.t 197, X.t 199, X.t 201, X.t 203]]) 
  (IC.seq (IC.ops [I.mk none (some 206) (Ef.pr (Pr.cm BinOp.eql)) [X.t 15, X.c (Value.int IntKind.i64 7)], I.mk none (some 205) (Ef.pr Pr.mv) [X.t 206]]) 
  (IC.cond (X.t 205) (IC.ops [I.mk none (some 207) (Ef.pr Pr.mv) [X.t 1], I.mk none (some 208) (Ef.pr (Pr.fa 2)) [X.t 5], I.mk none (some 209) (Ef.pr (Pr.ld 1 false)) [X.t 208], I.mk none (some 210) (Ef.pr (Pr.fa 3)) [X.t 5], I.mk none (some 211) (Ef.pr (Pr.ld 1 false)) [X.t 210], I.mk none (some 212) (Ef.call 59) [X.t 207, X.t 209, X.t 211]]) 
  (IC.seq (IC.ops [I.mk none (some 214) (Ef.pr (Pr.cm BinOp.eql)) [X.t 15, X.c (Value.int IntKind.i64 8)], I.mk none (some 213) (Ef.pr Pr.mv) [X.t 214]]) 
  (IC.cond (X.t 213) (IC.ops [I.mk none (some 215) (Ef.pr Pr.mv) [X.t 1], I.mk none (some 216) (Ef.pr (Pr.fa 2)) [X.t 5], I.mk none (some 217) (Ef.pr (Pr.ld 1 false)) [X.t 216], I.mk none (some 218) (Ef.pr (Pr.fa 3)) [X.t 5], I.mk none (some 219) (Ef.pr (Pr.ld 1 false)) [X.t 218], I.mk none (some 220) (Ef.call 18) [X.t 215, X.t 217, X.t 219]]) 
  (IC.seq (IC.ops [I.mk none (some 222) (Ef.pr (Pr.cm BinOp.eql)) [X.t 15, X.c (Value.int IntKind.i64 9)], I.mk none (some 221) (Ef.pr Pr.mv) [X.t 222]]) 
  (IC.cond (X.t 221) (IC.ops [I.mk none (some 223) (Ef.pr Pr.mv) [X.t 1], I.mk none (some 224) (Ef.pr (Pr.fa 2)) [X.t 5], I.mk none (some 225) (Ef.pr (Pr.ld 1 false)) [X.t 224], I.mk none (some 226) (Ef.call 16) [X.t 223, X.t 225]]) 
  (IC.seq (IC.ops [I.mk none (some 228) (Ef.pr (Pr.cm BinOp.eql)) [X.t 15, X.c (Value.int IntKind.i64 10)], I.mk none (some 227) (Ef.pr Pr.mv) [X.t 228]]) 
  (IC.cond (X.t 227) (IC.ops [I.mk none (some 229) (Ef.pr Pr.mv) [X.t 1], I.mk none (some 230) (Ef.pr (Pr.fa 2)) [X.t 5], I.mk none (some 231) (Ef.pr (Pr.ld 1 false)) [X.t 230], I.mk none (some 232) (Ef.pr (Pr.fa 17)) [X.t 5], I.mk none (some 233) (Ef.pr (Pr.ld 1 false)) [X.t 232], I.mk none (some 234) (Ef.call 33) [X.t 229, X.t 231, X.t 233]]) IC.skip)))))))))))))))))))))) 
  (IC.seq (IC.ops [I.mk none (some 6) (Ef.pr Pr.mv) [X.c (Value.bool true)]]) IC.ret))

theorem k20 : Go.Proofs.Try.f20.body.bind (comp Go.Proofs.Try.prog 235 [5] []) = some c20 := by kernel_rfl

theorem r20 : cRVs Go.Proofs.Try.prog Go.Proofs.Try.f20.results.toList = some [RV.t 6] := by kernel_rfl

theorem e20 {args : List Value} {h : Hp} {Q : Value → Hp → Prop} (hl : Nat.ble args.length 235 = true) (hk : codeK PR none c20 (retK Q [RV.t 6]) (fun _ _ _ _ => False) (retK Q [RV.t 6]) (argsE 0 args) [] h) : Ok PR 20 args h Q :=
  Ok.of mixed Go.Proofs.Try.func20 rfl k20 r20 hl hk

def c21 : IC := IC.seq (IC.ops [I.mk none (some 2) (Ef.al [Value.int IntKind.i64 0, Value.int IntKind.i64 0, Value.int IntKind.i64 0, Value.int IntKind.i64 0, Value.int IntKind.i64 0, Value.bool false, Value.int IntKind.u32 0, Value.int IntKind.u32 0, Value.int IntKind.u32 0, Value.int IntKind.u32 0, Value.int IntKind.u32 0, Value.int IntKind.u32 0, Value.int IntKind.u32 0, Value.int IntKind.u32 0, Value.int IntKind.u32 0, Value.int IntKind.i64 0, Value.int IntKind.i64 0, Value.int IntKind.i64 0, Value.int IntKind.i64 0, Value.int IntKind.i64 0, Value.int IntKind.i64 0, Value.int IntKind.i64 0, Value.int IntKind.i64 0, Value.int IntKind.i64 0, Value.int IntKind.i64 0, Value.int IntKind.i64 0, Value.bool false, Value.int IntKind.u32 0, Value.int IntKind.u32 0, Value.int IntKind.u32 0, Value.int IntKind.u32 0, Value.int IntKind.u32 0, Value.int IntKind.u32 0, Value.int IntKind.u32 0, Value.int IntKind.u32 0, Value.int IntKind.u32 0, Value.int IntKind.i64 0, Value.int IntKind.i64 0, Value.int IntKind.i64 0, Value.int IntKind.i64 0, Value.int IntKind.i64 0, Value.int IntKind.i64 0, Value.int IntKind.i64 0, Value.int IntKind.i64 0, Value.int IntKind.i64 0, Value.int IntKind.i64 0, Value.int IntKind.i64 0, Value.bool false, Value.int IntKind.u32 0, Value.int IntKind.u32 0, Value.int IntKind.u32 0, Value.int IntKind.u32 0, Value.int IntKind.u32 0, Value.int IntKind.u32 0, Value.int IntKind.u32 0, Value.int IntKind.u32 0, Value.int IntKind.u32 0, Value.int IntKind.i64 0, Value.int IntKind.i64 0, Value.int IntKind.i64 0, Value.int IntKind.i64 0, Value.int IntKind.i64 0, Value.int IntKind.i64 0, Value.int IntKind.i64 0, Value.int IntKind.i64 0, Value.int IntKind.i64 0, Value.int IntKind.i64 0, Value.int IntKind.i64 0, Value.bool false, Value.int IntKind.u32 0, Value.int IntKind.u32 0, Value.int IntKind.u32 0, Value.int IntKind.u32 0, Value.int IntKind.u32 0, Value.int IntKind.u32 0, Value.int IntKind.u32 0, Value.int IntKind.u32 0, Value.int IntKind.u32 0, Value.int IntKind.i64 0, Value.int IntKind.i64 0, Value.int IntKind.i64 0, Value.int IntKind.i64 0, Value.int IntKind.i64 0, Value.int IntKind.i64 0, Value.int IntKind.i64 0, Value.int IntKind.i64 0, Value.int IntKind.i64 0, Value.int IntKind.i64 0, Value.int IntKind.i64 0, Value.bool false, Value.int IntKind.u32 0, Value.int IntKind.u32 0, Value.int IntKind.u32 0, Value.int IntKind.u32 0, Value.int IntKind.u32 0, Value.int IntKind.u32 0, Value.int IntKind.u32 0, Value.int IntKind.u32 0, Value.int IntKind.u32 0, Value.int IntKind.i64 0, Value.int IntKind.i64 0, Value.int IntKind.i64 0, Value.int IntKind.i64 0, Value.int IntKind.i64 0, Value.int IntKind.i64 0, Value.int IntKind.i64 0, Value.int IntKind.i64 0, Value.int IntKind.i64 0, Value.int IntKind.i64 0, Value.int IntKind.i64 0, Value.bool false, Value.int IntKind.u32 0, Value.int IntKind.u32 0, Value.int IntKind.u32 0, Value.int IntKind.u32 0, Value.int IntKind.u32 0, Value.int IntKind.u32 0, Value.int IntKind.u32 0, Value.int IntKind.u32 0, Value.int IntKind.u32 0, Value.int IntKind.i64 0, Value.int IntKind.i64 0, Value.int IntKind.i64 0, Value.int IntKind.i64 0, Value.int IntKind.i64 0, Value.int IntKind.i64 0, Value.int IntKind.i64 0, Value.int IntKind.i64 0, Value.int IntKind.i64 0, Value.int IntKind.i64 0, Value.int IntKind.i64 0, Value.bool false, Value.int IntKind.u32 0, Value.int IntKind.u32 0, Value.int IntKind.u32 0, Value.int IntKind.u32 0, Value.int IntKind.u32 0, Value.int IntKind.u32 0, Value.int IntKind.u32 0, Value.int IntKind.u32 0, Value.int IntKind.u32 0, Value.int IntKind.i64 0, Value.int IntKind.i64 0, Value.int IntKind.i64 0, Value.int IntKind.i64 0, Value.int IntKind.i64 0, Value.int IntKind.i64 0, Value.int IntKind.i64 0, Value.int IntKind.i64 0, Value.int IntKind.i64 0, Value.int IntKind.i64 0, Value.int IntKind.i64 0, Value.bool false, Value.int IntKind.u32 0, Value.int IntKind.u32 0, Value.int IntKind.u32 0, Value.int IntKind.u32 0, Value.int IntKind.u32 0, Value.int IntKind.u32 0, Value.int IntKind.u32 0, Value.int IntKind.u32 0, Value.int IntKind.u32 0, Value.int IntKind.i64 0, Value.int IntKind.i64 0, Value.int IntKind.i64 0, Value.int IntKind.i64 0, Value.int IntKind.i64 0, Value.int IntKind.i64 0, Value.int IntKind.i64 0, Value.int IntKind.i64 0, Value.int IntKind.i64 0, Value.int IntKind.i64 0, Value.int IntKind.i64 0, Value.bool false, Value.int IntKind.u32 0, Value.int IntKind.u32 0, Value.int IntKind.u32 0, Value.int IntKind.u32 0, Value.int IntKind.u32 0, Value.int IntKind.u32 0, Value.int IntKind.u32 0, Value.int IntKind.u32 0, Value.int IntKind.u32 0, Value.int IntKind.i64 0, Value.int IntKind.i64 0, Value.int IntKind.i64 0, Value.int IntKind.i64 0, Value.int IntKind.i64 0, Value.int IntKind.i64 0, Value.int IntKind.i64 0, Value.int IntKind.i64 0, Value.int IntKind.i64 0, Value.int IntKind.i64 0, Value.int IntKind.i64 0, Value.bool false, Value.int IntKind.u32 0, Value.int IntKind.u32 0, Value.int IntKind.u32 0, Value.int IntKind.u32 0, Value.int IntKind.u32 0, Value.int IntKind.u32 0, Value.int IntKind.u32 0, Value.int IntKind.u32 0, Value.int IntKind.u32 0, Value.int IntKind.i64 0, Value.int IntKind.i64 0, Value.int IntKind.i64 0, Value.int IntKind.i64 0, Value.int IntKind.i64 0, Value.int IntKind.i64 0, Value.int IntKind.i64 0, Value.int IntKind.i64 0, Value.int IntKind.i64 0, Value.int IntKind.i64 0, Value.int IntKind.i64 0, Value.bool false, Value.int IntKind.u32 0, Value.int IntKind.u32 0, Value.int IntKind.u32 0, Value.int IntKind.u32 0, Value.int IntKind.u32 0, Value.int IntKind.u32 0, Value.int IntKind.u32 0, Value.int IntKind.u32 0, Value.int IntKind.u32 0, Value.int IntKind.i64 0, Value.int IntKind.i64 0, Value.int IntKind.i64 0, Value.int IntKind.i64 0, Value.int IntKind.i64 0, Value.int IntKind.i64 0, Value.int IntKind.i64 0, Value.int IntKind.i64 0, Value.int IntKind.i64 0, Value.int IntKind.i64 0, Value.int IntKind.i64 0, Value.bool false, Value.int IntKind.u32 0, Value.int IntKind.u32 0, Value.int IntKind.u32 0, Value.int IntKind.u32 0, Value.int IntKind.u32 0, Value.int IntKind.u32 0, Value.int IntKind.u32 0, Value.int IntKind.u32 0, Value.int IntKind.u32 0, Value.int IntKind.i64 0, Value.int IntKind.i64 0, Value.int IntKind.i64 0, Value.int IntKind.i64 0, Value.int IntKind.i64 0, Value.int IntKind.i64 0, Value.int IntKind.i64 0, Value.int IntKind.i64 0, Value.int IntKind.i64 0, Value.int IntKind.i64 0, Value.int IntKind.i64 0, Value.bool false, Value.int IntKind.u32 0, Value.int IntKind.u32 0, Value.int IntKind.u32 0, Value.int IntKind.u32 0, Value.int IntKind.u32 0, Value.int IntKind.u32 0, Value.int IntKind.u32 0, Value.int IntKind.u32 0, Value.int IntKind.u32 0, Value.int IntKind.i64 0, Value.int IntKind.i64 0, Value.int IntKind.i64 0, Value.int IntKind.i64 0, Value.int IntKind.i64 0, Value.int IntKind.i64 0, Value.int IntKind.i64 0, Value.int IntKind.i64 0, Value.int IntKind.i64 0, Value.int IntKind.i64 0, Value.int IntKind.i64 0, Value.bool false, Value.int IntKind.u32 0, Value.int IntKind.u32 0, Value.int IntKind.u32 0, Value.int IntKind.u32 0, Value.int IntKind.u32 0, Value.int IntKind.u32 0, Value.int IntKind.u32 0, Value.int IntKind.u32 0, Value.int IntKind.u32 0, Value.int IntKind.i64 0, Value.int IntKind.i64 0, Value.int IntKind.i64 0, Value.int IntKind.i64 0, Value.int IntKind.i64 0, Value.int IntKind.i64 0, Value.int IntKind.i64 0, Value.int IntKind.i64 0, Value.int IntKind.i64 0, Value.int IntKind.i64 0, Value.int IntKind.i64 0, Value.bool false, Value.int IntKind.u32 0, Value.int IntKind.u32 0, Value.int IntKind.u32 0, Value.int IntKind.u32 0, Value.int IntKind.u32 0, Value.int IntKind.u32 0, Value.int IntKind.u32 0, Value.int IntKind.u32 0, Value.int IntKind.u32 0, Value.int IntKind.i64 0, Value.int IntKind.i64 0, Value.int IntKind.i64 0, Value.int IntKind.i64 0, Value.int IntKind.i64 0, Value.int IntKind.i64 0, Value.int IntKind.i64 0, Value.int IntKind.i64 0, Value.int IntKind.i64 0, Value.int IntKind.i64 0, Value.int IntKind.i64 0, Value.bool false, Value.int IntKind.u32 0, Value.int IntKind.u32 0, Value.int IntKind.u32 0, Value.int IntKind.u32 0, Value.int IntKind.u32 0, Value.int IntKind.u32 0, Value.int IntKind.u32 0, Value.int IntKind.u32 0, Value.int IntKind.u32 0, Value.int IntKind.i64 0, Value.int IntKind.i64 0, Value.int IntKind.i64 0, Value.int IntKind.i64 0, Value.int IntKind.i64 0, Value.int IntKind.i64 0, Value.int IntKind.i64 0, Value.int IntKind.i64 0, Value.int IntKind.i64 0, Value.int IntKind.i64 0, Value.int IntKind.i64 0, Value.int IntKind.i64 0, Value.int IntKind.i64 0, Value.int IntKind.i64 0, Value.int IntKind.i64 0, Value.int IntKind.i64 0, Value.int IntKind.i64 0, Value.int IntKind.i64 0, Value.int IntKind.i64 0, Value.int IntKind.i64 0, Value.int IntKind.i64 0, Value.int IntKind.i64 0]) []]) 
  (IC.seq (IC.ops [I.mk none (some 3) (Ef.al [Value.int IntKind.i64 0, Value.int IntKind.i64 0, Value.int IntKind.i64 0, Value.int IntKind.i64 0, Value.int IntKind.i64 0, Value.bool false, Value.int IntKind.u32 0, Value.int IntKind.u32 0, Value.int IntKind.u32 0, Value.int IntKind.u32 0, Value.int IntKind.u32 0, Value.int IntKind.u32 0, Value.int IntKind.u32 0, Value.int IntKind.u32 0, Value.int IntKind.u32 0, Value.int IntKind.i64 0, Value.int IntKind.i64 0, Value.int IntKind.i64 0, Value.int IntKind.i64 0, Value.int IntKind.i64 0, Value.int IntKind.i64 0, Value.int IntKind.i64 0, Value.int IntKind.i64 0, Value.int IntKind.i64 0, Value.int IntKind.i64 0, Value.int IntKind.i64 0, Value.bool false, Value.int IntKind.u32 0, Value.int IntKind.u32 0, Value.int IntKind.u32 0, Value.int IntKind.u32 0, Value.int IntKind.u32 0, Value.int IntKind.u32 0, Value.int IntKind.u32 0, Value.int IntKind.u32 0, Value.int IntKind.u32 0, Value.int IntKind.i64 0, Value.int IntKind.i64 0, Value.int IntKind.i64 0, Value.int IntKind.i64 0, Value.int IntKind.i64 0, Value.int IntKind.i64 0, Value.int IntKind.i64 0, Value.int IntKind.i64 0, Value.int IntKind.i64 0, Value.int IntKind.i64 0, Value.int IntKind.i64 0, Value.bool false, Value.int IntKind.u32 0, Value.int IntKind.u32 0, Value.int IntKind.u32 0, Value.int IntKind.u32 0, Value.int IntKind.u32 0, Value.int IntKind.u32 0, Value.int IntKind.u32 0, Value.int IntKind.u32 0, Value.int IntKind.u32 0, Value.int IntKind.i64 0, Value.int IntKind.i64 0, Value.int IntKind.i64 0, Value.int IntKind.i64 0, Value.int IntKind.i64 0, Value.int IntKind.i64 0, Value.int IntKind.i64 0, Value.int IntKind.i64 0, Value.int IntKind.i64 0, Value.int IntKind.i64 0, Value.int IntKind.i64 0, Value.bool false, Value.int IntKind.u32 0, Value.int IntKind.u32 0, Value.int IntKind.u32 0, Value.int IntKind.u32 0, Value.int IntKind.u32 0, Value.int IntKind.u32 0, Value.int IntKind.u32 0, Value.int IntKind.u32 0, Value.int IntKind.u32 0, Value.int IntKind.i64 0, Value.int IntKind.i64 0, Value.int IntKind.i64 0, Value.int IntKind.i64 0, Value.int IntKind.i64 0, Value.int IntKind.i64 0, Value.int IntKind.i64 0, Value.int IntKind.i64 0, Value.int IntKind.i64 0, Value.int IntKind.i64 0, Value.int IntKind.i64 0, Value.bool false, Value.int IntKind.u32 0, Value.int IntKind.u32 0, Value.int IntKind.u32 0, Value.int IntKind.u32 0, Value.int IntKind.u32 0, Value.int IntKind.u32 0, Value.int IntKind.u32 0, Value.int IntKind.u32 0, Value.int IntKind.u32 0, Value.int IntKind.i64 0, Value.int IntKind.i64 0, Value.int IntKind.i64 0, Value.int IntKind.i64 0, Value.int IntKind.i64 0, Value.int IntKind.i64 0, Value.int IntKind.i64 0, Value.int IntKind.i64 0, Value.int IntKind.i64 0, Value.int IntKind.i64 0, Value.int IntKind.i64 0, Value.bool false, Value.int IntKind.u32 0, Value.int IntKind.u32 0, Value.int IntKind.u32 0, Value.int IntKind.u32 0, Value.int IntKind.u32 0, Value.int IntKind.u32 0, Value.int IntKind.u32 0, Value.int IntKind.u32 0, Value.int IntKind.u32 0, Value.int IntKind.i64 0, Value.int IntKind.i64 0, Value.int IntKind.i64 0, Value.int IntKind.i64 0, Value.int IntKind.i64 0, Value.int IntKind.i64 0, Value.int IntKind.i64 0, Value.int IntKind.i64 0, Value.int IntKind.i64 0, Value.int IntKind.i64 0, Value.int IntKind.i64 0, Value.bool false, Value.int IntKind.u32 0, Value.int IntKind.u32 0, Value.int IntKind.u32 0, Value.int IntKind.u32 0, Value.int IntKind.u32 0, Value.int IntKind.u32 0, Value.int IntKind.u32 0, Value.int IntKind.u32 0, Value.int IntKind.u32 0, Value.int IntKind.i64 0, Value.int IntKind.i64 0, Value.int IntKind.i64 0, Value.int IntKind.i64 0, Value.int IntKind.i64 0, Value.int IntKind.i64 0, Value.int IntKind.i64 0, Value.int IntKind.i64 0, Value.int IntKind.i64 0, Value.int IntKind.i64 0, Value.int IntKind.i64 0, Value.bool false, Value.int IntKind.u32 0, Value.int IntKind.u32 0, Value.int IntKind.u32 0, Value.int IntKind.u32 0, Value.int IntKind.u32 0, Value.int IntKind.u32 0, Value.int IntKind.u32 0, Value.int IntKind.u32 0, Value.int IntKind.u32 0, Value.int IntKind.i64 0, Value.int IntKind.i64 0, Value.int IntKind.i64 0, Value.int IntKind.i64 0, Value.int IntKind.i64 0, Value.int IntKind.i64 0, Value.int IntKind.i64 0, Value.int IntKind.i64 0, Value.int IntKind.i64 0, Value.int IntKind.i64 0, Value.int IntKind.i64 0, Value.bool false, Value.int IntKind.u32 0, Value.int IntKind.u32 0, Value.int IntKind.u32 0, Value.int IntKind.u32 0, Value.int IntKind.u32 0, Value.int IntKind.u32 0, Value.int IntKind.u32 0, Value.int IntKind.u32 0, Value.int IntKind.u32 0, Value.int IntKind.i64 0, Value.int IntKind.i64 0, Value.int IntKind.i64 0, Value.int IntKind.i64 0, Value.int IntKind.i64 0, Value.int IntKind.i64 0, Value.int IntKind.i64 0, Value.int IntKind.i64 0, Value.int IntKind.i64 0, Value.int IntKind.i64 0, Value.int IntKind.i64 0, Value.bool false, Value.int IntKind.u32 0, Value.int IntKind.u32 0, Value.int IntKind.u32 0, Value.int IntKind.u32 0, Value.int IntKind.u32 0, Value.int IntKind.u32 0, Value.int IntKind.u32 0, Value.int IntKind.u32 0, Value.int IntKind.u32 0, Value.int IntKind.i64 0, Value.int IntKind.i64 0, Value.int IntKind.i64 0, Value.int IntKind.i64 0, Value.int IntKind.i64 0, Value.int IntKind.i64 0, Value.int IntKind.i64 0, Value.int IntKind.i64 0, Value.int IntKind.i64 0, Value.int IntKind.i64 0, Value.int IntKind.i64 0, Value.bool false, Value.int IntKind.u32 0, Value.int IntKind.u32 0, Value.int IntKind.u32 0, Value.int IntKind.u32 0, Value.int IntKind.u32 0, Value.int IntKind.u32 0, Value.int IntKind.u32 0, Value.int IntKind.u32 0, Value.int IntKind.u32 0, Value.int IntKind.i64 0, Value.int IntKind.i64 0, Value.int IntKind.i64 0, Value.int IntKind.i64 0, Value.int IntKind.i64 0, Value.int IntKind.i64 0, Value.int IntKind.i64 0, Value.int IntKind.i64 0, Value.int IntKind.i64 0, Value.int IntKind.i64 0, Value.int IntKind.i64 0, Value.bool false, Value.int IntKind.u32 0, Value.int IntKind.u32 0, Value.int IntKind.u32 0, Value.int IntKind.u32 0, Value.int IntKind.u32 0, Value.int IntKind.u32 0, Value.int IntKind.u32 0, Value.int IntKind.u32 0, Value.int IntKind.u32 0, Value.int IntKind.i64 0, Value.int IntKind.i64 0, Value.int IntKind.i64 0, Value.int IntKind.i64 0, Value.int IntKind.i64 0, Value.int IntKind.i64 0, Value.int IntKind.i64 0, Value.int IntKind.i64 0, Value.int IntKind.i64 0, Value.int IntKind.i64 0, Value.int IntKind.i64 0, Value.bool false, Value.int IntKind.u32 0, Value.int IntKind.u32 0, Value.int IntKind.u32 0, Value.int IntKind.u32 0, Value.int IntKind.u32 0, Value.int IntKind.u32 0, Value.int IntKind.u32 0, Value.int IntKind.u32 0, Value.int IntKind.u32 0, Value.int IntKind.i64 0, Value.int IntKind.i64 0, Value.int IntKind.i64 0, Value.int IntKind.i64 0, Value.int IntKind.i64 0, Value.int IntKind.i64 0, Value.int IntKind.i64 0, Value.int IntKind.i64 0, Value.int IntKind.i64 0, Value.int IntKind.i64 0, Value.int IntKind.i64 0, Value.bool false, Value.int IntKind.u32 0, Value.int IntKind.u32 0, Value.int IntKind.u32 0, Value.int IntKind.u32 0, Value.int IntKind.u32 0, Value.int IntKind.u32 0, Value.int IntKind.u32 0, Value.int IntKind.u32 0, Value.int IntKind.u32 0, Value.int IntKind.i64 0, Value.int IntKind.i64 0, Value.int IntKind.i64 0, Value.int IntKind.i64 0, Value.int IntKind.i64 0, Value.int IntKind.i64 0, Value.int IntKind.i64 0, Value.int IntKind.i64 0, Value.int IntKind.i64 0, Value.int IntKind.i64 0, Value.int IntKind.i64 0, Value.bool false, Value.int IntKind.u32 0, Value.int IntKind.u32 0, Value.int IntKind.u32 0, Value.int IntKind.u32 0, Value.int IntKind.u32 0, Value.int IntKind.u32 0, Value.int IntKind.u32 0, Value.int IntKind.u32 0, Value.int IntKind.u32 0, Value.int IntKind.i64 0, Value.int IntKind.i64 0, Value.int IntKind.i64 0, Value.int IntKind.i64 0, Value.int IntKind.i64 0, Value.int IntKind.i64 0, Value.int IntKind.i64 0, Value.int IntKind.i64 0, Value.int IntKind.i64 0, Value.int IntKind.i64 0, Value.int IntKind.i64 0, Value.bool false, Value.int IntKind.u32 0, Value.int IntKind.u32 0, Value.int IntKind.u32 0, Value.int IntKind.u32 0, Value.int IntKind.u32 0, Value.int IntKind.u32 0, Value.int IntKind.u32 0, Value.int IntKind.u32 0, Value.int IntKind.u32 0, Value.int IntKind.i64 0, Value.int IntKind.i64 0, Value.int IntKind.i64 0, Value.int IntKind.i64 0, Value.int IntKind.i64 0, Value.int IntKind.i64 0, Value.int IntKind.i64 0, Value.int IntKind.i64 0, Value.int IntKind.i64 0, Value.int IntKind.i64 0, Value.int IntKind.i64 0, Value.int IntKind.i64 0, Value.int IntKind.i64 0, Value.int IntKind.i64 0, Value.int IntKind.i64 0, Value.int IntKind.i64 0, Value.int IntKind.i64 0, Value.int IntKind.i64 0, Value.int IntKind.i64 0, Value.int IntKind.i64 0, Value.int IntKind.i64 0, Value.int IntKind.i64 0]) []]) 
  (IC.seq 
  (IC.seq (IC.ops [I.mk none (some 4) (Ef.pr Pr.mv) [X.c (Value.int IntKind.i64 0)]]) 
  (IC.block 0 
  (IC.loop 
  (IC.seq 
  (IC.seq (IC.ops [I.mk none (some 5) (Ef.pr Pr.mv) [X.t 4], I.mk none (some 6) (Ef.pr (Pr.cm BinOp.lss)) [X.t 5, X.c (Value.int IntKind.i64 16)]]) 
  (IC.cond (X.t 6) IC.skip (IC.exit 0))) 
  (IC.seq 
  (IC.block 1 (IC.ops [I.mk none (some 10) (Ef.pr Pr.mv) [X.t 4], I.mk none (some 11) (Ef.pr Pr.mv) [X.t 4], I.mk none (some 12) (Ef.pr Pr.mv) [X.t 0], I.mk none (some 13) (Ef.pr Pr.mv) [X.t 4], I.mk none (some 14) (Ef.call 19) [X.t 12, X.t 13], I.mk none (some 9) (Ef.pr Pr.mv) [X.t 14], I.mk none (some 15) (Ef.pr (Pr.ext 0)) [X.t 9], I.mk none (some 16) (Ef.pr (Pr.ext 1)) [X.t 9], I.mk none (some 17) (Ef.pr (Pr.fa 0)) [X.t 3], I.mk none (some 18) (Ef.pr (Pr.iaA 16 21)) [X.t 17, X.t 10], I.mk none none (Ef.st 21) [X.t 18, X.t 15], I.mk none (some 19) (Ef.pr (Pr.fa 336)) [X.t 3], I.mk none (some 20) (Ef.pr (Pr.iaA 16 1)) [X.t 19, X.t 11], I.mk none none (Ef.st 1) [X.t 20, X.t 16]])) (IC.ops [I.mk none (some 7) (Ef.pr Pr.mv) [X.t 4], I.mk none (some 8) (Ef.pr (Pr.ar BinOp.add)) [X.t 7, X.c (Value.int IntKind.i64 1)], I.mk none (some 4) (Ef.pr Pr.mv) [X.t 8]])))))) 
  (IC.seq (IC.ops [I.mk none (some 21) (Ef.pr (Pr.ld 352 true)) [X.t 3], I.mk none none (Ef.st 352) [X.t 2, X.t 21]]) IC.ret)))

theorem k21 : Go.Proofs.Try.f21.body.bind (comp Go.Proofs.Try.prog 22 [2, 3] []) = some c21 := by kernel_rfl

theorem r21 : cRVs Go.Proofs.Try.prog Go.Proofs.Try.f21.results.toList = some [RV.c 2 352 true] := by kernel_rfl

theorem e21 {args : List Value} {h : Hp} {Q : Value → Hp → Prop} (hl : Nat.ble args.length 22 = true) (hk : codeK PR none c21 (retK Q [RV.c 2 352 true]) (fun _ _ _ _ => False) (retK Q [RV.c 2 352 true]) (argsE 0 args) [] h) : Ok PR 21 args h Q :=
  Ok.of mixed Go.Proofs.Try.func21 rfl k21 r21 hl hk

def c22 : IC := IC.seq (IC.ops [I.mk none (some 7) Ef.bx [X.t 3], I.mk none (some 8) (Ef.pr Pr.mv) [X.c (Value.int IntKind.i64 0)], I.mk none (some 9) (Ef.pr Pr.mv) [X.c (Value.int IntKind.i64 0)]]) 
  (IC.seq (IC.ops [I.mk none (some 13) (Ef.pr Pr.mv) [X.t 0], I.mk none (some 14) (Ef.pr Pr.nilc) [X.t 13], I.mk none (some 15) (Ef.pr (Pr.fa 0)) [X.t 14], I.mk none (some 16) (Ef.pr (Pr.ld 1 true)) [X.t 15], I.mk none (some 17) (Ef.pr Pr.mv) [X.t 1], I.mk none (some 18) (Ef.call 56) [X.t 16, X.t 17], I.mk none (some 10) (Ef.pr Pr.mv) [X.t 18]]) 
  (IC.seq 
  (IC.block 0 
  (IC.seq (IC.ops [I.mk none (some 20) (Ef.pr Pr.mv) [X.t 10], I.mk none (some 21) (Ef.pr (Pr.eq false (EqT.one EqS.p))) [X.t 20, X.c (Value.pointer none)], I.mk none (some 19) (Ef.pr Pr.mv) [X.t 21]]) 
  (IC.cond (X.t 19) 
  (IC.seq (IC.ops [I.mk none (some 8) (Ef.pr Pr.mv) [X.c (Value.int IntKind.i64 (-1))], I.mk none (some 9) (Ef.pr Pr.mv) [X.c (Value.int IntKind.i64 90)]]) IC.ret) 
  (IC.seq (IC.ops [I.mk none (some 23) (Ef.pr (Pr.ld 3 true)) [X.t 7], I.mk none (some 24) (Ef.call 60) [X.t 23], I.mk none (some 25) (Ef.pr (Pr.un UnOp.not)) [X.t 24], I.mk none (some 26) (Ef.pr Pr.mv) [X.t 25], I.mk (some (26, false)) (some 27) (Ef.pr Pr.mv) [X.t 2], I.mk (some (26, false)) (some 28) (Ef.pr Pr.mv) [X.t 0], I.mk (some (26, false)) (some 29) (Ef.pr Pr.nilc) [X.t 28], I.mk (some (26, false)) (some 30) (Ef.pr (Pr.fa 1)) [X.t 29], I.mk (some (26, false)) (some 31) (Ef.pr (Pr.ld 1 false)) [X.t 30], I.mk (some (26, false)) (some 32) (Ef.pr (Pr.cm BinOp.leq)) [X.t 27, X.t 31], I.mk none (some 33) (Ef.pr Pr.pick) [X.t 26, X.c (Value.bool true), X.t 32], I.mk none (some 34) (Ef.pr Pr.mv) [X.t 33], I.mk (some (34, false)) (some 35) (Ef.pr Pr.mv) [X.t 2], I.mk (some (34, false)) (some 36) (Ef.pr (Pr.cm BinOp.gtr)) [X.t 35, X.c (Value.int IntKind.i64 4611686018427387903)], I.mk none (some 37) (Ef.pr Pr.pick) [X.t 34, X.c (Value.bool true), X.t 36], I.mk none (some 22) (Ef.pr Pr.mv) [X.t 37]]) 
  (IC.cond (X.t 22) 
  (IC.seq (IC.ops [I.mk none (some 8) (Ef.pr Pr.mv) [X.c (Value.int IntKind.i64 (-1))], I.mk none (some 9) (Ef.pr Pr.mv) [X.c (Value.int IntKind.i64 1)]]) IC.ret) 
  (IC.seq (IC.plan (Plan.q (I.mk none (some 39) (Ef.pr (Pr.ld 3 true)) [X.t 7]) (Plan.q (I.mk none (some 41) (Ef.pr Pr.mv) [X.t 10]) (Plan.q (I.mk none (some 42) (Ef.pr Pr.nilc) [X.t 41]) (Plan.q (I.mk none (some 43) (Ef.pr (Pr.fa 21)) [X.t 42]) (Plan.br (PlanL.cons false false (I.mk none (some 40) (Ef.call 62) [X.t 39]) (Plan.br (PlanL.cons false false (I.mk none (some 44) (Ef.call 58) [X.t 43]) (Plan.br (PlanL.cons false false (I.mk none (some 45) (Ef.call 61) [X.t 40, X.t 44]) (Plan.q (I.mk none (some 46) (Ef.pr (Pr.un UnOp.not)) [X.t 45]) (Plan.q (I.mk none (some 38) (Ef.pr Pr.mv) [X.t 46]) Plan.done)) PlanL.nil)) PlanL.nil)) PlanL.nil))))))) 
  (IC.cond (X.t 38) 
  (IC.seq (IC.ops [I.mk none (some 8) (Ef.pr Pr.mv) [X.c (Value.int IntKind.i64 (-1))], I.mk none (some 9) (Ef.pr Pr.mv) [X.c (Value.int IntKind.i64 2)]]) IC.ret) IC.skip))))))) 
  (IC.seq (IC.plan (Plan.q (I.mk none (some 48) (Ef.pr Pr.mv) [X.t 0]) (Plan.q (I.mk none (some 49) (Ef.pr Pr.nilc) [X.t 48]) (Plan.q (I.mk none (some 50) (Ef.pr (Pr.fa 0)) [X.t 49]) (Plan.q (I.mk none (some 51) (Ef.pr (Pr.fa 0)) [X.t 50]) (Plan.q (I.mk none (some 52) (Ef.pr (Pr.ld 1 false)) [X.t 51]) (Plan.q (I.mk none (some 53) (Ef.pr Pr.mv) [X.t 2]) (Plan.q (I.mk none (some 54) (Ef.pr Pr.mv) [X.t 1]) (Plan.q (I.mk none (some 55) (Ef.pr (Pr.bld [Value.int IntKind.i64 0, Value.int IntKind.i64 0, Value.int IntKind.i64 0, Value.int IntKind.i64 0, Value.int IntKind.i64 0, Value.bool false, Value.int IntKind.u32 0, Value.int IntKind.u32 0, Value.int IntKind.u32 0, Value.int IntKind.u32 0, Value.int IntKind.u32 0, Value.int IntKind.u32 0, Value.int IntKind.u32 0, Value.int IntKind.u32 0, Value.int IntKind.u32 0, Value.int IntKind.i64 0, Value.int IntKind.i64 0, Value.int IntKind.i64 0, Value.int IntKind.i64 0, Value.int IntKind.i64 0, Value.int IntKind.i64 0] [(0, 1), (1, 1)])) [X.t 53, X.t 54]) (Plan.q (I.mk none (some 56) (Ef.pr (Pr.ld 3 true)) [X.t 7]) (Plan.q (I.mk none (some 57) (Ef.pr (Pr.bld [Value.int IntKind.i64 0, Value.int IntKind.i64 0, Value.int IntKind.i64 0, Value.int IntKind.i64 0, Value.int IntKind.i64 0, Value.int IntKind.i64 0, Value.int IntKind.i64 0, Value.int IntKind.i64 0, Value.int IntKind.i64 0] [(0, 3)])) [X.t 56]) (Plan.q (I.mk none (some 58) (Ef.pr (Pr.bld [Value.int IntKind.i64 0, Value.int IntKind.i64 0, Value.int IntKind.i64 0, Value.int IntKind.i64 0, Value.int IntKind.i64 0, Value.bool false, Value.int IntKind.u32 0, Value.int IntKind.u32 0, Value.int IntKind.u32 0, Value.int IntKind.u32 0, Value.int IntKind.u32 0, Value.int IntKind.u32 0, Value.int IntKind.u32 0, Value.int IntKind.u32 0, Value.int IntKind.u32 0, Value.int IntKind.i64 0, Value.int IntKind.i64 0, Value.int IntKind.i64 0, Value.int IntKind.i64 0, Value.int IntKind.i64 0, Value.int IntKind.i64 0, Value.int IntKind.i64 0, Value.int IntKind.i64 0, Value.int IntKind.i64 0, Value.int IntKind.i64 0, Value.int IntKind.i64 0, Value.int IntKind.i64 0, Value.int IntKind.i64 0, Value.int IntKind.i64 0, Value.int IntKind.i64 0, Value.slice none 0 0] [(0, 21), (21, 9)])) [X.t 55, X.t 57]) (Plan.br (PlanL.cons true false (I.mk none (some 59) (Ef.bxh 103) [X.t 58]) (Plan.br (PlanL.cons false false (I.mk none (some 60) (Ef.call 63) [X.t 52, X.t 59]) (Plan.q (I.mk none (some 47) (Ef.pr Pr.mv) [X.t 60]) (Plan.q (I.mk none (some 61) (Ef.pr (Pr.ext 0)) [X.t 47]) (Plan.q (I.mk none (some 62) (Ef.pr (Pr.ext 1)) [X.t 47]) (Plan.q (I.mk none (some 11) (Ef.pr Pr.mv) [X.t 61]) (Plan.q (I.mk none (some 12) (Ef.pr Pr.mv) [X.t 62]) Plan.done))))) PlanL.nil)) PlanL.nil)))))))))))))) 
  (IC.seq 
  (IC.seq (IC.ops [I.mk none (some 63) (Ef.pr Pr.mv) [X.t 12], I.mk none (some 64) (Ef.pr (Pr.cm BinOp.neq)) [X.t 63, X.c (Value.int IntKind.i64 0)]]) 
  (IC.cond (X.t 64) 
  (IC.seq (IC.ops [I.mk none (some 8) (Ef.pr Pr.mv) [X.c (Value.int IntKind.i64 (-1))], I.mk none (some 9) (Ef.pr Pr.mv) [X.c (Value.int IntKind.i64 2)]]) IC.ret) IC.skip)) 
  (IC.seq (IC.plan (Plan.q (I.mk none (some 65) (Ef.pr Pr.mv) [X.t 10]) (Plan.q (I.mk none (some 66) (Ef.pr Pr.nilc) [X.t 65]) (Plan.q (I.mk none (some 67) (Ef.pr (Pr.fa 21)) [X.t 66]) (Plan.q (I.mk none (some 68) (Ef.pr (Pr.ld 3 true)) [X.t 7]) (Plan.br (PlanL.cons false false (I.mk none (some 69) (Ef.call 64) [X.t 67, X.t 68]) Plan.done PlanL.nil))))))) 
  (IC.seq (IC.ops [I.mk none (some 70) (Ef.pr Pr.mv) [X.t 10], I.mk none (some 71) (Ef.pr Pr.mv) [X.t 10], I.mk none (some 72) (Ef.pr Pr.nilc) [X.t 71], I.mk none (some 73) (Ef.pr (Pr.fa 30)) [X.t 72], I.mk none (some 74) (Ef.pr (Pr.ld 1 false)) [X.t 73], I.mk none (some 75) (Ef.pr Pr.mv) [X.t 11], I.mk none (some 76) (Ef.bsl [Value.int IntKind.i64 0] 3 1 1 [0]) [X.t 75], I.mk none (some 77) (Ef.app [Value.int IntKind.i64 0] 3 8) [X.t 74, X.t 76], I.mk none (some 78) (Ef.pr Pr.nilc) [X.t 70], I.mk none (some 79) (Ef.pr (Pr.fa 30)) [X.t 78], I.mk none none (Ef.st 1) [X.t 79, X.t 77]]) 
  (IC.seq (IC.ops [I.mk none (some 80) (Ef.pr Pr.mv) [X.t 0], I.mk none (some 81) (Ef.pr Pr.mv) [X.t 2], I.mk none (some 82) (Ef.pr Pr.nilc) [X.t 80], I.mk none (some 83) (Ef.pr (Pr.fa 1)) [X.t 82], I.mk none none (Ef.st 1) [X.t 83, X.t 81]]) 
  (IC.seq (IC.ops [I.mk none (some 84) (Ef.pr Pr.mv) [X.t 11], I.mk none (some 8) (Ef.pr Pr.mv) [X.t 84], I.mk none (some 9) (Ef.pr Pr.mv) [X.c (Value.int IntKind.i64 0)]]) IC.ret))))))))

theorem k22 : Go.Proofs.Try.f22.body.bind (comp Go.Proofs.Try.prog 85 [7] []) = some c22 := by kernel_rfl

theorem r22 : cRVs Go.Proofs.Try.prog Go.Proofs.Try.f22.results.toList = some [RV.t 8, RV.t 9] := by kernel_rfl

theorem e22 {args : List Value} {h : Hp} {Q : Value → Hp → Prop} (hl : Nat.ble args.length 85 = true) (hk : codeK PR none c22 (retK Q [RV.t 8, RV.t 9]) (fun _ _ _ _ => False) (retK Q [RV.t 8, RV.t 9]) (argsE 0 args) [] h) : Ok PR 22 args h Q :=
  Ok.of mixed Go.Proofs.Try.func22 rfl k22 r22 hl hk

def c23 : IC := IC.seq (IC.ops [I.mk none (some 4) (Ef.pr Pr.mv) [X.c (Value.slice none 0 0)], I.mk none (some 5) (Ef.pr Pr.mv) [X.c (Value.int IntKind.i64 0)]]) 
  (IC.seq (IC.ops [I.mk none (some 14) (Ef.pr Pr.mv) [X.t 0], I.mk none (some 15) (Ef.pr Pr.nilc) [X.t 14], I.mk none (some 16) (Ef.pr (Pr.fa 0)) [X.t 15], I.mk none (some 17) (Ef.pr (Pr.ld 1 true)) [X.t 16], I.mk none (some 18) (Ef.pr Pr.mv) [X.t 1], I.mk none (some 19) (Ef.call 56) [X.t 17, X.t 18], I.mk none (some 6) (Ef.pr Pr.mv) [X.t 19]]) 
  (IC.seq 
  (IC.seq (IC.ops [I.mk none (some 20) (Ef.pr Pr.mv) [X.t 6], I.mk none (some 21) (Ef.pr (Pr.eq false (EqT.one EqS.p))) [X.t 20, X.c (Value.pointer none)]]) 
  (IC.cond (X.t 21) 
  (IC.seq (IC.ops [I.mk none (some 4) (Ef.pr Pr.mv) [X.c (Value.slice none 0 0)], I.mk none (some 5) (Ef.pr Pr.mv) [X.c (Value.int IntKind.i64 90)]]) IC.ret) IC.skip)) 
  (IC.seq 
  (IC.seq (IC.ops [I.mk none (some 22) (Ef.pr Pr.mv) [X.t 1], I.mk none (some 23) (Ef.pr (Pr.cm BinOp.eql)) [X.t 22, X.c (Value.int IntKind.i64 0)]]) 
  (IC.cond (X.t 23) 
  (IC.seq (IC.ops [I.mk none (some 4) (Ef.pr Pr.mv) [X.c (Value.slice none 0 0)], I.mk none (some 5) (Ef.pr Pr.mv) [X.c (Value.int IntKind.i64 92)]]) IC.ret) IC.skip)) 
  (IC.seq (IC.ops [I.mk none (some 24) (Ef.pr Pr.mv) [X.t 0], I.mk none (some 25) (Ef.pr Pr.mv) [X.t 1], I.mk none (some 26) (Ef.call 65) [X.t 24, X.t 25, X.c (Value.slice none 0 0)], I.mk none (some 7) (Ef.pr Pr.mv) [X.t 26]]) 
  (IC.seq (IC.plan (Plan.q (I.mk none (some 27) (Ef.pr Pr.mv) [X.t 0]) (Plan.q (I.mk none (some 28) (Ef.pr Pr.nilc) [X.t 27]) (Plan.q (I.mk none (some 29) (Ef.pr (Pr.fa 0)) [X.t 28]) (Plan.q (I.mk none (some 30) (Ef.pr (Pr.ld 1 true)) [X.t 29]) (Plan.q (I.mk none (some 31) (Ef.pr Pr.mv) [X.t 6]) (Plan.q (I.mk none (some 32) (Ef.pr Pr.nilc) [X.t 31]) (Plan.q (I.mk none (some 33) (Ef.pr (Pr.fa 0)) [X.t 32]) (Plan.q (I.mk none (some 34) (Ef.pr (Pr.fa 1)) [X.t 33]) (Plan.q (I.mk none (some 35) (Ef.pr (Pr.ld 1 false)) [X.t 34]) (Plan.br (PlanL.cons false false (I.mk none (some 36) (Ef.call 56) [X.t 30, X.t 35]) (Plan.q (I.mk none (some 8) (Ef.pr Pr.mv) [X.t 36]) Plan.done) PlanL.nil)))))))))))) 
  (IC.seq (IC.plan (Plan.q (I.mk none (some 37) (Ef.pr Pr.mv) [X.t 8]) (Plan.q (I.mk none (some 38) (Ef.pr Pr.nilc) [X.t 37]) (Plan.q (I.mk none (some 39) (Ef.pr (Pr.fa 21)) [X.t 38]) (Plan.q (I.mk none (some 40) (Ef.pr Pr.mv) [X.t 6]) (Plan.q (I.mk none (some 41) (Ef.pr Pr.nilc) [X.t 40]) (Plan.q (I.mk none (some 42) (Ef.pr (Pr.fa 21)) [X.t 41]) (Plan.q (I.mk none (some 43) (Ef.pr (Pr.fa 0)) [X.t 42]) (Plan.q (I.mk none (some 44) (Ef.pr (Pr.ld 3 true)) [X.t 43]) (Plan.br (PlanL.cons false false (I.mk none (some 45) (Ef.call 66) [X.t 39, X.t 44]) Plan.done PlanL.nil))))))))))) 
  (IC.seq (IC.ops [I.mk none (some 9) (Ef.pr Pr.mv) [X.c (Value.slice none 0 0)]]) 
  (IC.seq 
  (IC.seq (IC.ops [I.mk none (some 46) (Ef.pr Pr.mv) [X.t 8], I.mk none (some 47) (Ef.pr Pr.nilc) [X.t 46], I.mk none (some 48) (Ef.pr (Pr.fa 30)) [X.t 47], I.mk none (some 49) (Ef.pr (Pr.ld 1 false)) [X.t 48], I.mk none (some 50) (Ef.pr Pr.lenS) [X.t 49], I.mk none (some 51) (Ef.pr Pr.mv) [X.c (Value.int IntKind.i64 0)]]) 
  (IC.block 0 
  (IC.loop 
  (IC.seq (IC.ops [I.mk none (some 52) (Ef.pr (Pr.cm BinOp.lss)) [X.t 51, X.t 50]]) 
  (IC.seq 
  (IC.cond (X.t 52) IC.skip (IC.exit 0)) 
  (IC.seq 
  (IC.block 1 
  (IC.seq (IC.ops [I.mk none (some 53) (Ef.pr (Pr.iaS 1)) [X.t 49, X.t 51], I.mk none (some 54) (Ef.pr (Pr.ld 1 false)) [X.t 53], I.mk none (some 11) (Ef.pr Pr.mv) [X.t 54]]) 
  (IC.seq (IC.ops [I.mk none (some 55) (Ef.pr Pr.mv) [X.t 11], I.mk none (some 56) (Ef.pr Pr.mv) [X.t 1], I.mk none (some 57) (Ef.pr (Pr.cm BinOp.neq)) [X.t 55, X.t 56]]) 
  (IC.cond (X.t 57) (IC.ops [I.mk none (some 58) (Ef.pr Pr.mv) [X.t 9], I.mk none (some 59) (Ef.pr Pr.mv) [X.t 11], I.mk none (some 60) (Ef.bsl [Value.int IntKind.i64 0] 3 1 1 [0]) [X.t 59], I.mk none (some 61) (Ef.app [Value.int IntKind.i64 0] 3 8) [X.t 58, X.t 60], I.mk none (some 9) (Ef.pr Pr.mv) [X.t 61]]) IC.skip)))) (IC.ops [I.mk none (some 62) (Ef.pr (Pr.ar BinOp.add)) [X.t 51, X.c (Value.int IntKind.i64 1)], I.mk none (some 51) (Ef.pr Pr.mv) [X.t 62]]))))))) 
  (IC.seq (IC.ops [I.mk none (some 63) (Ef.pr Pr.mv) [X.t 8], I.mk none (some 64) (Ef.pr Pr.mv) [X.t 9], I.mk none (some 65) (Ef.pr Pr.nilc) [X.t 63], I.mk none (some 66) (Ef.pr (Pr.fa 30)) [X.t 65], I.mk none none (Ef.st 1) [X.t 66, X.t 64]]) 
  (IC.seq 
  (IC.seq (IC.ops [I.mk none (some 67) (Ef.pr Pr.mv) [X.t 7], I.mk none (some 68) (Ef.pr Pr.lenS) [X.t 67], I.mk none (some 69) (Ef.pr Pr.mv) [X.c (Value.int IntKind.i64 0)]]) 
  (IC.block 2 
  (IC.loop 
  (IC.seq (IC.ops [I.mk none (some 70) (Ef.pr (Pr.cm BinOp.lss)) [X.t 69, X.t 68]]) 
  (IC.seq 
  (IC.cond (X.t 70) IC.skip (IC.exit 2)) 
  (IC.seq 
  (IC.block 3 
  (IC.seq (IC.ops [I.mk none (some 71) (Ef.pr (Pr.iaS 1)) [X.t 67, X.t 69], I.mk none (some 72) (Ef.pr (Pr.ld 1 false)) [X.t 71], I.mk none (some 13) (Ef.pr Pr.mv) [X.t 72]]) (IC.ops [I.mk none (some 73) (Ef.pr Pr.mv) [X.t 0], I.mk none (some 74) (Ef.pr Pr.nilc) [X.t 73], I.mk none (some 75) (Ef.pr (Pr.fa 0)) [X.t 74], I.mk none (some 76) (Ef.pr (Pr.fa 0)) [X.t 75], I.mk none (some 77) (Ef.pr (Pr.ld 1 false)) [X.t 76], I.mk none (some 78) (Ef.pr Pr.mv) [X.t 13], I.mk none (some 79) (Ef.call 67) [X.t 77, X.t 78]]))) (IC.ops [I.mk none (some 80) (Ef.pr (Pr.ar BinOp.add)) [X.t 69, X.c (Value.int IntKind.i64 1)], I.mk none (some 69) (Ef.pr Pr.mv) [X.t 80]]))))))) 
  (IC.seq (IC.ops [I.mk none (some 81) (Ef.pr Pr.mv) [X.t 7], I.mk none (some 4) (Ef.pr Pr.mv) [X.t 81], I.mk none (some 5) (Ef.pr Pr.mv) [X.c (Value.int IntKind.i64 0)]]) IC.ret)))))))))))

theorem k23 : Go.Proofs.Try.f23.body.bind (comp Go.Proofs.Try.prog 82 [] []) = some c23 := by kernel_rfl

theorem r23 : cRVs Go.Proofs.Try.prog Go.Proofs.Try.f23.results.toList = some [RV.t 4, RV.t 5] := by kernel_rfl

theorem e23 {args : List Value} {h : Hp} {Q : Value → Hp → Prop} (hl : Nat.ble args.length 82 = true) (hk : codeK PR none c23 (retK Q [RV.t 4, RV.t 5]) (fun _ _ _ _ => False) (retK Q [RV.t 4, RV.t 5]) (argsE 0 args) [] h) : Ok PR 23 args h Q :=
  Ok.of mixed Go.Proofs.Try.func23 rfl k23 r23 hl hk

def c24 : IC := IC.seq (IC.ops [I.mk none (some 6) Ef.bx [X.t 2], I.mk none (some 7) Ef.bx [X.t 3], I.mk none (some 8) (Ef.pr Pr.mv) [X.c (Value.bool false)]]) 
  (IC.seq (IC.ops [I.mk none (some 15) (Ef.pr Pr.mv) [X.t 0], I.mk none (some 16) (Ef.pr Pr.nilc) [X.t 15], I.mk none (some 17) (Ef.pr (Pr.fa 0)) [X.t 16], I.mk none (some 18) (Ef.pr (Pr.ld 16 true)) [X.t 17], I.mk none (some 9) (Ef.al [Value.bool false, Value.bool false, Value.bool false, Value.bool false, Value.bool false, Value.bool false, Value.bool false, Value.bool false, Value.bool false, Value.bool false, Value.bool false, Value.bool false, Value.bool false, Value.bool false, Value.bool false, Value.bool false]) [], I.mk none none (Ef.st 16) [X.t 9, X.t 18]]) 
  (IC.seq (IC.ops [I.mk none (some 19) (Ef.pr Pr.mv) [X.t 0], I.mk none (some 20) (Ef.pr Pr.mv) [X.t 1], I.mk none (some 21) (Ef.pr (Pr.ld 18 true)) [X.t 6], I.mk none (some 22) (Ef.call 20) [X.t 19, X.t 20, X.t 21], I.mk none (some 10) (Ef.pr Pr.mv) [X.t 22]]) 
  (IC.seq 
  (IC.seq (IC.ops [I.mk none (some 23) (Ef.pr Pr.mv) [X.t 10], I.mk none (some 24) (Ef.pr (Pr.un UnOp.not)) [X.t 23]]) 
  (IC.cond (X.t 24) 
  (IC.seq (IC.ops [I.mk none (some 8) (Ef.pr Pr.mv) [X.c (Value.bool false)]]) IC.ret) IC.skip)) 
  (IC.seq (IC.ops [I.mk none (some 25) (Ef.pr Pr.mv) [X.t 1], I.mk none (some 26) (Ef.call 21) [X.t 25], I.mk none (some 11) (Ef.al [Value.int IntKind.i64 0, Value.int IntKind.i64 0, Value.int IntKind.i64 0, Value.int IntKind.i64 0, Value.int IntKind.i64 0, Value.bool false, Value.int IntKind.u32 0, Value.int IntKind.u32 0, Value.int IntKind.u32 0, Value.int IntKind.u32 0, Value.int IntKind.u32 0, Value.int IntKind.u32 0, Value.int IntKind.u32 0, Value.int IntKind.u32 0, Value.int IntKind.u32 0, Value.int IntKind.i64 0, Value.int IntKind.i64 0, Value.int IntKind.i64 0, Value.int IntKind.i64 0, Value.int IntKind.i64 0, Value.int IntKind.i64 0, Value.int IntKind.i64 0, Value.int IntKind.i64 0, Value.int IntKind.i64 0, Value.int IntKind.i64 0, Value.int IntKind.i64 0, Value.bool false, Value.int IntKind.u32 0, Value.int IntKind.u32 0, Value.int IntKind.u32 0, Value.int IntKind.u32 0, Value.int IntKind.u32 0, Value.int IntKind.u32 0, Value.int IntKind.u32 0, Value.int IntKind.u32 0, Value.int IntKind.u32 0, Value.int IntKind.i64 0, Value.int IntKind.i64 0, Value.int IntKind.i64 0, Value.int IntKind.i64 0, Value.int IntKind.i64 0, Value.int IntKind.i64 0, Value.int IntKind.i64 0, Value.int IntKind.i64 0, Value.int IntKind.i64 0, Value.int IntKind.i64 0, Value.int IntKind.i64 0, Value.bool false, Value.int IntKind.u32 0, Value.int IntKind.u32 0, Value.int IntKind.u32 0, Value.int IntKind.u32 0, Value.int IntKind.u32 0, Value.int IntKind.u32 0, Value.int IntKind.u32 0, Value.int IntKind.u32 0, Value.int IntKind.u32 0, Value.int IntKind.i64 0, Value.int IntKind.i64 0, Value.int IntKind.i64 0, Value.int IntKind.i64 0, Value.int IntKind.i64 0, Value.int IntKind.i64 0, Value.int IntKind.i64 0, Value.int IntKind.i64 0, Value.int IntKind.i64 0, Value.int IntKind.i64 0, Value.int IntKind.i64 0, Value.bool false, Value.int IntKind.u32 0, Value.int IntKind.u32 0, Value.int IntKind.u32 0, Value.int IntKind.u32 0, Value.int IntKind.u32 0, Value.int IntKind.u32 0, Value.int IntKind.u32 0, Value.int IntKind.u32 0, Value.int IntKind.u32 0, Value.int IntKind.i64 0, Value.int IntKind.i64 0, Value.int IntKind.i64 0, Value.int IntKind.i64 0, Value.int IntKind.i64 0, Value.int IntKind.i64 0, Value.int IntKind.i64 0, Value.int IntKind.i64 0, Value.int IntKind.i64 0, Value.int IntKind.i64 0, Value.int IntKind.i64 0, Value.bool false, Value.int IntKind.u32 0, Value.int IntKind.u32 0, Value.int IntKind.u32 0, Value.int IntKind.u32 0, Value.int IntKind.u32 0, Value.int IntKind.u32 0, Value.int IntKind.u32 0, Value.int IntKind.u32 0, Value.int IntKind.u32 0, Value.int IntKind.i64 0, Value.int IntKind.i64 0, Value.int IntKind.i64 0, Value.int IntKind.i64 0, Value.int IntKind.i64 0, Value.int IntKind.i64 0, Value.int IntKind.i64 0, Value.int IntKind.i64 0, Value.int IntKind.i64 0, Value.int IntKind.i64 0, Value.int IntKind.i64 0, Value.bool false, Value.int IntKind.u32 0, Value.int IntKind.u32 0, Value.int IntKind.u32 0, Value.int IntKind.u32 0, Value.int IntKind.u32 0, Value.int IntKind.u32 0, Value.int IntKind.u32 0, Value.int IntKind.u32 0, Value.int IntKind.u32 0, Value.int IntKind.i64 0, Value.int IntKind.i64 0, Value.int IntKind.i64 0, Value.int IntKind.i64 0, Value.int IntKind.i64 0, Value.int IntKind.i64 0, Value.int IntKind.i64 0, Value.int IntKind.i64 0, Value.int IntKind.i64 0, Value.int IntKind.i64 0, Value.int IntKind.i64 0, Value.bool false, Value.int IntKind.u32 0, Value.int IntKind.u32 0, Value.int IntKind.u32 0, Value.int IntKind.u32 0, Value.int IntKind.u32 0, Value.int IntKind.u32 0, Value.int IntKind.u32 0, Value.int IntKind.u32 0, Value.int IntKind.u32 0, Value.int IntKind.i64 0, Value.int IntKind.i64 0, Value.int IntKind.i64 0, Value.int IntKind.i64 0, Value.int IntKind.i64 0, Value.int IntKind.i64 0, Value.int IntKind.i64 0, Value.int IntKind.i64 0, Value.int IntKind.i64 0, Value.int IntKind.i64 0, Value.int IntKind.i64 0, Value.bool false, Value.int IntKind.u32 0, Value.int IntKind.u32 0, Value.int IntKind.u32 0, Value.int IntKind.u32 0, Value.int IntKind.u32 0, Value.int IntKind.u32 0, Value.int IntKind.u32 0, Value.int IntKind.u32 0, Value.int IntKind.u32 0, Value.int IntKind.i64 0, Value.int IntKind.i64 0, Value.int IntKind.i64 0, Value.int IntKind.i64 0, Value.int IntKind.i64 0, Value.int IntKind.i64 0, Value.int IntKind.i64 0, Value.int IntKind.i64 0, Value.int IntKind.i64 0, Value.int IntKind.i64 0, Value.int IntKind.i64 0, Value.bool false, Value.int IntKind.u32 0, Value.int IntKind.u32 0, Value.int IntKind.u32 0, Value.int IntKind.u32 0, Value.int IntKind.u32 0, Value.int IntKind.u32 0, Value.int IntKind.u32 0, Value.int IntKind.u32 0, Value.int IntKind.u32 0, Value.int IntKind.i64 0, Value.int IntKind.i64 0, Value.int IntKind.i64 0, Value.int IntKind.i64 0, Value.int IntKind.i64 0, Value.int IntKind.i64 0, Value.int IntKind.i64 0, Value.int IntKind.i64 0, Value.int IntKind.i64 0, Value.int IntKind.i64 0, Value.int IntKind.i64 0, Value.bool false, Value.int IntKind.u32 0, Value.int IntKind.u32 0, Value.int IntKind.u32 0, Value.int IntKind.u32 0, Value.int IntKind.u32 0, Value.int IntKind.u32 0, Value.int IntKind.u32 0, Value.int IntKind.u32 0, Value.int IntKind.u32 0, Value.int IntKind.i64 0, Value.int IntKind.i64 0, Value.int IntKind.i64 0, Value.int IntKind.i64 0, Value.int IntKind.i64 0, Value.int IntKind.i64 0, Value.int IntKind.i64 0, Value.int IntKind.i64 0, Value.int IntKind.i64 0, Value.int IntKind.i64 0, Value.int IntKind.i64 0, Value.bool false, Value.int IntKind.u32 0, Value.int IntKind.u32 0, Value.int IntKind.u32 0, Value.int IntKind.u32 0, Value.int IntKind.u32 0, Value.int IntKind.u32 0, Value.int IntKind.u32 0, Value.int IntKind.u32 0, Value.int IntKind.u32 0, Value.int IntKind.i64 0, Value.int IntKind.i64 0, Value.int IntKind.i64 0, Value.int IntKind.i64 0, Value.int IntKind.i64 0, Value.int IntKind.i64 0, Value.int IntKind.i64 0, Value.int IntKind.i64 0, Value.int IntKind.i64 0, Value.int IntKind.i64 0, Value.int IntKind.i64 0, Value.bool false, Value.int IntKind.u32 0, Value.int IntKind.u32 0, Value.int IntKind.u32 0, Value.int IntKind.u32 0, Value.int IntKind.u32 0, Value.int IntKind.u32 0, Value.int IntKind.u32 0, Value.int IntKind.u32 0, Value.int IntKind.u32 0, Value.int IntKind.i64 0, Value.int IntKind.i64 0, Value.int IntKind.i64 0, Value.int IntKind.i64 0, Value.int IntKind.i64 0, Value.int IntKind.i64 0, Value.int IntKind.i64 0, Value.int IntKind.i64 0, Value.int IntKind.i64 0, Value.int IntKind.i64 0, Value.int IntKind.i64 0, Value.bool false, Value.int IntKind.u32 0, Value.int IntKind.u32 0, Value.int IntKind.u32 0, Value.int IntKind.u32 0, Value.int IntKind.u32 0, Value.int IntKind.u32 0, Value.int IntKind.u32 0, Value.int IntKind.u32 0, Value.int IntKind.u32 0, Value.int IntKind.i64 0, Value.int IntKind.i64 0, Value.int IntKind.i64 0, Value.int IntKind.i64 0, Value.int IntKind.i64 0, Value.int IntKind.i64 0, Value.int IntKind.i64 0, Value.int IntKind.i64 0, Value.int IntKind.i64 0, Value.int IntKind.i64 0, Value.int IntKind.i64 0, Value.bool false, Value.int IntKind.u32 0, Value.int IntKind.u32 0, Value.int IntKind.u32 0, Value.int IntKind.u32 0, Value.int IntKind.u32 0, Value.int IntKind.u32 0, Value.int IntKind.u32 0, Value.int IntKind.u32 0, Value.int IntKind.u32 0, Value.int IntKind.i64 0, Value.int IntKind.i64 0, Value.int IntKind.i64 0, Value.int IntKind.i64 0, Value.int IntKind.i64 0, Value.int IntKind.i64 0, Value.int IntKind.i64 0, Value.int IntKind.i64 0, Value.int IntKind.i64 0, Value.int IntKind.i64 0, Value.int IntKind.i64 0, Value.bool false, Value.int IntKind.u32 0, Value.int IntKind.u32 0, Value.int IntKind.u32 0, Value.int IntKind.u32 0, Value.int IntKind.u32 0, Value.int IntKind.u32 0, Value.int IntKind.u32 0, Value.int IntKind.u32 0, Value.int IntKind.u32 0, Value.int IntKind.i64 0, Value.int IntKind.i64 0, Value.int IntKind.i64 0, Value.int IntKind.i64 0, Value.int IntKind.i64 0, Value.int IntKind.i64 0, Value.int IntKind.i64 0, Value.int IntKind.i64 0, Value.int IntKind.i64 0, Value.int IntKind.i64 0, Value.int IntKind.i64 0, Value.bool false, Value.int IntKind.u32 0, Value.int IntKind.u32 0, Value.int IntKind.u32 0, Value.int IntKind.u32 0, Value.int IntKind.u32 0, Value.int IntKind.u32 0, Value.int IntKind.u32 0, Value.int IntKind.u32 0, Value.int IntKind.u32 0, Value.int IntKind.i64 0, Value.int IntKind.i64 0, Value.int IntKind.i64 0, Value.int IntKind.i64 0, Value.int IntKind.i64 0, Value.int IntKind.i64 0, Value.int IntKind.i64 0, Value.int IntKind.i64 0, Value.int IntKind.i64 0, Value.int IntKind.i64 0, Value.int IntKind.i64 0, Value.int IntKind.i64 0, Value.int IntKind.i64 0, Value.int IntKind.i64 0, Value.int IntKind.i64 0, Value.int IntKind.i64 0, Value.int IntKind.i64 0, Value.int IntKind.i64 0, Value.int IntKind.i64 0, Value.int IntKind.i64 0, Value.int IntKind.i64 0, Value.int IntKind.i64 0]) [], I.mk none none (Ef.st 352) [X.t 11, X.t 26]]) 
  (IC.seq (IC.ops [I.mk none (some 27) (Ef.pr (Pr.fa 2)) [X.t 6], I.mk none (some 28) (Ef.pr (Pr.ld 1 false)) [X.t 27], I.mk none (some 12) (Ef.pr Pr.mv) [X.t 28]]) 
  (IC.seq 
  (IC.seq (IC.ops [I.mk none (some 29) (Ef.pr (Pr.fa 0)) [X.t 6], I.mk none (some 30) (Ef.pr (Pr.ld 1 false)) [X.t 29], I.mk none (some 31) (Ef.pr (Pr.cm BinOp.eql)) [X.t 30, X.c (Value.int IntKind.i64 3)]]) 
  (IC.cond (X.t 31) 
  (IC.seq (IC.ops [I.mk none (some 12) (Ef.pr Pr.mv) [X.c (Value.int IntKind.i64 (-1))]]) 
  (IC.seq (IC.ops [I.mk none (some 32) (Ef.pr (Pr.fa 2)) [X.t 6], I.mk none (some 33) (Ef.pr (Pr.ld 1 false)) [X.t 32], I.mk none (some 34) (Ef.pr (Pr.cm BinOp.geq)) [X.t 33, X.c (Value.int IntKind.i64 0)], I.mk none (some 35) (Ef.pr Pr.mv) [X.t 34], I.mk (some (35, true)) (some 36) (Ef.pr (Pr.fa 2)) [X.t 6], I.mk (some (35, true)) (some 37) (Ef.pr (Pr.ld 1 false)) [X.t 36], I.mk (some (35, true)) (some 38) (Ef.pr (Pr.cm BinOp.lss)) [X.t 37, X.c (Value.int IntKind.i64 16)], I.mk none (some 39) (Ef.pr Pr.pick) [X.t 35, X.t 38, X.c (Value.bool false)]]) 
  (IC.cond (X.t 39) (IC.ops [I.mk none (some 40) (Ef.pr (Pr.fa 2)) [X.t 6], I.mk none (some 41) (Ef.pr (Pr.ld 1 false)) [X.t 40], I.mk none (some 42) (Ef.pr (Pr.fa 0)) [X.t 7], I.mk none (some 43) (Ef.pr (Pr.iaA 16 21)) [X.t 42, X.t 41], I.mk none (some 44) (Ef.pr (Pr.fa 1)) [X.t 43], I.mk none (some 45) (Ef.pr (Pr.ld 1 false)) [X.t 44], I.mk none (some 12) (Ef.pr Pr.mv) [X.t 45]]) IC.skip))) IC.skip)) 
  (IC.seq 
  (IC.seq (IC.ops [I.mk none (some 13) (Ef.pr Pr.mv) [X.c (Value.int IntKind.i64 0)]]) 
  (IC.block 0 
  (IC.loop 
  (IC.seq 
  (IC.seq (IC.ops [I.mk none (some 46) (Ef.pr Pr.mv) [X.t 13], I.mk none (some 47) (Ef.pr (Pr.cm BinOp.lss)) [X.t 46, X.c (Value.int IntKind.i64 16)]]) 
  (IC.cond (X.t 47) IC.skip (IC.exit 0))) 
  (IC.seq 
  (IC.block 1 
  (IC.seq 
  (IC.seq (IC.plan (Plan.q (I.mk none (some 50) (Ef.pr Pr.mv) [X.t 13]) (Plan.q (I.mk none (some 51) (Ef.pr (Pr.iaA 16 1)) [X.t 9, X.t 50]) (Plan.q (I.mk none (some 52) (Ef.pr (Pr.ld 1 false)) [X.t 51]) (Plan.q (I.mk none (some 53) (Ef.pr Pr.mv) [X.t 0]) (Plan.q (I.mk none (some 54) (Ef.pr Pr.mv) [X.t 13]) (Plan.q (I.mk none (some 55) (Ef.pr Pr.nilc) [X.t 53]) (Plan.q (I.mk none (some 56) (Ef.pr (Pr.fa 0)) [X.t 55]) (Plan.q (I.mk none (some 57) (Ef.pr (Pr.iaA 16 1)) [X.t 56, X.t 54]) (Plan.q (I.mk none (some 58) (Ef.pr (Pr.ld 1 false)) [X.t 57]) (Plan.q (I.mk none (some 59) (Ef.pr (Pr.eq true (EqT.one EqS.b))) [X.t 52, X.t 58]) Plan.done))))))))))) 
  (IC.cond (X.t 59) 
  (IC.seq 
  (IC.seq (IC.plan (Plan.q (I.mk none (some 60) (Ef.pr Pr.mv) [X.t 13]) (Plan.q (I.mk none (some 61) (Ef.pr (Pr.fa 336)) [X.t 11]) (Plan.q (I.mk none (some 62) (Ef.pr (Pr.iaA 16 1)) [X.t 61, X.t 60]) (Plan.q (I.mk none (some 63) (Ef.pr (Pr.ld 1 false)) [X.t 62]) (Plan.q (I.mk none (some 64) (Ef.pr (Pr.cm BinOp.eql)) [X.t 63, X.c (Value.int IntKind.i64 0)]) (Plan.q (I.mk none (some 65) (Ef.pr Pr.mv) [X.t 0]) (Plan.q (I.mk none (some 66) (Ef.pr Pr.mv) [X.t 13]) (Plan.q (I.mk none (some 67) (Ef.pr Pr.nilc) [X.t 65]) (Plan.q (I.mk none (some 68) (Ef.pr (Pr.fa 0)) [X.t 67]) (Plan.q (I.mk none (some 69) (Ef.pr (Pr.iaA 16 1)) [X.t 68, X.t 66]) (Plan.q (I.mk none (some 70) (Ef.pr (Pr.ld 1 false)) [X.t 69]) (Plan.q (I.mk none (some 71) (Ef.pr (Pr.eq true (EqT.one EqS.b))) [X.t 64, X.t 70]) Plan.done))))))))))))) 
  (IC.cond (X.t 71) 
  (IC.seq (IC.ops [I.mk none (some 8) (Ef.pr Pr.mv) [X.c (Value.bool false)]]) IC.ret) IC.skip)) (IC.exit 1)) IC.skip)) 
  (IC.seq (IC.ops [I.mk none (some 72) (Ef.pr Pr.mv) [X.t 13], I.mk none (some 73) (Ef.pr (Pr.fa 0)) [X.t 7], I.mk none (some 74) (Ef.pr (Pr.iaA 16 21)) [X.t 73, X.t 72], I.mk none (some 75) (Ef.pr (Pr.ld 21 true)) [X.t 74], I.mk none (some 14) (Ef.al [Value.int IntKind.i64 0, Value.int IntKind.i64 0, Value.int IntKind.i64 0, Value.int IntKind.i64 0, Value.int IntKind.i64 0, Value.bool false, Value.int IntKind.u32 0, Value.int IntKind.u32 0, Value.int IntKind.u32 0, Value.int IntKind.u32 0, Value.int IntKind.u32 0, Value.int IntKind.u32 0, Value.int IntKind.u32 0, Value.int IntKind.u32 0, Value.int IntKind.u32 0, Value.int IntKind.i64 0, Value.int IntKind.i64 0, Value.int IntKind.i64 0, Value.int IntKind.i64 0, Value.int IntKind.i64 0, Value.int IntKind.i64 0]) [], I.mk none none (Ef.st 21) [X.t 14, X.t 75]]) 
  (IC.seq 
  (IC.seq (IC.ops [I.mk none (some 76) (Ef.pr Pr.mv) [X.t 13], I.mk none (some 77) (Ef.pr Pr.mv) [X.t 12], I.mk none (some 78) (Ef.pr (Pr.cm BinOp.eql)) [X.t 76, X.t 77]]) 
  (IC.cond (X.t 78) (IC.ops [I.mk none (some 79) (Ef.pr Pr.mv) [X.t 13], I.mk none (some 80) (Ef.pr (Pr.fa 0)) [X.t 11], I.mk none (some 81) (Ef.pr (Pr.iaA 16 21)) [X.t 80, X.t 79], I.mk none (some 82) (Ef.pr (Pr.fa 18)) [X.t 81], I.mk none (some 83) (Ef.pr (Pr.ld 3 true)) [X.t 82], I.mk none (some 84) (Ef.pr (Pr.fa 18)) [X.t 14], I.mk none none (Ef.st 3) [X.t 84, X.t 83]]) IC.skip)) 
  (IC.seq (IC.plan (Plan.q (I.mk none (some 85) (Ef.pr (Pr.ld 21 true)) [X.t 14]) (Plan.q (I.mk none (some 86) (Ef.pr Pr.mv) [X.t 13]) (Plan.q (I.mk none (some 87) (Ef.pr (Pr.fa 0)) [X.t 11]) (Plan.q (I.mk none (some 88) (Ef.pr (Pr.iaA 16 21)) [X.t 87, X.t 86]) (Plan.q (I.mk none (some 89) (Ef.pr (Pr.ld 21 true)) [X.t 88]) (Plan.q (I.mk none (some 90) (Ef.pr (Pr.eq true (EqT.ag [(0, EqS.i), (1, EqS.i), (2, EqS.i), (3, EqS.i), (4, EqS.i), (5, EqS.b), (6, EqS.i), (7, EqS.i), (8, EqS.i), (9, EqS.i), (10, EqS.i), (11, EqS.i), (12, EqS.i), (13, EqS.i), (14, EqS.i), (15, EqS.i), (16, EqS.i), (17, EqS.i), (18, EqS.i), (19, EqS.i), (20, EqS.i)]))) [X.t 85, X.t 89]) (Plan.q (I.mk none (some 91) (Ef.pr Pr.mv) [X.t 90]) (Plan.q (I.mk (some (91, false)) (some 92) (Ef.pr Pr.mv) [X.t 13]) (Plan.q (I.mk (some (91, false)) (some 93) (Ef.pr (Pr.fa 336)) [X.t 7]) (Plan.q (I.mk (some (91, false)) (some 94) (Ef.pr (Pr.iaA 16 1)) [X.t 93, X.t 92]) (Plan.q (I.mk (some (91, false)) (some 95) (Ef.pr (Pr.ld 1 false)) [X.t 94]) (Plan.q (I.mk (some (91, false)) (some 96) (Ef.pr Pr.mv) [X.t 13]) (Plan.q (I.mk (some (91, false)) (some 97) (Ef.pr (Pr.fa 336)) [X.t 11]) (Plan.q (I.mk (some (91, false)) (some 98) (Ef.pr (Pr.iaA 16 1)) [X.t 97, X.t 96]) (Plan.q (I.mk (some (91, false)) (some 99) (Ef.pr (Pr.ld 1 false)) [X.t 98]) (Plan.q (I.mk (some (91, false)) (some 100) (Ef.pr (Pr.cm BinOp.neq)) [X.t 95, X.t 99]) (Plan.q (I.mk none (some 101) (Ef.pr Pr.pick) [X.t 91, X.c (Value.bool true), X.t 100]) Plan.done)))))))))))))))))) 
  (IC.cond (X.t 101) 
  (IC.seq (IC.ops [I.mk none (some 8) (Ef.pr Pr.mv) [X.c (Value.bool false)]]) IC.ret) IC.skip)))))) (IC.ops [I.mk none (some 48) (Ef.pr Pr.mv) [X.t 13], I.mk none (some 49) (Ef.pr (Pr.ar BinOp.add)) [X.t 48, X.c (Value.int IntKind.i64 1)], I.mk none (some 13) (Ef.pr Pr.mv) [X.t 49]])))))) 
  (IC.seq (IC.plan (Plan.q (I.mk none (some 102) (Ef.pr (Pr.ld 16 true)) [X.t 9]) (Plan.q (I.mk none (some 103) (Ef.pr Pr.mv) [X.t 0]) (Plan.q (I.mk none (some 104) (Ef.pr Pr.nilc) [X.t 103]) (Plan.q (I.mk none (some 105) (Ef.pr (Pr.fa 0)) [X.t 104]) (Plan.q (I.mk none (some 106) (Ef.pr (Pr.ld 16 true)) [X.t 105]) (Plan.q (I.mk none (some 107) (Ef.pr (Pr.eq true (EqT.ag [(0, EqS.b), (1, EqS.b), (2, EqS.b), (3, EqS.b), (4, EqS.b), (5, EqS.b), (6, EqS.b), (7, EqS.b), (8, EqS.b), (9, EqS.b), (10, EqS.b), (11, EqS.b), (12, EqS.b), (13, EqS.b), (14, EqS.b), (15, EqS.b)]))) [X.t 102, X.t 106]) (Plan.q (I.mk none (some 108) (Ef.pr Pr.mv) [X.t 107]) (Plan.q (I.mk (some (108, false)) (some 109) (Ef.pr (Pr.ld 352 true)) [X.t 11]) (Plan.q (I.mk (some (108, false)) (some 110) (Ef.pr (Pr.ld 352 true)) [X.t 7]) (Plan.q (I.mk (some (108, false)) (some 111) (Ef.pr (Pr.eq false (EqT.ag [(0, EqS.i), (1, EqS.i), (2, EqS.i), (3, EqS.i), (4, EqS.i), (5, EqS.b), (6, EqS.i), (7, EqS.i), (8, EqS.i), (9, EqS.i), (10, EqS.i), (11, EqS.i), (12, EqS.i), (13, EqS.i), (14, EqS.i), (15, EqS.i), (16, EqS.i), (17, EqS.i), (18, EqS.i), (19, EqS.i), (20, EqS.i), (21, EqS.i), (22, EqS.i), (23, EqS.i), (24, EqS.i), (25, EqS.i), (26, EqS.b), (27, EqS.i), (28, EqS.i), (29, EqS.i), (30, EqS.i), (31, EqS.i), (32, EqS.i), (33, EqS.i), (34, EqS.i), (35, EqS.i), (36, EqS.i), (37, EqS.i), (38, EqS.i), (39, EqS.i), (40, EqS.i), (41, EqS.i), (42, EqS.i), (43, EqS.i), (44, EqS.i), (45, EqS.i), (46, EqS.i), (47, EqS.b), (48, EqS.i), (49, EqS.i), (50, EqS.i), (51, EqS.i), (52, EqS.i), (53, EqS.i), (54, EqS.i), (55, EqS.i), (56, EqS.i), (57, EqS.i), (58, EqS.i), (59, EqS.i), (60, EqS.i), (61, EqS.i), (62, EqS.i), (63, EqS.i), (64, EqS.i), (65, EqS.i), (66, EqS.i), (67, EqS.i), (68, EqS.b), (69, EqS.i), (70, EqS.i), (71, EqS.i), (72, EqS.i), (73, EqS.i), (74, EqS.i), (75, EqS.i), (76, EqS.i), (77, EqS.i), (78, EqS.i), (79, EqS.i), (80, EqS.i), (81, EqS.i), (82, EqS.i), (83, EqS.i), (84, EqS.i), (85, EqS.i), (86, EqS.i), (87, EqS.i), (88, EqS.i), (89, EqS.b), (90, EqS.i), (91, EqS.i), (92, EqS.i), (93, EqS.i), (94, EqS.i), (95, EqS.i), (96, EqS.i), (97, EqS.i), (98, EqS.i), (99, EqS.i), (100, EqS.i), (101, EqS.i), (102, EqS.i), (103, EqS.i), (104, EqS.i), (105, EqS.i), (106, EqS.i), (107, EqS.i), (108, EqS.i), (109, EqS.i), (110, EqS.b), (111, EqS.i), (112, EqS.i), (113, EqS.i), (114, EqS.i), (115, EqS.i), (116, EqS.i), (117, EqS.i), (118, EqS.i), (119, EqS.i), (120, EqS.i), (121, EqS.i), (122, EqS.i), (123, EqS.i), (124, EqS.i), (125, EqS.i), (126, EqS.i), (127, EqS.i), (128, EqS.i), (129, EqS.i), (130, EqS.i), (131, EqS.b), (132, EqS.i), (133, EqS.i), (134, EqS.i), (135, EqS.i), (136, EqS.i), (137, EqS.i), (138, EqS.i), (139, EqS.i), (140, EqS.i), (141, EqS.i), (142, EqS.i), (143, EqS.i), (144, EqS.i), (145, EqS.i), (146, EqS.i), (147, EqS.i), (148, EqS.i), (149, EqS.i), (150, EqS.i), (151, EqS.i), (152, EqS.b), (153, EqS.i), (154, EqS.i), (155, EqS.i), (156, EqS.i), (157, EqS.i), (158, EqS.i), (159, EqS.i), (160, EqS.i), (161, EqS.i), (162, EqS.i), (163, EqS.i), (164, EqS.i), (165, EqS.i), (166, EqS.i), (167, EqS.i), (168, EqS.i), (169, EqS.i), (170, EqS.i), (171, EqS.i), (172, EqS.i), (173, EqS.b), (174, EqS.i), (175, EqS.i), (176, EqS.i), (177, EqS.i), (178, EqS.i), (179, EqS.i), (180, EqS.i), (181, EqS.i), (182, EqS.i), (183, EqS.i), (184, EqS.i), (185, EqS.i), (186, EqS.i), (187, EqS.i), (188, EqS.i), (189, EqS.i), (190, EqS.i), (191, EqS.i), (192, EqS.i), (193, EqS.i), (194, EqS.b), (195, EqS.i), (196, EqS.i), (197, EqS.i), (198, EqS.i), (199, EqS.i), (200, EqS.i), (201, EqS.i), (202, EqS.i), (203, EqS.i), (204, EqS.i), (205, EqS.i), (206, EqS.i), (207, EqS.i), (208, EqS.i), (209, EqS.i), (210, EqS.i), (211, EqS.i), (212, EqS.i), (213, EqS.i), (214, EqS.i), (215, EqS.b), (216, EqS.i), (217, EqS.i), (218, EqS.i), (219, EqS.i), (220, EqS.i), (221, EqS.i), (222, EqS.i), (223, EqS.i), (224, EqS.i), (225, EqS.i), (226, EqS.i), (227, EqS.i), (228, EqS.i), (229, EqS.i), (230, EqS.i), (231, EqS.i), (232, EqS.i), (233, EqS.i), (234, EqS.i), (235, EqS.i), (236, EqS.b), (237, EqS.i), (238, EqS.i), (239, EqS.i), (240, EqS.i), (241, EqS.i), (242, EqS.i), (243, EqS.i), (244, EqS.i), (245, EqS.i), (246, EqS.i), (247, EqS.i), (248, EqS.i), (249, EqS.i), (250, EqS.i), (251, EqS.i), (252, EqS.i), (253, EqS.i), (254, EqS.i), (255, EqS.i), (256, EqS.i), (257, EqS.b), (258, EqS.i), (259, EqS.i), (260, EqS.i), (261, EqS.i), (262, EqS.i), (263, EqS.i), (264, EqS.i), (265, EqS.i), (266, EqS.i), (267, EqS.i), (268, EqS.i), (269, EqS.i), (270, EqS.i), (271, EqS.i), (272, EqS.i), (273, EqS.i), (274, EqS.i), (275, EqS.i), (276, EqS.i), (277, EqS.i), (278, EqS.b), (279, EqS.i), (280, EqS.i), (281, EqS.i), (282, EqS.i), (283, EqS.i), (284, EqS.i), (285, EqS.i), (286, EqS.i), (287, EqS.i), (288, EqS.i), (289, EqS.i), (290, EqS.i), (291, EqS.i), (292, EqS.i), (293, EqS.i), (294, EqS.i), (295, EqS.i), (296, EqS.i), (297, EqS.i), (298, EqS.i), (299, EqS.b), (300, EqS.i), (301, EqS.i), (302, EqS.i), (303, EqS.i), (304, EqS.i), (305, EqS.i), (306, EqS.i), (307, EqS.i), (308, EqS.i), (309, EqS.i), (310, EqS.i), (311, EqS.i), (312, EqS.i), (313, EqS.i), (314, EqS.i), (315, EqS.i), (316, EqS.i), (317, EqS.i), (318, EqS.i), (319, EqS.i), (320, EqS.b), (321, EqS.i), (322, EqS.i), (323, EqS.i), (324, EqS.i), (325, EqS.i), (326, EqS.i), (327, EqS.i), (328, EqS.i), (329, EqS.i), (330, EqS.i), (331, EqS.i), (332, EqS.i), (333, EqS.i), (334, EqS.i), (335, EqS.i), (336, EqS.i), (337, EqS.i), (338, EqS.i), (339, EqS.i), (340, EqS.i), (341, EqS.i), (342, EqS.i), (343, EqS.i), (344, EqS.i), (345, EqS.i), (346, EqS.i), (347, EqS.i), (348, EqS.i), (349, EqS.i), (350, EqS.i), (351, EqS.i)]))) [X.t 109, X.t 110]) (Plan.q (I.mk none (some 112) (Ef.pr Pr.pick) [X.t 108, X.c (Value.bool true), X.t 111]) (Plan.q (I.mk none (some 8) (Ef.pr Pr.mv) [X.t 112]) Plan.done))))))))))))) IC.ret))))))))

theorem k24 : Go.Proofs.Try.f24.body.bind (comp Go.Proofs.Try.prog 113 [6, 7, 9, 11, 14] []) = some c24 := by kernel_rfl

theorem r24 : cRVs Go.Proofs.Try.prog Go.Proofs.Try.f24.results.toList = some [RV.t 8] := by kernel_rfl

theorem e24 {args : List Value} {h : Hp} {Q : Value → Hp → Prop} (hl : Nat.ble args.length 113 = true) (hk : codeK PR none c24 (retK Q [RV.t 8]) (fun _ _ _ _ => False) (retK Q [RV.t 8]) (argsE 0 args) [] h) : Ok PR 24 args h Q :=
  Ok.of mixed Go.Proofs.Try.func24 rfl k24 r24 hl hk

def c25 : IC := IC.seq (IC.ops [I.mk none (some 4) Ef.bx [X.t 0], I.mk none (some 5) Ef.bx [X.t 1], I.mk none (some 8) (Ef.pr Pr.mv) [X.c (Value.bool false)]]) 
  (IC.seq 
  (IC.seq (IC.ops [I.mk none (some 9) (Ef.pr Pr.mv) [X.c (Value.int IntKind.i64 0)]]) 
  (IC.block 0 
  (IC.loop 
  (IC.seq 
  (IC.seq (IC.ops [I.mk none (some 10) (Ef.pr Pr.mv) [X.t 9], I.mk none (some 11) (Ef.pr (Pr.cm BinOp.lss)) [X.t 10, X.c (Value.int IntKind.i64 16)]]) 
  (IC.cond (X.t 11) IC.skip (IC.exit 0))) 
  (IC.seq 
  (IC.block 1 
  (IC.seq (IC.plan (Plan.q (I.mk none (some 14) (Ef.pr Pr.mv) [X.t 9]) (Plan.q (I.mk none (some 15) (Ef.pr Pr.mv) [X.t 2]) (Plan.q (I.mk none (some 16) (Ef.pr (Pr.cm BinOp.neq)) [X.t 14, X.t 15]) (Plan.q (I.mk none (some 17) (Ef.pr Pr.mv) [X.t 16]) (Plan.q (I.mk (some (17, true)) (some 18) (Ef.pr Pr.mv) [X.t 9]) (Plan.q (I.mk (some (17, true)) (some 19) (Ef.pr Pr.mv) [X.t 3]) (Plan.q (I.mk (some (17, true)) (some 20) (Ef.pr (Pr.cm BinOp.neq)) [X.t 18, X.t 19]) (Plan.q (I.mk none (some 21) (Ef.pr Pr.pick) [X.t 17, X.t 20, X.c (Value.bool false)]) (Plan.q (I.mk none (some 22) (Ef.pr Pr.mv) [X.t 21]) (Plan.q (I.mk (some (22, true)) (some 23) (Ef.pr Pr.mv) [X.t 9]) (Plan.q (I.mk (some (22, true)) (some 24) (Ef.pr (Pr.fa 0)) [X.t 4]) (Plan.q (I.mk (some (22, true)) (some 25) (Ef.pr (Pr.iaA 16 21)) [X.t 24, X.t 23]) (Plan.q (I.mk (some (22, true)) (some 26) (Ef.pr (Pr.ld 21 true)) [X.t 25]) (Plan.q (I.mk (some (22, true)) (some 27) (Ef.pr Pr.mv) [X.t 9]) (Plan.q (I.mk (some (22, true)) (some 28) (Ef.pr (Pr.fa 0)) [X.t 5]) (Plan.q (I.mk (some (22, true)) (some 29) (Ef.pr (Pr.iaA 16 21)) [X.t 28, X.t 27]) (Plan.q (I.mk (some (22, true)) (some 30) (Ef.pr (Pr.ld 21 true)) [X.t 29]) (Plan.q (I.mk (some (22, true)) (some 31) (Ef.pr (Pr.eq true (EqT.ag [(0, EqS.i), (1, EqS.i), (2, EqS.i), (3, EqS.i), (4, EqS.i), (5, EqS.b), (6, EqS.i), (7, EqS.i), (8, EqS.i), (9, EqS.i), (10, EqS.i), (11, EqS.i), (12, EqS.i), (13, EqS.i), (14, EqS.i), (15, EqS.i), (16, EqS.i), (17, EqS.i), (18, EqS.i), (19, EqS.i), (20, EqS.i)]))) [X.t 26, X.t 30]) (Plan.q (I.mk (some (22, true)) (some 32) (Ef.pr Pr.mv) [X.t 31]) (Plan.q (I.mk (some (32, false)) (some 33) (Ef.pr Pr.mv) [X.t 9]) (Plan.q (I.mk (some (32, false)) (some 34) (Ef.pr (Pr.fa 336)) [X.t 4]) (Plan.q (I.mk (some (32, false)) (some 35) (Ef.pr (Pr.iaA 16 1)) [X.t 34, X.t 33]) (Plan.q (I.mk (some (32, false)) (some 36) (Ef.pr (Pr.ld 1 false)) [X.t 35]) (Plan.q (I.mk (some (32, false)) (some 37) (Ef.pr Pr.mv) [X.t 9]) (Plan.q (I.mk (some (32, false)) (some 38) (Ef.pr (Pr.fa 336)) [X.t 5]) (Plan.q (I.mk (some (32, false)) (some 39) (Ef.pr (Pr.iaA 16 1)) [X.t 38, X.t 37]) (Plan.q (I.mk (some (32, false)) (some 40) (Ef.pr (Pr.ld 1 false)) [X.t 39]) (Plan.q (I.mk (some (32, false)) (some 41) (Ef.pr (Pr.cm BinOp.neq)) [X.t 36, X.t 40]) (Plan.q (I.mk (some (22, true)) (some 42) (Ef.pr Pr.pick) [X.t 32, X.c (Value.bool true), X.t 41]) (Plan.q (I.mk none (some 43) (Ef.pr Pr.pick) [X.t 22, X.t 42, X.c (Value.bool false)]) Plan.done))))))))))))))))))))))))))))))) 
  (IC.cond (X.t 43) 
  (IC.seq (IC.ops [I.mk none (some 8) (Ef.pr Pr.mv) [X.c (Value.bool false)]]) IC.ret) IC.skip))) (IC.ops [I.mk none (some 12) (Ef.pr Pr.mv) [X.t 9], I.mk none (some 13) (Ef.pr (Pr.ar BinOp.add)) [X.t 12, X.c (Value.int IntKind.i64 1)], I.mk none (some 9) (Ef.pr Pr.mv) [X.t 13]])))))) 
  (IC.seq (IC.ops [I.mk none (some 8) (Ef.pr Pr.mv) [X.c (Value.bool true)]]) IC.ret))

theorem k25 : Go.Proofs.Try.f25.body.bind (comp Go.Proofs.Try.prog 44 [4, 5] []) = some c25 := by kernel_rfl

theorem r25 : cRVs Go.Proofs.Try.prog Go.Proofs.Try.f25.results.toList = some [RV.t 8] := by kernel_rfl

theorem e25 {args : List Value} {h : Hp} {Q : Value → Hp → Prop} (hl : Nat.ble args.length 44 = true) (hk : codeK PR none c25 (retK Q [RV.t 8]) (fun _ _ _ _ => False) (retK Q [RV.t 8]) (argsE 0 args) [] h) : Ok PR 25 args h Q :=
  Ok.of mixed Go.Proofs.Try.func25 rfl k25 r25 hl hk

def c26 : IC := IC.seq (IC.ops [I.mk none (some 3) Ef.bx [X.t 0], I.mk none (some 4) Ef.bx [X.t 1], I.mk none (some 5) Ef.bx [X.t 2], I.mk none (some 6) (Ef.pr Pr.mv) [X.c (Value.bool false)]]) 
  (IC.seq 
  (IC.seq (IC.ops [I.mk none (some 7) (Ef.pr (Pr.fa 0)) [X.t 3], I.mk none (some 8) (Ef.pr (Pr.ld 1 false)) [X.t 7]]) 
  (IC.block 0 
  (IC.seq (IC.ops [I.mk none (some 10) (Ef.pr (Pr.cm BinOp.eql)) [X.t 8, X.c (Value.int IntKind.i64 5)], I.mk none (some 9) (Ef.pr Pr.mv) [X.t 10]]) 
  (IC.cond (X.t 9) (IC.ops [I.mk none (some 11) (Ef.pr (Pr.fa 8)) [X.t 3], I.mk none (some 12) (Ef.pr (Pr.ld 9 true)) [X.t 11], I.mk none (some 13) (Ef.pr (Pr.fa 6)) [X.t 4], I.mk none none (Ef.st 9) [X.t 13, X.t 12]]) 
  (IC.seq (IC.ops [I.mk none (some 15) (Ef.pr (Pr.cm BinOp.eql)) [X.t 8, X.c (Value.int IntKind.i64 6)], I.mk none (some 14) (Ef.pr Pr.mv) [X.t 15]]) 
  (IC.cond (X.t 14) 
  (IC.seq (IC.ops [I.mk none (some 16) (Ef.pr (Pr.fa 3)) [X.t 3], I.mk none (some 17) (Ef.pr (Pr.ld 1 false)) [X.t 16], I.mk none (some 18) (Ef.pr (Pr.cm BinOp.geq)) [X.t 17, X.c (Value.int IntKind.i64 0)], I.mk none (some 19) (Ef.pr Pr.mv) [X.t 18], I.mk (some (19, true)) (some 20) (Ef.pr (Pr.fa 3)) [X.t 3], I.mk (some (19, true)) (some 21) (Ef.pr (Pr.ld 1 false)) [X.t 20], I.mk (some (19, true)) (some 22) (Ef.pr (Pr.cm BinOp.leq)) [X.t 21, X.c (Value.int IntKind.i64 4)], I.mk none (some 23) (Ef.pr Pr.pick) [X.t 19, X.t 22, X.c (Value.bool false)], I.mk none (some 24) (Ef.pr Pr.mv) [X.t 23], I.mk (some (24, true)) (some 25) (Ef.pr (Pr.fa 4)) [X.t 3], I.mk (some (24, true)) (some 26) (Ef.pr (Pr.ld 1 false)) [X.t 25], I.mk (some (24, true)) (some 27) (Ef.pr (Pr.cm BinOp.geq)) [X.t 26, X.c (Value.int IntKind.i64 0)], I.mk none (some 28) (Ef.pr Pr.pick) [X.t 24, X.t 27, X.c (Value.bool false)], I.mk none (some 29) (Ef.pr Pr.mv) [X.t 28], I.mk (some (29, true)) (some 30) (Ef.pr (Pr.fa 4)) [X.t 3], I.mk (some (29, true)) (some 31) (Ef.pr (Pr.ld 1 false)) [X.t 30], I.mk (some (29, true)) (some 32) (Ef.pr (Pr.cm BinOp.leq)) [X.t 31, X.c (Value.int IntKind.i64 4294967295)], I.mk none (some 33) (Ef.pr Pr.pick) [X.t 29, X.t 32, X.c (Value.bool false)]]) 
  (IC.cond (X.t 33) 
  (IC.seq (IC.ops [I.mk none (some 34) (Ef.pr (Pr.fa 3)) [X.t 3], I.mk none (some 35) (Ef.pr (Pr.ld 1 false)) [X.t 34], I.mk none (some 36) (Ef.pr (Pr.fa 2)) [X.t 4], I.mk none none (Ef.st 1) [X.t 36, X.t 35]]) (IC.ops [I.mk none (some 37) (Ef.pr (Pr.fa 4)) [X.t 3], I.mk none (some 38) (Ef.pr (Pr.ld 1 false)) [X.t 37], I.mk none (some 39) (Ef.pr (Pr.fa 3)) [X.t 4], I.mk none none (Ef.st 1) [X.t 39, X.t 38]])) IC.skip)) 
  (IC.seq (IC.ops [I.mk none (some 41) (Ef.pr (Pr.cm BinOp.eql)) [X.t 8, X.c (Value.int IntKind.i64 7)], I.mk none (some 40) (Ef.pr Pr.mv) [X.t 41]]) 
  (IC.cond (X.t 40) 
  (IC.seq (IC.ops [I.mk none (some 42) (Ef.pr (Pr.fa 3)) [X.t 3], I.mk none (some 43) (Ef.pr (Pr.ld 1 false)) [X.t 42], I.mk none (some 44) (Ef.pr (Pr.cm BinOp.geq)) [X.t 43, X.c (Value.int IntKind.i64 0)], I.mk none (some 45) (Ef.pr Pr.mv) [X.t 44], I.mk (some (45, true)) (some 46) (Ef.pr (Pr.fa 3)) [X.t 3], I.mk (some (45, true)) (some 47) (Ef.pr (Pr.ld 1 false)) [X.t 46], I.mk (some (45, true)) (some 48) (Ef.pr (Pr.cm BinOp.leq)) [X.t 47, X.c (Value.int IntKind.i64 4294967295)], I.mk none (some 49) (Ef.pr Pr.pick) [X.t 45, X.t 48, X.c (Value.bool false)]]) 
  (IC.cond (X.t 49) (IC.ops [I.mk none (some 50) (Ef.pr (Pr.fa 3)) [X.t 3], I.mk none (some 51) (Ef.pr (Pr.ld 1 false)) [X.t 50], I.mk none (some 52) (Ef.pr (Pr.fa 4)) [X.t 4], I.mk none none (Ef.st 1) [X.t 52, X.t 51]]) IC.skip)) 
  (IC.seq (IC.ops [I.mk none (some 54) (Ef.pr (Pr.cm BinOp.eql)) [X.t 8, X.c (Value.int IntKind.i64 10)], I.mk none (some 53) (Ef.pr Pr.mv) [X.t 54]]) 
  (IC.cond (X.t 53) (IC.ops [I.mk none (some 55) (Ef.pr (Pr.fa 17)) [X.t 3], I.mk none (some 56) (Ef.pr (Pr.ld 1 false)) [X.t 55], I.mk none (some 57) (Ef.pr (Pr.fa 5)) [X.t 4], I.mk none none (Ef.st 1) [X.t 57, X.t 56]]) 
  (IC.seq 
  (IC.seq (IC.ops [I.mk none (some 59) (Ef.pr (Pr.cm BinOp.eql)) [X.t 8, X.c (Value.int IntKind.i64 11)], I.mk none (some 58) (Ef.pr Pr.mv) [X.t 59]]) 
  (IC.cond (X.t 58) IC.skip (IC.ops [I.mk none (some 60) (Ef.pr (Pr.cm BinOp.eql)) [X.t 8, X.c (Value.int IntKind.i64 12)], I.mk none (some 58) (Ef.pr Pr.mv) [X.t 60]]))) 
  (IC.cond (X.t 58) (IC.ops [I.mk none (some 61) (Ef.pr (Pr.fa 18)) [X.t 5], I.mk none (some 62) (Ef.pr (Pr.ld 3 true)) [X.t 61], I.mk none (some 63) (Ef.pr (Pr.fa 18)) [X.t 4], I.mk none none (Ef.st 3) [X.t 63, X.t 62]]) 
  (IC.seq 
  (IC.seq (IC.ops [I.mk none (some 65) (Ef.pr (Pr.cm BinOp.eql)) [X.t 8, X.c (Value.int IntKind.i64 8)], I.mk none (some 64) (Ef.pr Pr.mv) [X.t 65]]) 
  (IC.cond (X.t 64) IC.skip (IC.ops [I.mk none (some 66) (Ef.pr (Pr.cm BinOp.eql)) [X.t 8, X.c (Value.int IntKind.i64 9)], I.mk none (some 64) (Ef.pr Pr.mv) [X.t 66]]))) 
  (IC.cond (X.t 64) 
  (IC.seq (IC.ops [I.mk none (some 67) (Ef.pr (Pr.fa 2)) [X.t 5], I.mk none (some 68) (Ef.pr (Pr.ld 1 false)) [X.t 67], I.mk none (some 69) (Ef.pr (Pr.fa 2)) [X.t 4], I.mk none none (Ef.st 1) [X.t 69, X.t 68]]) 
  (IC.seq (IC.ops [I.mk none (some 70) (Ef.pr (Pr.fa 4)) [X.t 5], I.mk none (some 71) (Ef.pr (Pr.ld 1 false)) [X.t 70], I.mk none (some 72) (Ef.pr (Pr.fa 4)) [X.t 4], I.mk none none (Ef.st 1) [X.t 72, X.t 71]]) 
  (IC.seq (IC.ops [I.mk none (some 73) (Ef.pr (Pr.fa 6)) [X.t 5], I.mk none (some 74) (Ef.pr (Pr.fa 0)) [X.t 73], I.mk none (some 75) (Ef.pr (Pr.iaA 8 1)) [X.t 74, X.c (Value.int IntKind.i64 0)], I.mk none (some 76) (Ef.pr (Pr.ld 1 false)) [X.t 75], I.mk none (some 77) (Ef.pr (Pr.fa 6)) [X.t 4], I.mk none (some 78) (Ef.pr (Pr.fa 0)) [X.t 77], I.mk none (some 79) (Ef.pr (Pr.iaA 8 1)) [X.t 78, X.c (Value.int IntKind.i64 0)], I.mk none none (Ef.st 1) [X.t 79, X.t 76]]) (IC.ops [I.mk none (some 80) (Ef.pr (Pr.fa 6)) [X.t 5], I.mk none (some 81) (Ef.pr (Pr.fa 0)) [X.t 80], I.mk none (some 82) (Ef.pr (Pr.iaA 8 1)) [X.t 81, X.c (Value.int IntKind.i64 1)], I.mk none (some 83) (Ef.pr (Pr.ld 1 false)) [X.t 82], I.mk none (some 84) (Ef.pr (Pr.fa 6)) [X.t 4], I.mk none (some 85) (Ef.pr (Pr.fa 0)) [X.t 84], I.mk none (some 86) (Ef.pr (Pr.iaA 8 1)) [X.t 85, X.c (Value.int IntKind.i64 1)], I.mk none none (Ef.st 1) [X.t 86, X.t 83]])))) IC.skip)))))))))))))) 
  (IC.seq (IC.ops [I.mk none (some 87) (Ef.pr (Pr.ld 21 true)) [X.t 4], I.mk none (some 88) (Ef.pr (Pr.ld 21 true)) [X.t 5], I.mk none (some 89) (Ef.pr (Pr.eq false (EqT.ag [(0, EqS.i), (1, EqS.i), (2, EqS.i), (3, EqS.i), (4, EqS.i), (5, EqS.b), (6, EqS.i), (7, EqS.i), (8, EqS.i), (9, EqS.i), (10, EqS.i), (11, EqS.i), (12, EqS.i), (13, EqS.i), (14, EqS.i), (15, EqS.i), (16, EqS.i), (17, EqS.i), (18, EqS.i), (19, EqS.i), (20, EqS.i)]))) [X.t 87, X.t 88], I.mk none (some 6) (Ef.pr Pr.mv) [X.t 89]]) IC.ret))

theorem k26 : Go.Proofs.Try.f26.body.bind (comp Go.Proofs.Try.prog 90 [3, 4, 5] []) = some c26 := by kernel_rfl

theorem r26 : cRVs Go.Proofs.Try.prog Go.Proofs.Try.f26.results.toList = some [RV.t 6] := by kernel_rfl

theorem e26 {args : List Value} {h : Hp} {Q : Value → Hp → Prop} (hl : Nat.ble args.length 90 = true) (hk : codeK PR none c26 (retK Q [RV.t 6]) (fun _ _ _ _ => False) (retK Q [RV.t 6]) (argsE 0 args) [] h) : Ok PR 26 args h Q :=
  Ok.of mixed Go.Proofs.Try.func26 rfl k26 r26 hl hk

def c27 : IC := IC.seq (IC.ops [I.mk none (some 4) (Ef.pr Pr.mv) [X.c (Value.slice none 0 0)], I.mk none (some 5) (Ef.pr Pr.mv) [X.c (Value.int IntKind.i64 0)]]) 
  (IC.seq 
  (IC.seq (IC.ops [I.mk none (some 6) (Ef.pr Pr.mv) [X.t 0], I.mk none (some 7) (Ef.pr Pr.nilc) [X.t 6], I.mk none (some 8) (Ef.pr (Pr.fa 0)) [X.t 7], I.mk none (some 9) (Ef.pr (Pr.ld 1 true)) [X.t 8], I.mk none (some 10) (Ef.pr Pr.mv) [X.t 1], I.mk none (some 11) (Ef.call 56) [X.t 9, X.t 10], I.mk none (some 12) (Ef.pr (Pr.eq false (EqT.one EqS.p))) [X.t 11, X.c (Value.pointer none)]]) 
  (IC.cond (X.t 12) 
  (IC.seq (IC.ops [I.mk none (some 4) (Ef.pr Pr.mv) [X.c (Value.slice none 0 0)], I.mk none (some 5) (Ef.pr Pr.mv) [X.c (Value.int IntKind.i64 90)]]) IC.ret) IC.skip)) 
  (IC.seq (IC.ops [I.mk none (some 13) (Ef.pr Pr.mv) [X.t 0], I.mk none (some 14) (Ef.pr Pr.mv) [X.t 1], I.mk none (some 15) (Ef.call 65) [X.t 13, X.t 14, X.c (Value.slice none 0 0)], I.mk none (some 4) (Ef.pr Pr.mv) [X.t 15], I.mk none (some 5) (Ef.pr Pr.mv) [X.c (Value.int IntKind.i64 0)]]) IC.ret))

theorem k27 : Go.Proofs.Try.f27.body.bind (comp Go.Proofs.Try.prog 16 [] []) = some c27 := by kernel_rfl

theorem r27 : cRVs Go.Proofs.Try.prog Go.Proofs.Try.f27.results.toList = some [RV.t 4, RV.t 5] := by kernel_rfl

theorem e27 {args : List Value} {h : Hp} {Q : Value → Hp → Prop} (hl : Nat.ble args.length 16 = true) (hk : codeK PR none c27 (retK Q [RV.t 4, RV.t 5]) (fun _ _ _ _ => False) (retK Q [RV.t 4, RV.t 5]) (argsE 0 args) [] h) : Ok PR 27 args h Q :=
  Ok.of mixed Go.Proofs.Try.func27 rfl k27 r27 hl hk

def c28 : IC := IC.seq (IC.ops [I.mk none (some 4) (Ef.pr Pr.mv) [X.c (Value.bool false)]]) 
  (IC.seq (IC.ops [I.mk none (some 5) (Ef.pr Pr.mv) [X.t 1], I.mk none (some 6) (Ef.pr (Pr.cm BinOp.geq)) [X.t 5, X.c (Value.int IntKind.i64 0)], I.mk none (some 7) (Ef.pr Pr.mv) [X.t 6], I.mk (some (7, true)) (some 8) (Ef.pr Pr.mv) [X.t 1], I.mk (some (7, true)) (some 9) (Ef.pr (Pr.cm BinOp.lss)) [X.t 8, X.c (Value.int IntKind.i64 16)], I.mk none (some 10) (Ef.pr Pr.pick) [X.t 7, X.t 9, X.c (Value.bool false)], I.mk none (some 11) (Ef.pr Pr.mv) [X.t 10], I.mk (some (11, true)) (some 12) (Ef.pr Pr.mv) [X.t 0], I.mk (some (11, true)) (some 13) (Ef.pr Pr.mv) [X.t 1], I.mk (some (11, true)) (some 14) (Ef.pr Pr.nilc) [X.t 12], I.mk (some (11, true)) (some 15) (Ef.pr (Pr.fa 0)) [X.t 14], I.mk (some (11, true)) (some 16) (Ef.pr (Pr.iaA 16 1)) [X.t 15, X.t 13], I.mk (some (11, true)) (some 17) (Ef.pr (Pr.ld 1 false)) [X.t 16], I.mk none (some 18) (Ef.pr Pr.pick) [X.t 11, X.t 17, X.c (Value.bool false)], I.mk none (some 4) (Ef.pr Pr.mv) [X.t 18]]) IC.ret)

theorem k28 : Go.Proofs.Try.f28.body.bind (comp Go.Proofs.Try.prog 19 [] []) = some c28 := by kernel_rfl

theorem r28 : cRVs Go.Proofs.Try.prog Go.Proofs.Try.f28.results.toList = some [RV.t 4] := by kernel_rfl

theorem e28 {args : List Value} {h : Hp} {Q : Value → Hp → Prop} (hl : Nat.ble args.length 19 = true) (hk : codeK PR none c28 (retK Q [RV.t 4]) (fun _ _ _ _ => False) (retK Q [RV.t 4]) (argsE 0 args) [] h) : Ok PR 28 args h Q :=
  Ok.of mixed Go.Proofs.Try.func28 rfl k28 r28 hl hk

def c29 : IC := IC.seq (IC.ops [I.mk none (some 3) Ef.bx [X.t 0], I.mk none (some 4) Ef.bx [X.t 1], I.mk none (some 6) (Ef.al [Value.int IntKind.i64 0, Value.int IntKind.i64 0, Value.int IntKind.i64 0]) []]) 
  (IC.seq (IC.ops [I.mk none (some 7) (Ef.pr (Pr.fa 0)) [X.t 3], I.mk none (some 8) (Ef.pr (Pr.ld 1 false)) [X.t 7], I.mk none (some 9) (Ef.pr Pr.mv) [X.t 2], I.mk none (some 10) (Ef.pr (Pr.fa 0)) [X.t 4], I.mk none (some 11) (Ef.pr (Pr.ld 1 false)) [X.t 10], I.mk none (some 12) (Ef.pr (Pr.ar BinOp.mul)) [X.t 9, X.t 11], I.mk none (some 13) (Ef.pr (Pr.ar BinOp.add)) [X.t 8, X.t 12], I.mk none (some 14) (Ef.pr (Pr.fa 1)) [X.t 3], I.mk none (some 15) (Ef.pr (Pr.ld 1 false)) [X.t 14], I.mk none (some 16) (Ef.pr Pr.mv) [X.t 2], I.mk none (some 17) (Ef.pr (Pr.fa 1)) [X.t 4], I.mk none (some 18) (Ef.pr (Pr.ld 1 false)) [X.t 17], I.mk none (some 19) (Ef.pr (Pr.ar BinOp.mul)) [X.t 16, X.t 18], I.mk none (some 20) (Ef.pr (Pr.ar BinOp.add)) [X.t 15, X.t 19], I.mk none (some 21) (Ef.pr (Pr.fa 2)) [X.t 3], I.mk none (some 22) (Ef.pr (Pr.ld 1 false)) [X.t 21], I.mk none (some 23) (Ef.pr Pr.mv) [X.t 2], I.mk none (some 24) (Ef.pr (Pr.fa 2)) [X.t 4], I.mk none (some 25) (Ef.pr (Pr.ld 1 false)) [X.t 24], I.mk none (some 26) (Ef.pr (Pr.ar BinOp.mul)) [X.t 23, X.t 25], I.mk none (some 27) (Ef.pr (Pr.ar BinOp.add)) [X.t 22, X.t 26], I.mk none (some 28) (Ef.pr (Pr.bld [Value.int IntKind.i64 0, Value.int IntKind.i64 0, Value.int IntKind.i64 0] [(0, 1), (1, 1), (2, 1)])) [X.t 13, X.t 20, X.t 27], I.mk none none (Ef.st 3) [X.t 6, X.t 28]]) IC.ret)

theorem k29 : Go.Proofs.Try.f29.body.bind (comp Go.Proofs.Try.prog 29 [3, 4, 6] []) = some c29 := by kernel_rfl

theorem r29 : cRVs Go.Proofs.Try.prog Go.Proofs.Try.f29.results.toList = some [RV.c 6 3 true] := by kernel_rfl

theorem e29 {args : List Value} {h : Hp} {Q : Value → Hp → Prop} (hl : Nat.ble args.length 29 = true) (hk : codeK PR none c29 (retK Q [RV.c 6 3 true]) (fun _ _ _ _ => False) (retK Q [RV.c 6 3 true]) (argsE 0 args) [] h) : Ok PR 29 args h Q :=
  Ok.of mixed Go.Proofs.Try.func29 rfl k29 r29 hl hk

def c30 : IC := IC.seq (IC.ops [I.mk none (some 1) Ef.bx [X.t 0], I.mk none (some 2) (Ef.pr Pr.mv) [X.c (Value.bool false)]]) 
  (IC.seq (IC.ops [I.mk none (some 3) (Ef.pr (Pr.fa 0)) [X.t 1], I.mk none (some 4) (Ef.pr (Pr.ld 1 false)) [X.t 3], I.mk none (some 5) (Ef.pr (Pr.cm BinOp.lss)) [X.t 4, X.c (Value.int IntKind.i64 0)], I.mk none (some 6) (Ef.pr Pr.mv) [X.t 5], I.mk (some (6, false)) (some 7) (Ef.pr (Pr.fa 1)) [X.t 1], I.mk (some (6, false)) (some 8) (Ef.pr (Pr.ld 1 false)) [X.t 7], I.mk (some (6, false)) (some 9) (Ef.pr (Pr.cm BinOp.lss)) [X.t 8, X.c (Value.int IntKind.i64 0)], I.mk none (some 10) (Ef.pr Pr.pick) [X.t 6, X.c (Value.bool true), X.t 9], I.mk none (some 11) (Ef.pr Pr.mv) [X.t 10], I.mk (some (11, false)) (some 12) (Ef.pr (Pr.fa 2)) [X.t 1], I.mk (some (11, false)) (some 13) (Ef.pr (Pr.ld 1 false)) [X.t 12], I.mk (some (11, false)) (some 14) (Ef.pr (Pr.cm BinOp.lss)) [X.t 13, X.c (Value.int IntKind.i64 0)], I.mk none (some 15) (Ef.pr Pr.pick) [X.t 11, X.c (Value.bool true), X.t 14], I.mk none (some 2) (Ef.pr Pr.mv) [X.t 15]]) IC.ret)

theorem k30 : Go.Proofs.Try.f30.body.bind (comp Go.Proofs.Try.prog 16 [1] []) = some c30 := by kernel_rfl

theorem r30 : cRVs Go.Proofs.Try.prog Go.Proofs.Try.f30.results.toList = some [RV.t 2] := by kernel_rfl

theorem e30 {args : List Value} {h : Hp} {Q : Value → Hp → Prop} (hl : Nat.ble args.length 16 = true) (hk : codeK PR none c30 (retK Q [RV.t 2]) (fun _ _ _ _ => False) (retK Q [RV.t 2]) (argsE 0 args) [] h) : Ok PR 30 args h Q :=
  Ok.of mixed Go.Proofs.Try.func30 rfl k30 r30 hl hk

def c31 : IC := IC.seq (IC.ops [I.mk none (some 6) (Ef.pr Pr.mv) [X.c (Value.bool false)]]) 
  (IC.seq (IC.ops [I.mk none (some 16) (Ef.pr Pr.mv) [X.t 1], I.mk none (some 17) (Ef.pr Pr.mv) [X.t 2], I.mk none (some 18) (Ef.call 19) [X.t 16, X.t 17], I.mk none (some 15) (Ef.pr Pr.mv) [X.t 18], I.mk none (some 19) (Ef.pr (Pr.ext 0)) [X.t 15], I.mk none (some 20) (Ef.pr (Pr.ext 1)) [X.t 15], I.mk none (some 7) (Ef.al [Value.int IntKind.i64 0, Value.int IntKind.i64 0, Value.int IntKind.i64 0, Value.int IntKind.i64 0, Value.int IntKind.i64 0, Value.bool false, Value.int IntKind.u32 0, Value.int IntKind.u32 0, Value.int IntKind.u32 0, Value.int IntKind.u32 0, Value.int IntKind.u32 0, Value.int IntKind.u32 0, Value.int IntKind.u32 0, Value.int IntKind.u32 0, Value.int IntKind.u32 0, Value.int IntKind.i64 0, Value.int IntKind.i64 0, Value.int IntKind.i64 0, Value.int IntKind.i64 0, Value.int IntKind.i64 0, Value.int IntKind.i64 0]) [], I.mk none none (Ef.st 21) [X.t 7, X.t 19], I.mk none (some 8) (Ef.pr Pr.mv) [X.t 20]]) 
  (IC.seq (IC.ops [I.mk none (some 22) (Ef.pr Pr.mv) [X.t 1], I.mk none (some 23) (Ef.pr Pr.mv) [X.t 2], I.mk none (some 24) (Ef.call 39) [X.t 22, X.t 23], I.mk none (some 21) (Ef.pr Pr.mv) [X.t 24], I.mk none (some 25) (Ef.pr (Pr.ext 0)) [X.t 21], I.mk none (some 26) (Ef.pr (Pr.ext 1)) [X.t 21], I.mk none (some 9) (Ef.pr Pr.mv) [X.t 25], I.mk none (some 10) (Ef.pr Pr.mv) [X.t 26]]) 
  (IC.seq 
  (IC.seq (IC.ops [I.mk none (some 27) (Ef.pr Pr.mv) [X.t 8], I.mk none (some 28) (Ef.pr (Pr.cm BinOp.neq)) [X.t 27, X.c (Value.int IntKind.i64 0)], I.mk none (some 29) (Ef.pr Pr.mv) [X.t 28], I.mk (some (29, false)) (some 30) (Ef.pr Pr.mv) [X.t 10], I.mk (some (29, false)) (some 31) (Ef.pr (Pr.cm BinOp.neq)) [X.t 30, X.c (Value.int IntKind.i64 0)], I.mk none (some 32) (Ef.pr Pr.pick) [X.t 29, X.c (Value.bool true), X.t 31], I.mk none (some 33) (Ef.pr Pr.mv) [X.t 32], I.mk (some (33, false)) (some 34) (Ef.pr (Pr.fa 18)) [X.t 7], I.mk (some (33, false)) (some 35) (Ef.pr (Pr.ld 3 true)) [X.t 34], I.mk (some (33, false)) (some 36) (Ef.call 30) [X.t 35], I.mk none (some 37) (Ef.pr Pr.pick) [X.t 33, X.c (Value.bool true), X.t 36], I.mk none (some 38) (Ef.pr Pr.mv) [X.t 37], I.mk (some (38, false)) (some 39) (Ef.pr Pr.mv) [X.t 0], I.mk (some (38, false)) (some 40) (Ef.pr Pr.mv) [X.t 2], I.mk (some (38, false)) (some 41) (Ef.pr Pr.nilc) [X.t 39], I.mk (some (38, false)) (some 42) (Ef.pr (Pr.fa 16)) [X.t 41], I.mk (some (38, false)) (some 43) (Ef.pr (Pr.iaA 16 3)) [X.t 42, X.t 40], I.mk (some (38, false)) (some 44) (Ef.pr (Pr.ld 3 true)) [X.t 43], I.mk (some (38, false)) (some 45) (Ef.call 30) [X.t 44], I.mk none (some 46) (Ef.pr Pr.pick) [X.t 38, X.c (Value.bool true), X.t 45]]) 
  (IC.cond (X.t 46) 
  (IC.seq (IC.ops [I.mk none (some 6) (Ef.pr Pr.mv) [X.c (Value.bool false)]]) IC.ret) IC.skip)) 
  (IC.seq (IC.plan (Plan.q (I.mk none (some 47) (Ef.pr (Pr.fa 18)) [X.t 7]) (Plan.q (I.mk none (some 48) (Ef.pr (Pr.ld 3 true)) [X.t 47]) (Plan.q (I.mk none (some 49) (Ef.pr Pr.mv) [X.t 0]) (Plan.q (I.mk none (some 50) (Ef.pr Pr.mv) [X.t 2]) (Plan.q (I.mk none (some 51) (Ef.pr Pr.nilc) [X.t 49]) (Plan.q (I.mk none (some 52) (Ef.pr (Pr.fa 16)) [X.t 51]) (Plan.q (I.mk none (some 53) (Ef.pr (Pr.iaA 16 3)) [X.t 52, X.t 50]) (Plan.q (I.mk none (some 54) (Ef.pr (Pr.ld 3 true)) [X.t 53]) (Plan.br (PlanL.cons false true (I.mk none (some 55) (Ef.call 29) [X.t 48, X.t 54, X.c (Value.int IntKind.i64 1)]) (Plan.br (PlanL.cons true false (I.mk none (some 11) (Ef.al [Value.int IntKind.i64 0, Value.int IntKind.i64 0, Value.int IntKind.i64 0]) []) (Plan.br (PlanL.cons false false (I.mk none none (Ef.st 3) [X.t 11, X.t 55]) Plan.done PlanL.nil)) PlanL.nil)) (PlanL.cons true false (I.mk none (some 11) (Ef.al [Value.int IntKind.i64 0, Value.int IntKind.i64 0, Value.int IntKind.i64 0]) []) (Plan.br (PlanL.cons false false (I.mk none (some 55) (Ef.call 29) [X.t 48, X.t 54, X.c (Value.int IntKind.i64 1)]) (Plan.br (PlanL.cons false false (I.mk none none (Ef.st 3) [X.t 11, X.t 55]) Plan.done PlanL.nil)) PlanL.nil)) PlanL.nil)))))))))))) 
  (IC.seq 
  (IC.seq (IC.ops [I.mk none (some 12) (Ef.pr Pr.mv) [X.c (Value.int IntKind.i64 0)]]) 
  (IC.block 0 
  (IC.loop 
  (IC.seq 
  (IC.seq (IC.ops [I.mk none (some 56) (Ef.pr Pr.mv) [X.t 12], I.mk none (some 57) (Ef.pr Pr.mv) [X.t 9], I.mk none (some 58) (Ef.pr Pr.lenS) [X.t 57], I.mk none (some 59) (Ef.pr (Pr.cm BinOp.lss)) [X.t 56, X.t 58]]) 
  (IC.cond (X.t 59) IC.skip (IC.exit 0))) 
  (IC.seq 
  (IC.block 1 
  (IC.seq (IC.ops [I.mk none (some 63) (Ef.pr Pr.mv) [X.t 1], I.mk none (some 64) (Ef.pr Pr.mv) [X.t 9], I.mk none (some 65) (Ef.pr Pr.mv) [X.t 12], I.mk none (some 66) (Ef.pr (Pr.iaS 1)) [X.t 64, X.t 65], I.mk none (some 67) (Ef.pr (Pr.ld 1 false)) [X.t 66], I.mk none (some 68) (Ef.call 19) [X.t 63, X.t 67], I.mk none (some 62) (Ef.pr Pr.mv) [X.t 68], I.mk none (some 69) (Ef.pr (Pr.ext 0)) [X.t 62], I.mk none (some 70) (Ef.pr (Pr.ext 1)) [X.t 62], I.mk none (some 13) (Ef.al [Value.int IntKind.i64 0, Value.int IntKind.i64 0, Value.int IntKind.i64 0, Value.int IntKind.i64 0, Value.int IntKind.i64 0, Value.bool false, Value.int IntKind.u32 0, Value.int IntKind.u32 0, Value.int IntKind.u32 0, Value.int IntKind.u32 0, Value.int IntKind.u32 0, Value.int IntKind.u32 0, Value.int IntKind.u32 0, Value.int IntKind.u32 0, Value.int IntKind.u32 0, Value.int IntKind.i64 0, Value.int IntKind.i64 0, Value.int IntKind.i64 0, Value.int IntKind.i64 0, Value.int IntKind.i64 0, Value.int IntKind.i64 0]) [], I.mk none none (Ef.st 21) [X.t 13, X.t 69], I.mk none (some 14) (Ef.pr Pr.mv) [X.t 70]]) 
  (IC.seq 
  (IC.seq (IC.ops [I.mk none (some 71) (Ef.pr Pr.mv) [X.t 14], I.mk none (some 72) (Ef.pr (Pr.cm BinOp.neq)) [X.t 71, X.c (Value.int IntKind.i64 0)], I.mk none (some 73) (Ef.pr Pr.mv) [X.t 72], I.mk (some (73, false)) (some 74) (Ef.pr (Pr.fa 1)) [X.t 13], I.mk (some (73, false)) (some 75) (Ef.pr (Pr.ld 1 false)) [X.t 74], I.mk (some (73, false)) (some 76) (Ef.pr Pr.mv) [X.t 2], I.mk (some (73, false)) (some 77) (Ef.pr (Pr.cm BinOp.neq)) [X.t 75, X.t 76], I.mk none (some 78) (Ef.pr Pr.pick) [X.t 73, X.c (Value.bool true), X.t 77]]) 
  (IC.cond (X.t 78) 
  (IC.seq (IC.ops [I.mk none (some 6) (Ef.pr Pr.mv) [X.c (Value.bool false)]]) IC.ret) IC.skip)) 
  (IC.seq (IC.ops [I.mk none (some 79) (Ef.pr (Pr.ld 3 true)) [X.t 11], I.mk none (some 80) (Ef.pr (Pr.fa 15)) [X.t 13], I.mk none (some 81) (Ef.pr (Pr.ld 3 true)) [X.t 80], I.mk none (some 82) (Ef.call 29) [X.t 79, X.t 81, X.c (Value.int IntKind.i64 1)], I.mk none none (Ef.st 3) [X.t 11, X.t 82]]) (IC.ops [I.mk none (some 83) (Ef.pr (Pr.fa 1)) [X.t 11], I.mk none (some 84) (Ef.pr (Pr.ld 1 false)) [X.t 83], I.mk none (some 85) (Ef.pr (Pr.ar BinOp.add)) [X.t 84, X.c (Value.int IntKind.i64 1)], I.mk none (some 86) (Ef.pr (Pr.fa 1)) [X.t 11], I.mk none none (Ef.st 1) [X.t 86, X.t 85]]))))) (IC.ops [I.mk none (some 60) (Ef.pr Pr.mv) [X.t 12], I.mk none (some 61) (Ef.pr (Pr.ar BinOp.add)) [X.t 60, X.c (Value.int IntKind.i64 1)], I.mk none (some 12) (Ef.pr Pr.mv) [X.t 61]])))))) 
  (IC.seq (IC.ops [I.mk none (some 87) (Ef.pr (Pr.ld 3 true)) [X.t 11], I.mk none (some 88) (Ef.pr (Pr.fa 15)) [X.t 7], I.mk none (some 89) (Ef.pr (Pr.ld 3 true)) [X.t 88], I.mk none (some 90) (Ef.pr (Pr.eq false (EqT.ag [(0, EqS.i), (1, EqS.i), (2, EqS.i)]))) [X.t 87, X.t 89], I.mk none (some 6) (Ef.pr Pr.mv) [X.t 90]]) IC.ret))))))

theorem k31 : Go.Proofs.Try.f31.body.bind (comp Go.Proofs.Try.prog 91 [7, 11, 13] []) = some c31 := by kernel_rfl

theorem r31 : cRVs Go.Proofs.Try.prog Go.Proofs.Try.f31.results.toList = some [RV.t 6] := by kernel_rfl

theorem e31 {args : List Value} {h : Hp} {Q : Value → Hp → Prop} (hl : Nat.ble args.length 91 = true) (hk : codeK PR none c31 (retK Q [RV.t 6]) (fun _ _ _ _ => False) (retK Q [RV.t 6]) (argsE 0 args) [] h) : Ok PR 31 args h Q :=
  Ok.of mixed Go.Proofs.Try.func31 rfl k31 r31 hl hk

def c32 : IC := IC.seq (IC.ops [I.mk none (some 4) (Ef.pr Pr.mv) [X.c (Value.bool false)]]) 
  (IC.seq 
  (IC.seq (IC.ops [I.mk none (some 5) (Ef.pr Pr.mv) [X.c (Value.int IntKind.i64 0)]]) 
  (IC.block 0 
  (IC.loop 
  (IC.seq 
  (IC.seq (IC.ops [I.mk none (some 8) (Ef.pr Pr.mv) [X.t 5], I.mk none (some 9) (Ef.pr (Pr.cm BinOp.leq)) [X.t 8, X.c (Value.int IntKind.i64 16)], I.mk none (some 10) (Ef.pr Pr.mv) [X.t 9], I.mk (some (10, true)) (some 11) (Ef.pr Pr.mv) [X.t 1], I.mk (some (10, true)) (some 12) (Ef.pr (Pr.cm BinOp.geq)) [X.t 11, X.c (Value.int IntKind.i64 0)], I.mk none (some 13) (Ef.pr Pr.pick) [X.t 10, X.t 12, X.c (Value.bool false)]]) 
  (IC.cond (X.t 13) IC.skip (IC.exit 0))) 
  (IC.seq 
  (IC.block 1 
  (IC.seq (IC.ops [I.mk none (some 17) (Ef.pr Pr.mv) [X.t 0], I.mk none (some 18) (Ef.pr Pr.mv) [X.t 1], I.mk none (some 19) (Ef.call 19) [X.t 17, X.t 18], I.mk none (some 16) (Ef.pr Pr.mv) [X.t 19], I.mk none (some 20) (Ef.pr (Pr.ext 0)) [X.t 16], I.mk none (some 21) (Ef.pr (Pr.ext 1)) [X.t 16], I.mk none (some 6) (Ef.al [Value.int IntKind.i64 0, Value.int IntKind.i64 0, Value.int IntKind.i64 0, Value.int IntKind.i64 0, Value.int IntKind.i64 0, Value.bool false, Value.int IntKind.u32 0, Value.int IntKind.u32 0, Value.int IntKind.u32 0, Value.int IntKind.u32 0, Value.int IntKind.u32 0, Value.int IntKind.u32 0, Value.int IntKind.u32 0, Value.int IntKind.u32 0, Value.int IntKind.u32 0, Value.int IntKind.i64 0, Value.int IntKind.i64 0, Value.int IntKind.i64 0, Value.int IntKind.i64 0, Value.int IntKind.i64 0, Value.int IntKind.i64 0]) [], I.mk none none (Ef.st 21) [X.t 6, X.t 20], I.mk none (some 7) (Ef.pr Pr.mv) [X.t 21]]) 
  (IC.seq 
  (IC.seq (IC.ops [I.mk none (some 22) (Ef.pr Pr.mv) [X.t 7], I.mk none (some 23) (Ef.pr (Pr.cm BinOp.neq)) [X.t 22, X.c (Value.int IntKind.i64 0)], I.mk none (some 24) (Ef.pr Pr.mv) [X.t 23], I.mk (some (24, false)) (some 25) (Ef.pr (Pr.fa 5)) [X.t 6], I.mk (some (24, false)) (some 26) (Ef.pr (Pr.ld 1 false)) [X.t 25], I.mk none (some 27) (Ef.pr Pr.pick) [X.t 24, X.c (Value.bool true), X.t 26]]) 
  (IC.cond (X.t 27) 
  (IC.seq (IC.ops [I.mk none (some 4) (Ef.pr Pr.mv) [X.c (Value.bool true)]]) IC.ret) IC.skip)) (IC.ops [I.mk none (some 28) (Ef.pr (Pr.fa 1)) [X.t 6], I.mk none (some 29) (Ef.pr (Pr.ld 1 false)) [X.t 28], I.mk none (some 1) (Ef.pr Pr.mv) [X.t 29]])))) (IC.ops [I.mk none (some 14) (Ef.pr Pr.mv) [X.t 5], I.mk none (some 15) (Ef.pr (Pr.ar BinOp.add)) [X.t 14, X.c (Value.int IntKind.i64 1)], I.mk none (some 5) (Ef.pr Pr.mv) [X.t 15]])))))) 
  (IC.seq (IC.ops [I.mk none (some 4) (Ef.pr Pr.mv) [X.c (Value.bool false)]]) IC.ret))

theorem k32 : Go.Proofs.Try.f32.body.bind (comp Go.Proofs.Try.prog 30 [6] []) = some c32 := by kernel_rfl

theorem r32 : cRVs Go.Proofs.Try.prog Go.Proofs.Try.f32.results.toList = some [RV.t 4] := by kernel_rfl

theorem e32 {args : List Value} {h : Hp} {Q : Value → Hp → Prop} (hl : Nat.ble args.length 30 = true) (hk : codeK PR none c32 (retK Q [RV.t 4]) (fun _ _ _ _ => False) (retK Q [RV.t 4]) (argsE 0 args) [] h) : Ok PR 32 args h Q :=
  Ok.of mixed Go.Proofs.Try.func32 rfl k32 r32 hl hk

def c33 : IC := IC.seq (IC.ops [I.mk none (some 6) (Ef.pr Pr.mv) [X.c (Value.int IntKind.i64 0)]]) 
  (IC.seq (IC.ops [I.mk none (some 8) (Ef.pr Pr.mv) [X.t 0], I.mk none (some 9) (Ef.pr Pr.nilc) [X.t 8], I.mk none (some 10) (Ef.pr (Pr.fa 0)) [X.t 9], I.mk none (some 11) (Ef.pr (Pr.ld 1 true)) [X.t 10], I.mk none (some 12) (Ef.pr Pr.mv) [X.t 1], I.mk none (some 13) (Ef.call 56) [X.t 11, X.t 12], I.mk none (some 7) (Ef.pr Pr.mv) [X.t 13]]) 
  (IC.seq 
  (IC.seq (IC.ops [I.mk none (some 14) (Ef.pr Pr.mv) [X.t 7], I.mk none (some 15) (Ef.pr (Pr.eq false (EqT.one EqS.p))) [X.t 14, X.c (Value.pointer none)]]) 
  (IC.cond (X.t 15) 
  (IC.seq (IC.ops [I.mk none (some 6) (Ef.pr Pr.mv) [X.c (Value.int IntKind.i64 90)]]) IC.ret) IC.skip)) 
  (IC.seq (IC.ops [I.mk none (some 16) (Ef.pr Pr.mv) [X.t 7], I.mk none (some 17) (Ef.pr Pr.mv) [X.t 2], I.mk none (some 18) (Ef.pr Pr.nilc) [X.t 16], I.mk none (some 19) (Ef.pr (Pr.fa 0)) [X.t 18], I.mk none (some 20) (Ef.pr (Pr.fa 5)) [X.t 19], I.mk none none (Ef.st 1) [X.t 20, X.t 17]]) 
  (IC.seq (IC.ops [I.mk none (some 6) (Ef.pr Pr.mv) [X.c (Value.int IntKind.i64 0)]]) IC.ret))))

theorem k33 : Go.Proofs.Try.f33.body.bind (comp Go.Proofs.Try.prog 21 [] []) = some c33 := by kernel_rfl

theorem r33 : cRVs Go.Proofs.Try.prog Go.Proofs.Try.f33.results.toList = some [RV.t 6] := by kernel_rfl

theorem e33 {args : List Value} {h : Hp} {Q : Value → Hp → Prop} (hl : Nat.ble args.length 21 = true) (hk : codeK PR none c33 (retK Q [RV.t 6]) (fun _ _ _ _ => False) (retK Q [RV.t 6]) (argsE 0 args) [] h) : Ok PR 33 args h Q :=
  Ok.of mixed Go.Proofs.Try.func33 rfl k33 r33 hl hk

def c34 : IC := IC.seq (IC.ops [I.mk none (some 2) (Ef.al [Value.bool false, Value.bool false, Value.bool false, Value.bool false, Value.bool false, Value.bool false, Value.bool false, Value.bool false, Value.bool false, Value.bool false, Value.bool false, Value.bool false, Value.bool false, Value.bool false, Value.bool false, Value.bool false]) []]) 
  (IC.seq (IC.ops [I.mk none (some 3) (Ef.al [Value.bool false, Value.bool false, Value.bool false, Value.bool false, Value.bool false, Value.bool false, Value.bool false, Value.bool false, Value.bool false, Value.bool false, Value.bool false, Value.bool false, Value.bool false, Value.bool false, Value.bool false, Value.bool false]) []]) 
  (IC.seq 
  (IC.seq (IC.ops [I.mk none (some 4) (Ef.pr Pr.mv) [X.c (Value.int IntKind.i64 0)]]) 
  (IC.block 0 
  (IC.loop 
  (IC.seq 
  (IC.seq (IC.ops [I.mk none (some 5) (Ef.pr Pr.mv) [X.t 4], I.mk none (some 6) (Ef.pr (Pr.cm BinOp.lss)) [X.t 5, X.c (Value.int IntKind.i64 16)]]) 
  (IC.cond (X.t 6) IC.skip (IC.exit 0))) 
  (IC.seq 
  (IC.block 1 (IC.ops [I.mk none (some 9) (Ef.pr Pr.mv) [X.t 4], I.mk none (some 10) (Ef.pr Pr.mv) [X.t 0], I.mk none (some 11) (Ef.pr Pr.mv) [X.t 4], I.mk none (some 12) (Ef.call 17) [X.t 10, X.t 11], I.mk none (some 13) (Ef.pr (Pr.iaA 16 1)) [X.t 3, X.t 9], I.mk none none (Ef.st 1) [X.t 13, X.t 12]])) (IC.ops [I.mk none (some 7) (Ef.pr Pr.mv) [X.t 4], I.mk none (some 8) (Ef.pr (Pr.ar BinOp.add)) [X.t 7, X.c (Value.int IntKind.i64 1)], I.mk none (some 4) (Ef.pr Pr.mv) [X.t 8]])))))) 
  (IC.seq (IC.ops [I.mk none (some 14) (Ef.pr (Pr.ld 16 true)) [X.t 3], I.mk none none (Ef.st 16) [X.t 2, X.t 14]]) IC.ret)))

theorem k34 : Go.Proofs.Try.f34.body.bind (comp Go.Proofs.Try.prog 15 [2, 3] []) = some c34 := by kernel_rfl

theorem r34 : cRVs Go.Proofs.Try.prog Go.Proofs.Try.f34.results.toList = some [RV.c 2 16 true] := by kernel_rfl

theorem e34 {args : List Value} {h : Hp} {Q : Value → Hp → Prop} (hl : Nat.ble args.length 15 = true) (hk : codeK PR none c34 (retK Q [RV.c 2 16 true]) (fun _ _ _ _ => False) (retK Q [RV.c 2 16 true]) (argsE 0 args) [] h) : Ok PR 34 args h Q :=
  Ok.of mixed Go.Proofs.Try.func34 rfl k34 r34 hl hk

def c35 : IC := IC.seq (IC.ops [I.mk none (some 6) (Ef.pr Pr.mv) [X.c (Value.bool false)]]) 
  (IC.seq 
  (IC.seq (IC.ops [I.mk none (some 8) (Ef.pr Pr.mv) [X.t 0], I.mk none (some 9) (Ef.pr Pr.nilc) [X.t 8], I.mk none (some 10) (Ef.pr (Pr.fa 0)) [X.t 9], I.mk none (some 11) (Ef.pr (Pr.ld 1 true)) [X.t 10], I.mk none (some 12) (Ef.pr Pr.mv) [X.t 1], I.mk none (some 13) (Ef.call 56) [X.t 11, X.t 12], I.mk none (some 14) (Ef.pr (Pr.eq false (EqT.one EqS.p))) [X.t 13, X.c (Value.pointer none)]]) 
  (IC.cond (X.t 14) 
  (IC.seq (IC.ops [I.mk none (some 6) (Ef.pr Pr.mv) [X.c (Value.bool false)]]) IC.ret) IC.skip)) 
  (IC.seq 
  (IC.seq (IC.ops [I.mk none (some 15) (Ef.pr Pr.mv) [X.t 0], I.mk none (some 16) (Ef.pr Pr.nilc) [X.t 15], I.mk none (some 17) (Ef.pr (Pr.fa 0)) [X.t 16], I.mk none (some 18) (Ef.pr (Pr.ld 1 true)) [X.t 17], I.mk none (some 19) (Ef.pr Pr.mv) [X.t 2], I.mk none (some 20) (Ef.call 56) [X.t 18, X.t 19], I.mk none (some 7) (Ef.pr Pr.mv) [X.t 20]]) 
  (IC.block 0 
  (IC.loop 
  (IC.seq 
  (IC.seq (IC.ops [I.mk none (some 21) (Ef.pr Pr.mv) [X.t 7], I.mk none (some 22) (Ef.pr (Pr.eq true (EqT.one EqS.p))) [X.t 21, X.c (Value.pointer none)]]) 
  (IC.cond (X.t 22) IC.skip (IC.exit 0))) 
  (IC.seq 
  (IC.block 1 
  (IC.seq (IC.ops [I.mk none (some 38) (Ef.pr Pr.mv) [X.t 2], I.mk none (some 39) (Ef.pr Pr.mv) [X.t 1], I.mk none (some 40) (Ef.pr (Pr.cm BinOp.eql)) [X.t 38, X.t 39]]) 
  (IC.cond (X.t 40) 
  (IC.seq (IC.ops [I.mk none (some 6) (Ef.pr Pr.mv) [X.c (Value.bool true)]]) IC.ret) IC.skip))) (IC.plan (Plan.q (I.mk none (some 23) (Ef.pr Pr.mv) [X.t 7]) (Plan.q (I.mk none (some 24) (Ef.pr Pr.nilc) [X.t 23]) (Plan.q (I.mk none (some 25) (Ef.pr (Pr.fa 0)) [X.t 24]) (Plan.q (I.mk none (some 26) (Ef.pr (Pr.fa 1)) [X.t 25]) (Plan.q (I.mk none (some 27) (Ef.pr (Pr.ld 1 false)) [X.t 26]) (Plan.q (I.mk none (some 28) (Ef.pr Pr.mv) [X.t 0]) (Plan.q (I.mk none (some 29) (Ef.pr Pr.nilc) [X.t 28]) (Plan.q (I.mk none (some 30) (Ef.pr (Pr.fa 0)) [X.t 29]) (Plan.q (I.mk none (some 31) (Ef.pr (Pr.ld 1 true)) [X.t 30]) (Plan.q (I.mk none (some 32) (Ef.pr Pr.mv) [X.t 7]) (Plan.q (I.mk none (some 33) (Ef.pr Pr.nilc) [X.t 32]) (Plan.q (I.mk none (some 34) (Ef.pr (Pr.fa 0)) [X.t 33]) (Plan.q (I.mk none (some 35) (Ef.pr (Pr.fa 1)) [X.t 34]) (Plan.q (I.mk none (some 36) (Ef.pr (Pr.ld 1 false)) [X.t 35]) (Plan.br (PlanL.cons true false (I.mk none (some 37) (Ef.call 56) [X.t 31, X.t 36]) (Plan.q (I.mk none (some 2) (Ef.pr Pr.mv) [X.t 27]) (Plan.q (I.mk none (some 7) (Ef.pr Pr.mv) [X.t 37]) Plan.done)) PlanL.nil)))))))))))))))))))))) 
  (IC.seq (IC.ops [I.mk none (some 6) (Ef.pr Pr.mv) [X.c (Value.bool false)]]) IC.ret)))

theorem k35 : Go.Proofs.Try.f35.body.bind (comp Go.Proofs.Try.prog 41 [] []) = some c35 := by kernel_rfl

theorem r35 : cRVs Go.Proofs.Try.prog Go.Proofs.Try.f35.results.toList = some [RV.t 6] := by kernel_rfl

theorem e35 {args : List Value} {h : Hp} {Q : Value → Hp → Prop} (hl : Nat.ble args.length 41 = true) (hk : codeK PR none c35 (retK Q [RV.t 6]) (fun _ _ _ _ => False) (retK Q [RV.t 6]) (argsE 0 args) [] h) : Ok PR 35 args h Q :=
  Ok.of mixed Go.Proofs.Try.func35 rfl k35 r35 hl hk

def c36 : IC := IC.seq (IC.ops [I.mk none (some 5) Ef.bx [X.t 2], I.mk none (some 6) (Ef.pr Pr.mv) [X.c (Value.int IntKind.i64 0)]]) 
  (IC.seq (IC.ops [I.mk none (some 8) (Ef.pr Pr.mv) [X.t 0], I.mk none (some 9) (Ef.pr Pr.nilc) [X.t 8], I.mk none (some 10) (Ef.pr (Pr.fa 0)) [X.t 9], I.mk none (some 11) (Ef.pr (Pr.ld 1 true)) [X.t 10], I.mk none (some 12) (Ef.pr Pr.mv) [X.t 1], I.mk none (some 13) (Ef.call 56) [X.t 11, X.t 12], I.mk none (some 7) (Ef.pr Pr.mv) [X.t 13]]) 
  (IC.seq 
  (IC.seq (IC.ops [I.mk none (some 14) (Ef.pr Pr.mv) [X.t 7], I.mk none (some 15) (Ef.pr (Pr.eq false (EqT.one EqS.p))) [X.t 14, X.c (Value.pointer none)]]) 
  (IC.cond (X.t 15) 
  (IC.seq (IC.ops [I.mk none (some 6) (Ef.pr Pr.mv) [X.c (Value.int IntKind.i64 90)]]) IC.ret) IC.skip)) 
  (IC.seq (IC.plan (Plan.q (I.mk none (some 16) (Ef.pr Pr.mv) [X.t 7]) (Plan.q (I.mk none (some 17) (Ef.pr Pr.nilc) [X.t 16]) (Plan.q (I.mk none (some 18) (Ef.pr (Pr.fa 21)) [X.t 17]) (Plan.q (I.mk none (some 19) (Ef.pr (Pr.ld 3 true)) [X.t 5]) (Plan.br (PlanL.cons false false (I.mk none (some 20) (Ef.call 68) [X.t 18, X.t 19]) (Plan.q (I.mk none (some 6) (Ef.pr Pr.mv) [X.t 20]) Plan.done) PlanL.nil))))))) IC.ret)))

theorem k36 : Go.Proofs.Try.f36.body.bind (comp Go.Proofs.Try.prog 21 [5] []) = some c36 := by kernel_rfl

theorem r36 : cRVs Go.Proofs.Try.prog Go.Proofs.Try.f36.results.toList = some [RV.t 6] := by kernel_rfl

theorem e36 {args : List Value} {h : Hp} {Q : Value → Hp → Prop} (hl : Nat.ble args.length 21 = true) (hk : codeK PR none c36 (retK Q [RV.t 6]) (fun _ _ _ _ => False) (retK Q [RV.t 6]) (argsE 0 args) [] h) : Ok PR 36 args h Q :=
  Ok.of mixed Go.Proofs.Try.func36 rfl k36 r36 hl hk

def c37 : IC := IC.seq (IC.ops [I.mk none (some 5) Ef.bx [X.t 2], I.mk none (some 6) (Ef.pr Pr.mv) [X.c (Value.int IntKind.i64 0)]]) 
  (IC.seq (IC.ops [I.mk none (some 8) (Ef.pr Pr.mv) [X.t 0], I.mk none (some 9) (Ef.pr Pr.nilc) [X.t 8], I.mk none (some 10) (Ef.pr (Pr.fa 0)) [X.t 9], I.mk none (some 11) (Ef.pr (Pr.ld 1 true)) [X.t 10], I.mk none (some 12) (Ef.pr Pr.mv) [X.t 1], I.mk none (some 13) (Ef.call 56) [X.t 11, X.t 12], I.mk none (some 7) (Ef.pr Pr.mv) [X.t 13]]) 
  (IC.seq 
  (IC.seq (IC.ops [I.mk none (some 14) (Ef.pr Pr.mv) [X.t 7], I.mk none (some 15) (Ef.pr (Pr.eq false (EqT.one EqS.p))) [X.t 14, X.c (Value.pointer none)]]) 
  (IC.cond (X.t 15) 
  (IC.seq (IC.ops [I.mk none (some 6) (Ef.pr Pr.mv) [X.c (Value.int IntKind.i64 90)]]) IC.ret) IC.skip)) 
  (IC.seq (IC.plan (Plan.q (I.mk none (some 16) (Ef.pr Pr.mv) [X.t 7]) (Plan.q (I.mk none (some 17) (Ef.pr Pr.nilc) [X.t 16]) (Plan.q (I.mk none (some 18) (Ef.pr (Pr.fa 21)) [X.t 17]) (Plan.q (I.mk none (some 19) (Ef.pr (Pr.ld 3 true)) [X.t 5]) (Plan.br (PlanL.cons false false (I.mk none (some 20) (Ef.call 69) [X.t 18, X.t 19]) (Plan.q (I.mk none (some 6) (Ef.pr Pr.mv) [X.t 20]) Plan.done) PlanL.nil))))))) IC.ret)))

theorem k37 : Go.Proofs.Try.f37.body.bind (comp Go.Proofs.Try.prog 21 [5] []) = some c37 := by kernel_rfl

theorem r37 : cRVs Go.Proofs.Try.prog Go.Proofs.Try.f37.results.toList = some [RV.t 6] := by kernel_rfl

theorem e37 {args : List Value} {h : Hp} {Q : Value → Hp → Prop} (hl : Nat.ble args.length 21 = true) (hk : codeK PR none c37 (retK Q [RV.t 6]) (fun _ _ _ _ => False) (retK Q [RV.t 6]) (argsE 0 args) [] h) : Ok PR 37 args h Q :=
  Ok.of mixed Go.Proofs.Try.func37 rfl k37 r37 hl hk

def c38 : IC := IC.seq (IC.ops [I.mk none (some 2) (Ef.pr Pr.mv) [X.c (Value.slice none 0 0)]]) 
  (IC.seq (IC.ops [I.mk none (some 3) (Ef.alh [Value.slice none 0 0] 22) []]) 
  (IC.seq 
  (IC.seq (IC.ops [I.mk none (some 5) (Ef.pr Pr.mv) [X.t 0], I.mk none (some 6) (Ef.pr Pr.nilc) [X.t 5], I.mk none (some 7) (Ef.pr (Pr.fa 0)) [X.t 6], I.mk none (some 8) (Ef.pr (Pr.fa 0)) [X.t 7], I.mk none (some 9) (Ef.pr (Pr.ld 1 false)) [X.t 8], I.mk none (some 10) (Ef.call 70) [X.t 9]]) 
  (IC.block 0 (IC.rf (X.t 10) [11, 12] (IC.ops [I.mk none (some 4) (Ef.pr Pr.mv) [X.t 11]]) 
  (IC.block 1 (IC.ops [I.mk none (some 13) (Ef.pr (Pr.ld 1 false)) [X.t 3], I.mk none (some 14) (Ef.pr Pr.mv) [X.t 4], I.mk none (some 15) (Ef.bsl [Value.int IntKind.i64 0] 3 1 1 [0]) [X.t 14], I.mk none (some 16) (Ef.app [Value.int IntKind.i64 0] 3 8) [X.t 13, X.t 15], I.mk none none (Ef.st 1) [X.t 3, X.t 16]]))))) 
  (IC.seq (IC.ops [I.mk none (some 17) (Ef.pr (Pr.ld 1 false)) [X.t 3], I.mk none (some 2) (Ef.pr Pr.mv) [X.t 17]]) IC.ret)))

theorem k38 : Go.Proofs.Try.f38.body.bind (comp Go.Proofs.Try.prog 18 [] []) = some c38 := by kernel_rfl

theorem r38 : cRVs Go.Proofs.Try.prog Go.Proofs.Try.f38.results.toList = some [RV.t 2] := by kernel_rfl

theorem e38 {args : List Value} {h : Hp} {Q : Value → Hp → Prop} (hl : Nat.ble args.length 18 = true) (hk : codeK PR none c38 (retK Q [RV.t 2]) (fun _ _ _ _ => False) (retK Q [RV.t 2]) (argsE 0 args) [] h) : Ok PR 38 args h Q :=
  Ok.of mixed Go.Proofs.Try.func38 rfl k38 r38 hl hk

def c39 : IC := IC.seq (IC.ops [I.mk none (some 4) (Ef.pr Pr.mv) [X.c (Value.slice none 0 0)], I.mk none (some 5) (Ef.pr Pr.mv) [X.c (Value.int IntKind.i64 0)]]) 
  (IC.seq (IC.ops [I.mk none (some 7) (Ef.pr Pr.mv) [X.t 0], I.mk none (some 8) (Ef.pr Pr.nilc) [X.t 7], I.mk none (some 9) (Ef.pr (Pr.fa 0)) [X.t 8], I.mk none (some 10) (Ef.pr (Pr.ld 1 true)) [X.t 9], I.mk none (some 11) (Ef.pr Pr.mv) [X.t 1], I.mk none (some 12) (Ef.call 56) [X.t 10, X.t 11], I.mk none (some 6) (Ef.pr Pr.mv) [X.t 12]]) 
  (IC.seq 
  (IC.seq (IC.ops [I.mk none (some 13) (Ef.pr Pr.mv) [X.t 6], I.mk none (some 14) (Ef.pr (Pr.eq false (EqT.one EqS.p))) [X.t 13, X.c (Value.pointer none)]]) 
  (IC.cond (X.t 14) 
  (IC.seq (IC.ops [I.mk none (some 4) (Ef.pr Pr.mv) [X.c (Value.slice none 0 0)], I.mk none (some 5) (Ef.pr Pr.mv) [X.c (Value.int IntKind.i64 90)]]) IC.ret) IC.skip)) 
  (IC.seq (IC.ops [I.mk none (some 15) (Ef.pr Pr.mv) [X.t 6], I.mk none (some 16) (Ef.pr Pr.nilc) [X.t 15], I.mk none (some 17) (Ef.pr (Pr.fa 30)) [X.t 16], I.mk none (some 18) (Ef.pr (Pr.ld 1 false)) [X.t 17], I.mk none (some 19) (Ef.call 71) [X.t 18], I.mk none (some 4) (Ef.pr Pr.mv) [X.t 19], I.mk none (some 5) (Ef.pr Pr.mv) [X.c (Value.int IntKind.i64 0)]]) IC.ret)))

theorem k39 : Go.Proofs.Try.f39.body.bind (comp Go.Proofs.Try.prog 20 [] []) = some c39 := by kernel_rfl

theorem r39 : cRVs Go.Proofs.Try.prog Go.Proofs.Try.f39.results.toList = some [RV.t 4, RV.t 5] := by kernel_rfl

theorem e39 {args : List Value} {h : Hp} {Q : Value → Hp → Prop} (hl : Nat.ble args.length 20 = true) (hk : codeK PR none c39 (retK Q [RV.t 4, RV.t 5]) (fun _ _ _ _ => False) (retK Q [RV.t 4, RV.t 5]) (argsE 0 args) [] h) : Ok PR 39 args h Q :=
  Ok.of mixed Go.Proofs.Try.func39 rfl k39 r39 hl hk

def c40 : IC := IC.seq (IC.ops [I.mk none (some 2) (Ef.pr Pr.mv) [X.c (Value.slice none 0 0)]]) 
  (IC.seq (IC.ops [I.mk none (some 3) (Ef.pr Pr.mv) [X.c (Value.slice none 0 0)]]) 
  (IC.seq 
  (IC.seq (IC.ops [I.mk none (some 4) (Ef.pr Pr.mv) [X.c (Value.int IntKind.i64 0)]]) 
  (IC.block 0 
  (IC.loop 
  (IC.seq 
  (IC.seq (IC.ops [I.mk none (some 5) (Ef.pr Pr.mv) [X.t 4], I.mk none (some 6) (Ef.pr Pr.mv) [X.t 0], I.mk none (some 7) (Ef.pr Pr.lenS) [X.t 6], I.mk none (some 8) (Ef.pr (Pr.cm BinOp.lss)) [X.t 5, X.t 7]]) 
  (IC.cond (X.t 8) IC.skip (IC.exit 0))) 
  (IC.seq 
  (IC.block 1 (IC.ops [I.mk none (some 11) (Ef.pr Pr.mv) [X.t 3], I.mk none (some 12) (Ef.pr Pr.mv) [X.t 0], I.mk none (some 13) (Ef.pr Pr.mv) [X.t 4], I.mk none (some 14) (Ef.pr (Pr.iaS 1)) [X.t 12, X.t 13], I.mk none (some 15) (Ef.pr (Pr.ld 1 false)) [X.t 14], I.mk none (some 16) (Ef.bsl [Value.int IntKind.i64 0] 3 1 1 [0]) [X.t 15], I.mk none (some 17) (Ef.app [Value.int IntKind.i64 0] 3 8) [X.t 11, X.t 16], I.mk none (some 3) (Ef.pr Pr.mv) [X.t 17]])) (IC.ops [I.mk none (some 9) (Ef.pr Pr.mv) [X.t 4], I.mk none (some 10) (Ef.pr (Pr.ar BinOp.add)) [X.t 9, X.c (Value.int IntKind.i64 1)], I.mk none (some 4) (Ef.pr Pr.mv) [X.t 10]])))))) 
  (IC.seq (IC.ops [I.mk none (some 18) (Ef.pr Pr.mv) [X.t 3], I.mk none (some 2) (Ef.pr Pr.mv) [X.t 18]]) IC.ret)))

theorem k40 : Go.Proofs.Try.f40.body.bind (comp Go.Proofs.Try.prog 19 [] []) = some c40 := by kernel_rfl

theorem r40 : cRVs Go.Proofs.Try.prog Go.Proofs.Try.f40.results.toList = some [RV.t 2] := by kernel_rfl

theorem e40 {args : List Value} {h : Hp} {Q : Value → Hp → Prop} (hl : Nat.ble args.length 19 = true) (hk : codeK PR none c40 (retK Q [RV.t 2]) (fun _ _ _ _ => False) (retK Q [RV.t 2]) (argsE 0 args) [] h) : Ok PR 40 args h Q :=
  Ok.of mixed Go.Proofs.Try.func40 rfl k40 r40 hl hk

def c41 : IC := IC.seq (IC.ops [I.mk none (some 6) (Ef.pr Pr.mv) [X.c (Value.slice none 0 0)]]) 
  (IC.seq (IC.ops [I.mk none (some 12) (Ef.pr Pr.mv) [X.t 0], I.mk none (some 13) (Ef.pr Pr.mv) [X.t 2], I.mk none (some 14) (Ef.call 27) [X.t 12, X.t 13], I.mk none (some 11) (Ef.pr Pr.mv) [X.t 14], I.mk none (some 15) (Ef.pr (Pr.ext 0)) [X.t 11], I.mk none (some 16) (Ef.pr (Pr.ext 1)) [X.t 11], I.mk none (some 7) (Ef.pr Pr.mv) [X.t 15], I.mk none (some 8) (Ef.pr Pr.mv) [X.t 16]]) 
  (IC.seq (IC.ops [I.mk none (some 18) (Ef.pr Pr.mv) [X.t 0], I.mk none (some 19) (Ef.pr Pr.mv) [X.t 2], I.mk none (some 20) (Ef.call 39) [X.t 18, X.t 19], I.mk none (some 17) (Ef.pr Pr.mv) [X.t 20], I.mk none (some 21) (Ef.pr (Pr.ext 0)) [X.t 17], I.mk none (some 22) (Ef.pr (Pr.ext 1)) [X.t 17], I.mk none (some 9) (Ef.pr Pr.mv) [X.t 21], I.mk none (some 10) (Ef.pr Pr.mv) [X.t 22]]) 
  (IC.seq (IC.ops [I.mk none (some 23) (Ef.pr Pr.mv) [X.t 1], I.mk none (some 24) (Ef.pr Pr.mv) [X.t 7], I.mk none (some 25) (Ef.pr Pr.mv) [X.t 9], I.mk none (some 26) (Ef.bsl [Value.slice none 0 0] 22 2 1 [0, 1]) [X.t 24, X.t 25], I.mk none (some 27) (Ef.app [Value.slice none 0 0] 22 24) [X.t 23, X.t 26], I.mk none (some 6) (Ef.pr Pr.mv) [X.t 27]]) IC.ret)))

theorem k41 : Go.Proofs.Try.f41.body.bind (comp Go.Proofs.Try.prog 28 [] []) = some c41 := by kernel_rfl

theorem r41 : cRVs Go.Proofs.Try.prog Go.Proofs.Try.f41.results.toList = some [RV.t 6] := by kernel_rfl

theorem e41 {args : List Value} {h : Hp} {Q : Value → Hp → Prop} (hl : Nat.ble args.length 28 = true) (hk : codeK PR none c41 (retK Q [RV.t 6]) (fun _ _ _ _ => False) (retK Q [RV.t 6]) (argsE 0 args) [] h) : Ok PR 41 args h Q :=
  Ok.of mixed Go.Proofs.Try.func41 rfl k41 r41 hl hk

def c42 : IC := IC.seq (IC.ops [I.mk none (some 4) (Ef.pr Pr.mv) [X.c (Value.bool false)]]) 
  (IC.seq 
  (IC.seq (IC.ops [I.mk none (some 6) (Ef.pr Pr.mv) [X.t 0], I.mk none (some 7) (Ef.pr Pr.lenS) [X.t 6], I.mk none (some 8) (Ef.pr Pr.mv) [X.t 1], I.mk none (some 9) (Ef.pr Pr.lenS) [X.t 8], I.mk none (some 10) (Ef.pr (Pr.cm BinOp.neq)) [X.t 7, X.t 9]]) 
  (IC.cond (X.t 10) 
  (IC.seq (IC.ops [I.mk none (some 4) (Ef.pr Pr.mv) [X.c (Value.bool false)]]) IC.ret) IC.skip)) 
  (IC.seq 
  (IC.seq (IC.ops [I.mk none (some 5) (Ef.pr Pr.mv) [X.c (Value.int IntKind.i64 0)]]) 
  (IC.block 0 
  (IC.loop 
  (IC.seq 
  (IC.seq (IC.ops [I.mk none (some 11) (Ef.pr Pr.mv) [X.t 5], I.mk none (some 12) (Ef.pr Pr.mv) [X.t 0], I.mk none (some 13) (Ef.pr Pr.lenS) [X.t 12], I.mk none (some 14) (Ef.pr (Pr.cm BinOp.lss)) [X.t 11, X.t 13]]) 
  (IC.cond (X.t 14) IC.skip (IC.exit 0))) 
  (IC.seq 
  (IC.block 1 
  (IC.seq (IC.plan (Plan.q (I.mk none (some 17) (Ef.pr Pr.mv) [X.t 0]) (Plan.q (I.mk none (some 18) (Ef.pr Pr.mv) [X.t 5]) (Plan.q (I.mk none (some 19) (Ef.pr (Pr.iaS 1)) [X.t 17, X.t 18]) (Plan.q (I.mk none (some 20) (Ef.pr (Pr.ld 1 false)) [X.t 19]) (Plan.q (I.mk none (some 21) (Ef.pr Pr.mv) [X.t 1]) (Plan.q (I.mk none (some 22) (Ef.pr Pr.mv) [X.t 5]) (Plan.q (I.mk none (some 23) (Ef.pr (Pr.iaS 1)) [X.t 21, X.t 22]) (Plan.q (I.mk none (some 24) (Ef.pr (Pr.ld 1 false)) [X.t 23]) (Plan.q (I.mk none (some 25) (Ef.pr (Pr.cm BinOp.neq)) [X.t 20, X.t 24]) Plan.done)))))))))) 
  (IC.cond (X.t 25) 
  (IC.seq (IC.ops [I.mk none (some 4) (Ef.pr Pr.mv) [X.c (Value.bool false)]]) IC.ret) IC.skip))) (IC.ops [I.mk none (some 15) (Ef.pr Pr.mv) [X.t 5], I.mk none (some 16) (Ef.pr (Pr.ar BinOp.add)) [X.t 15, X.c (Value.int IntKind.i64 1)], I.mk none (some 5) (Ef.pr Pr.mv) [X.t 16]])))))) 
  (IC.seq (IC.ops [I.mk none (some 4) (Ef.pr Pr.mv) [X.c (Value.bool true)]]) IC.ret)))

theorem k42 : Go.Proofs.Try.f42.body.bind (comp Go.Proofs.Try.prog 26 [] []) = some c42 := by kernel_rfl

theorem r42 : cRVs Go.Proofs.Try.prog Go.Proofs.Try.f42.results.toList = some [RV.t 4] := by kernel_rfl

theorem e42 {args : List Value} {h : Hp} {Q : Value → Hp → Prop} (hl : Nat.ble args.length 26 = true) (hk : codeK PR none c42 (retK Q [RV.t 4]) (fun _ _ _ _ => False) (retK Q [RV.t 4]) (argsE 0 args) [] h) : Ok PR 42 args h Q :=
  Ok.of mixed Go.Proofs.Try.func42 rfl k42 r42 hl hk

def c43 : IC := IC.seq (IC.ops [I.mk none (some 4) (Ef.pr Pr.mv) [X.c (Value.int IntKind.i64 0)]]) 
  (IC.seq (IC.ops [I.mk none (some 5) (Ef.pr Pr.mv) [X.c (Value.int IntKind.i64 0)]]) 
  (IC.seq 
  (IC.seq (IC.ops [I.mk none (some 6) (Ef.pr Pr.mv) [X.c (Value.int IntKind.i64 0)]]) 
  (IC.block 0 
  (IC.loop 
  (IC.seq 
  (IC.seq (IC.ops [I.mk none (some 7) (Ef.pr Pr.mv) [X.t 6], I.mk none (some 8) (Ef.pr Pr.mv) [X.t 0], I.mk none (some 9) (Ef.pr Pr.lenS) [X.t 8], I.mk none (some 10) (Ef.pr (Pr.cm BinOp.lss)) [X.t 7, X.t 9]]) 
  (IC.cond (X.t 10) IC.skip (IC.exit 0))) 
  (IC.seq 
  (IC.block 1 
  (IC.seq (IC.ops [I.mk none (some 13) (Ef.pr Pr.mv) [X.t 0], I.mk none (some 14) (Ef.pr Pr.mv) [X.t 6], I.mk none (some 15) (Ef.pr (Pr.iaS 1)) [X.t 13, X.t 14], I.mk none (some 16) (Ef.pr (Pr.ld 1 false)) [X.t 15], I.mk none (some 17) (Ef.pr Pr.mv) [X.t 1], I.mk none (some 18) (Ef.pr (Pr.cm BinOp.eql)) [X.t 16, X.t 17]]) 
  (IC.cond (X.t 18) (IC.ops [I.mk none (some 19) (Ef.pr Pr.mv) [X.t 5], I.mk none (some 20) (Ef.pr (Pr.ar BinOp.add)) [X.t 19, X.c (Value.int IntKind.i64 1)], I.mk none (some 5) (Ef.pr Pr.mv) [X.t 20]]) IC.skip))) (IC.ops [I.mk none (some 11) (Ef.pr Pr.mv) [X.t 6], I.mk none (some 12) (Ef.pr (Pr.ar BinOp.add)) [X.t 11, X.c (Value.int IntKind.i64 1)], I.mk none (some 6) (Ef.pr Pr.mv) [X.t 12]])))))) 
  (IC.seq (IC.ops [I.mk none (some 21) (Ef.pr Pr.mv) [X.t 5], I.mk none (some 4) (Ef.pr Pr.mv) [X.t 21]]) IC.ret)))

theorem k43 : Go.Proofs.Try.f43.body.bind (comp Go.Proofs.Try.prog 22 [] []) = some c43 := by kernel_rfl

theorem r43 : cRVs Go.Proofs.Try.prog Go.Proofs.Try.f43.results.toList = some [RV.t 4] := by kernel_rfl

theorem e43 {args : List Value} {h : Hp} {Q : Value → Hp → Prop} (hl : Nat.ble args.length 22 = true) (hk : codeK PR none c43 (retK Q [RV.t 4]) (fun _ _ _ _ => False) (retK Q [RV.t 4]) (argsE 0 args) [] h) : Ok PR 43 args h Q :=
  Ok.of mixed Go.Proofs.Try.func43 rfl k43 r43 hl hk

def c44 : IC := IC.seq (IC.ops [I.mk none (some 2) (Ef.pr Pr.mv) [X.c (Value.bool false)]]) 
  (IC.seq (IC.ops [I.mk none (some 3) (Ef.pr Pr.mv) [X.c (Value.slice none 0 0)]]) 
  (IC.seq 
  (IC.seq (IC.ops [I.mk none (some 4) (Ef.pr Pr.mv) [X.c (Value.int IntKind.i64 0)]]) 
  (IC.block 0 
  (IC.loop 
  (IC.seq 
  (IC.seq (IC.ops [I.mk none (some 10) (Ef.pr Pr.mv) [X.t 4], I.mk none (some 11) (Ef.pr Pr.mv) [X.t 0], I.mk none (some 12) (Ef.pr Pr.lenS) [X.t 11], I.mk none (some 13) (Ef.pr (Pr.cm BinOp.lss)) [X.t 10, X.t 12]]) 
  (IC.cond (X.t 13) IC.skip (IC.exit 0))) 
  (IC.seq 
  (IC.block 1 
  (IC.seq (IC.ops [I.mk none (some 16) (Ef.pr Pr.mv) [X.t 3], I.mk none (some 17) (Ef.pr Pr.mv) [X.t 0], I.mk none (some 18) (Ef.pr Pr.mv) [X.t 4], I.mk none (some 19) (Ef.pr (Pr.iaS 1)) [X.t 17, X.t 18], I.mk none (some 20) (Ef.pr (Pr.ld 1 false)) [X.t 19], I.mk none (some 21) (Ef.pr Pr.lenS) [X.t 20], I.mk none (some 22) (Ef.bsl [Value.int IntKind.i64 0] 3 1 1 [0]) [X.t 21], I.mk none (some 23) (Ef.app [Value.int IntKind.i64 0] 3 8) [X.t 16, X.t 22], I.mk none (some 3) (Ef.pr Pr.mv) [X.t 23]]) 
  (IC.seq (IC.ops [I.mk none (some 5) (Ef.pr Pr.mv) [X.c (Value.int IntKind.i64 0)]]) 
  (IC.block 2 
  (IC.loop 
  (IC.seq 
  (IC.seq (IC.ops [I.mk none (some 24) (Ef.pr Pr.mv) [X.t 5], I.mk none (some 25) (Ef.pr Pr.mv) [X.t 3], I.mk none (some 26) (Ef.pr Pr.mv) [X.t 4], I.mk none (some 27) (Ef.pr (Pr.iaS 1)) [X.t 25, X.t 26], I.mk none (some 28) (Ef.pr (Pr.ld 1 false)) [X.t 27], I.mk none (some 29) (Ef.pr (Pr.cm BinOp.lss)) [X.t 24, X.t 28]]) 
  (IC.cond (X.t 29) IC.skip (IC.exit 2))) 
  (IC.seq 
  (IC.block 3 (IC.ops [I.mk none (some 32) (Ef.pr Pr.mv) [X.t 0], I.mk none (some 33) (Ef.pr Pr.mv) [X.t 4], I.mk none (some 34) (Ef.pr (Pr.iaS 1)) [X.t 32, X.t 33], I.mk none (some 35) (Ef.pr (Pr.ld 1 false)) [X.t 34], I.mk none (some 36) (Ef.pr Pr.mv) [X.t 5], I.mk none (some 37) (Ef.pr Pr.mv) [X.t 4], I.mk none (some 38) (Ef.pr (Pr.ar BinOp.sub)) [X.c (Value.int IntKind.i64 (-1000)), X.t 37], I.mk none (some 39) (Ef.pr (Pr.iaS 1)) [X.t 35, X.t 36], I.mk none none (Ef.st 1) [X.t 39, X.t 38]])) (IC.ops [I.mk none (some 30) (Ef.pr Pr.mv) [X.t 5], I.mk none (some 31) (Ef.pr (Pr.ar BinOp.add)) [X.t 30, X.c (Value.int IntKind.i64 1)], I.mk none (some 5) (Ef.pr Pr.mv) [X.t 31]])))))))) (IC.ops [I.mk none (some 14) (Ef.pr Pr.mv) [X.t 4], I.mk none (some 15) (Ef.pr (Pr.ar BinOp.add)) [X.t 14, X.c (Value.int IntKind.i64 1)], I.mk none (some 4) (Ef.pr Pr.mv) [X.t 15]])))))) 
  (IC.seq 
  (IC.seq (IC.ops [I.mk none (some 6) (Ef.pr Pr.mv) [X.c (Value.int IntKind.i64 0)]]) 
  (IC.block 4 
  (IC.loop 
  (IC.seq 
  (IC.seq (IC.ops [I.mk none (some 40) (Ef.pr Pr.mv) [X.t 6], I.mk none (some 41) (Ef.pr Pr.mv) [X.t 0], I.mk none (some 42) (Ef.pr Pr.lenS) [X.t 41], I.mk none (some 43) (Ef.pr (Pr.cm BinOp.lss)) [X.t 40, X.t 42]]) 
  (IC.cond (X.t 43) IC.skip (IC.exit 4))) 
  (IC.seq 
  (IC.block 5 
  (IC.seq (IC.ops [I.mk none (some 7) (Ef.pr Pr.mv) [X.c (Value.int IntKind.i64 0)]]) 
  (IC.block 6 
  (IC.loop 
  (IC.seq 
  (IC.seq (IC.ops [I.mk none (some 46) (Ef.pr Pr.mv) [X.t 7], I.mk none (some 47) (Ef.pr (Pr.cm BinOp.lss)) [X.t 46, X.c (Value.int IntKind.i64 64)]]) 
  (IC.cond (X.t 47) IC.skip (IC.exit 6))) 
  (IC.seq 
  (IC.block 7 (IC.ops [I.mk none (some 50) (Ef.pr Pr.mv) [X.t 0], I.mk none (some 51) (Ef.pr Pr.mv) [X.t 6], I.mk none (some 52) (Ef.pr Pr.mv) [X.t 0], I.mk none (some 53) (Ef.pr Pr.mv) [X.t 6], I.mk none (some 54) (Ef.pr (Pr.iaS 1)) [X.t 52, X.t 53], I.mk none (some 55) (Ef.pr (Pr.ld 1 false)) [X.t 54], I.mk none (some 56) (Ef.pr Pr.mv) [X.t 6], I.mk none (some 57) (Ef.pr (Pr.ar BinOp.sub)) [X.c (Value.int IntKind.i64 (-9000)), X.t 56], I.mk none (some 58) (Ef.bsl [Value.int IntKind.i64 0] 3 1 1 [0]) [X.t 57], I.mk none (some 59) (Ef.app [Value.int IntKind.i64 0] 3 8) [X.t 55, X.t 58], I.mk none (some 60) (Ef.pr (Pr.iaS 1)) [X.t 50, X.t 51], I.mk none none (Ef.st 1) [X.t 60, X.t 59]])) (IC.ops [I.mk none (some 48) (Ef.pr Pr.mv) [X.t 7], I.mk none (some 49) (Ef.pr (Pr.ar BinOp.add)) [X.t 48, X.c (Value.int IntKind.i64 1)], I.mk none (some 7) (Ef.pr Pr.mv) [X.t 49]]))))))) (IC.ops [I.mk none (some 44) (Ef.pr Pr.mv) [X.t 6], I.mk none (some 45) (Ef.pr (Pr.ar BinOp.add)) [X.t 44, X.c (Value.int IntKind.i64 1)], I.mk none (some 6) (Ef.pr Pr.mv) [X.t 45]])))))) 
  (IC.seq 
  (IC.seq (IC.ops [I.mk none (some 8) (Ef.pr Pr.mv) [X.c (Value.int IntKind.i64 0)]]) 
  (IC.block 8 
  (IC.loop 
  (IC.seq 
  (IC.seq (IC.ops [I.mk none (some 61) (Ef.pr Pr.mv) [X.t 8], I.mk none (some 62) (Ef.pr Pr.mv) [X.t 0], I.mk none (some 63) (Ef.pr Pr.lenS) [X.t 62], I.mk none (some 64) (Ef.pr (Pr.cm BinOp.lss)) [X.t 61, X.t 63]]) 
  (IC.cond (X.t 64) IC.skip (IC.exit 8))) 
  (IC.seq 
  (IC.block 9 
  (IC.seq (IC.ops [I.mk none (some 9) (Ef.pr Pr.mv) [X.c (Value.int IntKind.i64 0)]]) 
  (IC.block 10 
  (IC.loop 
  (IC.seq 
  (IC.seq (IC.ops [I.mk none (some 67) (Ef.pr Pr.mv) [X.t 9], I.mk none (some 68) (Ef.pr Pr.mv) [X.t 0], I.mk none (some 69) (Ef.pr Pr.mv) [X.t 8], I.mk none (some 70) (Ef.pr (Pr.iaS 1)) [X.t 68, X.t 69], I.mk none (some 71) (Ef.pr (Pr.ld 1 false)) [X.t 70], I.mk none (some 72) (Ef.pr Pr.lenS) [X.t 71], I.mk none (some 73) (Ef.pr (Pr.cm BinOp.lss)) [X.t 67, X.t 72]]) 
  (IC.cond (X.t 73) IC.skip (IC.exit 10))) 
  (IC.seq 
  (IC.block 11 
  (IC.seq (IC.ops [I.mk none (some 76) (Ef.pr Pr.mv) [X.t 9], I.mk none (some 77) (Ef.pr Pr.mv) [X.t 3], I.mk none (some 78) (Ef.pr Pr.mv) [X.t 8], I.mk none (some 79) (Ef.pr (Pr.iaS 1)) [X.t 77, X.t 78], I.mk none (some 80) (Ef.pr (Pr.ld 1 false)) [X.t 79], I.mk none (some 81) (Ef.pr (Pr.cm BinOp.lss)) [X.t 76, X.t 80], I.mk none (some 82) (Ef.pr Pr.mv) [X.t 81], I.mk (some (82, true)) (some 83) (Ef.pr Pr.mv) [X.t 0], I.mk (some (82, true)) (some 84) (Ef.pr Pr.mv) [X.t 8], I.mk (some (82, true)) (some 85) (Ef.pr (Pr.iaS 1)) [X.t 83, X.t 84], I.mk (some (82, true)) (some 86) (Ef.pr (Pr.ld 1 false)) [X.t 85], I.mk (some (82, true)) (some 87) (Ef.pr Pr.mv) [X.t 9], I.mk (some (82, true)) (some 88) (Ef.pr (Pr.iaS 1)) [X.t 86, X.t 87], I.mk (some (82, true)) (some 89) (Ef.pr (Pr.ld 1 false)) [X.t 88], I.mk (some (82, true)) (some 90) (Ef.pr Pr.mv) [X.t 8], I.mk (some (82, true)) (some 91) (Ef.pr (Pr.ar BinOp.sub)) [X.c (Value.int IntKind.i64 (-1000)), X.t 90], I.mk (some (82, true)) (some 92) (Ef.pr (Pr.cm BinOp.neq)) [X.t 89, X.t 91], I.mk none (some 93) (Ef.pr Pr.pick) [X.t 82, X.t 92, X.c (Value.bool false)], I.mk none (some 94) (Ef.pr Pr.mv) [X.t 93], I.mk (some (94, false)) (some 95) (Ef.pr Pr.mv) [X.t 9], I.mk (some (94, false)) (some 96) (Ef.pr Pr.mv) [X.t 3], I.mk (some (94, false)) (some 97) (Ef.pr Pr.mv) [X.t 8], I.mk (some (94, false)) (some 98) (Ef.pr (Pr.iaS 1)) [X.t 96, X.t 97], I.mk (some (94, false)) (some 99) (Ef.pr (Pr.ld 1 false)) [X.t 98], I.mk (some (94, false)) (some 100) (Ef.pr (Pr.cm BinOp.geq)) [X.t 95, X.t 99], I.mk (some (94, false)) (some 101) (Ef.pr Pr.mv) [X.t 100], I.mk (some (101, true)) (some 102) (Ef.pr Pr.mv) [X.t 0], I.mk (some (101, true)) (some 103) (Ef.pr Pr.mv) [X.t 8], I.mk (some (101, true)) (some 104) (Ef.pr (Pr.iaS 1)) [X.t 102, X.t 103], I.mk (some (101, true)) (some 105) (Ef.pr (Pr.ld 1 false)) [X.t 104], I.mk (some (101, true)) (some 106) (Ef.pr Pr.mv) [X.t 9], I.mk (some (101, true)) (some 107) (Ef.pr (Pr.iaS 1)) [X.t 105, X.t 106], I.mk (some (101, true)) (some 108) (Ef.pr (Pr.ld 1 false)) [X.t 107], I.mk (some (101, true)) (some 109) (Ef.pr Pr.mv) [X.t 8], I.mk (some (101, true)) (some 110) (Ef.pr (Pr.ar BinOp.sub)) [X.c (Value.int IntKind.i64 (-9000)), X.t 109], I.mk (some (101, true)) (some 111) (Ef.pr (Pr.cm BinOp.neq)) [X.t 108, X.t 110], I.mk (some (94, false)) (some 112) (Ef.pr Pr.pick) [X.t 101, X.t 111, X.c (Value.bool false)], I.mk none (some 113) (Ef.pr Pr.pick) [X.t 94, X.c (Value.bool true), X.t 112]]) 
  (IC.cond (X.t 113) 
  (IC.seq (IC.ops [I.mk none (some 2) (Ef.pr Pr.mv) [X.c (Value.bool false)]]) IC.ret) IC.skip))) (IC.ops [I.mk none (some 74) (Ef.pr Pr.mv) [X.t 9], I.mk none (some 75) (Ef.pr (Pr.ar BinOp.add)) [X.t 74, X.c (Value.int IntKind.i64 1)], I.mk none (some 9) (Ef.pr Pr.mv) [X.t 75]]))))))) (IC.ops [I.mk none (some 65) (Ef.pr Pr.mv) [X.t 8], I.mk none (some 66) (Ef.pr (Pr.ar BinOp.add)) [X.t 65, X.c (Value.int IntKind.i64 1)], I.mk none (some 8) (Ef.pr Pr.mv) [X.t 66]])))))) 
  (IC.seq (IC.ops [I.mk none (some 2) (Ef.pr Pr.mv) [X.c (Value.bool true)]]) IC.ret)))))

theorem k44 : Go.Proofs.Try.f44.body.bind (comp Go.Proofs.Try.prog 114 [] []) = some c44 := by kernel_rfl

theorem r44 : cRVs Go.Proofs.Try.prog Go.Proofs.Try.f44.results.toList = some [RV.t 2] := by kernel_rfl

theorem e44 {args : List Value} {h : Hp} {Q : Value → Hp → Prop} (hl : Nat.ble args.length 114 = true) (hk : codeK PR none c44 (retK Q [RV.t 2]) (fun _ _ _ _ => False) (retK Q [RV.t 2]) (argsE 0 args) [] h) : Ok PR 44 args h Q :=
  Ok.of mixed Go.Proofs.Try.func44 rfl k44 r44 hl hk

def c45 : IC := IC.seq (IC.ops [I.mk none (some 4) (Ef.pr Pr.mv) [X.c (Value.bool false)]]) 
  (IC.seq (IC.ops [I.mk none (some 20) (Ef.pr Pr.mv) [X.t 0], I.mk none (some 21) (Ef.pr Pr.mv) [X.t 1], I.mk none (some 22) (Ef.call 27) [X.t 20, X.t 21], I.mk none (some 19) (Ef.pr Pr.mv) [X.t 22], I.mk none (some 23) (Ef.pr (Pr.ext 0)) [X.t 19], I.mk none (some 24) (Ef.pr (Pr.ext 1)) [X.t 19], I.mk none (some 5) (Ef.pr Pr.mv) [X.t 23], I.mk none (some 6) (Ef.pr Pr.mv) [X.t 24]]) 
  (IC.seq (IC.ops [I.mk none (some 26) (Ef.pr Pr.mv) [X.t 0], I.mk none (some 27) (Ef.pr Pr.mv) [X.t 1], I.mk none (some 28) (Ef.call 39) [X.t 26, X.t 27], I.mk none (some 25) (Ef.pr Pr.mv) [X.t 28], I.mk none (some 29) (Ef.pr (Pr.ext 0)) [X.t 25], I.mk none (some 30) (Ef.pr (Pr.ext 1)) [X.t 25], I.mk none (some 7) (Ef.pr Pr.mv) [X.t 29], I.mk none (some 8) (Ef.pr Pr.mv) [X.t 30]]) 
  (IC.seq (IC.ops [I.mk none (some 32) (Ef.pr Pr.mv) [X.t 0], I.mk none (some 33) (Ef.pr Pr.mv) [X.t 1], I.mk none (some 34) (Ef.call 19) [X.t 32, X.t 33], I.mk none (some 31) (Ef.pr Pr.mv) [X.t 34], I.mk none (some 35) (Ef.pr (Pr.ext 0)) [X.t 31], I.mk none (some 36) (Ef.pr (Pr.ext 1)) [X.t 31], I.mk none (some 9) (Ef.al [Value.int IntKind.i64 0, Value.int IntKind.i64 0, Value.int IntKind.i64 0, Value.int IntKind.i64 0, Value.int IntKind.i64 0, Value.bool false, Value.int IntKind.u32 0, Value.int IntKind.u32 0, Value.int IntKind.u32 0, Value.int IntKind.u32 0, Value.int IntKind.u32 0, Value.int IntKind.u32 0, Value.int IntKind.u32 0, Value.int IntKind.u32 0, Value.int IntKind.u32 0, Value.int IntKind.i64 0, Value.int IntKind.i64 0, Value.int IntKind.i64 0, Value.int IntKind.i64 0, Value.int IntKind.i64 0, Value.int IntKind.i64 0]) [], I.mk none none (Ef.st 21) [X.t 9, X.t 35], I.mk none (some 10) (Ef.pr Pr.mv) [X.t 36]]) 
  (IC.seq 
  (IC.seq (IC.ops [I.mk none (some 37) (Ef.pr Pr.mv) [X.t 6], I.mk none (some 38) (Ef.pr (Pr.cm BinOp.neq)) [X.t 37, X.c (Value.int IntKind.i64 0)], I.mk none (some 39) (Ef.pr Pr.mv) [X.t 38], I.mk (some (39, false)) (some 40) (Ef.pr Pr.mv) [X.t 8], I.mk (some (39, false)) (some 41) (Ef.pr (Pr.cm BinOp.neq)) [X.t 40, X.c (Value.int IntKind.i64 0)], I.mk none (some 42) (Ef.pr Pr.pick) [X.t 39, X.c (Value.bool true), X.t 41], I.mk none (some 43) (Ef.pr Pr.mv) [X.t 42], I.mk (some (43, false)) (some 44) (Ef.pr Pr.mv) [X.t 10], I.mk (some (43, false)) (some 45) (Ef.pr (Pr.cm BinOp.neq)) [X.t 44, X.c (Value.int IntKind.i64 0)], I.mk none (some 46) (Ef.pr Pr.pick) [X.t 43, X.c (Value.bool true), X.t 45], I.mk none (some 47) (Ef.pr Pr.mv) [X.t 46], I.mk (some (47, false)) (some 48) (Ef.pr Pr.mv) [X.t 5], I.mk (some (47, false)) (some 49) (Ef.pr Pr.lenS) [X.t 48], I.mk (some (47, false)) (some 50) (Ef.pr (Pr.cm BinOp.eql)) [X.t 49, X.c (Value.int IntKind.i64 0)], I.mk none (some 51) (Ef.pr Pr.pick) [X.t 47, X.c (Value.bool true), X.t 50], I.mk none (some 52) (Ef.pr Pr.mv) [X.t 51], I.mk (some (52, false)) (some 53) (Ef.pr Pr.mv) [X.t 5], I.mk (some (52, false)) (some 54) (Ef.pr (Pr.iaS 1)) [X.t 53, X.c (Value.int IntKind.i64 0)], I.mk (some (52, false)) (some 55) (Ef.pr (Pr.ld 1 false)) [X.t 54], I.mk (some (52, false)) (some 56) (Ef.pr Pr.mv) [X.t 1], I.mk (some (52, false)) (some 57) (Ef.pr (Pr.cm BinOp.neq)) [X.t 55, X.t 56], I.mk none (some 58) (Ef.pr Pr.pick) [X.t 52, X.c (Value.bool true), X.t 57], I.mk none (some 59) (Ef.pr Pr.mv) [X.t 58], I.mk (some (59, false)) (some 60) (Ef.pr Pr.mv) [X.t 5], I.mk (some (59, false)) (some 61) (Ef.pr Pr.lenS) [X.t 60], I.mk (some (59, false)) (some 62) (Ef.pr (Pr.cm BinOp.gtr)) [X.t 61, X.c (Value.int IntKind.i64 16)], I.mk none (some 63) (Ef.pr Pr.pick) [X.t 59, X.c (Value.bool true), X.t 62]]) 
  (IC.cond (X.t 63) 
  (IC.seq (IC.ops [I.mk none (some 4) (Ef.pr Pr.mv) [X.c (Value.bool false)]]) IC.ret) IC.skip)) 
  (IC.seq (IC.ops [I.mk none (some 11) (Ef.pr Pr.mv) [X.c (Value.int IntKind.i64 1)]]) 
  (IC.seq (IC.ops [I.mk none (some 64) (Ef.pr (Pr.fa 0)) [X.t 9], I.mk none (some 65) (Ef.pr (Pr.ld 1 false)) [X.t 64], I.mk none (some 12) (Ef.pr Pr.mv) [X.t 65]]) 
  (IC.seq 
  (IC.seq (IC.ops [I.mk none (some 13) (Ef.pr Pr.mv) [X.c (Value.int IntKind.i64 0)]]) 
  (IC.block 0 
  (IC.loop 
  (IC.seq 
  (IC.seq (IC.ops [I.mk none (some 66) (Ef.pr Pr.mv) [X.t 13], I.mk none (some 67) (Ef.pr Pr.mv) [X.t 7], I.mk none (some 68) (Ef.pr Pr.lenS) [X.t 67], I.mk none (some 69) (Ef.pr (Pr.cm BinOp.lss)) [X.t 66, X.t 68]]) 
  (IC.cond (X.t 69) IC.skip (IC.exit 0))) 
  (IC.seq 
  (IC.block 1 
  (IC.seq (IC.ops [I.mk none (some 73) (Ef.pr Pr.mv) [X.t 0], I.mk none (some 74) (Ef.pr Pr.mv) [X.t 7], I.mk none (some 75) (Ef.pr Pr.mv) [X.t 13], I.mk none (some 76) (Ef.pr (Pr.iaS 1)) [X.t 74, X.t 75], I.mk none (some 77) (Ef.pr (Pr.ld 1 false)) [X.t 76], I.mk none (some 78) (Ef.call 19) [X.t 73, X.t 77], I.mk none (some 72) (Ef.pr Pr.mv) [X.t 78], I.mk none (some 79) (Ef.pr (Pr.ext 0)) [X.t 72], I.mk none (some 80) (Ef.pr (Pr.ext 1)) [X.t 72], I.mk none (some 14) (Ef.al [Value.int IntKind.i64 0, Value.int IntKind.i64 0, Value.int IntKind.i64 0, Value.int IntKind.i64 0, Value.int IntKind.i64 0, Value.bool false, Value.int IntKind.u32 0, Value.int IntKind.u32 0, Value.int IntKind.u32 0, Value.int IntKind.u32 0, Value.int IntKind.u32 0, Value.int IntKind.u32 0, Value.int IntKind.u32 0, Value.int IntKind.u32 0, Value.int IntKind.u32 0, Value.int IntKind.i64 0, Value.int IntKind.i64 0, Value.int IntKind.i64 0, Value.int IntKind.i64 0, Value.int IntKind.i64 0, Value.int IntKind.i64 0]) [], I.mk none none (Ef.st 21) [X.t 14, X.t 79], I.mk none (some 15) (Ef.pr Pr.mv) [X.t 80]]) 
  (IC.seq (IC.ops [I.mk none (some 82) (Ef.pr Pr.mv) [X.t 0], I.mk none (some 83) (Ef.pr Pr.mv) [X.t 7], I.mk none (some 84) (Ef.pr Pr.mv) [X.t 13], I.mk none (some 85) (Ef.pr (Pr.iaS 1)) [X.t 83, X.t 84], I.mk none (some 86) (Ef.pr (Pr.ld 1 false)) [X.t 85], I.mk none (some 87) (Ef.call 27) [X.t 82, X.t 86], I.mk none (some 81) (Ef.pr Pr.mv) [X.t 87], I.mk none (some 88) (Ef.pr (Pr.ext 0)) [X.t 81], I.mk none (some 89) (Ef.pr (Pr.ext 1)) [X.t 81], I.mk none (some 16) (Ef.pr Pr.mv) [X.t 88], I.mk none (some 17) (Ef.pr Pr.mv) [X.t 89]]) 
  (IC.seq 
  (IC.seq (IC.ops [I.mk none (some 90) (Ef.pr Pr.mv) [X.t 17], I.mk none (some 91) (Ef.pr (Pr.cm BinOp.neq)) [X.t 90, X.c (Value.int IntKind.i64 0)], I.mk none (some 92) (Ef.pr Pr.mv) [X.t 91], I.mk (some (92, false)) (some 93) (Ef.pr (Pr.fa 1)) [X.t 14], I.mk (some (92, false)) (some 94) (Ef.pr (Pr.ld 1 false)) [X.t 93], I.mk (some (92, false)) (some 95) (Ef.pr Pr.mv) [X.t 1], I.mk (some (92, false)) (some 96) (Ef.pr (Pr.cm BinOp.neq)) [X.t 94, X.t 95], I.mk none (some 97) (Ef.pr Pr.pick) [X.t 92, X.c (Value.bool true), X.t 96], I.mk none (some 98) (Ef.pr Pr.mv) [X.t 97], I.mk (some (98, false)) (some 99) (Ef.pr (Pr.fa 0)) [X.t 14], I.mk (some (98, false)) (some 100) (Ef.pr (Pr.ld 1 false)) [X.t 99], I.mk (some (98, false)) (some 101) (Ef.pr Pr.mv) [X.t 12], I.mk (some (98, false)) (some 102) (Ef.pr (Pr.cm BinOp.leq)) [X.t 100, X.t 101], I.mk none (some 103) (Ef.pr Pr.pick) [X.t 98, X.c (Value.bool true), X.t 102], I.mk none (some 104) (Ef.pr Pr.mv) [X.t 103], I.mk (some (104, false)) (some 105) (Ef.pr Pr.mv) [X.t 11], I.mk (some (104, false)) (some 106) (Ef.pr Pr.mv) [X.t 16], I.mk (some (104, false)) (some 107) (Ef.pr Pr.lenS) [X.t 106], I.mk (some (104, false)) (some 108) (Ef.pr (Pr.ar BinOp.add)) [X.t 105, X.t 107], I.mk (some (104, false)) (some 109) (Ef.pr Pr.mv) [X.t 5], I.mk (some (104, false)) (some 110) (Ef.pr Pr.lenS) [X.t 109], I.mk (some (104, false)) (some 111) (Ef.pr (Pr.cm BinOp.gtr)) [X.t 108, X.t 110], I.mk none (some 112) (Ef.pr Pr.pick) [X.t 104, X.c (Value.bool true), X.t 111]]) 
  (IC.cond (X.t 112) 
  (IC.seq (IC.ops [I.mk none (some 4) (Ef.pr Pr.mv) [X.c (Value.bool false)]]) IC.ret) IC.skip)) 
  (IC.seq (IC.ops [I.mk none (some 113) (Ef.pr (Pr.fa 0)) [X.t 14], I.mk none (some 114) (Ef.pr (Pr.ld 1 false)) [X.t 113], I.mk none (some 12) (Ef.pr Pr.mv) [X.t 114]]) 
  (IC.seq 
  (IC.seq (IC.ops [I.mk none (some 18) (Ef.pr Pr.mv) [X.c (Value.int IntKind.i64 0)]]) 
  (IC.block 2 
  (IC.loop 
  (IC.seq 
  (IC.seq (IC.ops [I.mk none (some 115) (Ef.pr Pr.mv) [X.t 18], I.mk none (some 116) (Ef.pr Pr.mv) [X.t 16], I.mk none (some 117) (Ef.pr Pr.lenS) [X.t 116], I.mk none (some 118) (Ef.pr (Pr.cm BinOp.lss)) [X.t 115, X.t 117]]) 
  (IC.cond (X.t 118) IC.skip (IC.exit 2))) 
  (IC.seq 
  (IC.block 3 
  (IC.seq (IC.plan (Plan.q (I.mk none (some 121) (Ef.pr Pr.mv) [X.t 16]) (Plan.q (I.mk none (some 122) (Ef.pr Pr.mv) [X.t 18]) (Plan.q (I.mk none (some 123) (Ef.pr (Pr.iaS 1)) [X.t 121, X.t 122]) (Plan.q (I.mk none (some 124) (Ef.pr (Pr.ld 1 false)) [X.t 123]) (Plan.q (I.mk none (some 125) (Ef.pr Pr.mv) [X.t 5]) (Plan.q (I.mk none (some 126) (Ef.pr Pr.mv) [X.t 11]) (Plan.q (I.mk none (some 127) (Ef.pr Pr.mv) [X.t 18]) (Plan.q (I.mk none (some 128) (Ef.pr (Pr.ar BinOp.add)) [X.t 126, X.t 127]) (Plan.q (I.mk none (some 129) (Ef.pr (Pr.iaS 1)) [X.t 125, X.t 128]) (Plan.q (I.mk none (some 130) (Ef.pr (Pr.ld 1 false)) [X.t 129]) (Plan.q (I.mk none (some 131) (Ef.pr (Pr.cm BinOp.neq)) [X.t 124, X.t 130]) (Plan.q (I.mk none (some 132) (Ef.pr Pr.mv) [X.t 131]) (Plan.q (I.mk (some (132, false)) (some 133) (Ef.pr Pr.mv) [X.t 0]) (Plan.q (I.mk (some (132, false)) (some 134) (Ef.pr Pr.mv) [X.t 1]) (Plan.q (I.mk (some (132, false)) (some 135) (Ef.pr Pr.mv) [X.t 16]) (Plan.q (I.mk (some (132, false)) (some 136) (Ef.pr Pr.mv) [X.t 18]) (Plan.q (I.mk (some (132, false)) (some 137) (Ef.pr (Pr.iaS 1)) [X.t 135, X.t 136]) (Plan.q (I.mk (some (132, false)) (some 138) (Ef.pr (Pr.ld 1 false)) [X.t 137]) (Plan.br (PlanL.cons false false (I.mk (some (132, false)) (some 139) (Ef.call 35) [X.t 133, X.t 134, X.t 138]) (Plan.q (I.mk (some (132, false)) (some 140) (Ef.pr (Pr.un UnOp.not)) [X.t 139]) (Plan.q (I.mk none (some 141) (Ef.pr Pr.pick) [X.t 132, X.c (Value.bool true), X.t 140]) (Plan.q (I.mk none (some 142) (Ef.pr Pr.mv) [X.t 141]) (Plan.q (I.mk (some (142, false)) (some 143) (Ef.pr Pr.mv) [X.t 0]) (Plan.q (I.mk (some (142, false)) (some 144) (Ef.pr Pr.mv) [X.t 16]) (Plan.q (I.mk (some (142, false)) (some 145) (Ef.pr Pr.mv) [X.t 18]) (Plan.q (I.mk (some (142, false)) (some 146) (Ef.pr (Pr.iaS 1)) [X.t 144, X.t 145]) (Plan.q (I.mk (some (142, false)) (some 147) (Ef.pr (Pr.ld 1 false)) [X.t 146]) (Plan.q (I.mk (some (142, false)) (some 148) (Ef.pr Pr.mv) [X.t 1]) (Plan.br (PlanL.cons false false (I.mk (some (142, false)) (some 149) (Ef.call 35) [X.t 143, X.t 147, X.t 148]) (Plan.q (I.mk none (some 150) (Ef.pr Pr.pick) [X.t 142, X.c (Value.bool true), X.t 149]) Plan.done) PlanL.nil))))))))))) PlanL.nil))))))))))))))))))))) 
  (IC.cond (X.t 150) 
  (IC.seq (IC.ops [I.mk none (some 4) (Ef.pr Pr.mv) [X.c (Value.bool false)]]) IC.ret) IC.skip))) (IC.ops [I.mk none (some 119) (Ef.pr Pr.mv) [X.t 18], I.mk none (some 120) (Ef.pr (Pr.ar BinOp.add)) [X.t 119, X.c (Value.int IntKind.i64 1)], I.mk none (some 18) (Ef.pr Pr.mv) [X.t 120]])))))) (IC.ops [I.mk none (some 151) (Ef.pr Pr.mv) [X.t 11], I.mk none (some 152) (Ef.pr Pr.mv) [X.t 16], I.mk none (some 153) (Ef.pr Pr.lenS) [X.t 152], I.mk none (some 154) (Ef.pr (Pr.ar BinOp.add)) [X.t 151, X.t 153], I.mk none (some 11) (Ef.pr Pr.mv) [X.t 154]]))))))) (IC.ops [I.mk none (some 70) (Ef.pr Pr.mv) [X.t 13], I.mk none (some 71) (Ef.pr (Pr.ar BinOp.add)) [X.t 70, X.c (Value.int IntKind.i64 1)], I.mk none (some 13) (Ef.pr Pr.mv) [X.t 71]])))))) 
  (IC.seq (IC.ops [I.mk none (some 155) (Ef.pr Pr.mv) [X.t 11], I.mk none (some 156) (Ef.pr Pr.mv) [X.t 5], I.mk none (some 157) (Ef.pr Pr.lenS) [X.t 156], I.mk none (some 158) (Ef.pr (Pr.cm BinOp.eql)) [X.t 155, X.t 157], I.mk none (some 159) (Ef.pr Pr.mv) [X.t 158], I.mk (some (159, true)) (some 160) (Ef.pr Pr.mv) [X.t 0], I.mk (some (159, true)) (some 161) (Ef.pr Pr.mv) [X.t 1], I.mk (some (159, true)) (some 162) (Ef.pr Pr.mv) [X.t 1], I.mk (some (159, true)) (some 163) (Ef.call 35) [X.t 160, X.t 161, X.t 162], I.mk none (some 164) (Ef.pr Pr.pick) [X.t 159, X.t 163, X.c (Value.bool false)], I.mk none (some 4) (Ef.pr Pr.mv) [X.t 164]]) IC.ret))))))))

theorem k45 : Go.Proofs.Try.f45.body.bind (comp Go.Proofs.Try.prog 165 [9, 14] []) = some c45 := by kernel_rfl

theorem r45 : cRVs Go.Proofs.Try.prog Go.Proofs.Try.f45.results.toList = some [RV.t 4] := by kernel_rfl

theorem e45 {args : List Value} {h : Hp} {Q : Value → Hp → Prop} (hl : Nat.ble args.length 165 = true) (hk : codeK PR none c45 (retK Q [RV.t 4]) (fun _ _ _ _ => False) (retK Q [RV.t 4]) (argsE 0 args) [] h) : Ok PR 45 args h Q :=
  Ok.of mixed Go.Proofs.Try.func45 rfl k45 r45 hl hk

def c46 : IC := IC.seq (IC.ops [I.mk none (some 4) (Ef.pr Pr.mv) [X.c (Value.bool false)]]) 
  (IC.seq 
  (IC.seq (IC.ops [I.mk none (some 10) (Ef.pr Pr.mv) [X.t 1], I.mk none (some 11) (Ef.pr Pr.lenS) [X.t 10], I.mk none (some 12) (Ef.pr (Pr.cm BinOp.lss)) [X.t 11, X.c (Value.int IntKind.i64 2)]]) 
  (IC.cond (X.t 12) 
  (IC.seq (IC.ops [I.mk none (some 4) (Ef.pr Pr.mv) [X.c (Value.bool true)]]) IC.ret) IC.skip)) 
  (IC.seq (IC.ops [I.mk none (some 14) (Ef.pr Pr.mv) [X.t 0], I.mk none (some 15) (Ef.pr Pr.mv) [X.t 1], I.mk none (some 16) (Ef.pr (Pr.iaS 1)) [X.t 15, X.c (Value.int IntKind.i64 0)], I.mk none (some 17) (Ef.pr (Pr.ld 1 false)) [X.t 16], I.mk none (some 18) (Ef.call 23) [X.t 14, X.t 17], I.mk none (some 13) (Ef.pr Pr.mv) [X.t 18], I.mk none (some 19) (Ef.pr (Pr.ext 0)) [X.t 13], I.mk none (some 20) (Ef.pr (Pr.ext 1)) [X.t 13], I.mk none (some 5) (Ef.pr Pr.mv) [X.t 19], I.mk none (some 6) (Ef.pr Pr.mv) [X.t 20]]) 
  (IC.seq (IC.ops [I.mk none (some 21) (Ef.pr Pr.mv) [X.t 5], I.mk none (some 22) (Ef.call 40) [X.t 21], I.mk none (some 7) (Ef.pr Pr.mv) [X.t 22]]) 
  (IC.seq (IC.ops [I.mk none (some 24) (Ef.pr Pr.mv) [X.t 0], I.mk none (some 25) (Ef.pr Pr.mv) [X.t 1], I.mk none (some 26) (Ef.pr (Pr.iaS 1)) [X.t 25, X.c (Value.int IntKind.i64 1)], I.mk none (some 27) (Ef.pr (Pr.ld 1 false)) [X.t 26], I.mk none (some 28) (Ef.call 23) [X.t 24, X.t 27], I.mk none (some 23) (Ef.pr Pr.mv) [X.t 28], I.mk none (some 29) (Ef.pr (Pr.ext 0)) [X.t 23], I.mk none (some 30) (Ef.pr (Pr.ext 1)) [X.t 23], I.mk none (some 8) (Ef.pr Pr.mv) [X.t 29], I.mk none (some 9) (Ef.pr Pr.mv) [X.t 30]]) 
  (IC.seq (IC.ops [I.mk none (some 31) (Ef.pr Pr.mv) [X.t 6], I.mk none (some 32) (Ef.pr (Pr.cm BinOp.eql)) [X.t 31, X.c (Value.int IntKind.i64 0)], I.mk none (some 33) (Ef.pr Pr.mv) [X.t 32], I.mk (some (33, true)) (some 34) (Ef.pr Pr.mv) [X.t 9], I.mk (some (33, true)) (some 35) (Ef.pr (Pr.cm BinOp.eql)) [X.t 34, X.c (Value.int IntKind.i64 0)], I.mk none (some 36) (Ef.pr Pr.pick) [X.t 33, X.t 35, X.c (Value.bool false)], I.mk none (some 37) (Ef.pr Pr.mv) [X.t 36], I.mk (some (37, true)) (some 38) (Ef.pr Pr.mv) [X.t 5], I.mk (some (37, true)) (some 39) (Ef.pr Pr.mv) [X.t 7], I.mk (some (37, true)) (some 40) (Ef.call 42) [X.t 38, X.t 39], I.mk none (some 41) (Ef.pr Pr.pick) [X.t 37, X.t 40, X.c (Value.bool false)], I.mk none (some 42) (Ef.pr Pr.mv) [X.t 41], I.mk (some (42, true)) (some 43) (Ef.pr Pr.mv) [X.t 5], I.mk (some (42, true)) (some 44) (Ef.pr Pr.lenS) [X.t 43], I.mk (some (42, true)) (some 45) (Ef.pr (Pr.cm BinOp.gtr)) [X.t 44, X.c (Value.int IntKind.i64 0)], I.mk none (some 46) (Ef.pr Pr.pick) [X.t 42, X.t 45, X.c (Value.bool false)], I.mk none (some 47) (Ef.pr Pr.mv) [X.t 46], I.mk (some (47, true)) (some 48) (Ef.pr Pr.mv) [X.t 8], I.mk (some (47, true)) (some 49) (Ef.pr Pr.lenS) [X.t 48], I.mk (some (47, true)) (some 50) (Ef.pr (Pr.cm BinOp.gtr)) [X.t 49, X.c (Value.int IntKind.i64 0)], I.mk none (some 51) (Ef.pr Pr.pick) [X.t 47, X.t 50, X.c (Value.bool false)], I.mk none (some 52) (Ef.pr Pr.mv) [X.t 51], I.mk (some (52, true)) (some 53) (Ef.pr Pr.mv) [X.t 5], I.mk (some (52, true)) (some 54) (Ef.pr Pr.mv) [X.t 8], I.mk (some (52, true)) (some 55) (Ef.bsl [Value.slice none 0 0] 22 2 1 [0, 1]) [X.t 53, X.t 54], I.mk (some (52, true)) (some 56) (Ef.call 44) [X.t 55], I.mk none (some 57) (Ef.pr Pr.pick) [X.t 52, X.t 56, X.c (Value.bool false)], I.mk none (some 4) (Ef.pr Pr.mv) [X.t 57]]) IC.ret)))))

theorem k46 : Go.Proofs.Try.f46.body.bind (comp Go.Proofs.Try.prog 58 [] []) = some c46 := by kernel_rfl

theorem r46 : cRVs Go.Proofs.Try.prog Go.Proofs.Try.f46.results.toList = some [RV.t 4] := by kernel_rfl

theorem e46 {args : List Value} {h : Hp} {Q : Value → Hp → Prop} (hl : Nat.ble args.length 58 = true) (hk : codeK PR none c46 (retK Q [RV.t 4]) (fun _ _ _ _ => False) (retK Q [RV.t 4]) (argsE 0 args) [] h) : Ok PR 46 args h Q :=
  Ok.of mixed Go.Proofs.Try.func46 rfl k46 r46 hl hk

def c47 : IC := IC.seq (IC.ops [I.mk none (some 0) (Ef.pr Pr.mv) [X.c (Value.bool false)]]) 
  (IC.seq (IC.ops [I.mk none (some 8) (Ef.pr (Pr.bld [Value.int IntKind.i64 0, Value.int IntKind.i64 0, Value.int IntKind.i64 0] [(0, 1), (1, 1), (2, 1)])) [X.c (Value.int IntKind.i64 9), X.c (Value.int IntKind.i64 3), X.c (Value.int IntKind.i64 1)], I.mk none (some 9) (Ef.call 55) [X.c (Value.int IntKind.i64 5), X.t 8], I.mk none (some 1) (Ef.pr Pr.mv) [X.t 9]]) 
  (IC.seq 
  (IC.seq (IC.ops [I.mk none (some 10) (Ef.pr Pr.mv) [X.t 1], I.mk none (some 11) (Ef.pr (Pr.eq false (EqT.one EqS.p))) [X.t 10, X.c (Value.pointer none)]]) 
  (IC.cond (X.t 11) 
  (IC.seq (IC.ops [I.mk none (some 0) (Ef.pr Pr.mv) [X.c (Value.bool false)]]) IC.ret) IC.skip)) 
  (IC.seq (IC.ops [I.mk none (some 13) (Ef.pr Pr.mv) [X.t 1], I.mk none (some 14) (Ef.pr (Pr.bld [Value.int IntKind.i64 0, Value.int IntKind.i64 0, Value.int IntKind.i64 0] [(0, 1), (1, 1)])) [X.c (Value.int IntKind.i64 4), X.c (Value.int IntKind.i64 1)], I.mk none (some 15) (Ef.call 22) [X.t 13, X.c (Value.int IntKind.i64 0), X.c (Value.int IntKind.i64 7), X.t 14], I.mk none (some 12) (Ef.pr Pr.mv) [X.t 15], I.mk none (some 16) (Ef.pr (Pr.ext 0)) [X.t 12], I.mk none (some 17) (Ef.pr (Pr.ext 1)) [X.t 12], I.mk none (some 2) (Ef.pr Pr.mv) [X.t 16], I.mk none (some 3) (Ef.pr Pr.mv) [X.t 17]]) 
  (IC.seq (IC.ops [I.mk none (some 19) (Ef.pr Pr.mv) [X.t 1], I.mk none (some 20) (Ef.call 19) [X.t 19, X.c (Value.int IntKind.i64 0)], I.mk none (some 18) (Ef.pr Pr.mv) [X.t 20], I.mk none (some 21) (Ef.pr (Pr.ext 0)) [X.t 18], I.mk none (some 22) (Ef.pr (Pr.ext 1)) [X.t 18], I.mk none (some 4) (Ef.al [Value.int IntKind.i64 0, Value.int IntKind.i64 0, Value.int IntKind.i64 0, Value.int IntKind.i64 0, Value.int IntKind.i64 0, Value.bool false, Value.int IntKind.u32 0, Value.int IntKind.u32 0, Value.int IntKind.u32 0, Value.int IntKind.u32 0, Value.int IntKind.u32 0, Value.int IntKind.u32 0, Value.int IntKind.u32 0, Value.int IntKind.u32 0, Value.int IntKind.u32 0, Value.int IntKind.i64 0, Value.int IntKind.i64 0, Value.int IntKind.i64 0, Value.int IntKind.i64 0, Value.int IntKind.i64 0, Value.int IntKind.i64 0]) [], I.mk none none (Ef.st 21) [X.t 4, X.t 21], I.mk none (some 5) (Ef.pr Pr.mv) [X.t 22]]) 
  (IC.seq (IC.ops [I.mk none (some 24) (Ef.pr Pr.mv) [X.t 1], I.mk none (some 25) (Ef.call 19) [X.t 24, X.c (Value.int IntKind.i64 1)], I.mk none (some 23) (Ef.pr Pr.mv) [X.t 25], I.mk none (some 26) (Ef.pr (Pr.ext 0)) [X.t 23], I.mk none (some 27) (Ef.pr (Pr.ext 1)) [X.t 23], I.mk none (some 6) (Ef.al [Value.int IntKind.i64 0, Value.int IntKind.i64 0, Value.int IntKind.i64 0, Value.int IntKind.i64 0, Value.int IntKind.i64 0, Value.bool false, Value.int IntKind.u32 0, Value.int IntKind.u32 0, Value.int IntKind.u32 0, Value.int IntKind.u32 0, Value.int IntKind.u32 0, Value.int IntKind.u32 0, Value.int IntKind.u32 0, Value.int IntKind.u32 0, Value.int IntKind.u32 0, Value.int IntKind.i64 0, Value.int IntKind.i64 0, Value.int IntKind.i64 0, Value.int IntKind.i64 0, Value.int IntKind.i64 0, Value.int IntKind.i64 0]) [], I.mk none none (Ef.st 21) [X.t 6, X.t 26], I.mk none (some 7) (Ef.pr Pr.mv) [X.t 27]]) 
  (IC.seq (IC.ops [I.mk none (some 28) (Ef.pr Pr.mv) [X.t 2], I.mk none (some 29) (Ef.pr (Pr.cm BinOp.eql)) [X.t 28, X.c (Value.int IntKind.i64 1)], I.mk none (some 30) (Ef.pr Pr.mv) [X.t 29], I.mk (some (30, true)) (some 31) (Ef.pr Pr.mv) [X.t 3], I.mk (some (30, true)) (some 32) (Ef.pr (Pr.cm BinOp.eql)) [X.t 31, X.c (Value.int IntKind.i64 0)], I.mk none (some 33) (Ef.pr Pr.pick) [X.t 30, X.t 32, X.c (Value.bool false)], I.mk none (some 34) (Ef.pr Pr.mv) [X.t 33], I.mk (some (34, true)) (some 35) (Ef.pr Pr.mv) [X.t 5], I.mk (some (34, true)) (some 36) (Ef.pr (Pr.cm BinOp.eql)) [X.t 35, X.c (Value.int IntKind.i64 0)], I.mk none (some 37) (Ef.pr Pr.pick) [X.t 34, X.t 36, X.c (Value.bool false)], I.mk none (some 38) (Ef.pr Pr.mv) [X.t 37], I.mk (some (38, true)) (some 39) (Ef.pr Pr.mv) [X.t 7], I.mk (some (38, true)) (some 40) (Ef.pr (Pr.cm BinOp.eql)) [X.t 39, X.c (Value.int IntKind.i64 0)], I.mk none (some 41) (Ef.pr Pr.pick) [X.t 38, X.t 40, X.c (Value.bool false)], I.mk none (some 42) (Ef.pr Pr.mv) [X.t 41], I.mk (some (42, true)) (some 43) (Ef.pr (Pr.fa 18)) [X.t 4], I.mk (some (42, true)) (some 44) (Ef.pr (Pr.ld 3 true)) [X.t 43], I.mk (some (42, true)) (some 45) (Ef.pr (Pr.bld [Value.int IntKind.i64 0, Value.int IntKind.i64 0, Value.int IntKind.i64 0] [(0, 1), (1, 1), (2, 1)])) [X.c (Value.int IntKind.i64 5), X.c (Value.int IntKind.i64 1), X.c (Value.int IntKind.i64 1)], I.mk (some (42, true)) (some 46) (Ef.pr (Pr.eq false (EqT.ag [(0, EqS.i), (1, EqS.i), (2, EqS.i)]))) [X.t 44, X.t 45], I.mk none (some 47) (Ef.pr Pr.pick) [X.t 42, X.t 46, X.c (Value.bool false)], I.mk none (some 48) (Ef.pr Pr.mv) [X.t 47], I.mk (some (48, true)) (some 49) (Ef.pr (Pr.fa 0)) [X.t 4], I.mk (some (48, true)) (some 50) (Ef.pr (Pr.ld 1 false)) [X.t 49], I.mk (some (48, true)) (some 51) (Ef.pr (Pr.cm BinOp.eql)) [X.t 50, X.c (Value.int IntKind.i64 5)], I.mk none (some 52) (Ef.pr Pr.pick) [X.t 48, X.t 51, X.c (Value.bool false)], I.mk none (some 53) (Ef.pr Pr.mv) [X.t 52], I.mk (some (53, true)) (some 54) (Ef.pr (Pr.fa 1)) [X.t 4], I.mk (some (53, true)) (some 55) (Ef.pr (Pr.ld 1 false)) [X.t 54], I.mk (some (53, true)) (some 56) (Ef.pr (Pr.cm BinOp.eql)) [X.t 55, X.c (Value.int IntKind.i64 (-1))], I.mk none (some 57) (Ef.pr Pr.pick) [X.t 53, X.t 56, X.c (Value.bool false)], I.mk none (some 58) (Ef.pr Pr.mv) [X.t 57], I.mk (some (58, true)) (some 59) (Ef.pr (Pr.fa 0)) [X.t 6], I.mk (some (58, true)) (some 60) (Ef.pr (Pr.ld 1 false)) [X.t 59], I.mk (some (58, true)) (some 61) (Ef.pr (Pr.cm BinOp.eql)) [X.t 60, X.c (Value.int IntKind.i64 7)], I.mk none (some 62) (Ef.pr Pr.pick) [X.t 58, X.t 61, X.c (Value.bool false)], I.mk none (some 63) (Ef.pr Pr.mv) [X.t 62], I.mk (some (63, true)) (some 64) (Ef.pr (Pr.fa 1)) [X.t 6], I.mk (some (63, true)) (some 65) (Ef.pr (Pr.ld 1 false)) [X.t 64], I.mk (some (63, true)) (some 66) (Ef.pr (Pr.cm BinOp.eql)) [X.t 65, X.c (Value.int IntKind.i64 0)], I.mk none (some 67) (Ef.pr Pr.pick) [X.t 63, X.t 66, X.c (Value.bool false)], I.mk none (some 0) (Ef.pr Pr.mv) [X.t 67]]) IC.ret))))))

theorem k47 : Go.Proofs.Try.f47.body.bind (comp Go.Proofs.Try.prog 68 [4, 6] []) = some c47 := by kernel_rfl

theorem r47 : cRVs Go.Proofs.Try.prog Go.Proofs.Try.f47.results.toList = some [RV.t 0] := by kernel_rfl

theorem e47 {args : List Value} {h : Hp} {Q : Value → Hp → Prop} (hl : Nat.ble args.length 68 = true) (hk : codeK PR none c47 (retK Q [RV.t 0]) (fun _ _ _ _ => False) (retK Q [RV.t 0]) (argsE 0 args) [] h) : Ok PR 47 args h Q :=
  Ok.of mixed Go.Proofs.Try.func47 rfl k47 r47 hl hk

def c48 : IC := IC.seq (IC.ops [I.mk none (some 3) Ef.bx [X.t 1], I.mk none (some 4) (Ef.al [Value.pointer none, Value.pointer none]) []]) 
  (IC.seq (IC.plan (Plan.q (I.mk none (some 5) (Ef.pr Pr.mv) [X.t 0]) (Plan.q (I.mk none (some 6) (Ef.pr (Pr.ld 3 true)) [X.t 3]) (Plan.q (I.mk none (some 8) (Ef.pr Pr.mv) [X.t 0]) (Plan.q (I.mk none (some 9) (Ef.pr (Pr.ld 3 true)) [X.t 3]) (Plan.br (PlanL.cons true false (I.mk none (some 7) (Ef.call 55) [X.t 5, X.t 6]) (Plan.br (PlanL.cons false false (I.mk none (some 10) (Ef.call 72) [X.t 8, X.t 9]) (Plan.q (I.mk none (some 11) (Ef.pr (Pr.bld [Value.pointer none, Value.pointer none] [(0, 1), (1, 1)])) [X.t 7, X.t 10]) (Plan.br (PlanL.cons false false (I.mk none none (Ef.st 2) [X.t 4, X.t 11]) Plan.done PlanL.nil))) PlanL.nil)) PlanL.nil))))))) IC.ret)

theorem k48 : Go.Proofs.Try.f48.body.bind (comp Go.Proofs.Try.prog 12 [3, 4] []) = some c48 := by kernel_rfl

theorem r48 : cRVs Go.Proofs.Try.prog Go.Proofs.Try.f48.results.toList = some [RV.c 4 2 true] := by kernel_rfl

theorem e48 {args : List Value} {h : Hp} {Q : Value → Hp → Prop} (hl : Nat.ble args.length 12 = true) (hk : codeK PR none c48 (retK Q [RV.c 4 2 true]) (fun _ _ _ _ => False) (retK Q [RV.c 4 2 true]) (argsE 0 args) [] h) : Ok PR 48 args h Q :=
  Ok.of mixed Go.Proofs.Try.func48 rfl k48 r48 hl hk

def c49 : IC := IC.seq (IC.ops [I.mk none (some 4) (Ef.pr Pr.mv) [X.c (Value.int IntKind.i64 0)]]) 
  (IC.seq (IC.ops [I.mk none (some 6) (Ef.pr Pr.mv) [X.t 0], I.mk none (some 7) (Ef.pr Pr.mv) [X.t 1], I.mk none (some 8) (Ef.pr (Pr.dv BinOp.rem)) [X.t 6, X.t 7], I.mk none (some 5) (Ef.pr Pr.mv) [X.t 8]]) 
  (IC.seq 
  (IC.seq (IC.ops [I.mk none (some 9) (Ef.pr Pr.mv) [X.t 5], I.mk none (some 10) (Ef.pr (Pr.cm BinOp.lss)) [X.t 9, X.c (Value.int IntKind.i64 0)]]) 
  (IC.cond (X.t 10) (IC.ops [I.mk none (some 11) (Ef.pr Pr.mv) [X.t 5], I.mk none (some 12) (Ef.pr Pr.mv) [X.t 1], I.mk none (some 13) (Ef.pr (Pr.ar BinOp.add)) [X.t 11, X.t 12], I.mk none (some 5) (Ef.pr Pr.mv) [X.t 13]]) IC.skip)) 
  (IC.seq (IC.ops [I.mk none (some 14) (Ef.pr Pr.mv) [X.t 5], I.mk none (some 4) (Ef.pr Pr.mv) [X.t 14]]) IC.ret)))

theorem k49 : Go.Proofs.Try.f49.body.bind (comp Go.Proofs.Try.prog 15 [] []) = some c49 := by kernel_rfl

theorem r49 : cRVs Go.Proofs.Try.prog Go.Proofs.Try.f49.results.toList = some [RV.t 4] := by kernel_rfl

theorem e49 {args : List Value} {h : Hp} {Q : Value → Hp → Prop} (hl : Nat.ble args.length 15 = true) (hk : codeK PR none c49 (retK Q [RV.t 4]) (fun _ _ _ _ => False) (retK Q [RV.t 4]) (argsE 0 args) [] h) : Ok PR 49 args h Q :=
  Ok.of mixed Go.Proofs.Try.func49 rfl k49 r49 hl hk

def c50 : IC := IC.seq (IC.ops [I.mk none (some 1) Ef.bx [X.t 0], I.mk none (some 2) (Ef.pr Pr.mv) [X.c (Value.bool false)]]) 
  (IC.seq 
  (IC.seq (IC.ops [I.mk none (some 3) (Ef.pr Pr.mv) [X.c (Value.int IntKind.i64 (-1))]]) 
  (IC.block 0 
  (IC.loop 
  (IC.seq 
  (IC.seq (IC.ops [I.mk none (some 5) (Ef.pr Pr.mv) [X.t 3], I.mk none (some 6) (Ef.pr (Pr.cm BinOp.leq)) [X.t 5, X.c (Value.int IntKind.i64 16)]]) 
  (IC.cond (X.t 6) IC.skip (IC.exit 0))) 
  (IC.seq 
  (IC.block 1 
  (IC.seq (IC.ops [I.mk none (some 9) (Ef.pr (Pr.ld 2 true)) [X.t 1], I.mk none (some 10) (Ef.pr Pr.mv) [X.t 3], I.mk none (some 11) (Ef.pr (Pr.bld [Value.int IntKind.i64 0, Value.int IntKind.i64 0, Value.int IntKind.i64 0, Value.int IntKind.i64 0, Value.int IntKind.i64 0, Value.int IntKind.i64 0, Value.int IntKind.i64 0, Value.int IntKind.i64 0, Value.int IntKind.u32 0, Value.int IntKind.u32 0, Value.int IntKind.u32 0, Value.int IntKind.u32 0, Value.int IntKind.u32 0, Value.int IntKind.u32 0, Value.int IntKind.u32 0, Value.int IntKind.u32 0, Value.int IntKind.u32 0, Value.bool false] [(0, 1), (2, 1)])) [X.c (Value.int IntKind.i64 4), X.t 10], I.mk none (some 12) (Ef.call 53) [X.t 9, X.t 11], I.mk none (some 13) (Ef.pr Pr.mv) [X.t 12], I.mk (some (13, true)) (some 14) (Ef.pr (Pr.ld 2 true)) [X.t 1], I.mk (some (13, true)) (some 15) (Ef.pr Pr.mv) [X.t 3], I.mk (some (13, true)) (some 16) (Ef.pr (Pr.bld [Value.int IntKind.i64 0, Value.int IntKind.i64 0, Value.int IntKind.i64 0, Value.int IntKind.i64 0, Value.int IntKind.i64 0, Value.int IntKind.i64 0, Value.int IntKind.i64 0, Value.int IntKind.i64 0, Value.int IntKind.u32 0, Value.int IntKind.u32 0, Value.int IntKind.u32 0, Value.int IntKind.u32 0, Value.int IntKind.u32 0, Value.int IntKind.u32 0, Value.int IntKind.u32 0, Value.int IntKind.u32 0, Value.int IntKind.u32 0, Value.bool false] [(0, 1), (2, 1)])) [X.c (Value.int IntKind.i64 13), X.t 15], I.mk (some (13, true)) (some 17) (Ef.call 53) [X.t 14, X.t 16], I.mk none (some 18) (Ef.pr Pr.pick) [X.t 13, X.t 17, X.c (Value.bool false)], I.mk none (some 19) (Ef.pr Pr.mv) [X.t 18], I.mk (some (19, true)) (some 20) (Ef.pr (Pr.ld 2 true)) [X.t 1], I.mk (some (19, true)) (some 21) (Ef.pr Pr.mv) [X.t 3], I.mk (some (19, true)) (some 22) (Ef.pr (Pr.bld [Value.int IntKind.i64 0, Value.int IntKind.i64 0, Value.int IntKind.i64 0, Value.int IntKind.i64 0, Value.int IntKind.i64 0, Value.int IntKind.i64 0, Value.int IntKind.i64 0, Value.int IntKind.i64 0, Value.int IntKind.u32 0, Value.int IntKind.u32 0, Value.int IntKind.u32 0, Value.int IntKind.u32 0, Value.int IntKind.u32 0, Value.int IntKind.u32 0, Value.int IntKind.u32 0, Value.int IntKind.u32 0, Value.int IntKind.u32 0, Value.bool false] [(0, 1), (2, 1)])) [X.c (Value.int IntKind.i64 16), X.t 21], I.mk (some (19, true)) (some 23) (Ef.call 53) [X.t 20, X.t 22], I.mk none (some 24) (Ef.pr Pr.pick) [X.t 19, X.t 23, X.c (Value.bool false)], I.mk none (some 4) (Ef.pr Pr.mv) [X.t 24]]) 
  (IC.seq (IC.ops [I.mk none (some 25) (Ef.pr Pr.mv) [X.t 4], I.mk none (some 26) (Ef.pr (Pr.un UnOp.not)) [X.t 25]]) 
  (IC.cond (X.t 26) 
  (IC.seq (IC.ops [I.mk none (some 2) (Ef.pr Pr.mv) [X.c (Value.bool false)]]) IC.ret) IC.skip)))) (IC.ops [I.mk none (some 7) (Ef.pr Pr.mv) [X.t 3], I.mk none (some 8) (Ef.pr (Pr.ar BinOp.add)) [X.t 7, X.c (Value.int IntKind.i64 1)], I.mk none (some 3) (Ef.pr Pr.mv) [X.t 8]])))))) 
  (IC.seq (IC.ops [I.mk none (some 27) (Ef.pr (Pr.ld 2 true)) [X.t 1], I.mk none (some 28) (Ef.pr (Pr.bld [Value.int IntKind.i64 0, Value.int IntKind.i64 0, Value.int IntKind.i64 0, Value.int IntKind.i64 0, Value.int IntKind.i64 0, Value.int IntKind.i64 0, Value.int IntKind.i64 0, Value.int IntKind.i64 0, Value.int IntKind.u32 0, Value.int IntKind.u32 0, Value.int IntKind.u32 0, Value.int IntKind.u32 0, Value.int IntKind.u32 0, Value.int IntKind.u32 0, Value.int IntKind.u32 0, Value.int IntKind.u32 0, Value.int IntKind.u32 0, Value.bool false] [(0, 1)])) [X.c (Value.int IntKind.i64 14)], I.mk none (some 29) (Ef.call 53) [X.t 27, X.t 28], I.mk none (some 30) (Ef.pr Pr.mv) [X.t 29], I.mk (some (30, true)) (some 31) (Ef.pr (Pr.ld 2 true)) [X.t 1], I.mk (some (30, true)) (some 32) (Ef.pr (Pr.bld [Value.int IntKind.i64 0, Value.int IntKind.i64 0, Value.int IntKind.i64 0, Value.int IntKind.i64 0, Value.int IntKind.i64 0, Value.int IntKind.i64 0, Value.int IntKind.i64 0, Value.int IntKind.i64 0, Value.int IntKind.u32 0, Value.int IntKind.u32 0, Value.int IntKind.u32 0, Value.int IntKind.u32 0, Value.int IntKind.u32 0, Value.int IntKind.u32 0, Value.int IntKind.u32 0, Value.int IntKind.u32 0, Value.int IntKind.u32 0, Value.bool false] [(0, 1)])) [X.c (Value.int IntKind.i64 18)], I.mk (some (30, true)) (some 33) (Ef.call 53) [X.t 31, X.t 32], I.mk none (some 34) (Ef.pr Pr.pick) [X.t 30, X.t 33, X.c (Value.bool false)], I.mk none (some 2) (Ef.pr Pr.mv) [X.t 34]]) IC.ret))

theorem k50 : Go.Proofs.Try.f50.body.bind (comp Go.Proofs.Try.prog 35 [1] []) = some c50 := by kernel_rfl

theorem r50 : cRVs Go.Proofs.Try.prog Go.Proofs.Try.f50.results.toList = some [RV.t 2] := by kernel_rfl

theorem e50 {args : List Value} {h : Hp} {Q : Value → Hp → Prop} (hl : Nat.ble args.length 35 = true) (hk : codeK PR none c50 (retK Q [RV.t 2]) (fun _ _ _ _ => False) (retK Q [RV.t 2]) (argsE 0 args) [] h) : Ok PR 50 args h Q :=
  Ok.of mixed Go.Proofs.Try.func50 rfl k50 r50 hl hk

def c51 : IC := IC.seq (IC.ops [I.mk none (some 2) Ef.bx [X.t 0], I.mk none (some 3) Ef.bx [X.t 1], I.mk none (some 4) (Ef.pr Pr.mv) [X.c (Value.bool false)]]) 
  (IC.seq 
  (IC.seq (IC.ops [I.mk none (some 13) (Ef.pr (Pr.fa 0)) [X.t 3], I.mk none (some 14) (Ef.pr (Pr.ld 1 false)) [X.t 13]]) 
  (IC.block 0 
  (IC.seq (IC.ops [I.mk none (some 16) (Ef.pr (Pr.cm BinOp.eql)) [X.t 14, X.c (Value.int IntKind.i64 2)], I.mk none (some 15) (Ef.pr Pr.mv) [X.t 16]]) 
  (IC.cond (X.t 15) 
  (IC.seq (IC.ops [I.mk none (some 18) (Ef.pr (Pr.fa 0)) [X.t 2], I.mk none (some 19) (Ef.pr (Pr.ld 1 false)) [X.t 18], I.mk none (some 20) (Ef.pr (Pr.fa 2)) [X.t 3], I.mk none (some 21) (Ef.pr (Pr.ld 1 false)) [X.t 20], I.mk none (some 22) (Ef.pr (Pr.fa 3)) [X.t 3], I.mk none (some 23) (Ef.pr (Pr.ld 1 false)) [X.t 22], I.mk none (some 24) (Ef.pr (Pr.fa 5)) [X.t 3], I.mk none (some 25) (Ef.pr (Pr.ld 3 true)) [X.t 24], I.mk none (some 26) (Ef.call 22) [X.t 19, X.t 21, X.t 23, X.t 25], I.mk none (some 17) (Ef.pr Pr.mv) [X.t 26], I.mk none (some 27) (Ef.pr (Pr.ext 0)) [X.t 17], I.mk none (some 28) (Ef.pr (Pr.ext 1)) [X.t 17], I.mk none (some 5) (Ef.pr Pr.mv) [X.t 27], I.mk none (some 6) (Ef.pr Pr.mv) [X.t 28]]) 
  (IC.seq (IC.ops [I.mk none (some 30) (Ef.pr (Pr.fa 1)) [X.t 2], I.mk none (some 31) (Ef.pr (Pr.ld 1 false)) [X.t 30], I.mk none (some 32) (Ef.pr (Pr.fa 2)) [X.t 3], I.mk none (some 33) (Ef.pr (Pr.ld 1 false)) [X.t 32], I.mk none (some 34) (Ef.pr (Pr.fa 3)) [X.t 3], I.mk none (some 35) (Ef.pr (Pr.ld 1 false)) [X.t 34], I.mk none (some 36) (Ef.pr (Pr.fa 5)) [X.t 3], I.mk none (some 37) (Ef.pr (Pr.ld 3 true)) [X.t 36], I.mk none (some 38) (Ef.call 73) [X.t 31, X.t 33, X.t 35, X.t 37], I.mk none (some 29) (Ef.pr Pr.mv) [X.t 38], I.mk none (some 39) (Ef.pr (Pr.ext 0)) [X.t 29], I.mk none (some 40) (Ef.pr (Pr.ext 1)) [X.t 29], I.mk none (some 7) (Ef.pr Pr.mv) [X.t 39], I.mk none (some 8) (Ef.pr Pr.mv) [X.t 40]]) 
  (IC.seq (IC.ops [I.mk none (some 41) (Ef.pr Pr.mv) [X.t 5], I.mk none (some 42) (Ef.pr Pr.mv) [X.t 7], I.mk none (some 43) (Ef.pr (Pr.cm BinOp.eql)) [X.t 41, X.t 42], I.mk none (some 44) (Ef.pr Pr.mv) [X.t 43], I.mk (some (44, true)) (some 45) (Ef.pr Pr.mv) [X.t 6], I.mk (some (44, true)) (some 46) (Ef.pr Pr.mv) [X.t 8], I.mk (some (44, true)) (some 47) (Ef.pr (Pr.cm BinOp.eql)) [X.t 45, X.t 46], I.mk none (some 48) (Ef.pr Pr.pick) [X.t 44, X.t 47, X.c (Value.bool false)], I.mk none (some 4) (Ef.pr Pr.mv) [X.t 48]]) IC.ret))) 
  (IC.seq (IC.ops [I.mk none (some 50) (Ef.pr (Pr.cm BinOp.eql)) [X.t 14, X.c (Value.int IntKind.i64 3)], I.mk none (some 49) (Ef.pr Pr.mv) [X.t 50]]) 
  (IC.cond (X.t 49) 
  (IC.seq (IC.ops [I.mk none (some 52) (Ef.pr (Pr.fa 0)) [X.t 2], I.mk none (some 53) (Ef.pr (Pr.ld 1 false)) [X.t 52], I.mk none (some 54) (Ef.pr (Pr.fa 2)) [X.t 3], I.mk none (some 55) (Ef.pr (Pr.ld 1 false)) [X.t 54], I.mk none (some 56) (Ef.call 23) [X.t 53, X.t 55], I.mk none (some 51) (Ef.pr Pr.mv) [X.t 56], I.mk none (some 57) (Ef.pr (Pr.ext 0)) [X.t 51], I.mk none (some 58) (Ef.pr (Pr.ext 1)) [X.t 51], I.mk none (some 9) (Ef.pr Pr.mv) [X.t 57], I.mk none (some 10) (Ef.pr Pr.mv) [X.t 58]]) 
  (IC.seq (IC.ops [I.mk none (some 60) (Ef.pr (Pr.fa 1)) [X.t 2], I.mk none (some 61) (Ef.pr (Pr.ld 1 false)) [X.t 60], I.mk none (some 62) (Ef.pr (Pr.fa 2)) [X.t 3], I.mk none (some 63) (Ef.pr (Pr.ld 1 false)) [X.t 62], I.mk none (some 64) (Ef.call 74) [X.t 61, X.t 63], I.mk none (some 59) (Ef.pr Pr.mv) [X.t 64], I.mk none (some 65) (Ef.pr (Pr.ext 0)) [X.t 59], I.mk none (some 66) (Ef.pr (Pr.ext 1)) [X.t 59], I.mk none (some 11) (Ef.pr Pr.mv) [X.t 65], I.mk none (some 12) (Ef.pr Pr.mv) [X.t 66]]) 
  (IC.seq (IC.ops [I.mk none (some 67) (Ef.pr Pr.mv) [X.t 9], I.mk none (some 68) (Ef.pr Pr.mv) [X.t 11], I.mk none (some 69) (Ef.call 42) [X.t 67, X.t 68], I.mk none (some 70) (Ef.pr Pr.mv) [X.t 69], I.mk (some (70, true)) (some 71) (Ef.pr Pr.mv) [X.t 10], I.mk (some (70, true)) (some 72) (Ef.pr Pr.mv) [X.t 12], I.mk (some (70, true)) (some 73) (Ef.pr (Pr.cm BinOp.eql)) [X.t 71, X.t 72], I.mk none (some 74) (Ef.pr Pr.pick) [X.t 70, X.t 73, X.c (Value.bool false)], I.mk none (some 4) (Ef.pr Pr.mv) [X.t 74]]) IC.ret))) 
  (IC.seq (IC.ops [I.mk none (some 76) (Ef.pr (Pr.cm BinOp.eql)) [X.t 14, X.c (Value.int IntKind.i64 11)], I.mk none (some 75) (Ef.pr Pr.mv) [X.t 76]]) 
  (IC.cond (X.t 75) 
  (IC.seq (IC.plan (Plan.q (I.mk none (some 77) (Ef.pr (Pr.fa 0)) [X.t 2]) (Plan.q (I.mk none (some 78) (Ef.pr (Pr.ld 1 false)) [X.t 77]) (Plan.q (I.mk none (some 79) (Ef.pr (Pr.fa 2)) [X.t 3]) (Plan.q (I.mk none (some 80) (Ef.pr (Pr.ld 1 false)) [X.t 79]) (Plan.q (I.mk none (some 81) (Ef.pr (Pr.fa 5)) [X.t 3]) (Plan.q (I.mk none (some 82) (Ef.pr (Pr.ld 3 true)) [X.t 81]) (Plan.q (I.mk none (some 84) (Ef.pr (Pr.fa 1)) [X.t 2]) (Plan.q (I.mk none (some 85) (Ef.pr (Pr.ld 1 false)) [X.t 84]) (Plan.q (I.mk none (some 86) (Ef.pr (Pr.fa 2)) [X.t 3]) (Plan.q (I.mk none (some 87) (Ef.pr (Pr.ld 1 false)) [X.t 86]) (Plan.q (I.mk none (some 88) (Ef.pr (Pr.fa 5)) [X.t 3]) (Plan.q (I.mk none (some 89) (Ef.pr (Pr.ld 3 true)) [X.t 88]) (Plan.br (PlanL.cons true false (I.mk none (some 83) (Ef.call 36) [X.t 78, X.t 80, X.t 82]) (Plan.br (PlanL.cons false false (I.mk none (some 90) (Ef.call 75) [X.t 85, X.t 87, X.t 89]) (Plan.q (I.mk none (some 91) (Ef.pr (Pr.cm BinOp.eql)) [X.t 83, X.t 90]) (Plan.q (I.mk none (some 4) (Ef.pr Pr.mv) [X.t 91]) Plan.done)) PlanL.nil)) PlanL.nil))))))))))))))) IC.ret) IC.skip)))))))) 
  (IC.seq (IC.plan (Plan.q (I.mk none (some 92) (Ef.pr (Pr.fa 0)) [X.t 2]) (Plan.q (I.mk none (some 93) (Ef.pr (Pr.ld 1 false)) [X.t 92]) (Plan.q (I.mk none (some 94) (Ef.pr (Pr.fa 2)) [X.t 3]) (Plan.q (I.mk none (some 95) (Ef.pr (Pr.ld 1 false)) [X.t 94]) (Plan.q (I.mk none (some 96) (Ef.pr (Pr.fa 5)) [X.t 3]) (Plan.q (I.mk none (some 97) (Ef.pr (Pr.ld 3 true)) [X.t 96]) (Plan.q (I.mk none (some 99) (Ef.pr (Pr.fa 1)) [X.t 2]) (Plan.q (I.mk none (some 100) (Ef.pr (Pr.ld 1 false)) [X.t 99]) (Plan.q (I.mk none (some 101) (Ef.pr (Pr.fa 2)) [X.t 3]) (Plan.q (I.mk none (some 102) (Ef.pr (Pr.ld 1 false)) [X.t 101]) (Plan.q (I.mk none (some 103) (Ef.pr (Pr.fa 5)) [X.t 3]) (Plan.q (I.mk none (some 104) (Ef.pr (Pr.ld 3 true)) [X.t 103]) (Plan.br (PlanL.cons true false (I.mk none (some 98) (Ef.call 37) [X.t 93, X.t 95, X.t 97]) (Plan.br (PlanL.cons false false (I.mk none (some 105) (Ef.call 76) [X.t 100, X.t 102, X.t 104]) (Plan.q (I.mk none (some 106) (Ef.pr (Pr.cm BinOp.eql)) [X.t 98, X.t 105]) (Plan.q (I.mk none (some 4) (Ef.pr Pr.mv) [X.t 106]) Plan.done)) PlanL.nil)) PlanL.nil))))))))))))))) IC.ret))

theorem k51 : Go.Proofs.Try.f51.body.bind (comp Go.Proofs.Try.prog 107 [2, 3] []) = some c51 := by kernel_rfl

theorem r51 : cRVs Go.Proofs.Try.prog Go.Proofs.Try.f51.results.toList = some [RV.t 4] := by kernel_rfl

theorem e51 {args : List Value} {h : Hp} {Q : Value → Hp → Prop} (hl : Nat.ble args.length 107 = true) (hk : codeK PR none c51 (retK Q [RV.t 4]) (fun _ _ _ _ => False) (retK Q [RV.t 4]) (argsE 0 args) [] h) : Ok PR 51 args h Q :=
  Ok.of mixed Go.Proofs.Try.func51 rfl k51 r51 hl hk

def c52 : IC := IC.seq (IC.ops [I.mk none (some 2) Ef.bx [X.t 0], I.mk none (some 3) Ef.bx [X.t 1], I.mk none (some 4) (Ef.pr Pr.mv) [X.c (Value.bool false)]]) 
  (IC.seq 
  (IC.seq (IC.ops [I.mk none (some 9) (Ef.pr (Pr.fa 0)) [X.t 3], I.mk none (some 10) (Ef.pr (Pr.ld 1 false)) [X.t 9]]) 
  (IC.block 0 
  (IC.seq (IC.ops [I.mk none (some 12) (Ef.pr (Pr.cm BinOp.eql)) [X.t 10, X.c (Value.int IntKind.i64 5)], I.mk none (some 11) (Ef.pr Pr.mv) [X.t 12]]) 
  (IC.cond (X.t 11) 
  (IC.seq (IC.plan (Plan.q (I.mk none (some 13) (Ef.pr (Pr.fa 0)) [X.t 2]) (Plan.q (I.mk none (some 14) (Ef.pr (Pr.ld 1 false)) [X.t 13]) (Plan.q (I.mk none (some 15) (Ef.pr (Pr.fa 2)) [X.t 3]) (Plan.q (I.mk none (some 16) (Ef.pr (Pr.ld 1 false)) [X.t 15]) (Plan.q (I.mk none (some 17) (Ef.pr (Pr.fa 8)) [X.t 3]) (Plan.q (I.mk none (some 18) (Ef.pr (Pr.ld 9 true)) [X.t 17]) (Plan.q (I.mk none (some 20) (Ef.pr (Pr.fa 1)) [X.t 2]) (Plan.q (I.mk none (some 21) (Ef.pr (Pr.ld 1 false)) [X.t 20]) (Plan.q (I.mk none (some 22) (Ef.pr (Pr.fa 2)) [X.t 3]) (Plan.q (I.mk none (some 23) (Ef.pr (Pr.ld 1 false)) [X.t 22]) (Plan.q (I.mk none (some 24) (Ef.pr (Pr.fa 8)) [X.t 3]) (Plan.q (I.mk none (some 25) (Ef.pr (Pr.ld 9 true)) [X.t 24]) (Plan.br (PlanL.cons true false (I.mk none (some 19) (Ef.call 15) [X.t 14, X.t 16, X.t 18]) (Plan.br (PlanL.cons false false (I.mk none (some 26) (Ef.call 77) [X.t 21, X.t 23, X.t 25]) (Plan.q (I.mk none (some 27) (Ef.pr (Pr.cm BinOp.eql)) [X.t 19, X.t 26]) (Plan.q (I.mk none (some 4) (Ef.pr Pr.mv) [X.t 27]) Plan.done)) PlanL.nil)) PlanL.nil))))))))))))))) IC.ret) 
  (IC.seq (IC.ops [I.mk none (some 29) (Ef.pr (Pr.cm BinOp.eql)) [X.t 10, X.c (Value.int IntKind.i64 6)], I.mk none (some 28) (Ef.pr Pr.mv) [X.t 29]]) 
  (IC.cond (X.t 28) 
  (IC.seq (IC.plan (Plan.q (I.mk none (some 30) (Ef.pr (Pr.fa 0)) [X.t 2]) (Plan.q (I.mk none (some 31) (Ef.pr (Pr.ld 1 false)) [X.t 30]) (Plan.q (I.mk none (some 32) (Ef.pr (Pr.fa 2)) [X.t 3]) (Plan.q (I.mk none (some 33) (Ef.pr (Pr.ld 1 false)) [X.t 32]) (Plan.q (I.mk none (some 34) (Ef.pr (Pr.fa 3)) [X.t 3]) (Plan.q (I.mk none (some 35) (Ef.pr (Pr.ld 1 false)) [X.t 34]) (Plan.q (I.mk none (some 36) (Ef.pr (Pr.fa 4)) [X.t 3]) (Plan.q (I.mk none (some 37) (Ef.pr (Pr.ld 1 false)) [X.t 36]) (Plan.q (I.mk none (some 39) (Ef.pr (Pr.fa 1)) [X.t 2]) (Plan.q (I.mk none (some 40) (Ef.pr (Pr.ld 1 false)) [X.t 39]) (Plan.q (I.mk none (some 41) (Ef.pr (Pr.fa 2)) [X.t 3]) (Plan.q (I.mk none (some 42) (Ef.pr (Pr.ld 1 false)) [X.t 41]) (Plan.q (I.mk none (some 43) (Ef.pr (Pr.fa 3)) [X.t 3]) (Plan.q (I.mk none (some 44) (Ef.pr (Pr.ld 1 false)) [X.t 43]) (Plan.q (I.mk none (some 45) (Ef.pr (Pr.fa 4)) [X.t 3]) (Plan.q (I.mk none (some 46) (Ef.pr (Pr.ld 1 false)) [X.t 45]) (Plan.br (PlanL.cons true false (I.mk none (some 38) (Ef.call 14) [X.t 31, X.t 33, X.t 35, X.t 37]) (Plan.br (PlanL.cons false false (I.mk none (some 47) (Ef.call 78) [X.t 40, X.t 42, X.t 44, X.t 46]) (Plan.q (I.mk none (some 48) (Ef.pr (Pr.cm BinOp.eql)) [X.t 38, X.t 47]) (Plan.q (I.mk none (some 4) (Ef.pr Pr.mv) [X.t 48]) Plan.done)) PlanL.nil)) PlanL.nil))))))))))))))))))) IC.ret) 
  (IC.seq (IC.ops [I.mk none (some 50) (Ef.pr (Pr.cm BinOp.eql)) [X.t 10, X.c (Value.int IntKind.i64 7)], I.mk none (some 49) (Ef.pr Pr.mv) [X.t 50]]) 
  (IC.cond (X.t 49) 
  (IC.seq (IC.plan (Plan.q (I.mk none (some 51) (Ef.pr (Pr.fa 0)) [X.t 2]) (Plan.q (I.mk none (some 52) (Ef.pr (Pr.ld 1 false)) [X.t 51]) (Plan.q (I.mk none (some 53) (Ef.pr (Pr.fa 2)) [X.t 3]) (Plan.q (I.mk none (some 54) (Ef.pr (Pr.ld 1 false)) [X.t 53]) (Plan.q (I.mk none (some 55) (Ef.pr (Pr.fa 3)) [X.t 3]) (Plan.q (I.mk none (some 56) (Ef.pr (Pr.ld 1 false)) [X.t 55]) (Plan.q (I.mk none (some 58) (Ef.pr (Pr.fa 1)) [X.t 2]) (Plan.q (I.mk none (some 59) (Ef.pr (Pr.ld 1 false)) [X.t 58]) (Plan.q (I.mk none (some 60) (Ef.pr (Pr.fa 2)) [X.t 3]) (Plan.q (I.mk none (some 61) (Ef.pr (Pr.ld 1 false)) [X.t 60]) (Plan.q (I.mk none (some 62) (Ef.pr (Pr.fa 3)) [X.t 3]) (Plan.q (I.mk none (some 63) (Ef.pr (Pr.ld 1 false)) [X.t 62]) (Plan.br (PlanL.cons true false (I.mk none (some 57) (Ef.call 59) [X.t 52, X.t 54, X.t 56]) (Plan.br (PlanL.cons false false (I.mk none (some 64) (Ef.call 79) [X.t 59, X.t 61, X.t 63]) (Plan.q (I.mk none (some 65) (Ef.pr (Pr.cm BinOp.eql)) [X.t 57, X.t 64]) (Plan.q (I.mk none (some 4) (Ef.pr Pr.mv) [X.t 65]) Plan.done)) PlanL.nil)) PlanL.nil))))))))))))))) IC.ret) 
  (IC.seq (IC.ops [I.mk none (some 67) (Ef.pr (Pr.cm BinOp.eql)) [X.t 10, X.c (Value.int IntKind.i64 8)], I.mk none (some 66) (Ef.pr Pr.mv) [X.t 67]]) 
  (IC.cond (X.t 66) 
  (IC.seq (IC.plan (Plan.q (I.mk none (some 68) (Ef.pr (Pr.fa 0)) [X.t 2]) (Plan.q (I.mk none (some 69) (Ef.pr (Pr.ld 1 false)) [X.t 68]) (Plan.q (I.mk none (some 70) (Ef.pr (Pr.fa 2)) [X.t 3]) (Plan.q (I.mk none (some 71) (Ef.pr (Pr.ld 1 false)) [X.t 70]) (Plan.q (I.mk none (some 72) (Ef.pr (Pr.fa 3)) [X.t 3]) (Plan.q (I.mk none (some 73) (Ef.pr (Pr.ld 1 false)) [X.t 72]) (Plan.q (I.mk none (some 75) (Ef.pr (Pr.fa 1)) [X.t 2]) (Plan.q (I.mk none (some 76) (Ef.pr (Pr.ld 1 false)) [X.t 75]) (Plan.q (I.mk none (some 77) (Ef.pr (Pr.fa 2)) [X.t 3]) (Plan.q (I.mk none (some 78) (Ef.pr (Pr.ld 1 false)) [X.t 77]) (Plan.q (I.mk none (some 79) (Ef.pr (Pr.fa 3)) [X.t 3]) (Plan.q (I.mk none (some 80) (Ef.pr (Pr.ld 1 false)) [X.t 79]) (Plan.br (PlanL.cons true false (I.mk none (some 74) (Ef.call 18) [X.t 69, X.t 71, X.t 73]) (Plan.br (PlanL.cons false false (I.mk none (some 81) (Ef.call 80) [X.t 76, X.t 78, X.t 80]) (Plan.q (I.mk none (some 82) (Ef.pr (Pr.cm BinOp.eql)) [X.t 74, X.t 81]) (Plan.q (I.mk none (some 4) (Ef.pr Pr.mv) [X.t 82]) Plan.done)) PlanL.nil)) PlanL.nil))))))))))))))) IC.ret) 
  (IC.seq (IC.ops [I.mk none (some 84) (Ef.pr (Pr.cm BinOp.eql)) [X.t 10, X.c (Value.int IntKind.i64 9)], I.mk none (some 83) (Ef.pr Pr.mv) [X.t 84]]) 
  (IC.cond (X.t 83) 
  (IC.seq (IC.ops [I.mk none (some 86) (Ef.pr (Pr.fa 0)) [X.t 2], I.mk none (some 87) (Ef.pr (Pr.ld 1 false)) [X.t 86], I.mk none (some 88) (Ef.pr (Pr.fa 2)) [X.t 3], I.mk none (some 89) (Ef.pr (Pr.ld 1 false)) [X.t 88], I.mk none (some 90) (Ef.call 16) [X.t 87, X.t 89], I.mk none (some 85) (Ef.pr Pr.mv) [X.t 90], I.mk none (some 91) (Ef.pr (Pr.ext 0)) [X.t 85], I.mk none (some 92) (Ef.pr (Pr.ext 1)) [X.t 85], I.mk none (some 5) (Ef.pr Pr.mv) [X.t 91], I.mk none (some 6) (Ef.pr Pr.mv) [X.t 92]]) 
  (IC.seq (IC.ops [I.mk none (some 94) (Ef.pr (Pr.fa 1)) [X.t 2], I.mk none (some 95) (Ef.pr (Pr.ld 1 false)) [X.t 94], I.mk none (some 96) (Ef.pr (Pr.fa 2)) [X.t 3], I.mk none (some 97) (Ef.pr (Pr.ld 1 false)) [X.t 96], I.mk none (some 98) (Ef.call 81) [X.t 95, X.t 97], I.mk none (some 93) (Ef.pr Pr.mv) [X.t 98], I.mk none (some 99) (Ef.pr (Pr.ext 0)) [X.t 93], I.mk none (some 100) (Ef.pr (Pr.ext 1)) [X.t 93], I.mk none (some 7) (Ef.pr Pr.mv) [X.t 99], I.mk none (some 8) (Ef.pr Pr.mv) [X.t 100]]) 
  (IC.seq (IC.ops [I.mk none (some 101) (Ef.pr Pr.mv) [X.t 5], I.mk none (some 102) (Ef.pr Pr.mv) [X.t 7], I.mk none (some 103) (Ef.pr (Pr.cm BinOp.eql)) [X.t 101, X.t 102], I.mk none (some 104) (Ef.pr Pr.mv) [X.t 103], I.mk (some (104, true)) (some 105) (Ef.pr Pr.mv) [X.t 6], I.mk (some (104, true)) (some 106) (Ef.pr Pr.mv) [X.t 8], I.mk (some (104, true)) (some 107) (Ef.pr (Pr.cm BinOp.eql)) [X.t 105, X.t 106], I.mk none (some 108) (Ef.pr Pr.pick) [X.t 104, X.t 107, X.c (Value.bool false)], I.mk none (some 4) (Ef.pr Pr.mv) [X.t 108]]) IC.ret))) IC.skip)))))))))))) 
  (IC.seq (IC.plan (Plan.q (I.mk none (some 109) (Ef.pr (Pr.fa 0)) [X.t 2]) (Plan.q (I.mk none (some 110) (Ef.pr (Pr.ld 1 false)) [X.t 109]) (Plan.q (I.mk none (some 111) (Ef.pr (Pr.fa 2)) [X.t 3]) (Plan.q (I.mk none (some 112) (Ef.pr (Pr.ld 1 false)) [X.t 111]) (Plan.q (I.mk none (some 113) (Ef.pr (Pr.fa 17)) [X.t 3]) (Plan.q (I.mk none (some 114) (Ef.pr (Pr.ld 1 false)) [X.t 113]) (Plan.q (I.mk none (some 116) (Ef.pr (Pr.fa 1)) [X.t 2]) (Plan.q (I.mk none (some 117) (Ef.pr (Pr.ld 1 false)) [X.t 116]) (Plan.q (I.mk none (some 118) (Ef.pr (Pr.fa 2)) [X.t 3]) (Plan.q (I.mk none (some 119) (Ef.pr (Pr.ld 1 false)) [X.t 118]) (Plan.q (I.mk none (some 120) (Ef.pr (Pr.fa 17)) [X.t 3]) (Plan.q (I.mk none (some 121) (Ef.pr (Pr.ld 1 false)) [X.t 120]) (Plan.br (PlanL.cons true false (I.mk none (some 115) (Ef.call 33) [X.t 110, X.t 112, X.t 114]) (Plan.br (PlanL.cons false false (I.mk none (some 122) (Ef.call 82) [X.t 117, X.t 119, X.t 121]) (Plan.q (I.mk none (some 123) (Ef.pr (Pr.cm BinOp.eql)) [X.t 115, X.t 122]) (Plan.q (I.mk none (some 4) (Ef.pr Pr.mv) [X.t 123]) Plan.done)) PlanL.nil)) PlanL.nil))))))))))))))) IC.ret))

theorem k52 : Go.Proofs.Try.f52.body.bind (comp Go.Proofs.Try.prog 124 [2, 3] []) = some c52 := by kernel_rfl

theorem r52 : cRVs Go.Proofs.Try.prog Go.Proofs.Try.f52.results.toList = some [RV.t 4] := by kernel_rfl

theorem e52 {args : List Value} {h : Hp} {Q : Value → Hp → Prop} (hl : Nat.ble args.length 124 = true) (hk : codeK PR none c52 (retK Q [RV.t 4]) (fun _ _ _ _ => False) (retK Q [RV.t 4]) (argsE 0 args) [] h) : Ok PR 52 args h Q :=
  Ok.of mixed Go.Proofs.Try.func52 rfl k52 r52 hl hk

def c53 : IC := IC.seq (IC.ops [I.mk none (some 2) Ef.bx [X.t 0], I.mk none (some 3) Ef.bx [X.t 1], I.mk none (some 4) (Ef.pr Pr.mv) [X.c (Value.bool false)]]) 
  (IC.seq 
  (IC.seq (IC.ops [I.mk none (some 17) (Ef.pr (Pr.fa 0)) [X.t 3], I.mk none (some 18) (Ef.pr (Pr.ld 1 false)) [X.t 17]]) 
  (IC.block 0 
  (IC.seq (IC.ops [I.mk none (some 20) (Ef.pr (Pr.cm BinOp.eql)) [X.t 18, X.c (Value.int IntKind.i64 4)], I.mk none (some 19) (Ef.pr Pr.mv) [X.t 20]]) 
  (IC.cond (X.t 19) 
  (IC.seq (IC.ops [I.mk none (some 22) (Ef.pr (Pr.fa 0)) [X.t 2], I.mk none (some 23) (Ef.pr (Pr.ld 1 false)) [X.t 22], I.mk none (some 24) (Ef.pr (Pr.fa 2)) [X.t 3], I.mk none (some 25) (Ef.pr (Pr.ld 1 false)) [X.t 24], I.mk none (some 26) (Ef.call 19) [X.t 23, X.t 25], I.mk none (some 21) (Ef.pr Pr.mv) [X.t 26], I.mk none (some 27) (Ef.pr (Pr.ext 0)) [X.t 21], I.mk none (some 28) (Ef.pr (Pr.ext 1)) [X.t 21], I.mk none (some 5) (Ef.al [Value.int IntKind.i64 0, Value.int IntKind.i64 0, Value.int IntKind.i64 0, Value.int IntKind.i64 0, Value.int IntKind.i64 0, Value.bool false, Value.int IntKind.u32 0, Value.int IntKind.u32 0, Value.int IntKind.u32 0, Value.int IntKind.u32 0, Value.int IntKind.u32 0, Value.int IntKind.u32 0, Value.int IntKind.u32 0, Value.int IntKind.u32 0, Value.int IntKind.u32 0, Value.int IntKind.i64 0, Value.int IntKind.i64 0, Value.int IntKind.i64 0, Value.int IntKind.i64 0, Value.int IntKind.i64 0, Value.int IntKind.i64 0]) [], I.mk none none (Ef.st 21) [X.t 5, X.t 27], I.mk none (some 6) (Ef.pr Pr.mv) [X.t 28]]) 
  (IC.seq (IC.ops [I.mk none (some 30) (Ef.pr (Pr.fa 1)) [X.t 2], I.mk none (some 31) (Ef.pr (Pr.ld 1 false)) [X.t 30], I.mk none (some 32) (Ef.pr (Pr.fa 2)) [X.t 3], I.mk none (some 33) (Ef.pr (Pr.ld 1 false)) [X.t 32], I.mk none (some 34) (Ef.call 83) [X.t 31, X.t 33], I.mk none (some 29) (Ef.pr Pr.mv) [X.t 34], I.mk none (some 35) (Ef.pr (Pr.ext 0)) [X.t 29], I.mk none (some 36) (Ef.pr (Pr.ext 1)) [X.t 29], I.mk none (some 7) (Ef.al [Value.int IntKind.i64 0, Value.int IntKind.i64 0, Value.int IntKind.i64 0, Value.int IntKind.i64 0, Value.int IntKind.i64 0, Value.bool false, Value.int IntKind.u32 0, Value.int IntKind.u32 0, Value.int IntKind.u32 0, Value.int IntKind.u32 0, Value.int IntKind.u32 0, Value.int IntKind.u32 0, Value.int IntKind.u32 0, Value.int IntKind.u32 0, Value.int IntKind.u32 0, Value.int IntKind.i64 0, Value.int IntKind.i64 0, Value.int IntKind.i64 0, Value.int IntKind.i64 0, Value.int IntKind.i64 0, Value.int IntKind.i64 0]) [], I.mk none none (Ef.st 21) [X.t 7, X.t 35], I.mk none (some 8) (Ef.pr Pr.mv) [X.t 36]]) 
  (IC.seq (IC.ops [I.mk none (some 37) (Ef.pr (Pr.ld 21 true)) [X.t 5], I.mk none (some 38) (Ef.pr (Pr.ld 21 true)) [X.t 7], I.mk none (some 39) (Ef.pr (Pr.eq false (EqT.ag [(0, EqS.i), (1, EqS.i), (2, EqS.i), (3, EqS.i), (4, EqS.i), (5, EqS.b), (6, EqS.i), (7, EqS.i), (8, EqS.i), (9, EqS.i), (10, EqS.i), (11, EqS.i), (12, EqS.i), (13, EqS.i), (14, EqS.i), (15, EqS.i), (16, EqS.i), (17, EqS.i), (18, EqS.i), (19, EqS.i), (20, EqS.i)]))) [X.t 37, X.t 38], I.mk none (some 40) (Ef.pr Pr.mv) [X.t 39], I.mk (some (40, true)) (some 41) (Ef.pr Pr.mv) [X.t 6], I.mk (some (40, true)) (some 42) (Ef.pr Pr.mv) [X.t 8], I.mk (some (40, true)) (some 43) (Ef.pr (Pr.cm BinOp.eql)) [X.t 41, X.t 42], I.mk none (some 44) (Ef.pr Pr.pick) [X.t 40, X.t 43, X.c (Value.bool false)], I.mk none (some 4) (Ef.pr Pr.mv) [X.t 44]]) IC.ret))) 
  (IC.seq (IC.ops [I.mk none (some 46) (Ef.pr (Pr.cm BinOp.eql)) [X.t 18, X.c (Value.int IntKind.i64 13)], I.mk none (some 45) (Ef.pr Pr.mv) [X.t 46]]) 
  (IC.cond (X.t 45) 
  (IC.seq (IC.ops [I.mk none (some 48) (Ef.pr (Pr.fa 0)) [X.t 2], I.mk none (some 49) (Ef.pr (Pr.ld 1 false)) [X.t 48], I.mk none (some 50) (Ef.pr (Pr.fa 2)) [X.t 3], I.mk none (some 51) (Ef.pr (Pr.ld 1 false)) [X.t 50], I.mk none (some 52) (Ef.call 39) [X.t 49, X.t 51], I.mk none (some 47) (Ef.pr Pr.mv) [X.t 52], I.mk none (some 53) (Ef.pr (Pr.ext 0)) [X.t 47], I.mk none (some 54) (Ef.pr (Pr.ext 1)) [X.t 47], I.mk none (some 9) (Ef.pr Pr.mv) [X.t 53], I.mk none (some 10) (Ef.pr Pr.mv) [X.t 54]]) 
  (IC.seq (IC.ops [I.mk none (some 56) (Ef.pr (Pr.fa 1)) [X.t 2], I.mk none (some 57) (Ef.pr (Pr.ld 1 false)) [X.t 56], I.mk none (some 58) (Ef.pr (Pr.fa 2)) [X.t 3], I.mk none (some 59) (Ef.pr (Pr.ld 1 false)) [X.t 58], I.mk none (some 60) (Ef.call 84) [X.t 57, X.t 59], I.mk none (some 55) (Ef.pr Pr.mv) [X.t 60], I.mk none (some 61) (Ef.pr (Pr.ext 0)) [X.t 55], I.mk none (some 62) (Ef.pr (Pr.ext 1)) [X.t 55], I.mk none (some 11) (Ef.pr Pr.mv) [X.t 61], I.mk none (some 12) (Ef.pr Pr.mv) [X.t 62]]) 
  (IC.seq (IC.ops [I.mk none (some 63) (Ef.pr Pr.mv) [X.t 9], I.mk none (some 64) (Ef.pr Pr.mv) [X.t 11], I.mk none (some 65) (Ef.call 42) [X.t 63, X.t 64], I.mk none (some 66) (Ef.pr Pr.mv) [X.t 65], I.mk (some (66, true)) (some 67) (Ef.pr Pr.mv) [X.t 10], I.mk (some (66, true)) (some 68) (Ef.pr Pr.mv) [X.t 12], I.mk (some (66, true)) (some 69) (Ef.pr (Pr.cm BinOp.eql)) [X.t 67, X.t 68], I.mk none (some 70) (Ef.pr Pr.pick) [X.t 66, X.t 69, X.c (Value.bool false)], I.mk none (some 4) (Ef.pr Pr.mv) [X.t 70]]) IC.ret))) 
  (IC.seq (IC.ops [I.mk none (some 72) (Ef.pr (Pr.cm BinOp.eql)) [X.t 18, X.c (Value.int IntKind.i64 14)], I.mk none (some 71) (Ef.pr Pr.mv) [X.t 72]]) 
  (IC.cond (X.t 71) 
  (IC.seq (IC.ops [I.mk none (some 74) (Ef.pr (Pr.fa 0)) [X.t 2], I.mk none (some 75) (Ef.pr (Pr.ld 1 false)) [X.t 74], I.mk none (some 76) (Ef.pr (Pr.fa 2)) [X.t 3], I.mk none (some 77) (Ef.pr (Pr.ld 1 false)) [X.t 76], I.mk none (some 78) (Ef.call 27) [X.t 75, X.t 77], I.mk none (some 73) (Ef.pr Pr.mv) [X.t 78], I.mk none (some 79) (Ef.pr (Pr.ext 0)) [X.t 73], I.mk none (some 80) (Ef.pr (Pr.ext 1)) [X.t 73], I.mk none (some 13) (Ef.pr Pr.mv) [X.t 79], I.mk none (some 14) (Ef.pr Pr.mv) [X.t 80]]) 
  (IC.seq (IC.ops [I.mk none (some 82) (Ef.pr (Pr.fa 1)) [X.t 2], I.mk none (some 83) (Ef.pr (Pr.ld 1 false)) [X.t 82], I.mk none (some 84) (Ef.pr (Pr.fa 2)) [X.t 3], I.mk none (some 85) (Ef.pr (Pr.ld 1 false)) [X.t 84], I.mk none (some 86) (Ef.call 85) [X.t 83, X.t 85], I.mk none (some 81) (Ef.pr Pr.mv) [X.t 86], I.mk none (some 87) (Ef.pr (Pr.ext 0)) [X.t 81], I.mk none (some 88) (Ef.pr (Pr.ext 1)) [X.t 81], I.mk none (some 15) (Ef.pr Pr.mv) [X.t 87], I.mk none (some 16) (Ef.pr Pr.mv) [X.t 88]]) 
  (IC.seq (IC.ops [I.mk none (some 89) (Ef.pr Pr.mv) [X.t 13], I.mk none (some 90) (Ef.pr Pr.mv) [X.t 15], I.mk none (some 91) (Ef.call 42) [X.t 89, X.t 90], I.mk none (some 92) (Ef.pr Pr.mv) [X.t 91], I.mk (some (92, true)) (some 93) (Ef.pr Pr.mv) [X.t 14], I.mk (some (92, true)) (some 94) (Ef.pr Pr.mv) [X.t 16], I.mk (some (92, true)) (some 95) (Ef.pr (Pr.cm BinOp.eql)) [X.t 93, X.t 94], I.mk none (some 96) (Ef.pr Pr.pick) [X.t 92, X.t 95, X.c (Value.bool false)], I.mk none (some 4) (Ef.pr Pr.mv) [X.t 96]]) IC.ret))) 
  (IC.seq (IC.ops [I.mk none (some 98) (Ef.pr (Pr.cm BinOp.eql)) [X.t 18, X.c (Value.int IntKind.i64 15)], I.mk none (some 97) (Ef.pr Pr.mv) [X.t 98]]) 
  (IC.cond (X.t 97) 
  (IC.seq (IC.plan (Plan.q (I.mk none (some 99) (Ef.pr (Pr.fa 0)) [X.t 2]) (Plan.q (I.mk none (some 100) (Ef.pr (Pr.ld 1 false)) [X.t 99]) (Plan.q (I.mk none (some 101) (Ef.pr (Pr.fa 3)) [X.t 3]) (Plan.q (I.mk none (some 102) (Ef.pr (Pr.ld 1 false)) [X.t 101]) (Plan.q (I.mk none (some 103) (Ef.pr (Pr.fa 2)) [X.t 3]) (Plan.q (I.mk none (some 104) (Ef.pr (Pr.ld 1 false)) [X.t 103]) (Plan.q (I.mk none (some 106) (Ef.pr (Pr.fa 1)) [X.t 2]) (Plan.q (I.mk none (some 107) (Ef.pr (Pr.ld 1 false)) [X.t 106]) (Plan.q (I.mk none (some 108) (Ef.pr (Pr.fa 3)) [X.t 3]) (Plan.q (I.mk none (some 109) (Ef.pr (Pr.ld 1 false)) [X.t 108]) (Plan.q (I.mk none (some 110) (Ef.pr (Pr.fa 2)) [X.t 3]) (Plan.q (I.mk none (some 111) (Ef.pr (Pr.ld 1 false)) [X.t 110]) (Plan.br (PlanL.cons true false (I.mk none (some 105) (Ef.call 35) [X.t 100, X.t 102, X.t 104]) (Plan.br (PlanL.cons false false (I.mk none (some 112) (Ef.call 86) [X.t 107, X.t 109, X.t 111]) (Plan.q (I.mk none (some 113) (Ef.pr (Pr.eq false (EqT.one EqS.b))) [X.t 105, X.t 112]) (Plan.q (I.mk none (some 4) (Ef.pr Pr.mv) [X.t 113]) Plan.done)) PlanL.nil)) PlanL.nil))))))))))))))) IC.ret) 
  (IC.seq (IC.ops [I.mk none (some 115) (Ef.pr (Pr.cm BinOp.eql)) [X.t 18, X.c (Value.int IntKind.i64 16)], I.mk none (some 114) (Ef.pr Pr.mv) [X.t 115]]) 
  (IC.cond (X.t 114) 
  (IC.seq (IC.plan (Plan.q (I.mk none (some 116) (Ef.pr (Pr.fa 0)) [X.t 2]) (Plan.q (I.mk none (some 117) (Ef.pr (Pr.ld 1 false)) [X.t 116]) (Plan.q (I.mk none (some 118) (Ef.pr (Pr.fa 2)) [X.t 3]) (Plan.q (I.mk none (some 119) (Ef.pr (Pr.ld 1 false)) [X.t 118]) (Plan.q (I.mk none (some 121) (Ef.pr (Pr.fa 1)) [X.t 2]) (Plan.q (I.mk none (some 122) (Ef.pr (Pr.ld 1 false)) [X.t 121]) (Plan.q (I.mk none (some 123) (Ef.pr (Pr.fa 2)) [X.t 3]) (Plan.q (I.mk none (some 124) (Ef.pr (Pr.ld 1 false)) [X.t 123]) (Plan.br (PlanL.cons true false (I.mk none (some 120) (Ef.call 17) [X.t 117, X.t 119]) (Plan.br (PlanL.cons false false (I.mk none (some 125) (Ef.call 87) [X.t 122, X.t 124]) (Plan.q (I.mk none (some 126) (Ef.pr (Pr.eq false (EqT.one EqS.b))) [X.t 120, X.t 125]) (Plan.q (I.mk none (some 4) (Ef.pr Pr.mv) [X.t 126]) Plan.done)) PlanL.nil)) PlanL.nil))))))))))) IC.ret) 
  (IC.seq (IC.ops [I.mk none (some 128) (Ef.pr (Pr.cm BinOp.eql)) [X.t 18, X.c (Value.int IntKind.i64 17)], I.mk none (some 127) (Ef.pr Pr.mv) [X.t 128]]) 
  (IC.cond (X.t 127) 
  (IC.seq (IC.plan (Plan.q (I.mk none (some 129) (Ef.pr (Pr.fa 0)) [X.t 2]) (Plan.q (I.mk none (some 130) (Ef.pr (Pr.ld 1 false)) [X.t 129]) (Plan.q (I.mk none (some 131) (Ef.pr (Pr.fa 3)) [X.t 3]) (Plan.q (I.mk none (some 132) (Ef.pr (Pr.ld 1 false)) [X.t 131]) (Plan.q (I.mk none (some 134) (Ef.pr (Pr.fa 1)) [X.t 2]) (Plan.q (I.mk none (some 135) (Ef.pr (Pr.ld 1 false)) [X.t 134]) (Plan.q (I.mk none (some 136) (Ef.pr (Pr.fa 3)) [X.t 3]) (Plan.q (I.mk none (some 137) (Ef.pr (Pr.ld 1 false)) [X.t 136]) (Plan.br (PlanL.cons true false (I.mk none (some 133) (Ef.call 54) [X.t 130, X.t 132]) (Plan.br (PlanL.cons false false (I.mk none (some 138) (Ef.call 88) [X.t 135, X.t 137]) (Plan.q (I.mk none (some 139) (Ef.pr (Pr.cm BinOp.eql)) [X.t 133, X.t 138]) (Plan.q (I.mk none (some 4) (Ef.pr Pr.mv) [X.t 139]) Plan.done)) PlanL.nil)) PlanL.nil))))))))))) IC.ret) IC.skip)))))))))))))) 
  (IC.seq (IC.plan (Plan.q (I.mk none (some 140) (Ef.pr (Pr.fa 0)) [X.t 2]) (Plan.q (I.mk none (some 141) (Ef.pr (Pr.ld 1 false)) [X.t 140]) (Plan.q (I.mk none (some 143) (Ef.pr (Pr.fa 1)) [X.t 2]) (Plan.q (I.mk none (some 144) (Ef.pr (Pr.ld 1 false)) [X.t 143]) (Plan.br (PlanL.cons true false (I.mk none (some 142) (Ef.call 38) [X.t 141]) (Plan.br (PlanL.cons false false (I.mk none (some 145) (Ef.call 89) [X.t 144]) (Plan.br (PlanL.cons false false (I.mk none (some 146) (Ef.call 42) [X.t 142, X.t 145]) (Plan.q (I.mk none (some 4) (Ef.pr Pr.mv) [X.t 146]) Plan.done) PlanL.nil)) PlanL.nil)) PlanL.nil))))))) IC.ret))

theorem k53 : Go.Proofs.Try.f53.body.bind (comp Go.Proofs.Try.prog 147 [2, 3, 5, 7] []) = some c53 := by kernel_rfl

theorem r53 : cRVs Go.Proofs.Try.prog Go.Proofs.Try.f53.results.toList = some [RV.t 4] := by kernel_rfl

theorem e53 {args : List Value} {h : Hp} {Q : Value → Hp → Prop} (hl : Nat.ble args.length 147 = true) (hk : codeK PR none c53 (retK Q [RV.t 4]) (fun _ _ _ _ => False) (retK Q [RV.t 4]) (argsE 0 args) [] h) : Ok PR 53 args h Q :=
  Ok.of mixed Go.Proofs.Try.func53 rfl k53 r53 hl hk

def c54 : IC := IC.seq (IC.ops [I.mk none (some 3) (Ef.bxh 3) [X.t 1], I.mk none (some 4) (Ef.alh [Value.int IntKind.i64 0] 3) []]) 
  (IC.seq 
  (IC.seq (IC.ops [I.mk none (some 7) (Ef.pr Pr.mv) [X.t 0], I.mk none (some 8) (Ef.pr Pr.nilc) [X.t 7], I.mk none (some 9) (Ef.pr (Pr.fa 0)) [X.t 8], I.mk none (some 10) (Ef.pr (Pr.fa 0)) [X.t 9], I.mk none (some 11) (Ef.pr (Pr.ld 1 false)) [X.t 10], I.mk none (some 12) (Ef.call 70) [X.t 11]]) 
  (IC.block 0 (IC.rf (X.t 12) [13, 14] 
  (IC.seq (IC.ops [I.mk none (some 5) (Ef.pr Pr.mv) [X.t 13]]) (IC.ops [I.mk none (some 6) (Ef.pr Pr.mv) [X.t 14]])) 
  (IC.block 1 
  (IC.seq (IC.plan (Plan.q (I.mk none (some 15) (Ef.pr Pr.mv) [X.t 6]) (Plan.q (I.mk none (some 16) (Ef.pr Pr.nilc) [X.t 15]) (Plan.q (I.mk none (some 17) (Ef.pr (Pr.fa 0)) [X.t 16]) (Plan.q (I.mk none (some 18) (Ef.pr (Pr.fa 0)) [X.t 17]) (Plan.q (I.mk none (some 19) (Ef.pr (Pr.ld 1 false)) [X.t 18]) (Plan.q (I.mk none (some 20) (Ef.pr (Pr.ld 1 false)) [X.t 3]) (Plan.q (I.mk none (some 21) (Ef.pr (Pr.cm BinOp.eql)) [X.t 19, X.t 20]) Plan.done)))))))) 
  (IC.cond (X.t 21) 
  (IC.seq (IC.ops [I.mk none (some 22) (Ef.pr Pr.mv) [X.t 5], I.mk none none (Ef.st 1) [X.t 4, X.t 22]]) IC.ret) IC.skip)))))) 
  (IC.seq (IC.ops [I.mk none none (Ef.st 1) [X.t 4, X.c (Value.int IntKind.i64 (-1))]]) IC.ret))

theorem k54 : Go.Proofs.Try.f54.body.bind (comp Go.Proofs.Try.prog 23 [] []) = some c54 := by kernel_rfl

theorem r54 : cRVs Go.Proofs.Try.prog Go.Proofs.Try.f54.results.toList = some [RV.c 4 1 false] := by kernel_rfl

theorem e54 {args : List Value} {h : Hp} {Q : Value → Hp → Prop} (hl : Nat.ble args.length 23 = true) (hk : codeK PR none c54 (retK Q [RV.c 4 1 false]) (fun _ _ _ _ => False) (retK Q [RV.c 4 1 false]) (argsE 0 args) [] h) : Ok PR 54 args h Q :=
  Ok.of mixed Go.Proofs.Try.func54 rfl k54 r54 hl hk

def c55 : IC := IC.seq (IC.ops [I.mk none (some 3) Ef.bx [X.t 1], I.mk none (some 4) (Ef.pr Pr.mv) [X.c (Value.pointer none)]]) 
  (IC.seq (IC.ops [I.mk none (some 6) (Ef.call 90) [X.c (Value.int IntKind.i64 16)], I.mk none (some 7) (Ef.pr (Pr.bld [Value.pointer none] [(0, 1)])) [X.t 6], I.mk none (some 8) (Ef.pr Pr.mv) [X.t 0], I.mk none (some 9) (Ef.pr (Pr.bld [Value.pointer none, Value.int IntKind.i64 0] [(0, 1), (1, 1)])) [X.t 7, X.t 8], I.mk none (some 10) (Ef.bxh 98) [X.t 9], I.mk none (some 5) (Ef.pr Pr.mv) [X.t 10]]) 
  (IC.seq (IC.plan (Plan.q (I.mk none (some 11) (Ef.pr (Pr.fa 0)) [X.t 3]) (Plan.q (I.mk none (some 12) (Ef.pr (Pr.ld 1 false)) [X.t 11]) (Plan.q (I.mk none (some 14) (Ef.pr (Pr.fa 1)) [X.t 3]) (Plan.q (I.mk none (some 15) (Ef.pr (Pr.ld 1 false)) [X.t 14]) (Plan.q (I.mk none (some 17) (Ef.pr (Pr.fa 2)) [X.t 3]) (Plan.q (I.mk none (some 18) (Ef.pr (Pr.ld 1 false)) [X.t 17]) (Plan.br (PlanL.cons true true (I.mk none (some 13) (Ef.call 91) [X.t 12]) (Plan.br (PlanL.cons true false (I.mk none (some 16) (Ef.call 91) [X.t 15]) (Plan.br (PlanL.cons false false (I.mk none (some 19) (Ef.call 91) [X.t 18]) (Plan.q (I.mk none (some 20) (Ef.pr (Pr.bld [Value.int IntKind.i64 0, Value.int IntKind.i64 0, Value.int IntKind.i64 0] [(0, 1), (1, 1), (2, 1)])) [X.t 13, X.t 16, X.t 19]) (Plan.br (PlanL.cons false false (I.mk none none (Ef.st 3) [X.t 3, X.t 20]) Plan.done PlanL.nil))) PlanL.nil)) PlanL.nil)) PlanL.nil))))))))) 
  (IC.seq (IC.plan (Plan.q (I.mk none (some 21) (Ef.pr Pr.mv) [X.t 5]) (Plan.q (I.mk none (some 22) (Ef.pr Pr.nilc) [X.t 21]) (Plan.q (I.mk none (some 23) (Ef.pr (Pr.fa 0)) [X.t 22]) (Plan.q (I.mk none (some 24) (Ef.pr (Pr.fa 0)) [X.t 23]) (Plan.q (I.mk none (some 25) (Ef.pr (Pr.ld 1 false)) [X.t 24]) (Plan.q (I.mk none (some 26) (Ef.pr Pr.mv) [X.t 0]) (Plan.q (I.mk none (some 27) (Ef.pr (Pr.bld [Value.int IntKind.i64 0, Value.int IntKind.i64 0, Value.int IntKind.i64 0, Value.int IntKind.i64 0, Value.int IntKind.i64 0, Value.bool false, Value.int IntKind.u32 0, Value.int IntKind.u32 0, Value.int IntKind.u32 0, Value.int IntKind.u32 0, Value.int IntKind.u32 0, Value.int IntKind.u32 0, Value.int IntKind.u32 0, Value.int IntKind.u32 0, Value.int IntKind.u32 0, Value.int IntKind.i64 0, Value.int IntKind.i64 0, Value.int IntKind.i64 0, Value.int IntKind.i64 0, Value.int IntKind.i64 0, Value.int IntKind.i64 0] [(0, 1), (1, 1)])) [X.t 26, X.c (Value.int IntKind.i64 (-1))]) (Plan.q (I.mk none (some 28) (Ef.pr (Pr.ld 3 true)) [X.t 3]) (Plan.q (I.mk none (some 29) (Ef.pr (Pr.bld [Value.int IntKind.i64 0, Value.int IntKind.i64 0, Value.int IntKind.i64 0, Value.int IntKind.i64 0, Value.int IntKind.i64 0, Value.int IntKind.i64 0, Value.int IntKind.i64 0, Value.int IntKind.i64 0, Value.int IntKind.i64 0] [(0, 3)])) [X.t 28]) (Plan.q (I.mk none (some 30) (Ef.pr (Pr.bld [Value.int IntKind.i64 0, Value.int IntKind.i64 0, Value.int IntKind.i64 0, Value.int IntKind.i64 0, Value.int IntKind.i64 0, Value.bool false, Value.int IntKind.u32 0, Value.int IntKind.u32 0, Value.int IntKind.u32 0, Value.int IntKind.u32 0, Value.int IntKind.u32 0, Value.int IntKind.u32 0, Value.int IntKind.u32 0, Value.int IntKind.u32 0, Value.int IntKind.u32 0, Value.int IntKind.i64 0, Value.int IntKind.i64 0, Value.int IntKind.i64 0, Value.int IntKind.i64 0, Value.int IntKind.i64 0, Value.int IntKind.i64 0, Value.int IntKind.i64 0, Value.int IntKind.i64 0, Value.int IntKind.i64 0, Value.int IntKind.i64 0, Value.int IntKind.i64 0, Value.int IntKind.i64 0, Value.int IntKind.i64 0, Value.int IntKind.i64 0, Value.int IntKind.i64 0, Value.slice none 0 0] [(0, 21), (21, 9)])) [X.t 27, X.t 29]) (Plan.br (PlanL.cons true false (I.mk none (some 31) (Ef.bxh 103) [X.t 30]) (Plan.br (PlanL.cons false false (I.mk none (some 32) (Ef.call 63) [X.t 25, X.t 31]) Plan.done PlanL.nil)) PlanL.nil))))))))))))) 
  (IC.seq (IC.ops [I.mk none (some 33) (Ef.pr Pr.mv) [X.t 5], I.mk none (some 4) (Ef.pr Pr.mv) [X.t 33]]) IC.ret))))

theorem k55 : Go.Proofs.Try.f55.body.bind (comp Go.Proofs.Try.prog 34 [3] []) = some c55 := by kernel_rfl

theorem r55 : cRVs Go.Proofs.Try.prog Go.Proofs.Try.f55.results.toList = some [RV.t 4] := by kernel_rfl

theorem e55 {args : List Value} {h : Hp} {Q : Value → Hp → Prop} (hl : Nat.ble args.length 34 = true) (hk : codeK PR none c55 (retK Q [RV.t 4]) (fun _ _ _ _ => False) (retK Q [RV.t 4]) (argsE 0 args) [] h) : Ok PR 55 args h Q :=
  Ok.of mixed Go.Proofs.Try.func55 rfl k55 r55 hl hk

def c56 : IC := IC.seq (IC.ops [I.mk none (some 2) Ef.bx [X.t 0], I.mk none (some 4) (Ef.pr Pr.mv) [X.c (Value.pointer none)]]) 
  (IC.seq (IC.ops [I.mk none (some 8) (Ef.pr (Pr.fa 0)) [X.t 2], I.mk none (some 9) (Ef.pr (Pr.ld 1 false)) [X.t 8], I.mk none (some 10) (Ef.pr Pr.mv) [X.t 1], I.mk none (some 11) (Ef.call 92) [X.t 9, X.t 10], I.mk none (some 7) (Ef.pr Pr.mv) [X.t 11], I.mk none (some 12) (Ef.pr (Pr.ext 0)) [X.t 7], I.mk none (some 13) (Ef.pr (Pr.ext 1)) [X.t 7], I.mk none (some 5) (Ef.pr Pr.mv) [X.t 12], I.mk none (some 6) (Ef.pr Pr.mv) [X.t 13]]) 
  (IC.seq (IC.ops [I.mk none (some 14) (Ef.pr Pr.mv) [X.t 5], I.mk none (some 4) (Ef.pr Pr.mv) [X.t 14]]) IC.ret))

theorem k56 : Go.Proofs.Try.f56.body.bind (comp Go.Proofs.Try.prog 15 [2] []) = some c56 := by kernel_rfl

theorem r56 : cRVs Go.Proofs.Try.prog Go.Proofs.Try.f56.results.toList = some [RV.t 4] := by kernel_rfl

theorem e56 {args : List Value} {h : Hp} {Q : Value → Hp → Prop} (hl : Nat.ble args.length 15 = true) (hk : codeK PR none c56 (retK Q [RV.t 4]) (fun _ _ _ _ => False) (retK Q [RV.t 4]) (argsE 0 args) [] h) : Ok PR 56 args h Q :=
  Ok.of mixed Go.Proofs.Try.func56 rfl k56 r56 hl hk

def c57 : IC := IC.seq (IC.ops [I.mk none (some 2) (Ef.pr Pr.mv) [X.c (Value.bool false)]]) 
  (IC.seq (IC.ops [I.mk none (some 3) (Ef.pr Pr.mv) [X.t 0], I.mk none (some 4) (Ef.pr (Pr.cm BinOp.geq)) [X.t 3, X.c (Value.int IntKind.i64 0)], I.mk none (some 5) (Ef.pr Pr.mv) [X.t 4], I.mk (some (5, true)) (some 6) (Ef.pr Pr.mv) [X.t 0], I.mk (some (5, true)) (some 7) (Ef.pr (Pr.cm BinOp.leq)) [X.t 6, X.c (Value.int IntKind.i64 4294967295)], I.mk none (some 8) (Ef.pr Pr.pick) [X.t 5, X.t 7, X.c (Value.bool false)], I.mk none (some 2) (Ef.pr Pr.mv) [X.t 8]]) IC.ret)

theorem k57 : Go.Proofs.Try.f57.body.bind (comp Go.Proofs.Try.prog 9 [] []) = some c57 := by kernel_rfl

theorem r57 : cRVs Go.Proofs.Try.prog Go.Proofs.Try.f57.results.toList = some [RV.t 2] := by kernel_rfl

theorem e57 {args : List Value} {h : Hp} {Q : Value → Hp → Prop} (hl : Nat.ble args.length 9 = true) (hk : codeK PR none c57 (retK Q [RV.t 2]) (fun _ _ _ _ => False) (retK Q [RV.t 2]) (argsE 0 args) [] h) : Ok PR 57 args h Q :=
  Ok.of mixed Go.Proofs.Try.func57 rfl k57 r57 hl hk

def c58 : IC := IC.seq (IC.ops [I.mk none (some 2) (Ef.al [Value.int IntKind.i64 0, Value.int IntKind.i64 0, Value.int IntKind.i64 0]) []]) 
  (IC.seq (IC.plan (Plan.q (I.mk none (some 3) (Ef.pr Pr.mv) [X.t 0]) (Plan.q (I.mk none (some 4) (Ef.pr Pr.nilc) [X.t 3]) (Plan.q (I.mk none (some 5) (Ef.pr (Pr.fa 0)) [X.t 4]) (Plan.q (I.mk none (some 6) (Ef.pr (Pr.ld 3 true)) [X.t 5]) (Plan.q (I.mk none (some 7) (Ef.pr Pr.mv) [X.t 0]) (Plan.q (I.mk none (some 8) (Ef.pr Pr.nilc) [X.t 7]) (Plan.q (I.mk none (some 9) (Ef.pr (Pr.fa 3)) [X.t 8]) (Plan.q (I.mk none (some 10) (Ef.pr (Pr.ld 3 true)) [X.t 9]) (Plan.q (I.mk none (some 12) (Ef.pr Pr.mv) [X.t 0]) (Plan.q (I.mk none (some 13) (Ef.pr Pr.nilc) [X.t 12]) (Plan.q (I.mk none (some 14) (Ef.pr (Pr.fa 6)) [X.t 13]) (Plan.q (I.mk none (some 15) (Ef.pr (Pr.ld 3 true)) [X.t 14]) (Plan.br (PlanL.cons true false (I.mk none (some 11) (Ef.call 93) [X.t 6, X.t 10]) (Plan.br (PlanL.cons false false (I.mk none (some 16) (Ef.call 93) [X.t 11, X.t 15]) (Plan.br (PlanL.cons false false (I.mk none none (Ef.st 3) [X.t 2, X.t 16]) Plan.done PlanL.nil)) PlanL.nil)) PlanL.nil))))))))))))))) IC.ret)

theorem k58 : Go.Proofs.Try.f58.body.bind (comp Go.Proofs.Try.prog 17 [2] []) = some c58 := by kernel_rfl

theorem r58 : cRVs Go.Proofs.Try.prog Go.Proofs.Try.f58.results.toList = some [RV.c 2 3 true] := by kernel_rfl

theorem e58 {args : List Value} {h : Hp} {Q : Value → Hp → Prop} (hl : Nat.ble args.length 17 = true) (hk : codeK PR none c58 (retK Q [RV.c 2 3 true]) (fun _ _ _ _ => False) (retK Q [RV.c 2 3 true]) (argsE 0 args) [] h) : Ok PR 58 args h Q :=
  Ok.of mixed Go.Proofs.Try.func58 rfl k58 r58 hl hk

def c59 : IC := IC.seq (IC.ops [I.mk none (some 6) (Ef.pr Pr.mv) [X.c (Value.int IntKind.i64 0)]]) 
  (IC.seq (IC.ops [I.mk none (some 8) (Ef.pr Pr.mv) [X.t 0], I.mk none (some 9) (Ef.pr Pr.nilc) [X.t 8], I.mk none (some 10) (Ef.pr (Pr.fa 0)) [X.t 9], I.mk none (some 11) (Ef.pr (Pr.ld 1 true)) [X.t 10], I.mk none (some 12) (Ef.pr Pr.mv) [X.t 1], I.mk none (some 13) (Ef.call 56) [X.t 11, X.t 12], I.mk none (some 7) (Ef.pr Pr.mv) [X.t 13]]) 
  (IC.seq 
  (IC.seq (IC.ops [I.mk none (some 14) (Ef.pr Pr.mv) [X.t 7], I.mk none (some 15) (Ef.pr (Pr.eq false (EqT.one EqS.p))) [X.t 14, X.c (Value.pointer none)]]) 
  (IC.cond (X.t 15) 
  (IC.seq (IC.ops [I.mk none (some 6) (Ef.pr Pr.mv) [X.c (Value.int IntKind.i64 90)]]) IC.ret) IC.skip)) 
  (IC.seq 
  (IC.seq (IC.ops [I.mk none (some 16) (Ef.pr Pr.mv) [X.t 2], I.mk none (some 17) (Ef.call 57) [X.t 16], I.mk none (some 18) (Ef.pr (Pr.un UnOp.not)) [X.t 17]]) 
  (IC.cond (X.t 18) 
  (IC.seq (IC.ops [I.mk none (some 6) (Ef.pr Pr.mv) [X.c (Value.int IntKind.i64 1)]]) IC.ret) IC.skip)) 
  (IC.seq (IC.ops [I.mk none (some 19) (Ef.pr Pr.mv) [X.t 7], I.mk none (some 20) (Ef.pr Pr.mv) [X.t 2], I.mk none (some 21) (Ef.pr Pr.nilc) [X.t 19], I.mk none (some 22) (Ef.pr (Pr.fa 0)) [X.t 21], I.mk none (some 23) (Ef.pr (Pr.fa 4)) [X.t 22], I.mk none none (Ef.st 1) [X.t 23, X.t 20]]) 
  (IC.seq (IC.ops [I.mk none (some 6) (Ef.pr Pr.mv) [X.c (Value.int IntKind.i64 0)]]) IC.ret)))))

theorem k59 : Go.Proofs.Try.f59.body.bind (comp Go.Proofs.Try.prog 24 [] []) = some c59 := by kernel_rfl

theorem r59 : cRVs Go.Proofs.Try.prog Go.Proofs.Try.f59.results.toList = some [RV.t 6] := by kernel_rfl

theorem e59 {args : List Value} {h : Hp} {Q : Value → Hp → Prop} (hl : Nat.ble args.length 24 = true) (hk : codeK PR none c59 (retK Q [RV.t 6]) (fun _ _ _ _ => False) (retK Q [RV.t 6]) (argsE 0 args) [] h) : Ok PR 59 args h Q :=
  Ok.of mixed Go.Proofs.Try.func59 rfl k59 r59 hl hk

def c60 : IC := IC.seq (IC.ops [I.mk none (some 1) Ef.bx [X.t 0], I.mk none (some 2) (Ef.pr Pr.mv) [X.c (Value.bool false)]]) 
  (IC.seq (IC.ops [I.mk none (some 3) (Ef.pr (Pr.fa 0)) [X.t 1], I.mk none (some 4) (Ef.pr (Pr.ld 1 false)) [X.t 3], I.mk none (some 5) (Ef.pr (Pr.fa 1)) [X.t 1], I.mk none (some 6) (Ef.pr (Pr.ld 1 false)) [X.t 5], I.mk none (some 7) (Ef.pr (Pr.fa 2)) [X.t 1], I.mk none (some 8) (Ef.pr (Pr.ld 1 false)) [X.t 7], I.mk none (some 9) (Ef.pr Pr.min3) [X.t 4, X.t 6, X.t 8], I.mk none (some 10) (Ef.pr (Pr.cm BinOp.geq)) [X.t 9, X.c (Value.int IntKind.i64 0)], I.mk none (some 11) (Ef.pr Pr.mv) [X.t 10], I.mk (some (11, true)) (some 12) (Ef.pr (Pr.fa 0)) [X.t 1], I.mk (some (11, true)) (some 13) (Ef.pr (Pr.ld 1 false)) [X.t 12], I.mk (some (11, true)) (some 14) (Ef.pr (Pr.fa 1)) [X.t 1], I.mk (some (11, true)) (some 15) (Ef.pr (Pr.ld 1 false)) [X.t 14], I.mk (some (11, true)) (some 16) (Ef.pr (Pr.fa 2)) [X.t 1], I.mk (some (11, true)) (some 17) (Ef.pr (Pr.ld 1 false)) [X.t 16], I.mk (some (11, true)) (some 18) (Ef.pr Pr.max3) [X.t 13, X.t 15, X.t 17], I.mk (some (11, true)) (some 19) (Ef.pr (Pr.cm BinOp.leq)) [X.t 18, X.c (Value.int IntKind.i64 4611686018427387903)], I.mk none (some 20) (Ef.pr Pr.pick) [X.t 11, X.t 19, X.c (Value.bool false)], I.mk none (some 2) (Ef.pr Pr.mv) [X.t 20]]) IC.ret)

theorem k60 : Go.Proofs.Try.f60.body.bind (comp Go.Proofs.Try.prog 21 [1] []) = some c60 := by kernel_rfl

theorem r60 : cRVs Go.Proofs.Try.prog Go.Proofs.Try.f60.results.toList = some [RV.t 2] := by kernel_rfl

theorem e60 {args : List Value} {h : Hp} {Q : Value → Hp → Prop} (hl : Nat.ble args.length 21 = true) (hk : codeK PR none c60 (retK Q [RV.t 2]) (fun _ _ _ _ => False) (retK Q [RV.t 2]) (argsE 0 args) [] h) : Ok PR 60 args h Q :=
  Ok.of mixed Go.Proofs.Try.func60 rfl k60 r60 hl hk

def c61 : IC := IC.seq (IC.ops [I.mk none (some 2) Ef.bx [X.t 0], I.mk none (some 3) Ef.bx [X.t 1], I.mk none (some 4) (Ef.pr Pr.mv) [X.c (Value.bool false)]]) 
  (IC.seq (IC.ops [I.mk none (some 5) (Ef.pr (Pr.fa 0)) [X.t 2], I.mk none (some 6) (Ef.pr (Pr.ld 1 false)) [X.t 5], I.mk none (some 7) (Ef.pr (Pr.fa 0)) [X.t 3], I.mk none (some 8) (Ef.pr (Pr.ld 1 false)) [X.t 7], I.mk none (some 9) (Ef.pr (Pr.cm BinOp.leq)) [X.t 6, X.t 8], I.mk none (some 10) (Ef.pr Pr.mv) [X.t 9], I.mk (some (10, true)) (some 11) (Ef.pr (Pr.fa 1)) [X.t 2], I.mk (some (10, true)) (some 12) (Ef.pr (Pr.ld 1 false)) [X.t 11], I.mk (some (10, true)) (some 13) (Ef.pr (Pr.fa 1)) [X.t 3], I.mk (some (10, true)) (some 14) (Ef.pr (Pr.ld 1 false)) [X.t 13], I.mk (some (10, true)) (some 15) (Ef.pr (Pr.cm BinOp.leq)) [X.t 12, X.t 14], I.mk none (some 16) (Ef.pr Pr.pick) [X.t 10, X.t 15, X.c (Value.bool false)], I.mk none (some 17) (Ef.pr Pr.mv) [X.t 16], I.mk (some (17, true)) (some 18) (Ef.pr (Pr.fa 2)) [X.t 2], I.mk (some (17, true)) (some 19) (Ef.pr (Pr.ld 1 false)) [X.t 18], I.mk (some (17, true)) (some 20) (Ef.pr (Pr.fa 2)) [X.t 3], I.mk (some (17, true)) (some 21) (Ef.pr (Pr.ld 1 false)) [X.t 20], I.mk (some (17, true)) (some 22) (Ef.pr (Pr.cm BinOp.leq)) [X.t 19, X.t 21], I.mk none (some 23) (Ef.pr Pr.pick) [X.t 17, X.t 22, X.c (Value.bool false)], I.mk none (some 4) (Ef.pr Pr.mv) [X.t 23]]) IC.ret)

theorem k61 : Go.Proofs.Try.f61.body.bind (comp Go.Proofs.Try.prog 24 [2, 3] []) = some c61 := by kernel_rfl

theorem r61 : cRVs Go.Proofs.Try.prog Go.Proofs.Try.f61.results.toList = some [RV.t 4] := by kernel_rfl

theorem e61 {args : List Value} {h : Hp} {Q : Value → Hp → Prop} (hl : Nat.ble args.length 24 = true) (hk : codeK PR none c61 (retK Q [RV.t 4]) (fun _ _ _ _ => False) (retK Q [RV.t 4]) (argsE 0 args) [] h) : Ok PR 61 args h Q :=
  Ok.of mixed Go.Proofs.Try.func61 rfl k61 r61 hl hk

def c62 : IC := IC.seq (IC.ops [I.mk none (some 1) Ef.bx [X.t 0], I.mk none (some 2) (Ef.al [Value.int IntKind.i64 0, Value.int IntKind.i64 0, Value.int IntKind.i64 0]) []]) 
  (IC.seq (IC.ops [I.mk none (some 3) (Ef.pr (Pr.fa 1)) [X.t 1], I.mk none (some 4) (Ef.pr (Pr.ld 1 false)) [X.t 3], I.mk none (some 5) (Ef.pr (Pr.ar BinOp.add)) [X.t 4, X.c (Value.int IntKind.i64 1)], I.mk none (some 6) (Ef.pr (Pr.fa 1)) [X.t 1], I.mk none none (Ef.st 1) [X.t 6, X.t 5]]) 
  (IC.seq (IC.ops [I.mk none (some 7) (Ef.pr (Pr.ld 3 true)) [X.t 1], I.mk none none (Ef.st 3) [X.t 2, X.t 7]]) IC.ret))

theorem k62 : Go.Proofs.Try.f62.body.bind (comp Go.Proofs.Try.prog 8 [1, 2] []) = some c62 := by kernel_rfl

theorem r62 : cRVs Go.Proofs.Try.prog Go.Proofs.Try.f62.results.toList = some [RV.c 2 3 true] := by kernel_rfl

theorem e62 {args : List Value} {h : Hp} {Q : Value → Hp → Prop} (hl : Nat.ble args.length 8 = true) (hk : codeK PR none c62 (retK Q [RV.c 2 3 true]) (fun _ _ _ _ => False) (retK Q [RV.c 2 3 true]) (argsE 0 args) [] h) : Ok PR 62 args h Q :=
  Ok.of mixed Go.Proofs.Try.func62 rfl k62 r62 hl hk

def c63 : IC := IC.seq (IC.ops [I.mk none (some 4) (Ef.pr Pr.mv) [X.c (Value.int IntKind.i64 0)], I.mk none (some 5) (Ef.pr Pr.mv) [X.c (Value.int IntKind.i64 0)]]) 
  (IC.seq 
  (IC.block 0 
  (IC.loop 
  (IC.seq 
  (IC.seq (IC.plan (Plan.q (I.mk none (some 7) (Ef.pr Pr.mv) [X.t 0]) (Plan.q (I.mk none (some 8) (Ef.pr Pr.nilc) [X.t 7]) (Plan.q (I.mk none (some 9) (Ef.pr (Pr.fa 2)) [X.t 8]) (Plan.q (I.mk none (some 10) (Ef.pr (Pr.ld 1 false)) [X.t 9]) (Plan.q (I.mk none (some 11) (Ef.pr Pr.mv) [X.t 0]) (Plan.q (I.mk none (some 12) (Ef.pr Pr.nilc) [X.t 11]) (Plan.q (I.mk none (some 13) (Ef.pr (Pr.fa 0)) [X.t 12]) (Plan.q (I.mk none (some 14) (Ef.pr (Pr.ld 1 false)) [X.t 13]) (Plan.q (I.mk none (some 15) (Ef.pr Pr.lenS) [X.t 14]) (Plan.q (I.mk none (some 16) (Ef.pr (Pr.cm BinOp.lss)) [X.t 10, X.t 15]) (Plan.q (I.mk none (some 17) (Ef.pr Pr.mv) [X.t 16]) (Plan.q (I.mk (some (17, true)) (some 18) (Ef.pr Pr.mv) [X.t 0]) (Plan.q (I.mk (some (17, true)) (some 19) (Ef.pr Pr.nilc) [X.t 18]) (Plan.q (I.mk (some (17, true)) (some 20) (Ef.pr (Pr.fa 0)) [X.t 19]) (Plan.q (I.mk (some (17, true)) (some 21) (Ef.pr (Pr.ld 1 false)) [X.t 20]) (Plan.q (I.mk (some (17, true)) (some 22) (Ef.pr Pr.mv) [X.t 0]) (Plan.q (I.mk (some (17, true)) (some 23) (Ef.pr Pr.nilc) [X.t 22]) (Plan.q (I.mk (some (17, true)) (some 24) (Ef.pr (Pr.fa 2)) [X.t 23]) (Plan.q (I.mk (some (17, true)) (some 25) (Ef.pr (Pr.ld 1 false)) [X.t 24]) (Plan.q (I.mk (some (17, true)) (some 26) (Ef.pr (Pr.iaS 2)) [X.t 21, X.t 25]) (Plan.q (I.mk (some (17, true)) (some 27) (Ef.pr (Pr.fa 0)) [X.t 26]) (Plan.q (I.mk (some (17, true)) (some 28) (Ef.pr (Pr.ld 1 false)) [X.t 27]) (Plan.q (I.mk none (some 29) (Ef.pr Pr.pick) [X.t 17, X.t 28, X.c (Value.bool false)]) Plan.done)))))))))))))))))))))))) 
  (IC.cond (X.t 29) IC.skip (IC.exit 0))) 
  (IC.block 1 (IC.ops [I.mk none (some 30) (Ef.pr Pr.mv) [X.t 0], I.mk none (some 31) (Ef.pr Pr.nilc) [X.t 30], I.mk none (some 32) (Ef.pr (Pr.fa 2)) [X.t 31], I.mk none (some 33) (Ef.pr (Pr.ld 1 false)) [X.t 32], I.mk none (some 34) (Ef.pr (Pr.ar BinOp.add)) [X.t 33, X.c (Value.int IntKind.i64 1)], I.mk none (some 35) (Ef.pr Pr.nilc) [X.t 30], I.mk none (some 36) (Ef.pr (Pr.fa 2)) [X.t 35], I.mk none none (Ef.st 1) [X.t 36, X.t 34]]))))) 
  (IC.seq 
  (IC.seq (IC.plan (Plan.q (I.mk none (some 37) (Ef.pr Pr.mv) [X.t 0]) (Plan.q (I.mk none (some 38) (Ef.pr Pr.nilc) [X.t 37]) (Plan.q (I.mk none (some 39) (Ef.pr (Pr.fa 2)) [X.t 38]) (Plan.q (I.mk none (some 40) (Ef.pr (Pr.ld 1 false)) [X.t 39]) (Plan.q (I.mk none (some 41) (Ef.pr Pr.mv) [X.t 0]) (Plan.q (I.mk none (some 42) (Ef.pr Pr.nilc) [X.t 41]) (Plan.q (I.mk none (some 43) (Ef.pr (Pr.fa 0)) [X.t 42]) (Plan.q (I.mk none (some 44) (Ef.pr (Pr.ld 1 false)) [X.t 43]) (Plan.q (I.mk none (some 45) (Ef.pr Pr.lenS) [X.t 44]) (Plan.q (I.mk none (some 46) (Ef.pr (Pr.cm BinOp.eql)) [X.t 40, X.t 45]) Plan.done))))))))))) 
  (IC.cond (X.t 46) 
  (IC.seq (IC.ops [I.mk none (some 4) (Ef.pr Pr.mv) [X.c (Value.int IntKind.i64 (-1))], I.mk none (some 5) (Ef.pr Pr.mv) [X.c (Value.int IntKind.i64 2)]]) IC.ret) IC.skip)) 
  (IC.seq (IC.ops [I.mk none (some 47) (Ef.pr Pr.mv) [X.t 0], I.mk none (some 48) (Ef.pr Pr.nilc) [X.t 47], I.mk none (some 49) (Ef.pr (Pr.fa 2)) [X.t 48], I.mk none (some 50) (Ef.pr (Pr.ld 1 false)) [X.t 49], I.mk none (some 6) (Ef.pr Pr.mv) [X.t 50]]) 
  (IC.seq (IC.ops [I.mk none (some 51) (Ef.pr Pr.mv) [X.t 0], I.mk none (some 52) (Ef.pr Pr.mv) [X.t 6], I.mk none (some 53) (Ef.pr Pr.mv) [X.t 1], I.mk none (some 54) (Ef.call 94) [X.t 51, X.t 52, X.t 53]]) 
  (IC.seq (IC.ops [I.mk none (some 55) (Ef.pr Pr.mv) [X.t 6], I.mk none (some 4) (Ef.pr Pr.mv) [X.t 55], I.mk none (some 5) (Ef.pr Pr.mv) [X.c (Value.int IntKind.i64 0)]]) IC.ret)))))

theorem k63 : Go.Proofs.Try.f63.body.bind (comp Go.Proofs.Try.prog 56 [] []) = some c63 := by kernel_rfl

theorem r63 : cRVs Go.Proofs.Try.prog Go.Proofs.Try.f63.results.toList = some [RV.t 4, RV.t 5] := by kernel_rfl

theorem e63 {args : List Value} {h : Hp} {Q : Value → Hp → Prop} (hl : Nat.ble args.length 56 = true) (hk : codeK PR none c63 (retK Q [RV.t 4, RV.t 5]) (fun _ _ _ _ => False) (retK Q [RV.t 4, RV.t 5]) (argsE 0 args) [] h) : Ok PR 63 args h Q :=
  Ok.of mixed Go.Proofs.Try.func63 rfl k63 r63 hl hk

def c64 : IC := IC.seq (IC.ops [I.mk none (some 3) Ef.bx [X.t 1]]) (IC.plan (Plan.q (I.mk none (some 4) (Ef.pr Pr.mv) [X.t 0]) (Plan.q (I.mk none (some 5) (Ef.pr Pr.mv) [X.t 0]) (Plan.q (I.mk none (some 6) (Ef.pr Pr.nilc) [X.t 5]) (Plan.q (I.mk none (some 7) (Ef.pr (Pr.fa 6)) [X.t 6]) (Plan.q (I.mk none (some 8) (Ef.pr (Pr.ld 3 true)) [X.t 7]) (Plan.q (I.mk none (some 9) (Ef.pr (Pr.ld 3 true)) [X.t 3]) (Plan.br (PlanL.cons true false (I.mk none (some 10) (Ef.call 62) [X.t 9]) (Plan.br (PlanL.cons false false (I.mk none (some 11) (Ef.call 95) [X.t 8, X.t 10]) (Plan.q (I.mk none (some 12) (Ef.pr Pr.nilc) [X.t 4]) (Plan.q (I.mk none (some 13) (Ef.pr (Pr.fa 6)) [X.t 12]) (Plan.br (PlanL.cons false false (I.mk none none (Ef.st 3) [X.t 13, X.t 11]) Plan.done PlanL.nil)))) PlanL.nil)) PlanL.nil)))))))))

theorem k64 : Go.Proofs.Try.f64.body.bind (comp Go.Proofs.Try.prog 14 [3] []) = some c64 := by kernel_rfl

theorem r64 : cRVs Go.Proofs.Try.prog Go.Proofs.Try.f64.results.toList = some [] := by kernel_rfl

theorem e64 {args : List Value} {h : Hp} {Q : Value → Hp → Prop} (hl : Nat.ble args.length 14 = true) (hk : codeK PR none c64 (retK Q []) (fun _ _ _ _ => False) (retK Q []) (argsE 0 args) [] h) : Ok PR 64 args h Q :=
  Ok.of mixed Go.Proofs.Try.func64 rfl k64 r64 hl hk

def c65 : IC := IC.seq (IC.ops [I.mk none (some 6) (Ef.pr Pr.mv) [X.c (Value.slice none 0 0)]]) 
  (IC.seq (IC.ops [I.mk none (some 9) (Ef.pr Pr.mv) [X.t 2], I.mk none (some 10) (Ef.pr Pr.mv) [X.t 1], I.mk none (some 11) (Ef.bsl [Value.int IntKind.i64 0] 3 1 1 [0]) [X.t 10], I.mk none (some 12) (Ef.app [Value.int IntKind.i64 0] 3 8) [X.t 9, X.t 11], I.mk none (some 2) (Ef.pr Pr.mv) [X.t 12]]) 
  (IC.seq 
  (IC.seq (IC.ops [I.mk none (some 13) (Ef.pr Pr.mv) [X.t 0], I.mk none (some 14) (Ef.pr Pr.nilc) [X.t 13], I.mk none (some 15) (Ef.pr (Pr.fa 0)) [X.t 14], I.mk none (some 16) (Ef.pr (Pr.ld 1 true)) [X.t 15], I.mk none (some 17) (Ef.pr Pr.mv) [X.t 1], I.mk none (some 18) (Ef.call 56) [X.t 16, X.t 17], I.mk none (some 19) (Ef.pr Pr.nilc) [X.t 18], I.mk none (some 20) (Ef.pr (Pr.fa 30)) [X.t 19], I.mk none (some 21) (Ef.pr (Pr.ld 1 false)) [X.t 20], I.mk none (some 22) (Ef.pr Pr.lenS) [X.t 21], I.mk none (some 23) (Ef.pr Pr.mv) [X.c (Value.int IntKind.i64 0)]]) 
  (IC.block 0 
  (IC.loop 
  (IC.seq (IC.ops [I.mk none (some 24) (Ef.pr (Pr.cm BinOp.lss)) [X.t 23, X.t 22]]) 
  (IC.seq 
  (IC.cond (X.t 24) IC.skip (IC.exit 0)) 
  (IC.seq 
  (IC.block 1 
  (IC.seq (IC.ops [I.mk none (some 25) (Ef.pr (Pr.iaS 1)) [X.t 21, X.t 23], I.mk none (some 26) (Ef.pr (Pr.ld 1 false)) [X.t 25], I.mk none (some 8) (Ef.pr Pr.mv) [X.t 26]]) (IC.ops [I.mk none (some 27) (Ef.pr Pr.mv) [X.t 0], I.mk none (some 28) (Ef.pr Pr.mv) [X.t 8], I.mk none (some 29) (Ef.pr Pr.mv) [X.t 2], I.mk none (some 30) (Ef.call 65) [X.t 27, X.t 28, X.t 29], I.mk none (some 2) (Ef.pr Pr.mv) [X.t 30]]))) (IC.ops [I.mk none (some 31) (Ef.pr (Pr.ar BinOp.add)) [X.t 23, X.c (Value.int IntKind.i64 1)], I.mk none (some 23) (Ef.pr Pr.mv) [X.t 31]]))))))) 
  (IC.seq (IC.ops [I.mk none (some 32) (Ef.pr Pr.mv) [X.t 2], I.mk none (some 6) (Ef.pr Pr.mv) [X.t 32]]) IC.ret)))

theorem k65 : Go.Proofs.Try.f65.body.bind (comp Go.Proofs.Try.prog 33 [] []) = some c65 := by kernel_rfl

theorem r65 : cRVs Go.Proofs.Try.prog Go.Proofs.Try.f65.results.toList = some [RV.t 6] := by kernel_rfl

theorem e65 {args : List Value} {h : Hp} {Q : Value → Hp → Prop} (hl : Nat.ble args.length 33 = true) (hk : codeK PR none c65 (retK Q [RV.t 6]) (fun _ _ _ _ => False) (retK Q [RV.t 6]) (argsE 0 args) [] h) : Ok PR 65 args h Q :=
  Ok.of mixed Go.Proofs.Try.func65 rfl k65 r65 hl hk

def c66 : IC := IC.seq (IC.ops [I.mk none (some 3) Ef.bx [X.t 1]]) (IC.plan (Plan.q (I.mk none (some 4) (Ef.pr Pr.mv) [X.t 0]) (Plan.q (I.mk none (some 5) (Ef.pr Pr.mv) [X.t 0]) (Plan.q (I.mk none (some 6) (Ef.pr Pr.nilc) [X.t 5]) (Plan.q (I.mk none (some 7) (Ef.pr (Pr.fa 6)) [X.t 6]) (Plan.q (I.mk none (some 8) (Ef.pr (Pr.ld 3 true)) [X.t 7]) (Plan.q (I.mk none (some 9) (Ef.pr (Pr.ld 3 true)) [X.t 3]) (Plan.br (PlanL.cons true false (I.mk none (some 10) (Ef.call 62) [X.t 9]) (Plan.br (PlanL.cons false false (I.mk none (some 11) (Ef.call 93) [X.t 8, X.t 10]) (Plan.q (I.mk none (some 12) (Ef.pr Pr.nilc) [X.t 4]) (Plan.q (I.mk none (some 13) (Ef.pr (Pr.fa 6)) [X.t 12]) (Plan.br (PlanL.cons false false (I.mk none none (Ef.st 3) [X.t 13, X.t 11]) Plan.done PlanL.nil)))) PlanL.nil)) PlanL.nil)))))))))

theorem k66 : Go.Proofs.Try.f66.body.bind (comp Go.Proofs.Try.prog 14 [3] []) = some c66 := by kernel_rfl

theorem r66 : cRVs Go.Proofs.Try.prog Go.Proofs.Try.f66.results.toList = some [] := by kernel_rfl

theorem e66 {args : List Value} {h : Hp} {Q : Value → Hp → Prop} (hl : Nat.ble args.length 14 = true) (hk : codeK PR none c66 (retK Q []) (fun _ _ _ _ => False) (retK Q []) (argsE 0 args) [] h) : Ok PR 66 args h Q :=
  Ok.of mixed Go.Proofs.Try.func66 rfl k66 r66 hl hk

def c67 : IC := IC.seq (IC.ops [I.mk none (some 4) (Ef.pr Pr.mv) [X.c (Value.pointer none)], I.mk none (some 5) (Ef.pr Pr.mv) [X.c (Value.bool false)]]) 
  (IC.seq (IC.ops [I.mk none (some 6) (Ef.pr Pr.mv) [X.c (Value.pointer none)]]) 
  (IC.seq 
  (IC.seq (IC.ops [I.mk none (some 8) (Ef.pr Pr.mv) [X.t 0], I.mk none (some 9) (Ef.pr Pr.mv) [X.t 1], I.mk none (some 10) (Ef.call 96) [X.t 8, X.t 9], I.mk none (some 11) (Ef.pr (Pr.un UnOp.not)) [X.t 10]]) 
  (IC.cond (X.t 11) 
  (IC.seq (IC.ops [I.mk none (some 12) (Ef.pr Pr.mv) [X.t 6], I.mk none (some 4) (Ef.pr Pr.mv) [X.t 12], I.mk none (some 5) (Ef.pr Pr.mv) [X.c (Value.bool false)]]) IC.ret) IC.skip)) 
  (IC.seq (IC.ops [I.mk none (some 13) (Ef.pr Pr.mv) [X.t 0], I.mk none (some 14) (Ef.pr Pr.nilc) [X.t 13], I.mk none (some 15) (Ef.pr (Pr.fa 0)) [X.t 14], I.mk none (some 16) (Ef.pr (Pr.ld 1 false)) [X.t 15], I.mk none (some 17) (Ef.pr Pr.mv) [X.t 1], I.mk none (some 18) (Ef.pr (Pr.iaS 2)) [X.t 16, X.t 17], I.mk none (some 19) (Ef.pr (Pr.fa 1)) [X.t 18], I.mk none (some 20) (Ef.pr (Pr.ld 1 false)) [X.t 19], I.mk none (some 7) (Ef.pr Pr.mv) [X.t 20]]) 
  (IC.seq (IC.ops [I.mk none (some 21) (Ef.pr Pr.mv) [X.t 0], I.mk none (some 22) (Ef.pr Pr.nilc) [X.t 21], I.mk none (some 23) (Ef.pr (Pr.fa 0)) [X.t 22], I.mk none (some 24) (Ef.pr (Pr.ld 1 false)) [X.t 23], I.mk none (some 25) (Ef.pr Pr.mv) [X.t 1], I.mk none (some 26) (Ef.pr (Pr.bld [Value.bool false, Value.pointer none] [])) [], I.mk none (some 27) (Ef.pr (Pr.iaS 2)) [X.t 24, X.t 25], I.mk none none (Ef.st 2) [X.t 27, X.t 26]]) 
  (IC.seq (IC.ops [I.mk none (some 28) (Ef.pr Pr.mv) [X.t 0], I.mk none (some 29) (Ef.pr Pr.nilc) [X.t 28], I.mk none (some 30) (Ef.pr (Pr.fa 1)) [X.t 29], I.mk none (some 31) (Ef.pr (Pr.ld 1 false)) [X.t 30], I.mk none (some 32) (Ef.pr (Pr.ar BinOp.sub)) [X.t 31, X.c (Value.int IntKind.i64 1)], I.mk none (some 33) (Ef.pr Pr.nilc) [X.t 28], I.mk none (some 34) (Ef.pr (Pr.fa 1)) [X.t 33], I.mk none none (Ef.st 1) [X.t 34, X.t 32]]) 
  (IC.seq (IC.ops [I.mk none (some 35) (Ef.pr Pr.mv) [X.t 0], I.mk none (some 36) (Ef.pr Pr.mv) [X.t 0], I.mk none (some 37) (Ef.pr Pr.nilc) [X.t 36], I.mk none (some 38) (Ef.pr (Pr.fa 2)) [X.t 37], I.mk none (some 39) (Ef.pr (Pr.ld 1 false)) [X.t 38], I.mk none (some 40) (Ef.pr Pr.mv) [X.t 1], I.mk none (some 41) (Ef.pr Pr.min2) [X.t 39, X.t 40], I.mk none (some 42) (Ef.pr Pr.nilc) [X.t 35], I.mk none (some 43) (Ef.pr (Pr.fa 2)) [X.t 42], I.mk none none (Ef.st 1) [X.t 43, X.t 41]]) 
  (IC.seq (IC.ops [I.mk none (some 44) (Ef.pr Pr.mv) [X.t 7], I.mk none (some 4) (Ef.pr Pr.mv) [X.t 44], I.mk none (some 5) (Ef.pr Pr.mv) [X.c (Value.bool true)]]) IC.ret)))))))

theorem k67 : Go.Proofs.Try.f67.body.bind (comp Go.Proofs.Try.prog 45 [] []) = some c67 := by kernel_rfl

theorem r67 : cRVs Go.Proofs.Try.prog Go.Proofs.Try.f67.results.toList = some [RV.t 4, RV.t 5] := by kernel_rfl

theorem e67 {args : List Value} {h : Hp} {Q : Value → Hp → Prop} (hl : Nat.ble args.length 45 = true) (hk : codeK PR none c67 (retK Q [RV.t 4, RV.t 5]) (fun _ _ _ _ => False) (retK Q [RV.t 4, RV.t 5]) (argsE 0 args) [] h) : Ok PR 67 args h Q :=
  Ok.of mixed Go.Proofs.Try.func67 rfl k67 r67 hl hk

def c68 : IC := IC.seq (IC.ops [I.mk none (some 3) Ef.bx [X.t 1], I.mk none (some 4) (Ef.pr Pr.mv) [X.c (Value.int IntKind.i64 0)]]) 
  (IC.seq 
  (IC.seq (IC.ops [I.mk none (some 5) (Ef.pr (Pr.ld 3 true)) [X.t 3], I.mk none (some 6) (Ef.call 60) [X.t 5], I.mk none (some 7) (Ef.pr (Pr.un UnOp.not)) [X.t 6]]) 
  (IC.cond (X.t 7) 
  (IC.seq (IC.ops [I.mk none (some 4) (Ef.pr Pr.mv) [X.c (Value.int IntKind.i64 1)]]) IC.ret) IC.skip)) 
  (IC.seq 
  (IC.seq (IC.plan (Plan.q (I.mk none (some 8) (Ef.pr (Pr.ld 3 true)) [X.t 3]) (Plan.q (I.mk none (some 9) (Ef.pr Pr.mv) [X.t 0]) (Plan.br (PlanL.cons true false (I.mk none (some 10) (Ef.call 58) [X.t 9]) (Plan.br (PlanL.cons false false (I.mk none (some 11) (Ef.call 61) [X.t 8, X.t 10]) (Plan.q (I.mk none (some 12) (Ef.pr (Pr.un UnOp.not)) [X.t 11]) Plan.done) PlanL.nil)) PlanL.nil))))) 
  (IC.cond (X.t 12) 
  (IC.seq (IC.ops [I.mk none (some 4) (Ef.pr Pr.mv) [X.c (Value.int IntKind.i64 2)]]) IC.ret) IC.skip)) 
  (IC.seq (IC.plan (Plan.q (I.mk none (some 13) (Ef.pr Pr.mv) [X.t 0]) (Plan.q (I.mk none (some 14) (Ef.pr Pr.mv) [X.t 0]) (Plan.q (I.mk none (some 15) (Ef.pr Pr.nilc) [X.t 14]) (Plan.q (I.mk none (some 16) (Ef.pr (Pr.fa 3)) [X.t 15]) (Plan.q (I.mk none (some 17) (Ef.pr (Pr.ld 3 true)) [X.t 16]) (Plan.q (I.mk none (some 18) (Ef.pr (Pr.ld 3 true)) [X.t 3]) (Plan.br (PlanL.cons false false (I.mk none (some 19) (Ef.call 95) [X.t 17, X.t 18]) (Plan.q (I.mk none (some 20) (Ef.pr Pr.nilc) [X.t 13]) (Plan.q (I.mk none (some 21) (Ef.pr (Pr.fa 3)) [X.t 20]) (Plan.br (PlanL.cons false false (I.mk none none (Ef.st 3) [X.t 21, X.t 19]) Plan.done PlanL.nil)))) PlanL.nil))))))))) 
  (IC.seq (IC.ops [I.mk none (some 4) (Ef.pr Pr.mv) [X.c (Value.int IntKind.i64 0)]]) IC.ret))))

theorem k68 : Go.Proofs.Try.f68.body.bind (comp Go.Proofs.Try.prog 22 [3] []) = some c68 := by kernel_rfl

theorem r68 : cRVs Go.Proofs.Try.prog Go.Proofs.Try.f68.results.toList = some [RV.t 4] := by kernel_rfl

theorem e68 {args : List Value} {h : Hp} {Q : Value → Hp → Prop} (hl : Nat.ble args.length 22 = true) (hk : codeK PR none c68 (retK Q [RV.t 4]) (fun _ _ _ _ => False) (retK Q [RV.t 4]) (argsE 0 args) [] h) : Ok PR 68 args h Q :=
  Ok.of mixed Go.Proofs.Try.func68 rfl k68 r68 hl hk

def c69 : IC := IC.seq (IC.ops [I.mk none (some 3) Ef.bx [X.t 1], I.mk none (some 4) (Ef.pr Pr.mv) [X.c (Value.int IntKind.i64 0)]]) 
  (IC.seq 
  (IC.seq (IC.plan (Plan.q (I.mk none (some 5) (Ef.pr (Pr.ld 3 true)) [X.t 3]) (Plan.br (PlanL.cons false false (I.mk none (some 6) (Ef.call 60) [X.t 5]) (Plan.q (I.mk none (some 7) (Ef.pr (Pr.un UnOp.not)) [X.t 6]) (Plan.q (I.mk none (some 8) (Ef.pr Pr.mv) [X.t 7]) (Plan.q (I.mk (some (8, false)) (some 9) (Ef.pr (Pr.ld 3 true)) [X.t 3]) (Plan.q (I.mk (some (8, false)) (some 10) (Ef.pr Pr.mv) [X.t 0]) (Plan.q (I.mk (some (8, false)) (some 11) (Ef.pr Pr.nilc) [X.t 10]) (Plan.q (I.mk (some (8, false)) (some 12) (Ef.pr (Pr.fa 3)) [X.t 11]) (Plan.q (I.mk (some (8, false)) (some 13) (Ef.pr (Pr.ld 3 true)) [X.t 12]) (Plan.br (PlanL.cons false false (I.mk (some (8, false)) (some 14) (Ef.call 61) [X.t 9, X.t 13]) (Plan.q (I.mk (some (8, false)) (some 15) (Ef.pr (Pr.un UnOp.not)) [X.t 14]) (Plan.q (I.mk none (some 16) (Ef.pr Pr.pick) [X.t 8, X.c (Value.bool true), X.t 15]) Plan.done)) PlanL.nil))))))))) PlanL.nil)))) 
  (IC.cond (X.t 16) 
  (IC.seq (IC.ops [I.mk none (some 4) (Ef.pr Pr.mv) [X.c (Value.int IntKind.i64 1)]]) IC.ret) IC.skip)) 
  (IC.seq (IC.plan (Plan.q (I.mk none (some 17) (Ef.pr Pr.mv) [X.t 0]) (Plan.q (I.mk none (some 18) (Ef.pr Pr.mv) [X.t 0]) (Plan.q (I.mk none (some 19) (Ef.pr Pr.nilc) [X.t 18]) (Plan.q (I.mk none (some 20) (Ef.pr (Pr.fa 3)) [X.t 19]) (Plan.q (I.mk none (some 21) (Ef.pr (Pr.ld 3 true)) [X.t 20]) (Plan.q (I.mk none (some 22) (Ef.pr (Pr.ld 3 true)) [X.t 3]) (Plan.br (PlanL.cons false false (I.mk none (some 23) (Ef.call 93) [X.t 21, X.t 22]) (Plan.q (I.mk none (some 24) (Ef.pr Pr.nilc) [X.t 17]) (Plan.q (I.mk none (some 25) (Ef.pr (Pr.fa 3)) [X.t 24]) (Plan.br (PlanL.cons false false (I.mk none none (Ef.st 3) [X.t 25, X.t 23]) Plan.done PlanL.nil)))) PlanL.nil))))))))) 
  (IC.seq (IC.ops [I.mk none (some 4) (Ef.pr Pr.mv) [X.c (Value.int IntKind.i64 0)]]) IC.ret)))

theorem k69 : Go.Proofs.Try.f69.body.bind (comp Go.Proofs.Try.prog 26 [3] []) = some c69 := by kernel_rfl

theorem r69 : cRVs Go.Proofs.Try.prog Go.Proofs.Try.f69.results.toList = some [RV.t 4] := by kernel_rfl

theorem e69 {args : List Value} {h : Hp} {Q : Value → Hp → Prop} (hl : Nat.ble args.length 26 = true) (hk : codeK PR none c69 (retK Q [RV.t 4]) (fun _ _ _ _ => False) (retK Q [RV.t 4]) (argsE 0 args) [] h) : Ok PR 69 args h Q :=
  Ok.of mixed Go.Proofs.Try.func69 rfl k69 r69 hl hk

def c70 : IC := IC.seq (IC.ops [I.mk none (some 1) (Ef.bxh 94) [X.t 0], I.mk none (some 2) (Ef.pr Pr.mv) [X.c Value.nilFunc]]) 
  (IC.seq (IC.ops [I.mk none (some 3) (Ef.pr (Pr.mkf (Fn.func 97) 0)) [X.t 1], I.mk none (some 2) (Ef.pr Pr.mv) [X.t 3]]) IC.ret)

theorem k70 : Go.Proofs.Try.f70.body.bind (comp Go.Proofs.Try.prog 4 [] []) = some c70 := by kernel_rfl

theorem r70 : cRVs Go.Proofs.Try.prog Go.Proofs.Try.f70.results.toList = some [RV.t 2] := by kernel_rfl

theorem e70 {args : List Value} {h : Hp} {Q : Value → Hp → Prop} (hl : Nat.ble args.length 4 = true) (hk : codeK PR none c70 (retK Q [RV.t 2]) (fun _ _ _ _ => False) (retK Q [RV.t 2]) (argsE 0 args) [] h) : Ok PR 70 args h Q :=
  Ok.of mixed Go.Proofs.Try.func70 rfl k70 r70 hl hk

def c71 : IC := IC.seq (IC.ops [I.mk none (some 2) (Ef.pr Pr.mv) [X.c (Value.slice none 0 0)]]) 
  (IC.seq 
  (IC.seq (IC.ops [I.mk none (some 3) (Ef.pr Pr.mv) [X.t 0], I.mk none (some 4) (Ef.pr (Pr.eq false (EqT.one EqS.sl))) [X.t 3, X.c (Value.slice none 0 0)]]) 
  (IC.cond (X.t 4) 
  (IC.seq (IC.ops [I.mk none (some 2) (Ef.pr Pr.mv) [X.c (Value.slice none 0 0)]]) IC.ret) IC.skip)) 
  (IC.seq (IC.ops [I.mk none (some 5) (Ef.bsl [Value.int IntKind.i64 0] 3 0 1 []) [], I.mk none (some 6) (Ef.pr Pr.mv) [X.t 0], I.mk none (some 7) (Ef.app [Value.int IntKind.i64 0] 3 8) [X.t 5, X.t 6], I.mk none (some 2) (Ef.pr Pr.mv) [X.t 7]]) IC.ret))

theorem k71 : Go.Proofs.Try.f71.body.bind (comp Go.Proofs.Try.prog 8 [] []) = some c71 := by kernel_rfl

theorem r71 : cRVs Go.Proofs.Try.prog Go.Proofs.Try.f71.results.toList = some [RV.t 2] := by kernel_rfl

theorem e71 {args : List Value} {h : Hp} {Q : Value → Hp → Prop} (hl : Nat.ble args.length 8 = true) (hk : codeK PR none c71 (retK Q [RV.t 2]) (fun _ _ _ _ => False) (retK Q [RV.t 2]) (argsE 0 args) [] h) : Ok PR 71 args h Q :=
  Ok.of mixed Go.Proofs.Try.func71 rfl k71 r71 hl hk

def c90 : IC := IC.seq (IC.ops [I.mk none (some 2) (Ef.pr Pr.mv) [X.c (Value.pointer none)]]) 
  (IC.seq (IC.ops [I.mk none (some 3) (Ef.pr Pr.mv) [X.t 0], I.mk none (some 4) (Ef.pr Pr.max2) [X.t 3, X.c (Value.int IntKind.i64 0)], I.mk none (some 5) (Ef.pr Pr.min2) [X.t 4, X.c (Value.int IntKind.i64 4096)], I.mk none (some 6) (Ef.mks [Value.bool false, Value.pointer none] 124 16) [X.t 5, X.t 5], I.mk none (some 7) (Ef.pr (Pr.bld [Value.slice none 0 0, Value.int IntKind.i64 0, Value.int IntKind.i64 0] [(0, 1)])) [X.t 6], I.mk none (some 8) (Ef.bxh 122) [X.t 7], I.mk none (some 2) (Ef.pr Pr.mv) [X.t 8]]) IC.ret)

theorem k90 : Go.Proofs.Try.f90.body.bind (comp Go.Proofs.Try.prog 9 [] []) = some c90 := by kernel_rfl

theorem r90 : cRVs Go.Proofs.Try.prog Go.Proofs.Try.f90.results.toList = some [RV.t 2] := by kernel_rfl

theorem e90 {args : List Value} {h : Hp} {Q : Value → Hp → Prop} (hl : Nat.ble args.length 9 = true) (hk : codeK PR none c90 (retK Q [RV.t 2]) (fun _ _ _ _ => False) (retK Q [RV.t 2]) (argsE 0 args) [] h) : Ok PR 90 args h Q :=
  Ok.of mixed Go.Proofs.Try.func90 rfl k90 r90 hl hk

def c91 : IC := IC.seq (IC.ops [I.mk none (some 2) (Ef.pr Pr.mv) [X.c (Value.int IntKind.i64 0)]]) 
  (IC.seq (IC.ops [I.mk none (some 3) (Ef.pr Pr.mv) [X.t 0], I.mk none (some 4) (Ef.pr Pr.max2) [X.t 3, X.c (Value.int IntKind.i64 0)], I.mk none (some 5) (Ef.pr Pr.min2) [X.t 4, X.c (Value.int IntKind.i64 4611686018427387903)], I.mk none (some 2) (Ef.pr Pr.mv) [X.t 5]]) IC.ret)

theorem k91 : Go.Proofs.Try.f91.body.bind (comp Go.Proofs.Try.prog 6 [] []) = some c91 := by kernel_rfl

theorem r91 : cRVs Go.Proofs.Try.prog Go.Proofs.Try.f91.results.toList = some [RV.t 2] := by kernel_rfl

theorem e91 {args : List Value} {h : Hp} {Q : Value → Hp → Prop} (hl : Nat.ble args.length 6 = true) (hk : codeK PR none c91 (retK Q [RV.t 2]) (fun _ _ _ _ => False) (retK Q [RV.t 2]) (argsE 0 args) [] h) : Ok PR 91 args h Q :=
  Ok.of mixed Go.Proofs.Try.func91 rfl k91 r91 hl hk

def c92 : IC := IC.seq (IC.ops [I.mk none (some 4) (Ef.pr Pr.mv) [X.c (Value.pointer none)], I.mk none (some 5) (Ef.pr Pr.mv) [X.c (Value.bool false)]]) 
  (IC.seq 
  (IC.seq (IC.ops [I.mk none (some 7) (Ef.pr Pr.mv) [X.t 0], I.mk none (some 8) (Ef.pr Pr.mv) [X.t 1], I.mk none (some 9) (Ef.call 96) [X.t 7, X.t 8], I.mk none (some 10) (Ef.pr (Pr.un UnOp.not)) [X.t 9]]) 
  (IC.cond (X.t 10) 
  (IC.seq (IC.ops [I.mk none (some 6) (Ef.pr Pr.mv) [X.c (Value.pointer none)]]) 
  (IC.seq (IC.ops [I.mk none (some 11) (Ef.pr Pr.mv) [X.t 6], I.mk none (some 4) (Ef.pr Pr.mv) [X.t 11], I.mk none (some 5) (Ef.pr Pr.mv) [X.c (Value.bool false)]]) IC.ret)) IC.skip)) 
  (IC.seq (IC.ops [I.mk none (some 12) (Ef.pr Pr.mv) [X.t 0], I.mk none (some 13) (Ef.pr Pr.nilc) [X.t 12], I.mk none (some 14) (Ef.pr (Pr.fa 0)) [X.t 13], I.mk none (some 15) (Ef.pr (Pr.ld 1 false)) [X.t 14], I.mk none (some 16) (Ef.pr Pr.mv) [X.t 1], I.mk none (some 17) (Ef.pr (Pr.iaS 2)) [X.t 15, X.t 16], I.mk none (some 18) (Ef.pr (Pr.fa 1)) [X.t 17], I.mk none (some 19) (Ef.pr (Pr.ld 1 false)) [X.t 18], I.mk none (some 4) (Ef.pr Pr.mv) [X.t 19], I.mk none (some 5) (Ef.pr Pr.mv) [X.c (Value.bool true)]]) IC.ret))

theorem k92 : Go.Proofs.Try.f92.body.bind (comp Go.Proofs.Try.prog 20 [] []) = some c92 := by kernel_rfl

theorem r92 : cRVs Go.Proofs.Try.prog Go.Proofs.Try.f92.results.toList = some [RV.t 4, RV.t 5] := by kernel_rfl

theorem e92 {args : List Value} {h : Hp} {Q : Value → Hp → Prop} (hl : Nat.ble args.length 20 = true) (hk : codeK PR none c92 (retK Q [RV.t 4, RV.t 5]) (fun _ _ _ _ => False) (retK Q [RV.t 4, RV.t 5]) (argsE 0 args) [] h) : Ok PR 92 args h Q :=
  Ok.of mixed Go.Proofs.Try.func92 rfl k92 r92 hl hk

def c93 : IC := IC.seq (IC.ops [I.mk none (some 2) Ef.bx [X.t 0], I.mk none (some 3) Ef.bx [X.t 1], I.mk none (some 4) (Ef.al [Value.int IntKind.i64 0, Value.int IntKind.i64 0, Value.int IntKind.i64 0]) []]) 
  (IC.seq (IC.ops [I.mk none (some 5) (Ef.pr (Pr.fa 0)) [X.t 2], I.mk none (some 6) (Ef.pr (Pr.ld 1 false)) [X.t 5], I.mk none (some 7) (Ef.pr (Pr.fa 0)) [X.t 3], I.mk none (some 8) (Ef.pr (Pr.ld 1 false)) [X.t 7], I.mk none (some 9) (Ef.pr (Pr.ar BinOp.sub)) [X.t 6, X.t 8], I.mk none (some 10) (Ef.pr (Pr.fa 1)) [X.t 2], I.mk none (some 11) (Ef.pr (Pr.ld 1 false)) [X.t 10], I.mk none (some 12) (Ef.pr (Pr.fa 1)) [X.t 3], I.mk none (some 13) (Ef.pr (Pr.ld 1 false)) [X.t 12], I.mk none (some 14) (Ef.pr (Pr.ar BinOp.sub)) [X.t 11, X.t 13], I.mk none (some 15) (Ef.pr (Pr.fa 2)) [X.t 2], I.mk none (some 16) (Ef.pr (Pr.ld 1 false)) [X.t 15], I.mk none (some 17) (Ef.pr (Pr.fa 2)) [X.t 3], I.mk none (some 18) (Ef.pr (Pr.ld 1 false)) [X.t 17], I.mk none (some 19) (Ef.pr (Pr.ar BinOp.sub)) [X.t 16, X.t 18], I.mk none (some 20) (Ef.pr (Pr.bld [Value.int IntKind.i64 0, Value.int IntKind.i64 0, Value.int IntKind.i64 0] [(0, 1), (1, 1), (2, 1)])) [X.t 9, X.t 14, X.t 19], I.mk none none (Ef.st 3) [X.t 4, X.t 20]]) IC.ret)

theorem k93 : Go.Proofs.Try.f93.body.bind (comp Go.Proofs.Try.prog 21 [2, 3, 4] []) = some c93 := by kernel_rfl

theorem r93 : cRVs Go.Proofs.Try.prog Go.Proofs.Try.f93.results.toList = some [RV.c 4 3 true] := by kernel_rfl

theorem e93 {args : List Value} {h : Hp} {Q : Value → Hp → Prop} (hl : Nat.ble args.length 21 = true) (hk : codeK PR none c93 (retK Q [RV.c 4 3 true]) (fun _ _ _ _ => False) (retK Q [RV.c 4 3 true]) (argsE 0 args) [] h) : Ok PR 93 args h Q :=
  Ok.of mixed Go.Proofs.Try.func93 rfl k93 r93 hl hk

def c94 : IC := IC.seq (IC.ops [I.mk none (some 6) (Ef.pr Pr.mv) [X.t 0], I.mk none (some 7) (Ef.pr Pr.nilc) [X.t 6], I.mk none (some 8) (Ef.pr (Pr.fa 0)) [X.t 7], I.mk none (some 9) (Ef.pr (Pr.ld 1 false)) [X.t 8], I.mk none (some 10) (Ef.pr Pr.mv) [X.t 1], I.mk none (some 11) (Ef.pr Pr.mv) [X.t 2], I.mk none (some 12) (Ef.pr (Pr.bld [Value.bool false, Value.pointer none] [(0, 1), (1, 1)])) [X.c (Value.bool true), X.t 11], I.mk none (some 13) (Ef.pr (Pr.iaS 2)) [X.t 9, X.t 10], I.mk none none (Ef.st 2) [X.t 13, X.t 12]]) (IC.ops [I.mk none (some 14) (Ef.pr Pr.mv) [X.t 0], I.mk none (some 15) (Ef.pr Pr.nilc) [X.t 14], I.mk none (some 16) (Ef.pr (Pr.fa 1)) [X.t 15], I.mk none (some 17) (Ef.pr (Pr.ld 1 false)) [X.t 16], I.mk none (some 18) (Ef.pr (Pr.ar BinOp.add)) [X.t 17, X.c (Value.int IntKind.i64 1)], I.mk none (some 19) (Ef.pr Pr.nilc) [X.t 14], I.mk none (some 20) (Ef.pr (Pr.fa 1)) [X.t 19], I.mk none none (Ef.st 1) [X.t 20, X.t 18]])

theorem k94 : Go.Proofs.Try.f94.body.bind (comp Go.Proofs.Try.prog 21 [] []) = some c94 := by kernel_rfl

theorem r94 : cRVs Go.Proofs.Try.prog Go.Proofs.Try.f94.results.toList = some [] := by kernel_rfl

theorem e94 {args : List Value} {h : Hp} {Q : Value → Hp → Prop} (hl : Nat.ble args.length 21 = true) (hk : codeK PR none c94 (retK Q []) (fun _ _ _ _ => False) (retK Q []) (argsE 0 args) [] h) : Ok PR 94 args h Q :=
  Ok.of mixed Go.Proofs.Try.func94 rfl k94 r94 hl hk

def c95 : IC := IC.seq (IC.ops [I.mk none (some 2) Ef.bx [X.t 0], I.mk none (some 3) Ef.bx [X.t 1], I.mk none (some 4) (Ef.al [Value.int IntKind.i64 0, Value.int IntKind.i64 0, Value.int IntKind.i64 0]) []]) 
  (IC.seq (IC.ops [I.mk none (some 5) (Ef.pr (Pr.fa 0)) [X.t 2], I.mk none (some 6) (Ef.pr (Pr.ld 1 false)) [X.t 5], I.mk none (some 7) (Ef.pr (Pr.fa 0)) [X.t 3], I.mk none (some 8) (Ef.pr (Pr.ld 1 false)) [X.t 7], I.mk none (some 9) (Ef.pr (Pr.ar BinOp.add)) [X.t 6, X.t 8], I.mk none (some 10) (Ef.pr (Pr.fa 1)) [X.t 2], I.mk none (some 11) (Ef.pr (Pr.ld 1 false)) [X.t 10], I.mk none (some 12) (Ef.pr (Pr.fa 1)) [X.t 3], I.mk none (some 13) (Ef.pr (Pr.ld 1 false)) [X.t 12], I.mk none (some 14) (Ef.pr (Pr.ar BinOp.add)) [X.t 11, X.t 13], I.mk none (some 15) (Ef.pr (Pr.fa 2)) [X.t 2], I.mk none (some 16) (Ef.pr (Pr.ld 1 false)) [X.t 15], I.mk none (some 17) (Ef.pr (Pr.fa 2)) [X.t 3], I.mk none (some 18) (Ef.pr (Pr.ld 1 false)) [X.t 17], I.mk none (some 19) (Ef.pr (Pr.ar BinOp.add)) [X.t 16, X.t 18], I.mk none (some 20) (Ef.pr (Pr.bld [Value.int IntKind.i64 0, Value.int IntKind.i64 0, Value.int IntKind.i64 0] [(0, 1), (1, 1), (2, 1)])) [X.t 9, X.t 14, X.t 19], I.mk none none (Ef.st 3) [X.t 4, X.t 20]]) IC.ret)

theorem k95 : Go.Proofs.Try.f95.body.bind (comp Go.Proofs.Try.prog 21 [2, 3, 4] []) = some c95 := by kernel_rfl

theorem r95 : cRVs Go.Proofs.Try.prog Go.Proofs.Try.f95.results.toList = some [RV.c 4 3 true] := by kernel_rfl

theorem e95 {args : List Value} {h : Hp} {Q : Value → Hp → Prop} (hl : Nat.ble args.length 21 = true) (hk : codeK PR none c95 (retK Q [RV.c 4 3 true]) (fun _ _ _ _ => False) (retK Q [RV.c 4 3 true]) (argsE 0 args) [] h) : Ok PR 95 args h Q :=
  Ok.of mixed Go.Proofs.Try.func95 rfl k95 r95 hl hk

def c96 : IC := IC.seq (IC.ops [I.mk none (some 4) (Ef.pr Pr.mv) [X.c (Value.bool false)]]) 
  (IC.seq (IC.ops [I.mk none (some 5) (Ef.pr Pr.mv) [X.t 1], I.mk none (some 6) (Ef.pr (Pr.cm BinOp.geq)) [X.t 5, X.c (Value.int IntKind.i64 0)], I.mk none (some 7) (Ef.pr Pr.mv) [X.t 6], I.mk (some (7, true)) (some 8) (Ef.pr Pr.mv) [X.t 1], I.mk (some (7, true)) (some 9) (Ef.pr Pr.mv) [X.t 0], I.mk (some (7, true)) (some 10) (Ef.pr Pr.nilc) [X.t 9], I.mk (some (7, true)) (some 11) (Ef.pr (Pr.fa 0)) [X.t 10], I.mk (some (7, true)) (some 12) (Ef.pr (Pr.ld 1 false)) [X.t 11], I.mk (some (7, true)) (some 13) (Ef.pr Pr.lenS) [X.t 12], I.mk (some (7, true)) (some 14) (Ef.pr (Pr.cm BinOp.lss)) [X.t 8, X.t 13], I.mk none (some 15) (Ef.pr Pr.pick) [X.t 7, X.t 14, X.c (Value.bool false)], I.mk none (some 16) (Ef.pr Pr.mv) [X.t 15], I.mk (some (16, true)) (some 17) (Ef.pr Pr.mv) [X.t 0], I.mk (some (16, true)) (some 18) (Ef.pr Pr.nilc) [X.t 17], I.mk (some (16, true)) (some 19) (Ef.pr (Pr.fa 0)) [X.t 18], I.mk (some (16, true)) (some 20) (Ef.pr (Pr.ld 1 false)) [X.t 19], I.mk (some (16, true)) (some 21) (Ef.pr Pr.mv) [X.t 1], I.mk (some (16, true)) (some 22) (Ef.pr (Pr.iaS 2)) [X.t 20, X.t 21], I.mk (some (16, true)) (some 23) (Ef.pr (Pr.fa 0)) [X.t 22], I.mk (some (16, true)) (some 24) (Ef.pr (Pr.ld 1 false)) [X.t 23], I.mk none (some 25) (Ef.pr Pr.pick) [X.t 16, X.t 24, X.c (Value.bool false)], I.mk none (some 4) (Ef.pr Pr.mv) [X.t 25]]) IC.ret)

theorem k96 : Go.Proofs.Try.f96.body.bind (comp Go.Proofs.Try.prog 26 [] []) = some c96 := by kernel_rfl

theorem r96 : cRVs Go.Proofs.Try.prog Go.Proofs.Try.f96.results.toList = some [RV.t 4] := by kernel_rfl

theorem e96 {args : List Value} {h : Hp} {Q : Value → Hp → Prop} (hl : Nat.ble args.length 26 = true) (hk : codeK PR none c96 (retK Q [RV.t 4]) (fun _ _ _ _ => False) (retK Q [RV.t 4]) (argsE 0 args) [] h) : Ok PR 96 args h Q :=
  Ok.of mixed Go.Proofs.Try.func96 rfl k96 r96 hl hk

def c97 : IC := IC.seq (IC.ops [I.mk none (some 4) (Ef.pr (Pr.ld 1 false)) [X.t 1], I.mk none (some 5) (Ef.call 98) [X.t 4, X.c (Value.int IntKind.i64 0)], I.mk none (some 3) (Ef.pr Pr.mv) [X.t 5]]) 
  (IC.block 0 
  (IC.loop 
  (IC.seq 
  (IC.seq (IC.ops [I.mk none (some 6) (Ef.pr Pr.mv) [X.t 3], I.mk none (some 7) (Ef.pr (Pr.cm BinOp.geq)) [X.t 6, X.c (Value.int IntKind.i64 0)]]) 
  (IC.cond (X.t 7) IC.skip (IC.exit 0))) 
  (IC.seq 
  (IC.block 1 
  (IC.seq (IC.ops [I.mk none (some 12) (Ef.pr Pr.mv) [X.t 0], I.mk none (some 13) (Ef.pr Pr.mv) [X.t 3], I.mk none (some 14) (Ef.pr (Pr.ld 1 false)) [X.t 1], I.mk none (some 15) (Ef.pr Pr.nilc) [X.t 14], I.mk none (some 16) (Ef.pr (Pr.fa 0)) [X.t 15], I.mk none (some 17) (Ef.pr (Pr.ld 1 false)) [X.t 16], I.mk none (some 18) (Ef.pr Pr.mv) [X.t 3], I.mk none (some 19) (Ef.pr (Pr.iaS 2)) [X.t 17, X.t 18], I.mk none (some 20) (Ef.pr (Pr.fa 1)) [X.t 19], I.mk none (some 21) (Ef.pr (Pr.ld 1 false)) [X.t 20], I.mk none (some 22) Ef.callv [X.t 12, X.t 13, X.t 21], I.mk none (some 23) (Ef.pr (Pr.un UnOp.not)) [X.t 22]]) 
  (IC.cond (X.t 23) IC.ret IC.skip))) (IC.ops [I.mk none (some 8) (Ef.pr (Pr.ld 1 false)) [X.t 1], I.mk none (some 9) (Ef.pr Pr.mv) [X.t 3], I.mk none (some 10) (Ef.pr (Pr.ar BinOp.add)) [X.t 9, X.c (Value.int IntKind.i64 1)], I.mk none (some 11) (Ef.call 98) [X.t 8, X.t 10], I.mk none (some 3) (Ef.pr Pr.mv) [X.t 11]])))))

theorem k97 : Go.Proofs.Try.f97.body.bind (comp Go.Proofs.Try.prog 24 [] []) = some c97 := by kernel_rfl

theorem r97 : cRVs Go.Proofs.Try.prog Go.Proofs.Try.f97.results.toList = some [] := by kernel_rfl

theorem e97 {args : List Value} {h : Hp} {Q : Value → Hp → Prop} (hl : Nat.ble args.length 24 = true) (hk : codeK PR none c97 (retK Q []) (fun _ _ _ _ => False) (retK Q []) (argsE 0 args) [] h) : Ok PR 97 args h Q :=
  Ok.of mixed Go.Proofs.Try.func97 rfl k97 r97 hl hk

def c98 : IC := IC.seq (IC.ops [I.mk none (some 4) (Ef.pr Pr.mv) [X.c (Value.int IntKind.i64 0)]]) 
  (IC.seq 
  (IC.seq (IC.ops [I.mk none (some 6) (Ef.pr Pr.mv) [X.t 1], I.mk none (some 7) (Ef.pr Pr.max2) [X.t 6, X.c (Value.int IntKind.i64 0)], I.mk none (some 5) (Ef.pr Pr.mv) [X.t 7]]) 
  (IC.block 0 
  (IC.loop 
  (IC.seq 
  (IC.seq (IC.ops [I.mk none (some 8) (Ef.pr Pr.mv) [X.t 5], I.mk none (some 9) (Ef.pr Pr.mv) [X.t 0], I.mk none (some 10) (Ef.pr Pr.nilc) [X.t 9], I.mk none (some 11) (Ef.pr (Pr.fa 0)) [X.t 10], I.mk none (some 12) (Ef.pr (Pr.ld 1 false)) [X.t 11], I.mk none (some 13) (Ef.pr Pr.lenS) [X.t 12], I.mk none (some 14) (Ef.pr (Pr.cm BinOp.lss)) [X.t 8, X.t 13]]) 
  (IC.cond (X.t 14) IC.skip (IC.exit 0))) 
  (IC.seq 
  (IC.block 1 
  (IC.seq (IC.ops [I.mk none (some 17) (Ef.pr Pr.mv) [X.t 0], I.mk none (some 18) (Ef.pr Pr.nilc) [X.t 17], I.mk none (some 19) (Ef.pr (Pr.fa 0)) [X.t 18], I.mk none (some 20) (Ef.pr (Pr.ld 1 false)) [X.t 19], I.mk none (some 21) (Ef.pr Pr.mv) [X.t 5], I.mk none (some 22) (Ef.pr (Pr.iaS 2)) [X.t 20, X.t 21], I.mk none (some 23) (Ef.pr (Pr.fa 0)) [X.t 22], I.mk none (some 24) (Ef.pr (Pr.ld 1 false)) [X.t 23]]) 
  (IC.cond (X.t 24) 
  (IC.seq (IC.ops [I.mk none (some 25) (Ef.pr Pr.mv) [X.t 5], I.mk none (some 4) (Ef.pr Pr.mv) [X.t 25]]) IC.ret) IC.skip))) (IC.ops [I.mk none (some 15) (Ef.pr Pr.mv) [X.t 5], I.mk none (some 16) (Ef.pr (Pr.ar BinOp.add)) [X.t 15, X.c (Value.int IntKind.i64 1)], I.mk none (some 5) (Ef.pr Pr.mv) [X.t 16]])))))) 
  (IC.seq (IC.ops [I.mk none (some 4) (Ef.pr Pr.mv) [X.c (Value.int IntKind.i64 (-1))]]) IC.ret))

theorem k98 : Go.Proofs.Try.f98.body.bind (comp Go.Proofs.Try.prog 26 [] []) = some c98 := by kernel_rfl

theorem r98 : cRVs Go.Proofs.Try.prog Go.Proofs.Try.f98.results.toList = some [RV.t 4] := by kernel_rfl

theorem e98 {args : List Value} {h : Hp} {Q : Value → Hp → Prop} (hl : Nat.ble args.length 26 = true) (hk : codeK PR none c98 (retK Q [RV.t 4]) (fun _ _ _ _ => False) (retK Q [RV.t 4]) (argsE 0 args) [] h) : Ok PR 98 args h Q :=
  Ok.of mixed Go.Proofs.Try.func98 rfl k98 r98 hl hk

def c99 : IC := IC.seq (IC.ops [I.mk none (some 2) (Ef.pr Pr.mv) [X.c (Value.int IntKind.i64 0)]]) 
  (IC.seq 
  (IC.seq (IC.ops [I.mk none (some 3) (Ef.pr Pr.mv) [X.t 0], I.mk none (some 4) (Ef.pr (Pr.cm BinOp.lss)) [X.t 3, X.c (Value.int IntKind.i64 0)]]) 
  (IC.cond (X.t 4) 
  (IC.seq (IC.ops [I.mk none (some 2) (Ef.pr Pr.mv) [X.c (Value.int IntKind.i64 0)]]) IC.ret) IC.skip)) 
  (IC.seq 
  (IC.seq (IC.ops [I.mk none (some 5) (Ef.pr Pr.mv) [X.t 0], I.mk none (some 6) (Ef.pr (Pr.cm BinOp.gtr)) [X.t 5, X.c (Value.int IntKind.i64 4611686018427387903)]]) 
  (IC.cond (X.t 6) 
  (IC.seq (IC.ops [I.mk none (some 2) (Ef.pr Pr.mv) [X.c (Value.int IntKind.i64 4611686018427387903)]]) IC.ret) IC.skip)) 
  (IC.seq (IC.ops [I.mk none (some 7) (Ef.pr Pr.mv) [X.t 0], I.mk none (some 2) (Ef.pr Pr.mv) [X.t 7]]) IC.ret)))

theorem k99 : Go.Proofs.Try.f99.body.bind (comp Go.Proofs.Try.prog 8 [] []) = some c99 := by kernel_rfl

theorem r99 : cRVs Go.Proofs.Try.prog Go.Proofs.Try.f99.results.toList = some [RV.t 2] := by kernel_rfl

theorem e99 {args : List Value} {h : Hp} {Q : Value → Hp → Prop} (hl : Nat.ble args.length 8 = true) (hk : codeK PR none c99 (retK Q [RV.t 2]) (fun _ _ _ _ => False) (retK Q [RV.t 2]) (argsE 0 args) [] h) : Ok PR 99 args h Q :=
  Ok.of mixed Go.Proofs.Try.func99 rfl k99 r99 hl hk

def c100 : IC := IC.seq (IC.ops [I.mk none (some 4) (Ef.pr Pr.mv) [X.c (Value.int IntKind.i64 0)]]) 
  (IC.seq 
  (IC.seq (IC.ops [I.mk none (some 5) (Ef.pr Pr.mv) [X.c (Value.int IntKind.i64 0)]]) 
  (IC.block 0 
  (IC.loop 
  (IC.seq 
  (IC.seq (IC.ops [I.mk none (some 6) (Ef.pr Pr.mv) [X.t 5], I.mk none (some 7) (Ef.pr Pr.mv) [X.t 0], I.mk none (some 8) (Ef.pr Pr.nilc) [X.t 7], I.mk none (some 9) (Ef.pr (Pr.fa 0)) [X.t 8], I.mk none (some 10) (Ef.pr (Pr.ld 1 false)) [X.t 9], I.mk none (some 11) (Ef.pr Pr.lenS) [X.t 10], I.mk none (some 12) (Ef.pr (Pr.cm BinOp.lss)) [X.t 6, X.t 11]]) 
  (IC.cond (X.t 12) IC.skip (IC.exit 0))) 
  (IC.seq 
  (IC.block 1 
  (IC.seq (IC.ops [I.mk none (some 15) (Ef.pr Pr.mv) [X.t 0], I.mk none (some 16) (Ef.pr Pr.nilc) [X.t 15], I.mk none (some 17) (Ef.pr (Pr.fa 0)) [X.t 16], I.mk none (some 18) (Ef.pr (Pr.ld 1 false)) [X.t 17], I.mk none (some 19) (Ef.pr Pr.mv) [X.t 5], I.mk none (some 20) (Ef.pr (Pr.iaS 25)) [X.t 18, X.t 19], I.mk none (some 21) (Ef.pr (Pr.fa 0)) [X.t 20], I.mk none (some 22) (Ef.pr (Pr.ld 1 false)) [X.t 21], I.mk none (some 23) (Ef.pr Pr.mv) [X.t 1], I.mk none (some 24) (Ef.pr (Pr.cm BinOp.eql)) [X.t 22, X.t 23]]) 
  (IC.cond (X.t 24) 
  (IC.seq (IC.ops [I.mk none (some 25) (Ef.pr Pr.mv) [X.t 5], I.mk none (some 4) (Ef.pr Pr.mv) [X.t 25]]) IC.ret) IC.skip))) (IC.ops [I.mk none (some 13) (Ef.pr Pr.mv) [X.t 5], I.mk none (some 14) (Ef.pr (Pr.ar BinOp.add)) [X.t 13, X.c (Value.int IntKind.i64 1)], I.mk none (some 5) (Ef.pr Pr.mv) [X.t 14]])))))) 
  (IC.seq (IC.ops [I.mk none (some 4) (Ef.pr Pr.mv) [X.c (Value.int IntKind.i64 (-1))]]) IC.ret))

theorem k100 : Go.Proofs.Try.f100.body.bind (comp Go.Proofs.Try.prog 26 [] []) = some c100 := by kernel_rfl

theorem r100 : cRVs Go.Proofs.Try.prog Go.Proofs.Try.f100.results.toList = some [RV.t 4] := by kernel_rfl

theorem e100 {args : List Value} {h : Hp} {Q : Value → Hp → Prop} (hl : Nat.ble args.length 26 = true) (hk : codeK PR none c100 (retK Q [RV.t 4]) (fun _ _ _ _ => False) (retK Q [RV.t 4]) (argsE 0 args) [] h) : Ok PR 100 args h Q :=
  Ok.of mixed Go.Proofs.Try.func100 rfl k100 r100 hl hk

end Go.Proofs.Ytljenppmdhldbaa.V
