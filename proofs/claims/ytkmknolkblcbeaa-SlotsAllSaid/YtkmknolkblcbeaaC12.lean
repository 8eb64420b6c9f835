/- The functions 49, 51, 53, 54, 55, resolved. -/
import Derived.Test.YtkmknolkblcbeaaVP
namespace Go.Proofs.Ytkmknolkblcbeaa.V
set_option linter.unusedVariables false
set_option linter.unusedSimpArgs false
set_option linter.unusedSectionVars false
open Go
set_option maxRecDepth 100000

def c49 : IC := IC.seq (IC.ops [I.mk none (some 4) (Ef.pr Pr.mv) [X.c (Value.pointer none)], I.mk none (some 5) (Ef.pr Pr.mv) [X.c (Value.pointer none)]]) 
  (IC.seq (IC.ops [I.mk none (some 10) (Ef.pr Pr.mv) [X.t 0], I.mk none (some 11) (Ef.call 56) [X.t 10], I.mk none (some 6) (Ef.pr Pr.mv) [X.t 11]]) 
  (IC.seq (IC.ops [I.mk none (some 12) (Ef.pr Pr.mv) [X.t 0], I.mk none (some 13) (Ef.call 91) [X.t 12], I.mk none (some 7) (Ef.pr Pr.mv) [X.t 13]]) 
  (IC.seq 
  (IC.seq (IC.ops [I.mk none (some 14) (Ef.pr Pr.mv) [X.t 6], I.mk none (some 15) (Ef.pr (Pr.eq false (EqT.one EqS.p))) [X.t 14, X.c (Value.pointer none)]]) 
  (IC.cond (X.t 15) 
  (IC.seq (IC.ops [I.mk none (some 16) (Ef.pr Pr.mv) [X.t 6], I.mk none (some 17) (Ef.pr Pr.mv) [X.t 7], I.mk none (some 4) (Ef.pr Pr.mv) [X.t 16], I.mk none (some 5) (Ef.pr Pr.mv) [X.t 17]]) IC.ret) IC.skip)) 
  (IC.seq 
  (IC.seq (IC.ops [I.mk none (some 8) (Ef.pr Pr.mv) [X.c (Value.int IntKind.i64 0)]]) 
  (IC.block 0 
  (IC.loop 
  (IC.seq 
  (IC.seq (IC.ops [I.mk none (some 18) (Ef.pr Pr.mv) [X.t 8], I.mk none (some 19) (Ef.pr Pr.mv) [X.t 1], I.mk none (some 20) (Ef.pr Pr.lenS) [X.t 19], I.mk none (some 21) (Ef.pr (Pr.cm BinOp.lss)) [X.t 18, X.t 20]]) 
  (IC.cond (X.t 21) IC.skip (IC.exit 0))) 
  (IC.seq 
  (IC.block 1 
  (IC.seq (IC.ops [I.mk none (some 24) (Ef.pr Pr.mv) [X.t 1], I.mk none (some 25) (Ef.pr Pr.mv) [X.t 8], I.mk none (some 26) (Ef.pr (Pr.iaS 4)) [X.t 24, X.t 25], I.mk none (some 27) (Ef.pr (Pr.ld 4 true)) [X.t 26], I.mk none (some 9) (Ef.al [Value.int IntKind.i64 0, Value.int IntKind.i64 0, Value.int IntKind.i64 0, Value.int IntKind.i64 0]) [], I.mk none none (Ef.st 4) [X.t 9, X.t 27]]) 
  (IC.seq (IC.ops [I.mk none (some 28) (Ef.pr (Pr.fa 0)) [X.t 9], I.mk none (some 29) (Ef.pr (Pr.ld 1 false)) [X.t 28]]) 
  (IC.block 2 
  (IC.seq (IC.ops [I.mk none (some 31) (Ef.pr (Pr.cm BinOp.eql)) [X.t 29, X.c (Value.int IntKind.i64 1)], I.mk none (some 30) (Ef.pr Pr.mv) [X.t 31]]) 
  (IC.cond (X.t 30) 
  (IC.seq (IC.ops [I.mk none (some 32) (Ef.pr Pr.mv) [X.t 6], I.mk none (some 33) (Ef.pr (Pr.fa 3)) [X.t 9], I.mk none (some 34) (Ef.pr (Pr.ld 1 false)) [X.t 33], I.mk none (some 35) (Ef.call 57) [X.t 32, X.t 34]]) (IC.ops [I.mk none (some 36) (Ef.pr Pr.mv) [X.t 7], I.mk none (some 37) (Ef.pr (Pr.fa 3)) [X.t 9], I.mk none (some 38) (Ef.pr (Pr.ld 1 false)) [X.t 37], I.mk none (some 39) (Ef.call 92) [X.t 36, X.t 38]])) 
  (IC.seq (IC.ops [I.mk none (some 41) (Ef.pr (Pr.cm BinOp.eql)) [X.t 29, X.c (Value.int IntKind.i64 2)], I.mk none (some 40) (Ef.pr Pr.mv) [X.t 41]]) 
  (IC.cond (X.t 40) 
  (IC.seq (IC.ops [I.mk none (some 42) (Ef.pr Pr.mv) [X.t 6], I.mk none (some 43) (Ef.pr (Pr.fa 2)) [X.t 9], I.mk none (some 44) (Ef.pr (Pr.ld 1 false)) [X.t 43], I.mk none (some 45) (Ef.pr (Pr.fa 3)) [X.t 9], I.mk none (some 46) (Ef.pr (Pr.ld 1 false)) [X.t 45], I.mk none (some 47) (Ef.call 67) [X.t 42, X.t 44, X.t 46]]) (IC.ops [I.mk none (some 48) (Ef.pr Pr.mv) [X.t 7], I.mk none (some 49) (Ef.pr (Pr.fa 2)) [X.t 9], I.mk none (some 50) (Ef.pr (Pr.ld 1 false)) [X.t 49], I.mk none (some 51) (Ef.pr (Pr.fa 3)) [X.t 9], I.mk none (some 52) (Ef.pr (Pr.ld 1 false)) [X.t 51], I.mk none (some 53) (Ef.call 93) [X.t 48, X.t 50, X.t 52]])) 
  (IC.seq (IC.ops [I.mk none (some 55) (Ef.pr (Pr.cm BinOp.eql)) [X.t 29, X.c (Value.int IntKind.i64 5)], I.mk none (some 54) (Ef.pr Pr.mv) [X.t 55]]) 
  (IC.cond (X.t 54) 
  (IC.seq (IC.ops [I.mk none (some 56) (Ef.pr Pr.mv) [X.t 6], I.mk none (some 57) (Ef.pr (Pr.fa 2)) [X.t 9], I.mk none (some 58) (Ef.pr (Pr.ld 1 false)) [X.t 57], I.mk none (some 59) (Ef.call 68) [X.t 56, X.t 58]]) (IC.ops [I.mk none (some 60) (Ef.pr Pr.mv) [X.t 7], I.mk none (some 61) (Ef.pr (Pr.fa 2)) [X.t 9], I.mk none (some 62) (Ef.pr (Pr.ld 1 false)) [X.t 61], I.mk none (some 63) (Ef.call 94) [X.t 60, X.t 62]])) IC.skip)))))))))) (IC.ops [I.mk none (some 22) (Ef.pr Pr.mv) [X.t 8], I.mk none (some 23) (Ef.pr (Pr.ar BinOp.add)) [X.t 22, X.c (Value.int IntKind.i64 1)], I.mk none (some 8) (Ef.pr Pr.mv) [X.t 23]])))))) 
  (IC.seq (IC.ops [I.mk none (some 64) (Ef.pr Pr.mv) [X.t 6], I.mk none (some 65) (Ef.pr Pr.mv) [X.t 7], I.mk none (some 4) (Ef.pr Pr.mv) [X.t 64], I.mk none (some 5) (Ef.pr Pr.mv) [X.t 65]]) IC.ret)))))

theorem k49 : Go.Proofs.Try.f49.body.bind (comp Go.Proofs.Try.prog 66 [9] []) = some c49 := by kernel_rfl

theorem r49 : cRVs Go.Proofs.Try.prog Go.Proofs.Try.f49.results.toList = some [RV.t 4, RV.t 5] := by kernel_rfl

theorem e49 {args : List Value} {h : Hp} {Q : Value → Hp → Prop} (hl : Nat.ble args.length 66 = true) (hk : codeK PR none c49 (retK Q [RV.t 4, RV.t 5]) (fun _ _ _ _ => False) (retK Q [RV.t 4, RV.t 5]) (argsE 0 args) [] h) : Ok PR 49 args h Q :=
  Ok.of mixed Go.Proofs.Try.func49 rfl k49 r49 hl hk

def c51 : IC := IC.seq (IC.ops [I.mk none (some 4) (Ef.pr Pr.mv) [X.c (Value.slice none 0 0)]]) 
  (IC.seq (IC.ops [I.mk none (some 5) (Ef.pr Pr.mv) [X.c (Value.slice none 0 0)]]) 
  (IC.seq (IC.ops [I.mk none (some 11) (Ef.pr Pr.mv) [X.t 0], I.mk none (some 12) (Ef.call 96) [X.t 11, X.c (Value.int IntKind.i64 0)], I.mk none (some 6) (Ef.pr Pr.mv) [X.t 12]]) 
  (IC.seq 
  (IC.seq (IC.ops [I.mk none (some 7) (Ef.pr Pr.mv) [X.c (Value.int IntKind.i64 0)]]) 
  (IC.block 0 
  (IC.loop 
  (IC.seq 
  (IC.seq (IC.ops [I.mk none (some 13) (Ef.pr Pr.mv) [X.t 6], I.mk none (some 14) (Ef.pr (Pr.cm BinOp.geq)) [X.t 13, X.c (Value.int IntKind.i64 0)]]) 
  (IC.cond (X.t 14) IC.skip (IC.exit 0))) 
  (IC.seq 
  (IC.block 1 
  (IC.seq (IC.ops [I.mk none (some 18) (Ef.pr Pr.mv) [X.t 0], I.mk none (some 19) (Ef.pr Pr.mv) [X.t 6], I.mk none (some 20) (Ef.call 97) [X.t 18, X.t 19], I.mk none (some 17) (Ef.pr Pr.mv) [X.t 20], I.mk none (some 21) (Ef.pr (Pr.ext 0)) [X.t 17], I.mk none (some 22) (Ef.pr (Pr.ext 1)) [X.t 17], I.mk none (some 8) (Ef.pr Pr.mv) [X.t 21], I.mk none (some 9) (Ef.pr Pr.mv) [X.t 22]]) 
  (IC.seq (IC.ops [I.mk none (some 23) (Ef.pr Pr.mv) [X.t 5], I.mk none (some 24) (Ef.pr Pr.mv) [X.t 6], I.mk none (some 25) (Ef.pr Pr.mv) [X.t 8], I.mk none (some 26) (Ef.pr (Pr.bld [Value.int IntKind.i64 0, Value.int IntKind.i64 0] [(0, 1), (1, 1)])) [X.t 24, X.t 25], I.mk none (some 27) (Ef.bsl [Value.int IntKind.i64 0, Value.int IntKind.i64 0] 84 1 2 [0]) [X.t 26], I.mk none (some 28) (Ef.app [Value.int IntKind.i64 0, Value.int IntKind.i64 0] 84 16) [X.t 23, X.t 27], I.mk none (some 5) (Ef.pr Pr.mv) [X.t 28]]) 
  (IC.seq (IC.ops [I.mk none (some 29) (Ef.pr Pr.mv) [X.t 0], I.mk none (some 30) (Ef.pr Pr.mv) [X.t 1], I.mk none (some 31) (Ef.pr Pr.mv) [X.t 7], I.mk none (some 32) (Ef.call 54) [X.t 29, X.t 30, X.t 31], I.mk none (some 10) (Ef.pr Pr.mv) [X.t 32]]) 
  (IC.seq 
  (IC.seq (IC.ops [I.mk none (some 33) (Ef.pr Pr.mv) [X.t 10]]) 
  (IC.cond (X.t 33) (IC.exit 0) IC.skip)) (IC.ops [I.mk none (some 34) (Ef.pr Pr.mv) [X.t 0], I.mk none (some 35) (Ef.pr Pr.mv) [X.t 6], I.mk none (some 36) (Ef.pr (Pr.ar BinOp.add)) [X.t 35, X.c (Value.int IntKind.i64 1)], I.mk none (some 37) (Ef.call 96) [X.t 34, X.t 36], I.mk none (some 6) (Ef.pr Pr.mv) [X.t 37]])))))) (IC.ops [I.mk none (some 15) (Ef.pr Pr.mv) [X.t 7], I.mk none (some 16) (Ef.pr (Pr.ar BinOp.add)) [X.t 15, X.c (Value.int IntKind.i64 1)], I.mk none (some 7) (Ef.pr Pr.mv) [X.t 16]])))))) 
  (IC.seq (IC.ops [I.mk none (some 38) (Ef.pr Pr.mv) [X.t 5], I.mk none (some 4) (Ef.pr Pr.mv) [X.t 38]]) IC.ret))))

theorem k51 : Go.Proofs.Try.f51.body.bind (comp Go.Proofs.Try.prog 39 [] []) = some c51 := by kernel_rfl

theorem r51 : cRVs Go.Proofs.Try.prog Go.Proofs.Try.f51.results.toList = some [RV.t 4] := by kernel_rfl

theorem e51 {args : List Value} {h : Hp} {Q : Value → Hp → Prop} (hl : Nat.ble args.length 39 = true) (hk : codeK PR none c51 (retK Q [RV.t 4]) (fun _ _ _ _ => False) (retK Q [RV.t 4]) (argsE 0 args) [] h) : Ok PR 51 args h Q :=
  Ok.of mixed Go.Proofs.Try.func51 rfl k51 r51 hl hk

def c53 : IC := IC.seq (IC.ops [I.mk none (some 6) (Ef.pr Pr.mv) [X.c (Value.bool false)], I.mk none (some 7) (Ef.pr Pr.mv) [X.c (Value.int IntKind.i64 0)]]) 
  (IC.seq (IC.ops [I.mk none (some 8) (Ef.pr Pr.mv) [X.c (Value.bool false)]]) 
  (IC.seq (IC.ops [I.mk none (some 9) (Ef.pr Pr.mv) [X.c (Value.int IntKind.i64 0)]]) 
  (IC.seq 
  (IC.seq (IC.ops [I.mk none (some 10) (Ef.pr Pr.mv) [X.c (Value.int IntKind.i64 0)]]) 
  (IC.block 0 
  (IC.loop 
  (IC.seq 
  (IC.seq (IC.ops [I.mk none (some 12) (Ef.pr Pr.mv) [X.t 10], I.mk none (some 13) (Ef.pr Pr.mv) [X.t 1], I.mk none (some 14) (Ef.pr Pr.lenS) [X.t 13], I.mk none (some 15) (Ef.pr (Pr.cm BinOp.lss)) [X.t 12, X.t 14]]) 
  (IC.cond (X.t 15) IC.skip (IC.exit 0))) 
  (IC.seq 
  (IC.block 1 
  (IC.seq (IC.ops [I.mk none (some 18) (Ef.pr Pr.mv) [X.t 1], I.mk none (some 19) (Ef.pr Pr.mv) [X.t 10], I.mk none (some 20) (Ef.pr (Pr.iaS 4)) [X.t 18, X.t 19], I.mk none (some 21) (Ef.pr (Pr.ld 4 true)) [X.t 20], I.mk none (some 11) (Ef.al [Value.int IntKind.i64 0, Value.int IntKind.i64 0, Value.int IntKind.i64 0, Value.int IntKind.i64 0]) [], I.mk none none (Ef.st 4) [X.t 11, X.t 21]]) 
  (IC.seq 
  (IC.seq (IC.ops [I.mk none (some 22) (Ef.pr (Pr.fa 0)) [X.t 11], I.mk none (some 23) (Ef.pr (Pr.ld 1 false)) [X.t 22], I.mk none (some 24) (Ef.pr Pr.mv) [X.t 2], I.mk none (some 25) (Ef.pr (Pr.cm BinOp.neq)) [X.t 23, X.t 24]]) 
  (IC.cond (X.t 25) (IC.exit 1) IC.skip)) 
  (IC.seq (IC.ops [I.mk none (some 26) (Ef.pr (Pr.fa 1)) [X.t 11], I.mk none (some 27) (Ef.pr (Pr.ld 1 false)) [X.t 26]]) 
  (IC.block 2 
  (IC.seq (IC.ops [I.mk none (some 29) (Ef.pr (Pr.cm BinOp.eql)) [X.t 27, X.c (Value.int IntKind.i64 1)], I.mk none (some 28) (Ef.pr Pr.mv) [X.t 29]]) 
  (IC.cond (X.t 28) (IC.ops [I.mk none (some 30) (Ef.pr Pr.mv) [X.t 0], I.mk none (some 31) (Ef.pr (Pr.fa 3)) [X.t 11], I.mk none (some 32) (Ef.pr (Pr.ld 1 false)) [X.t 31], I.mk none (some 33) (Ef.call 57) [X.t 30, X.t 32]]) 
  (IC.seq (IC.ops [I.mk none (some 35) (Ef.pr (Pr.cm BinOp.eql)) [X.t 27, X.c (Value.int IntKind.i64 2)], I.mk none (some 34) (Ef.pr Pr.mv) [X.t 35]]) 
  (IC.cond (X.t 34) (IC.ops [I.mk none (some 36) (Ef.pr Pr.mv) [X.t 0], I.mk none (some 37) (Ef.pr (Pr.fa 2)) [X.t 11], I.mk none (some 38) (Ef.pr (Pr.ld 1 false)) [X.t 37], I.mk none (some 39) (Ef.pr (Pr.fa 3)) [X.t 11], I.mk none (some 40) (Ef.pr (Pr.ld 1 false)) [X.t 39], I.mk none (some 41) (Ef.call 67) [X.t 36, X.t 38, X.t 40]]) 
  (IC.seq (IC.ops [I.mk none (some 43) (Ef.pr (Pr.cm BinOp.eql)) [X.t 27, X.c (Value.int IntKind.i64 4)], I.mk none (some 42) (Ef.pr Pr.mv) [X.t 43]]) 
  (IC.cond (X.t 42) (IC.ops [I.mk none (some 44) (Ef.pr Pr.mv) [X.t 0], I.mk none (some 45) (Ef.pr (Pr.fa 2)) [X.t 11], I.mk none (some 46) (Ef.pr (Pr.ld 1 false)) [X.t 45], I.mk none (some 47) (Ef.pr (Pr.fa 3)) [X.t 11], I.mk none (some 48) (Ef.pr (Pr.ld 1 false)) [X.t 47], I.mk none (some 49) (Ef.call 64) [X.t 44, X.t 46, X.t 48]]) 
  (IC.seq (IC.ops [I.mk none (some 51) (Ef.pr (Pr.cm BinOp.eql)) [X.t 27, X.c (Value.int IntKind.i64 5)], I.mk none (some 50) (Ef.pr Pr.mv) [X.t 51]]) 
  (IC.cond (X.t 50) (IC.ops [I.mk none (some 52) (Ef.pr Pr.mv) [X.t 0], I.mk none (some 53) (Ef.pr (Pr.fa 2)) [X.t 11], I.mk none (some 54) (Ef.pr (Pr.ld 1 false)) [X.t 53], I.mk none (some 55) (Ef.call 68) [X.t 52, X.t 54]]) 
  (IC.seq (IC.ops [I.mk none (some 57) (Ef.pr (Pr.cm BinOp.eql)) [X.t 27, X.c (Value.int IntKind.i64 7)], I.mk none (some 56) (Ef.pr Pr.mv) [X.t 57]]) 
  (IC.cond (X.t 56) (IC.ops [I.mk none (some 58) (Ef.pr Pr.mv) [X.t 0], I.mk none (some 59) (Ef.call 65) [X.t 58]]) 
  (IC.seq (IC.ops [I.mk none (some 61) (Ef.pr (Pr.cm BinOp.eql)) [X.t 27, X.c (Value.int IntKind.i64 12)], I.mk none (some 60) (Ef.pr Pr.mv) [X.t 61]]) 
  (IC.cond (X.t 60) (IC.ops [I.mk none (some 62) (Ef.pr Pr.mv) [X.t 9], I.mk none (some 63) (Ef.pr (Pr.ar BinOp.add)) [X.t 62, X.c (Value.int IntKind.i64 1)], I.mk none (some 9) (Ef.pr Pr.mv) [X.t 63]]) 
  (IC.seq (IC.ops [I.mk none (some 65) (Ef.pr (Pr.cm BinOp.eql)) [X.t 27, X.c (Value.int IntKind.i64 11)], I.mk none (some 64) (Ef.pr Pr.mv) [X.t 65]]) 
  (IC.cond (X.t 64) (IC.ops [I.mk none (some 8) (Ef.pr Pr.mv) [X.c (Value.bool true)]]) IC.skip))))))))))))))))))) (IC.ops [I.mk none (some 16) (Ef.pr Pr.mv) [X.t 10], I.mk none (some 17) (Ef.pr (Pr.ar BinOp.add)) [X.t 16, X.c (Value.int IntKind.i64 1)], I.mk none (some 10) (Ef.pr Pr.mv) [X.t 17]])))))) 
  (IC.seq (IC.ops [I.mk none (some 66) (Ef.pr Pr.mv) [X.t 8], I.mk none (some 67) (Ef.pr Pr.mv) [X.t 9], I.mk none (some 6) (Ef.pr Pr.mv) [X.t 66], I.mk none (some 7) (Ef.pr Pr.mv) [X.t 67]]) IC.ret))))

theorem k53 : Go.Proofs.Try.f53.body.bind (comp Go.Proofs.Try.prog 68 [11] []) = some c53 := by kernel_rfl

theorem r53 : cRVs Go.Proofs.Try.prog Go.Proofs.Try.f53.results.toList = some [RV.t 6, RV.t 7] := by kernel_rfl

theorem e53 {args : List Value} {h : Hp} {Q : Value → Hp → Prop} (hl : Nat.ble args.length 68 = true) (hk : codeK PR none c53 (retK Q [RV.t 6, RV.t 7]) (fun _ _ _ _ => False) (retK Q [RV.t 6, RV.t 7]) (argsE 0 args) [] h) : Ok PR 53 args h Q :=
  Ok.of mixed Go.Proofs.Try.func53 rfl k53 r53 hl hk

def c54 : IC := IC.seq (IC.ops [I.mk none (some 6) (Ef.pr Pr.mv) [X.c (Value.bool false)]]) 
  (IC.seq (IC.ops [I.mk none (some 7) (Ef.pr Pr.mv) [X.c (Value.bool false)]]) 
  (IC.seq 
  (IC.seq (IC.ops [I.mk none (some 8) (Ef.pr Pr.mv) [X.c (Value.int IntKind.i64 0)]]) 
  (IC.block 0 
  (IC.loop 
  (IC.seq 
  (IC.seq (IC.ops [I.mk none (some 10) (Ef.pr Pr.mv) [X.t 8], I.mk none (some 11) (Ef.pr Pr.mv) [X.t 1], I.mk none (some 12) (Ef.pr Pr.lenS) [X.t 11], I.mk none (some 13) (Ef.pr (Pr.cm BinOp.lss)) [X.t 10, X.t 12]]) 
  (IC.cond (X.t 13) IC.skip (IC.exit 0))) 
  (IC.seq 
  (IC.block 1 
  (IC.seq (IC.ops [I.mk none (some 16) (Ef.pr Pr.mv) [X.t 1], I.mk none (some 17) (Ef.pr Pr.mv) [X.t 8], I.mk none (some 18) (Ef.pr (Pr.iaS 4)) [X.t 16, X.t 17], I.mk none (some 19) (Ef.pr (Pr.ld 4 true)) [X.t 18], I.mk none (some 9) (Ef.al [Value.int IntKind.i64 0, Value.int IntKind.i64 0, Value.int IntKind.i64 0, Value.int IntKind.i64 0]) [], I.mk none none (Ef.st 4) [X.t 9, X.t 19]]) 
  (IC.seq 
  (IC.seq (IC.ops [I.mk none (some 20) (Ef.pr (Pr.fa 0)) [X.t 9], I.mk none (some 21) (Ef.pr (Pr.ld 1 false)) [X.t 20], I.mk none (some 22) (Ef.pr Pr.mv) [X.t 2], I.mk none (some 23) (Ef.pr (Pr.cm BinOp.neq)) [X.t 21, X.t 22]]) 
  (IC.cond (X.t 23) (IC.exit 1) IC.skip)) 
  (IC.seq (IC.ops [I.mk none (some 24) (Ef.pr (Pr.fa 1)) [X.t 9], I.mk none (some 25) (Ef.pr (Pr.ld 1 false)) [X.t 24]]) 
  (IC.block 2 
  (IC.seq (IC.ops [I.mk none (some 27) (Ef.pr (Pr.cm BinOp.eql)) [X.t 25, X.c (Value.int IntKind.i64 1)], I.mk none (some 26) (Ef.pr Pr.mv) [X.t 27]]) 
  (IC.cond (X.t 26) (IC.ops [I.mk none (some 28) (Ef.pr Pr.mv) [X.t 0], I.mk none (some 29) (Ef.pr (Pr.fa 3)) [X.t 9], I.mk none (some 30) (Ef.pr (Pr.ld 1 false)) [X.t 29], I.mk none (some 31) (Ef.call 92) [X.t 28, X.t 30]]) 
  (IC.seq (IC.ops [I.mk none (some 33) (Ef.pr (Pr.cm BinOp.eql)) [X.t 25, X.c (Value.int IntKind.i64 2)], I.mk none (some 32) (Ef.pr Pr.mv) [X.t 33]]) 
  (IC.cond (X.t 32) (IC.ops [I.mk none (some 34) (Ef.pr Pr.mv) [X.t 0], I.mk none (some 35) (Ef.pr (Pr.fa 2)) [X.t 9], I.mk none (some 36) (Ef.pr (Pr.ld 1 false)) [X.t 35], I.mk none (some 37) (Ef.pr (Pr.fa 3)) [X.t 9], I.mk none (some 38) (Ef.pr (Pr.ld 1 false)) [X.t 37], I.mk none (some 39) (Ef.call 93) [X.t 34, X.t 36, X.t 38]]) 
  (IC.seq (IC.ops [I.mk none (some 41) (Ef.pr (Pr.cm BinOp.eql)) [X.t 25, X.c (Value.int IntKind.i64 4)], I.mk none (some 40) (Ef.pr Pr.mv) [X.t 41]]) 
  (IC.cond (X.t 40) (IC.ops [I.mk none (some 42) (Ef.pr Pr.mv) [X.t 0], I.mk none (some 43) (Ef.pr (Pr.fa 2)) [X.t 9], I.mk none (some 44) (Ef.pr (Pr.ld 1 false)) [X.t 43], I.mk none (some 45) (Ef.pr (Pr.fa 3)) [X.t 9], I.mk none (some 46) (Ef.pr (Pr.ld 1 false)) [X.t 45], I.mk none (some 47) (Ef.call 98) [X.t 42, X.t 44, X.t 46]]) 
  (IC.seq (IC.ops [I.mk none (some 49) (Ef.pr (Pr.cm BinOp.eql)) [X.t 25, X.c (Value.int IntKind.i64 5)], I.mk none (some 48) (Ef.pr Pr.mv) [X.t 49]]) 
  (IC.cond (X.t 48) (IC.ops [I.mk none (some 50) (Ef.pr Pr.mv) [X.t 0], I.mk none (some 51) (Ef.pr (Pr.fa 2)) [X.t 9], I.mk none (some 52) (Ef.pr (Pr.ld 1 false)) [X.t 51], I.mk none (some 53) (Ef.call 94) [X.t 50, X.t 52]]) 
  (IC.seq (IC.ops [I.mk none (some 55) (Ef.pr (Pr.cm BinOp.eql)) [X.t 25, X.c (Value.int IntKind.i64 7)], I.mk none (some 54) (Ef.pr Pr.mv) [X.t 55]]) 
  (IC.cond (X.t 54) (IC.ops [I.mk none (some 56) (Ef.pr Pr.mv) [X.t 0], I.mk none (some 57) (Ef.call 99) [X.t 56]]) 
  (IC.seq (IC.ops [I.mk none (some 59) (Ef.pr (Pr.cm BinOp.eql)) [X.t 25, X.c (Value.int IntKind.i64 11)], I.mk none (some 58) (Ef.pr Pr.mv) [X.t 59]]) 
  (IC.cond (X.t 58) (IC.ops [I.mk none (some 7) (Ef.pr Pr.mv) [X.c (Value.bool true)]]) IC.skip))))))))))))))))) (IC.ops [I.mk none (some 14) (Ef.pr Pr.mv) [X.t 8], I.mk none (some 15) (Ef.pr (Pr.ar BinOp.add)) [X.t 14, X.c (Value.int IntKind.i64 1)], I.mk none (some 8) (Ef.pr Pr.mv) [X.t 15]])))))) 
  (IC.seq (IC.ops [I.mk none (some 60) (Ef.pr Pr.mv) [X.t 7], I.mk none (some 6) (Ef.pr Pr.mv) [X.t 60]]) IC.ret)))

theorem k54 : Go.Proofs.Try.f54.body.bind (comp Go.Proofs.Try.prog 61 [9] []) = some c54 := by kernel_rfl

theorem r54 : cRVs Go.Proofs.Try.prog Go.Proofs.Try.f54.results.toList = some [RV.t 6] := by kernel_rfl

theorem e54 {args : List Value} {h : Hp} {Q : Value → Hp → Prop} (hl : Nat.ble args.length 61 = true) (hk : codeK PR none c54 (retK Q [RV.t 6]) (fun _ _ _ _ => False) (retK Q [RV.t 6]) (argsE 0 args) [] h) : Ok PR 54 args h Q :=
  Ok.of mixed Go.Proofs.Try.func54 rfl k54 r54 hl hk

def c55 : IC := IC.seq (IC.ops [I.mk none (some 4) (Ef.pr Pr.mv) [X.c (Value.bool false)]]) 
  (IC.seq 
  (IC.seq (IC.ops [I.mk none (some 5) (Ef.pr Pr.mv) [X.c (Value.int IntKind.i64 0)]]) 
  (IC.block 0 
  (IC.loop 
  (IC.seq 
  (IC.seq (IC.ops [I.mk none (some 10) (Ef.pr Pr.mv) [X.t 5], I.mk none (some 11) (Ef.pr Pr.mv) [X.t 1], I.mk none (some 12) (Ef.pr Pr.nilc) [X.t 11], I.mk none (some 13) (Ef.pr (Pr.fa 0)) [X.t 12], I.mk none (some 14) (Ef.pr (Pr.ld 1 false)) [X.t 13], I.mk none (some 15) (Ef.pr Pr.lenS) [X.t 14], I.mk none (some 16) (Ef.pr (Pr.cm BinOp.lss)) [X.t 10, X.t 15]]) 
  (IC.cond (X.t 16) IC.skip (IC.exit 0))) 
  (IC.seq 
  (IC.block 1 
  (IC.seq (IC.ops [I.mk none (some 20) (Ef.pr Pr.mv) [X.t 0], I.mk none (some 21) (Ef.pr Pr.mv) [X.t 5], I.mk none (some 22) (Ef.call 60) [X.t 20, X.t 21], I.mk none (some 19) (Ef.pr Pr.mv) [X.t 22], I.mk none (some 23) (Ef.pr (Pr.ext 0)) [X.t 19], I.mk none (some 24) (Ef.pr (Pr.ext 1)) [X.t 19], I.mk none (some 6) (Ef.pr Pr.mv) [X.t 23], I.mk none (some 7) (Ef.pr Pr.mv) [X.t 24]]) 
  (IC.seq (IC.ops [I.mk none (some 26) (Ef.pr Pr.mv) [X.t 1], I.mk none (some 27) (Ef.pr Pr.mv) [X.t 5], I.mk none (some 28) (Ef.call 97) [X.t 26, X.t 27], I.mk none (some 25) (Ef.pr Pr.mv) [X.t 28], I.mk none (some 29) (Ef.pr (Pr.ext 0)) [X.t 25], I.mk none (some 30) (Ef.pr (Pr.ext 1)) [X.t 25], I.mk none (some 8) (Ef.pr Pr.mv) [X.t 29], I.mk none (some 9) (Ef.pr Pr.mv) [X.t 30]]) 
  (IC.seq (IC.ops [I.mk none (some 31) (Ef.pr Pr.mv) [X.t 6], I.mk none (some 32) (Ef.pr Pr.mv) [X.t 8], I.mk none (some 33) (Ef.pr (Pr.cm BinOp.neq)) [X.t 31, X.t 32], I.mk none (some 34) (Ef.pr Pr.mv) [X.t 33], I.mk (some (34, false)) (some 35) (Ef.pr Pr.mv) [X.t 7], I.mk (some (34, false)) (some 36) (Ef.pr Pr.mv) [X.t 9], I.mk (some (34, false)) (some 37) (Ef.pr (Pr.eq true (EqT.one EqS.b))) [X.t 35, X.t 36], I.mk none (some 38) (Ef.pr Pr.pick) [X.t 34, X.c (Value.bool true), X.t 37]]) 
  (IC.cond (X.t 38) 
  (IC.seq (IC.ops [I.mk none (some 4) (Ef.pr Pr.mv) [X.c (Value.bool false)]]) IC.ret) IC.skip))))) (IC.ops [I.mk none (some 17) (Ef.pr Pr.mv) [X.t 5], I.mk none (some 18) (Ef.pr (Pr.ar BinOp.add)) [X.t 17, X.c (Value.int IntKind.i64 1)], I.mk none (some 5) (Ef.pr Pr.mv) [X.t 18]])))))) 
  (IC.seq (IC.ops [I.mk none (some 39) (Ef.pr Pr.mv) [X.t 0], I.mk none (some 40) (Ef.call 61) [X.t 39], I.mk none (some 41) (Ef.pr Pr.mv) [X.t 1], I.mk none (some 42) (Ef.call 100) [X.t 41], I.mk none (some 43) (Ef.pr (Pr.cm BinOp.eql)) [X.t 40, X.t 42], I.mk none (some 4) (Ef.pr Pr.mv) [X.t 43]]) IC.ret))

theorem k55 : Go.Proofs.Try.f55.body.bind (comp Go.Proofs.Try.prog 44 [] []) = some c55 := by kernel_rfl

theorem r55 : cRVs Go.Proofs.Try.prog Go.Proofs.Try.f55.results.toList = some [RV.t 4] := by kernel_rfl

theorem e55 {args : List Value} {h : Hp} {Q : Value → Hp → Prop} (hl : Nat.ble args.length 44 = true) (hk : codeK PR none c55 (retK Q [RV.t 4]) (fun _ _ _ _ => False) (retK Q [RV.t 4]) (argsE 0 args) [] h) : Ok PR 55 args h Q :=
  Ok.of mixed Go.Proofs.Try.func55 rfl k55 r55 hl hk

end Go.Proofs.Ytkmknolkblcbeaa.V
