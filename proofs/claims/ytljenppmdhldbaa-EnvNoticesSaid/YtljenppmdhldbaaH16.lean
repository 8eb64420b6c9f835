/- The functions 3, resolved. -/
import Derived.Test.YtljenppmdhldbaaVP
namespace Go.Proofs.Ytljenppmdhldbaa.V
set_option linter.unusedVariables false
set_option linter.unusedSimpArgs false
set_option linter.unusedSectionVars false
open Go
set_option maxRecDepth 100000

def c3 : IC := IC.seq (IC.ops [I.mk none (some 2) (Ef.pr Pr.mv) [X.c (Value.bool false)]]) 
  (IC.seq (IC.ops [I.mk none (some 15) (Ef.call 13) [], I.mk none (some 14) (Ef.pr Pr.mv) [X.t 15], I.mk none (some 16) (Ef.pr (Pr.ext 0)) [X.t 14], I.mk none (some 17) (Ef.pr (Pr.ext 1)) [X.t 14], I.mk none (some 3) (Ef.pr Pr.mv) [X.t 16], I.mk none (some 4) (Ef.pr Pr.mv) [X.t 17]]) 
  (IC.seq 
  (IC.seq (IC.ops [I.mk none (some 18) (Ef.pr Pr.mv) [X.t 3], I.mk none (some 19) (Ef.pr (Pr.eq false (EqT.one EqS.p))) [X.t 18, X.c (Value.pointer none)]]) 
  (IC.cond (X.t 19) 
  (IC.seq (IC.ops [I.mk none (some 2) (Ef.pr Pr.mv) [X.c (Value.bool false)]]) IC.ret) IC.skip)) 
  (IC.seq (IC.ops [I.mk none (some 20) (Ef.pr Pr.mv) [X.t 3], I.mk none (some 21) (Ef.call 14) [X.t 20, X.c (Value.int IntKind.i64 1), X.c (Value.int IntKind.i64 1), X.c (Value.int IntKind.i64 0)]]) 
  (IC.seq (IC.ops [I.mk none (some 22) (Ef.pr Pr.mv) [X.t 3], I.mk none (some 23) (Ef.pr (Pr.bld [Value.int IntKind.u32 0, Value.int IntKind.u32 0, Value.int IntKind.u32 0, Value.int IntKind.u32 0, Value.int IntKind.u32 0, Value.int IntKind.u32 0, Value.int IntKind.u32 0, Value.int IntKind.u32 0] [(0, 1), (1, 1), (2, 1), (3, 1), (4, 1), (5, 1), (6, 1), (7, 1)])) [X.c (Value.int IntKind.u32 9), X.c (Value.int IntKind.u32 9), X.c (Value.int IntKind.u32 9), X.c (Value.int IntKind.u32 9), X.c (Value.int IntKind.u32 9), X.c (Value.int IntKind.u32 9), X.c (Value.int IntKind.u32 9), X.c (Value.int IntKind.u32 9)], I.mk none (some 24) (Ef.pr (Pr.bld [Value.int IntKind.u32 0, Value.int IntKind.u32 0, Value.int IntKind.u32 0, Value.int IntKind.u32 0, Value.int IntKind.u32 0, Value.int IntKind.u32 0, Value.int IntKind.u32 0, Value.int IntKind.u32 0, Value.int IntKind.u32 0] [(0, 8), (8, 1)])) [X.t 23, X.c (Value.int IntKind.u32 77)], I.mk none (some 25) (Ef.call 15) [X.t 22, X.c (Value.int IntKind.i64 1), X.t 24]]) 
  (IC.seq (IC.ops [I.mk none (some 5) (Ef.pr Pr.mv) [X.c (Value.int IntKind.i64 0)]]) 
  (IC.seq (IC.ops [I.mk none (some 6) (Ef.pr Pr.mv) [X.c (Value.bool false)]]) 
  (IC.seq 
  (IC.seq (IC.ops [I.mk none (some 7) (Ef.pr Pr.mv) [X.c (Value.int IntKind.i64 0)]]) 
  (IC.block 0 
  (IC.loop 
  (IC.seq 
  (IC.seq (IC.ops [I.mk none (some 26) (Ef.pr Pr.mv) [X.t 7], I.mk none (some 27) (Ef.pr Pr.mv) [X.t 0], I.mk none (some 28) (Ef.pr Pr.lenS) [X.t 27], I.mk none (some 29) (Ef.pr (Pr.cm BinOp.lss)) [X.t 26, X.t 28]]) 
  (IC.cond (X.t 29) IC.skip (IC.exit 0))) 
  (IC.seq 
  (IC.block 1 
  (IC.seq (IC.ops [I.mk none (some 32) (Ef.pr Pr.mv) [X.t 0], I.mk none (some 33) (Ef.pr Pr.mv) [X.t 7], I.mk none (some 34) (Ef.pr (Pr.iaS 1)) [X.t 32, X.t 33], I.mk none (some 35) (Ef.pr (Pr.ld 1 false)) [X.t 34], I.mk none (some 8) (Ef.pr Pr.mv) [X.t 35]]) 
  (IC.seq 
  (IC.seq (IC.ops [I.mk none (some 36) (Ef.pr Pr.mv) [X.t 8], I.mk none (some 37) (Ef.pr (Pr.cm BinOp.lss)) [X.t 36, X.c (Value.int IntKind.i64 0)]]) 
  (IC.cond (X.t 37) 
  (IC.seq (IC.ops [I.mk none (some 39) (Ef.pr Pr.mv) [X.t 3], I.mk none (some 40) (Ef.call 16) [X.t 39, X.c (Value.int IntKind.i64 1)], I.mk none (some 38) (Ef.pr Pr.mv) [X.t 40], I.mk none (some 41) (Ef.pr (Pr.ext 0)) [X.t 38], I.mk none (some 42) (Ef.pr (Pr.ext 1)) [X.t 38], I.mk none (some 9) (Ef.pr Pr.mv) [X.t 41], I.mk none (some 10) (Ef.pr Pr.mv) [X.t 42]]) 
  (IC.seq 
  (IC.seq (IC.ops [I.mk none (some 43) (Ef.pr Pr.mv) [X.t 10], I.mk none (some 44) (Ef.pr (Pr.cm BinOp.neq)) [X.t 43, X.c (Value.int IntKind.i64 0)], I.mk none (some 45) (Ef.pr Pr.mv) [X.t 44], I.mk (some (45, false)) (some 46) (Ef.pr Pr.mv) [X.t 9], I.mk (some (45, false)) (some 47) (Ef.pr Pr.mv) [X.t 5], I.mk (some (45, false)) (some 48) (Ef.pr (Pr.cm BinOp.neq)) [X.t 46, X.t 47], I.mk none (some 49) (Ef.pr Pr.pick) [X.t 45, X.c (Value.bool true), X.t 48], I.mk none (some 50) (Ef.pr Pr.mv) [X.t 49], I.mk (some (50, false)) (some 51) (Ef.pr Pr.mv) [X.t 3], I.mk (some (50, false)) (some 52) (Ef.call 17) [X.t 51, X.c (Value.int IntKind.i64 1)], I.mk (some (50, false)) (some 53) (Ef.pr Pr.mv) [X.t 6], I.mk (some (50, false)) (some 54) (Ef.pr Pr.mv) [X.t 53], I.mk (some (54, false)) (some 55) (Ef.pr Pr.mv) [X.t 5], I.mk (some (54, false)) (some 56) (Ef.pr (Pr.cm BinOp.eql)) [X.t 55, X.c (Value.int IntKind.i64 0)], I.mk (some (50, false)) (some 57) (Ef.pr Pr.pick) [X.t 54, X.c (Value.bool true), X.t 56], I.mk (some (50, false)) (some 58) (Ef.pr (Pr.eq false (EqT.one EqS.b))) [X.t 52, X.t 57], I.mk none (some 59) (Ef.pr Pr.pick) [X.t 50, X.c (Value.bool true), X.t 58]]) 
  (IC.cond (X.t 59) 
  (IC.seq (IC.ops [I.mk none (some 2) (Ef.pr Pr.mv) [X.c (Value.bool false)]]) IC.ret) IC.skip)) 
  (IC.seq (IC.ops [I.mk none (some 60) (Ef.pr Pr.mv) [X.t 6], I.mk none (some 61) (Ef.pr Pr.mv) [X.t 60], I.mk (some (61, false)) (some 62) (Ef.pr Pr.mv) [X.t 5], I.mk (some (61, false)) (some 63) (Ef.pr (Pr.cm BinOp.eql)) [X.t 62, X.c (Value.int IntKind.i64 0)], I.mk none (some 64) (Ef.pr Pr.pick) [X.t 61, X.c (Value.bool true), X.t 63], I.mk none (some 6) (Ef.pr Pr.mv) [X.t 64]]) 
  (IC.seq (IC.ops [I.mk none (some 5) (Ef.pr Pr.mv) [X.c (Value.int IntKind.i64 0)]]) (IC.exit 1))))) IC.skip)) 
  (IC.seq (IC.ops [I.mk none (some 65) (Ef.pr Pr.mv) [X.t 3], I.mk none (some 66) (Ef.pr Pr.mv) [X.t 8], I.mk none (some 67) (Ef.call 18) [X.t 65, X.c (Value.int IntKind.i64 1), X.t 66], I.mk none (some 11) (Ef.pr Pr.mv) [X.t 67]]) 
  (IC.seq 
  (IC.seq (IC.ops [I.mk none (some 68) (Ef.pr Pr.mv) [X.t 8], I.mk none (some 69) (Ef.pr (Pr.cm BinOp.gtr)) [X.t 68, X.c (Value.int IntKind.i64 4294967295)]]) 
  (IC.cond (X.t 69) 
  (IC.seq 
  (IC.seq (IC.ops [I.mk none (some 70) (Ef.pr Pr.mv) [X.t 11], I.mk none (some 71) (Ef.pr (Pr.cm BinOp.neq)) [X.t 70, X.c (Value.int IntKind.i64 1)]]) 
  (IC.cond (X.t 71) 
  (IC.seq (IC.ops [I.mk none (some 2) (Ef.pr Pr.mv) [X.c (Value.bool false)]]) IC.ret) IC.skip)) (IC.exit 1)) IC.skip)) 
  (IC.seq (IC.ops [I.mk none (some 72) (Ef.pr Pr.mv) [X.t 5], I.mk none (some 73) (Ef.pr Pr.mv) [X.t 8], I.mk none (some 74) (Ef.pr (Pr.bt BinOp.or)) [X.t 72, X.t 73], I.mk none (some 5) (Ef.pr Pr.mv) [X.t 74]]) 
  (IC.seq (IC.ops [I.mk none (some 76) (Ef.pr Pr.mv) [X.t 3], I.mk none (some 77) (Ef.call 19) [X.t 76, X.c (Value.int IntKind.i64 1)], I.mk none (some 75) (Ef.pr Pr.mv) [X.t 77], I.mk none (some 78) (Ef.pr (Pr.ext 0)) [X.t 75], I.mk none (some 79) (Ef.pr (Pr.ext 1)) [X.t 75], I.mk none (some 12) (Ef.al [Value.int IntKind.i64 0, Value.int IntKind.i64 0, Value.int IntKind.i64 0, Value.int IntKind.i64 0, Value.int IntKind.i64 0, Value.bool false, Value.int IntKind.u32 0, Value.int IntKind.u32 0, Value.int IntKind.u32 0, Value.int IntKind.u32 0, Value.int IntKind.u32 0, Value.int IntKind.u32 0, Value.int IntKind.u32 0, Value.int IntKind.u32 0, Value.int IntKind.u32 0, Value.int IntKind.i64 0, Value.int IntKind.i64 0, Value.int IntKind.i64 0, Value.int IntKind.i64 0, Value.int IntKind.i64 0, Value.int IntKind.i64 0]) [], I.mk none none (Ef.st 21) [X.t 12, X.t 78], I.mk none (some 13) (Ef.pr Pr.mv) [X.t 79]]) 
  (IC.seq 
  (IC.seq (IC.ops [I.mk none (some 80) (Ef.pr Pr.mv) [X.t 11], I.mk none (some 81) (Ef.pr (Pr.cm BinOp.neq)) [X.t 80, X.c (Value.int IntKind.i64 0)], I.mk none (some 82) (Ef.pr Pr.mv) [X.t 81], I.mk (some (82, false)) (some 83) (Ef.pr Pr.mv) [X.t 13], I.mk (some (82, false)) (some 84) (Ef.pr (Pr.cm BinOp.neq)) [X.t 83, X.c (Value.int IntKind.i64 0)], I.mk none (some 85) (Ef.pr Pr.pick) [X.t 82, X.c (Value.bool true), X.t 84], I.mk none (some 86) (Ef.pr Pr.mv) [X.t 85], I.mk (some (86, false)) (some 87) (Ef.pr (Pr.fa 6)) [X.t 12], I.mk (some (86, false)) (some 88) (Ef.pr (Pr.fa 8)) [X.t 87], I.mk (some (86, false)) (some 89) (Ef.pr (Pr.ld 1 false)) [X.t 88], I.mk (some (86, false)) (some 90) (Ef.pr (Pr.cm BinOp.neq)) [X.t 89, X.c (Value.int IntKind.u32 77)], I.mk none (some 91) (Ef.pr Pr.pick) [X.t 86, X.c (Value.bool true), X.t 90], I.mk none (some 92) (Ef.pr Pr.mv) [X.t 91], I.mk (some (92, false)) (some 93) (Ef.pr (Pr.fa 6)) [X.t 12], I.mk (some (92, false)) (some 94) (Ef.pr (Pr.fa 0)) [X.t 93], I.mk (some (92, false)) (some 95) (Ef.pr (Pr.iaA 8 1)) [X.t 94, X.c (Value.int IntKind.i64 2)], I.mk (some (92, false)) (some 96) (Ef.pr (Pr.ld 1 false)) [X.t 95], I.mk (some (92, false)) (some 97) (Ef.pr (Pr.cm BinOp.neq)) [X.t 96, X.c (Value.int IntKind.u32 9)], I.mk none (some 98) (Ef.pr Pr.pick) [X.t 92, X.c (Value.bool true), X.t 97]]) 
  (IC.cond (X.t 98) 
  (IC.seq (IC.ops [I.mk none (some 2) (Ef.pr Pr.mv) [X.c (Value.bool false)]]) IC.ret) IC.skip)) 
  (IC.seq 
  (IC.seq (IC.ops [I.mk none (some 99) (Ef.pr Pr.mv) [X.t 6], I.mk none (some 100) (Ef.pr Pr.mv) [X.t 99], I.mk (some (100, true)) (some 101) (Ef.pr Pr.mv) [X.t 5], I.mk (some (100, true)) (some 102) (Ef.pr (Pr.cm BinOp.neq)) [X.t 101, X.c (Value.int IntKind.i64 0)], I.mk none (some 103) (Ef.pr Pr.pick) [X.t 100, X.t 102, X.c (Value.bool false)]]) 
  (IC.cond (X.t 103) 
  (IC.seq 
  (IC.seq (IC.ops [I.mk none (some 104) (Ef.pr (Pr.fa 2)) [X.t 12], I.mk none (some 105) (Ef.pr (Pr.ld 1 false)) [X.t 104], I.mk none (some 106) (Ef.pr (Pr.cm BinOp.neq)) [X.t 105, X.c (Value.int IntKind.i64 1)], I.mk none (some 107) (Ef.pr Pr.mv) [X.t 106], I.mk (some (107, false)) (some 108) (Ef.pr (Pr.fa 4)) [X.t 12], I.mk (some (107, false)) (some 109) (Ef.pr (Pr.ld 1 false)) [X.t 108], I.mk (some (107, false)) (some 110) (Ef.pr (Pr.cm BinOp.neq)) [X.t 109, X.c (Value.int IntKind.i64 0)], I.mk none (some 111) (Ef.pr Pr.pick) [X.t 107, X.c (Value.bool true), X.t 110], I.mk none (some 112) (Ef.pr Pr.mv) [X.t 111], I.mk (some (112, false)) (some 113) (Ef.pr (Pr.fa 6)) [X.t 12], I.mk (some (112, false)) (some 114) (Ef.pr (Pr.fa 0)) [X.t 113], I.mk (some (112, false)) (some 115) (Ef.pr (Pr.iaA 8 1)) [X.t 114, X.c (Value.int IntKind.i64 0)], I.mk (some (112, false)) (some 116) (Ef.pr (Pr.ld 1 false)) [X.t 115], I.mk (some (112, false)) (some 117) (Ef.pr (Pr.cm BinOp.neq)) [X.t 116, X.c (Value.int IntKind.u32 0)], I.mk none (some 118) (Ef.pr Pr.pick) [X.t 112, X.c (Value.bool true), X.t 117], I.mk none (some 119) (Ef.pr Pr.mv) [X.t 118], I.mk (some (119, false)) (some 120) (Ef.pr (Pr.fa 6)) [X.t 12], I.mk (some (119, false)) (some 121) (Ef.pr (Pr.fa 0)) [X.t 120], I.mk (some (119, false)) (some 122) (Ef.pr (Pr.iaA 8 1)) [X.t 121, X.c (Value.int IntKind.i64 1)], I.mk (some (119, false)) (some 123) (Ef.pr (Pr.ld 1 false)) [X.t 122], I.mk (some (119, false)) (some 124) (Ef.pr (Pr.cv IntKind.i64)) [X.t 123], I.mk (some (119, false)) (some 125) (Ef.pr Pr.mv) [X.t 5], I.mk (some (119, false)) (some 126) (Ef.pr (Pr.cm BinOp.neq)) [X.t 124, X.t 125], I.mk none (some 127) (Ef.pr Pr.pick) [X.t 119, X.c (Value.bool true), X.t 126]]) 
  (IC.cond (X.t 127) 
  (IC.seq (IC.ops [I.mk none (some 2) (Ef.pr Pr.mv) [X.c (Value.bool false)]]) IC.ret) IC.skip)) 
  (IC.seq (IC.ops [I.mk none (some 6) (Ef.pr Pr.mv) [X.c (Value.bool false)]]) (IC.ops [I.mk none (some 5) (Ef.pr Pr.mv) [X.c (Value.int IntKind.i64 0)]]))) IC.skip)) 
  (IC.seq (IC.ops [I.mk none (some 128) (Ef.pr (Pr.fa 4)) [X.t 12], I.mk none (some 129) (Ef.pr (Pr.ld 1 false)) [X.t 128], I.mk none (some 130) (Ef.pr Pr.mv) [X.t 5], I.mk none (some 131) (Ef.pr (Pr.cm BinOp.neq)) [X.t 129, X.t 130], I.mk none (some 132) (Ef.pr Pr.mv) [X.t 131], I.mk (some (132, false)) (some 133) (Ef.pr (Pr.fa 2)) [X.t 12], I.mk (some (132, false)) (some 134) (Ef.pr (Pr.ld 1 false)) [X.t 133], I.mk (some (132, false)) (some 135) (Ef.pr (Pr.cm BinOp.eql)) [X.t 134, X.c (Value.int IntKind.i64 2)], I.mk (some (132, false)) (some 136) (Ef.pr Pr.mv) [X.t 6], I.mk (some (132, false)) (some 137) (Ef.pr (Pr.eq true (EqT.one EqS.b))) [X.t 135, X.t 136], I.mk none (some 138) (Ef.pr Pr.pick) [X.t 132, X.c (Value.bool true), X.t 137]]) 
  (IC.cond (X.t 138) 
  (IC.seq (IC.ops [I.mk none (some 2) (Ef.pr Pr.mv) [X.c (Value.bool false)]]) IC.ret) IC.skip))))))))))) (IC.ops [I.mk none (some 30) (Ef.pr Pr.mv) [X.t 7], I.mk none (some 31) (Ef.pr (Pr.ar BinOp.add)) [X.t 30, X.c (Value.int IntKind.i64 1)], I.mk none (some 7) (Ef.pr Pr.mv) [X.t 31]])))))) 
  (IC.seq (IC.ops [I.mk none (some 2) (Ef.pr Pr.mv) [X.c (Value.bool true)]]) IC.ret))))))))

theorem k3 : Go.Proofs.Try.f3.body.bind (comp Go.Proofs.Try.prog 139 [12] []) = some c3 := by kernel_rfl

theorem r3 : cRVs Go.Proofs.Try.prog Go.Proofs.Try.f3.results.toList = some [RV.t 2] := by kernel_rfl

theorem e3 {args : List Value} {h : Hp} {Q : Value → Hp → Prop} (hl : Nat.ble args.length 139 = true) (hk : codeK PR none c3 (retK Q [RV.t 2]) (fun _ _ _ _ => False) (retK Q [RV.t 2]) (argsE 0 args) [] h) : Ok PR 3 args h Q :=
  Ok.of mixed Go.Proofs.Try.func3 rfl k3 r3 hl hk

end Go.Proofs.Ytljenppmdhldbaa.V
