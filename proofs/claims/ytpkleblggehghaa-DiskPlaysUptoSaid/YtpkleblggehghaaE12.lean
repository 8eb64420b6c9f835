/- The functions 9, 42, resolved. -/
import Derived.Test.YtpkleblggehghaaVP
namespace Go.Proofs.Ytpkleblggehghaa.V
set_option linter.unusedVariables false
set_option linter.unusedSimpArgs false
set_option linter.unusedSectionVars false
open Go
set_option maxRecDepth 100000

def c9 : IC := IC.seq (IC.ops [I.mk none (some 2) (Ef.pr Pr.mv) [X.c (Value.bool false)]]) 
  (IC.seq (IC.ops [I.mk none (some 16) (Ef.call 37) [], I.mk none (some 3) (Ef.pr Pr.mv) [X.t 16]]) 
  (IC.seq (IC.ops [I.mk none (some 17) (Ef.call 37) [], I.mk none (some 4) (Ef.pr Pr.mv) [X.t 17]]) 
  (IC.seq 
  (IC.seq (IC.ops [I.mk none (some 18) (Ef.pr Pr.mv) [X.t 3], I.mk none (some 19) (Ef.pr (Pr.eq false (EqT.one EqS.p))) [X.t 18, X.c (Value.pointer none)], I.mk none (some 20) (Ef.pr Pr.mv) [X.t 19], I.mk (some (20, false)) (some 21) (Ef.pr Pr.mv) [X.t 4], I.mk (some (20, false)) (some 22) (Ef.pr (Pr.eq false (EqT.one EqS.p))) [X.t 21, X.c (Value.pointer none)], I.mk none (some 23) (Ef.pr Pr.pick) [X.t 20, X.c (Value.bool true), X.t 22]]) 
  (IC.cond (X.t 23) 
  (IC.seq (IC.ops [I.mk none (some 2) (Ef.pr Pr.mv) [X.c (Value.bool false)]]) IC.ret) IC.skip)) 
  (IC.seq (IC.ops [I.mk none (some 24) (Ef.call 38) [], I.mk none (some 5) (Ef.pr Pr.mv) [X.t 24]]) 
  (IC.seq (IC.ops [I.mk none (some 25) (Ef.call 38) [], I.mk none (some 6) (Ef.pr Pr.mv) [X.t 25]]) 
  (IC.seq 
  (IC.seq (IC.ops [I.mk none (some 7) (Ef.pr Pr.mv) [X.c (Value.int IntKind.i64 0)]]) 
  (IC.block 0 
  (IC.loop 
  (IC.seq 
  (IC.seq (IC.ops [I.mk none (some 26) (Ef.pr Pr.mv) [X.t 7], I.mk none (some 27) (Ef.pr Pr.mv) [X.t 0], I.mk none (some 28) (Ef.pr Pr.lenS) [X.t 27], I.mk none (some 29) (Ef.pr (Pr.cm BinOp.lss)) [X.t 26, X.t 28]]) 
  (IC.cond (X.t 29) IC.skip (IC.exit 0))) 
  (IC.seq 
  (IC.block 1 
  (IC.seq (IC.ops [I.mk none (some 32) (Ef.pr Pr.mv) [X.t 0], I.mk none (some 33) (Ef.pr Pr.mv) [X.t 7], I.mk none (some 34) (Ef.pr (Pr.iaS 7)) [X.t 32, X.t 33], I.mk none (some 35) (Ef.pr (Pr.ld 7 true)) [X.t 34], I.mk none (some 8) (Ef.al [Value.int IntKind.i64 0, Value.bool false, Value.int IntKind.i64 0, Value.int IntKind.i64 0, Value.slice none 0 0, Value.bool false, Value.slice none 0 0]) [], I.mk none none (Ef.st 7) [X.t 8, X.t 35]]) 
  (IC.seq 
  (IC.seq (IC.ops [I.mk none (some 36) (Ef.pr (Pr.fa 0)) [X.t 8], I.mk none (some 37) (Ef.pr (Pr.ld 1 false)) [X.t 36], I.mk none (some 38) (Ef.pr (Pr.cm BinOp.eql)) [X.t 37, X.c (Value.int IntKind.i64 11)]]) 
  (IC.cond (X.t 38) 
  (IC.seq (IC.ops [I.mk none (some 39) (Ef.call 37) [], I.mk none (some 9) (Ef.pr Pr.mv) [X.t 39]]) 
  (IC.seq 
  (IC.seq (IC.ops [I.mk none (some 40) (Ef.pr Pr.mv) [X.t 9], I.mk none (some 41) (Ef.pr (Pr.eq false (EqT.one EqS.p))) [X.t 40, X.c (Value.pointer none)]]) 
  (IC.cond (X.t 41) 
  (IC.seq (IC.ops [I.mk none (some 2) (Ef.pr Pr.mv) [X.c (Value.bool false)]]) IC.ret) IC.skip)) 
  (IC.seq 
  (IC.seq (IC.ops [I.mk none (some 42) (Ef.pr (Pr.fa 1)) [X.t 8], I.mk none (some 43) (Ef.pr (Pr.ld 1 false)) [X.t 42]]) 
  (IC.cond (X.t 43) 
  (IC.seq (IC.ops [I.mk none (some 44) (Ef.pr Pr.mv) [X.t 9], I.mk none (some 4) (Ef.pr Pr.mv) [X.t 44]]) (IC.ops [I.mk none (some 45) (Ef.call 38) [], I.mk none (some 6) (Ef.pr Pr.mv) [X.t 45]])) 
  (IC.seq (IC.ops [I.mk none (some 46) (Ef.pr Pr.mv) [X.t 9], I.mk none (some 3) (Ef.pr Pr.mv) [X.t 46]]) (IC.ops [I.mk none (some 47) (Ef.call 38) [], I.mk none (some 5) (Ef.pr Pr.mv) [X.t 47]])))) (IC.exit 1)))) IC.skip)) 
  (IC.seq 
  (IC.seq (IC.ops [I.mk none (some 48) (Ef.pr (Pr.fa 0)) [X.t 8], I.mk none (some 49) (Ef.pr (Pr.ld 1 false)) [X.t 48], I.mk none (some 50) (Ef.pr (Pr.cm BinOp.eql)) [X.t 49, X.c (Value.int IntKind.i64 13)]]) 
  (IC.cond (X.t 50) 
  (IC.seq 
  (IC.seq (IC.ops [I.mk none (some 51) (Ef.pr (Pr.fa 1)) [X.t 8], I.mk none (some 52) (Ef.pr (Pr.ld 1 false)) [X.t 51]]) 
  (IC.cond (X.t 52) 
  (IC.seq (IC.ops [I.mk none (some 54) (Ef.pr Pr.mv) [X.t 3], I.mk none (some 55) (Ef.call 35) [X.t 54], I.mk none (some 56) (Ef.call 36) [X.t 55], I.mk none (some 53) (Ef.pr Pr.mv) [X.t 56], I.mk none (some 57) (Ef.pr (Pr.ext 0)) [X.t 53], I.mk none (some 58) (Ef.pr (Pr.ext 1)) [X.t 53], I.mk none (some 10) (Ef.pr Pr.mv) [X.t 57], I.mk none (some 11) (Ef.pr Pr.mv) [X.t 58]]) 
  (IC.seq 
  (IC.seq (IC.ops [I.mk none (some 59) (Ef.pr Pr.mv) [X.t 10], I.mk none (some 60) (Ef.pr (Pr.eq false (EqT.one EqS.p))) [X.t 59, X.c (Value.pointer none)], I.mk none (some 61) (Ef.pr Pr.mv) [X.t 60], I.mk (some (61, false)) (some 62) (Ef.pr Pr.mv) [X.t 11], I.mk (some (61, false)) (some 63) (Ef.pr (Pr.cm BinOp.neq)) [X.t 62, X.c (Value.int IntKind.i64 0)], I.mk none (some 64) (Ef.pr Pr.pick) [X.t 61, X.c (Value.bool true), X.t 63]]) 
  (IC.cond (X.t 64) 
  (IC.seq (IC.ops [I.mk none (some 2) (Ef.pr Pr.mv) [X.c (Value.bool false)]]) IC.ret) IC.skip)) 
  (IC.seq (IC.ops [I.mk none (some 65) (Ef.pr Pr.mv) [X.t 10], I.mk none (some 4) (Ef.pr Pr.mv) [X.t 65]]) (IC.ops [I.mk none (some 67) (Ef.pr Pr.mv) [X.t 5], I.mk none (some 68) (Ef.call 40) [X.t 67], I.mk none (some 69) (Ef.call 39) [X.t 68], I.mk none (some 66) (Ef.pr Pr.mv) [X.t 69], I.mk none (some 70) (Ef.pr (Pr.ext 0)) [X.t 66], I.mk none (some 71) (Ef.pr (Pr.ext 1)) [X.t 66], I.mk none (some 6) (Ef.pr Pr.mv) [X.t 70]])))) 
  (IC.seq (IC.ops [I.mk none (some 73) (Ef.pr Pr.mv) [X.t 4], I.mk none (some 74) (Ef.call 35) [X.t 73], I.mk none (some 75) (Ef.call 36) [X.t 74], I.mk none (some 72) (Ef.pr Pr.mv) [X.t 75], I.mk none (some 76) (Ef.pr (Pr.ext 0)) [X.t 72], I.mk none (some 77) (Ef.pr (Pr.ext 1)) [X.t 72], I.mk none (some 12) (Ef.pr Pr.mv) [X.t 76], I.mk none (some 13) (Ef.pr Pr.mv) [X.t 77]]) 
  (IC.seq 
  (IC.seq (IC.ops [I.mk none (some 78) (Ef.pr Pr.mv) [X.t 12], I.mk none (some 79) (Ef.pr (Pr.eq false (EqT.one EqS.p))) [X.t 78, X.c (Value.pointer none)], I.mk none (some 80) (Ef.pr Pr.mv) [X.t 79], I.mk (some (80, false)) (some 81) (Ef.pr Pr.mv) [X.t 13], I.mk (some (80, false)) (some 82) (Ef.pr (Pr.cm BinOp.neq)) [X.t 81, X.c (Value.int IntKind.i64 0)], I.mk none (some 83) (Ef.pr Pr.pick) [X.t 80, X.c (Value.bool true), X.t 82]]) 
  (IC.cond (X.t 83) 
  (IC.seq (IC.ops [I.mk none (some 2) (Ef.pr Pr.mv) [X.c (Value.bool false)]]) IC.ret) IC.skip)) 
  (IC.seq (IC.ops [I.mk none (some 84) (Ef.pr Pr.mv) [X.t 12], I.mk none (some 3) (Ef.pr Pr.mv) [X.t 84]]) (IC.ops [I.mk none (some 86) (Ef.pr Pr.mv) [X.t 6], I.mk none (some 87) (Ef.call 40) [X.t 86], I.mk none (some 88) (Ef.call 39) [X.t 87], I.mk none (some 85) (Ef.pr Pr.mv) [X.t 88], I.mk none (some 89) (Ef.pr (Pr.ext 0)) [X.t 85], I.mk none (some 90) (Ef.pr (Pr.ext 1)) [X.t 85], I.mk none (some 5) (Ef.pr Pr.mv) [X.t 89]])))))) (IC.exit 1)) IC.skip)) 
  (IC.seq (IC.ops [I.mk none (some 91) (Ef.pr Pr.mv) [X.t 3], I.mk none (some 92) (Ef.pr Pr.mv) [X.t 5], I.mk none (some 14) (Ef.pr Pr.mv) [X.t 91], I.mk none (some 15) (Ef.pr Pr.mv) [X.t 92]]) 
  (IC.cut 
  (IC.seq (IC.ops [I.mk none (some 93) (Ef.pr (Pr.fa 1)) [X.t 8], I.mk none (some 94) (Ef.pr (Pr.ld 1 false)) [X.t 93]]) 
  (IC.cond (X.t 94) (IC.ops [I.mk none (some 95) (Ef.pr Pr.mv) [X.t 4], I.mk none (some 96) (Ef.pr Pr.mv) [X.t 6], I.mk none (some 14) (Ef.pr Pr.mv) [X.t 95], I.mk none (some 15) (Ef.pr Pr.mv) [X.t 96]]) IC.skip)) 
  (IC.seq (IC.ops [I.mk none (some 97) (Ef.pr Pr.mv) [X.t 14], I.mk none (some 98) (Ef.pr Pr.mv) [X.t 15], I.mk none (some 99) (Ef.pr (Pr.ld 7 true)) [X.t 8], I.mk none (some 100) (Ef.call 41) [X.t 97, X.t 98, X.t 99], I.mk none (some 101) (Ef.pr (Pr.un UnOp.not)) [X.t 100]]) 
  (IC.cond (X.t 101) 
  (IC.seq (IC.ops [I.mk none (some 2) (Ef.pr Pr.mv) [X.c (Value.bool false)]]) IC.ret) IC.skip)))))))) (IC.ops [I.mk none (some 30) (Ef.pr Pr.mv) [X.t 7], I.mk none (some 31) (Ef.pr (Pr.ar BinOp.add)) [X.t 30, X.c (Value.int IntKind.i64 1)], I.mk none (some 7) (Ef.pr Pr.mv) [X.t 31]])))))) 
  (IC.seq (IC.ops [I.mk none (some 102) (Ef.pr Pr.mv) [X.t 3], I.mk none (some 103) (Ef.pr Pr.mv) [X.t 5], I.mk none (some 104) (Ef.pr Pr.mv) [X.t 0], I.mk none (some 105) (Ef.call 42) [X.t 102, X.t 103, X.t 104], I.mk none (some 106) (Ef.pr Pr.mv) [X.t 105], I.mk (some (106, true)) (some 107) (Ef.pr Pr.mv) [X.t 4], I.mk (some (106, true)) (some 108) (Ef.pr Pr.mv) [X.t 6], I.mk (some (106, true)) (some 109) (Ef.pr Pr.mv) [X.t 0], I.mk (some (106, true)) (some 110) (Ef.call 42) [X.t 107, X.t 108, X.t 109], I.mk none (some 111) (Ef.pr Pr.pick) [X.t 106, X.t 110, X.c (Value.bool false)], I.mk none (some 2) (Ef.pr Pr.mv) [X.t 111]]) IC.ret)))))))

theorem k9 : Go.Proofs.Try.f9.body.bind (comp Go.Proofs.Try.prog 112 [8] [35]) = some c9 := by kernel_rfl

theorem r9 : cRVs Go.Proofs.Try.prog Go.Proofs.Try.f9.results.toList = some [RV.t 2] := by kernel_rfl

theorem e9 {args : List Value} {h : Hp} {Q : Value → Hp → Prop} (hl : Nat.ble args.length 112 = true) (hk : codeK PR none c9 (retK Q [RV.t 2]) (fun _ _ _ _ => False) (retK Q [RV.t 2]) (argsE 0 args) [] h) : Ok PR 9 args h Q :=
  Ok.of mixed Go.Proofs.Try.func9 rfl k9 r9 hl hk

def c42 : IC := IC.seq (IC.ops [I.mk none (some 6) (Ef.pr Pr.mv) [X.c (Value.bool false)]]) 
  (IC.seq 
  (IC.seq (IC.ops [I.mk none (some 9) (Ef.pr Pr.mv) [X.t 0], I.mk none (some 10) (Ef.pr Pr.mv) [X.t 1], I.mk none (some 11) (Ef.pr (Pr.bld [Value.int IntKind.i64 0, Value.bool false, Value.int IntKind.i64 0, Value.int IntKind.i64 0, Value.slice none 0 0, Value.bool false, Value.slice none 0 0] [(0, 1)])) [X.c (Value.int IntKind.i64 4)], I.mk none (some 12) (Ef.call 58) [X.t 9, X.t 10, X.t 11], I.mk none (some 13) (Ef.pr (Pr.un UnOp.not)) [X.t 12], I.mk none (some 14) (Ef.pr Pr.mv) [X.t 13], I.mk (some (14, false)) (some 15) (Ef.pr Pr.mv) [X.t 0], I.mk (some (14, false)) (some 16) (Ef.pr Pr.mv) [X.t 1], I.mk (some (14, false)) (some 17) (Ef.pr (Pr.bld [Value.int IntKind.i64 0, Value.bool false, Value.int IntKind.i64 0, Value.int IntKind.i64 0, Value.slice none 0 0, Value.bool false, Value.slice none 0 0] [(0, 1)])) [X.c (Value.int IntKind.i64 6)], I.mk (some (14, false)) (some 18) (Ef.call 58) [X.t 15, X.t 16, X.t 17], I.mk (some (14, false)) (some 19) (Ef.pr (Pr.un UnOp.not)) [X.t 18], I.mk none (some 20) (Ef.pr Pr.pick) [X.t 14, X.c (Value.bool true), X.t 19], I.mk none (some 21) (Ef.pr Pr.mv) [X.t 20], I.mk (some (21, false)) (some 22) (Ef.pr Pr.mv) [X.t 0], I.mk (some (21, false)) (some 23) (Ef.pr Pr.mv) [X.t 1], I.mk (some (21, false)) (some 24) (Ef.pr (Pr.bld [Value.int IntKind.i64 0, Value.bool false, Value.int IntKind.i64 0, Value.int IntKind.i64 0, Value.slice none 0 0, Value.bool false, Value.slice none 0 0] [(0, 1)])) [X.c (Value.int IntKind.i64 10)], I.mk (some (21, false)) (some 25) (Ef.call 58) [X.t 22, X.t 23, X.t 24], I.mk (some (21, false)) (some 26) (Ef.pr (Pr.un UnOp.not)) [X.t 25], I.mk none (some 27) (Ef.pr Pr.pick) [X.t 21, X.c (Value.bool true), X.t 26]]) 
  (IC.cond (X.t 27) 
  (IC.seq (IC.ops [I.mk none (some 6) (Ef.pr Pr.mv) [X.c (Value.bool false)]]) IC.ret) IC.skip)) 
  (IC.seq 
  (IC.seq (IC.ops [I.mk none (some 7) (Ef.pr Pr.mv) [X.c (Value.int IntKind.i64 0)]]) 
  (IC.block 0 
  (IC.loop 
  (IC.seq 
  (IC.seq (IC.ops [I.mk none (some 28) (Ef.pr Pr.mv) [X.t 7], I.mk none (some 29) (Ef.pr Pr.mv) [X.t 2], I.mk none (some 30) (Ef.pr Pr.lenS) [X.t 29], I.mk none (some 31) (Ef.pr (Pr.ar BinOp.add)) [X.t 30, X.c (Value.int IntKind.i64 2)], I.mk none (some 32) (Ef.pr (Pr.cm BinOp.lss)) [X.t 28, X.t 31]]) 
  (IC.cond (X.t 32) IC.skip (IC.exit 0))) 
  (IC.seq 
  (IC.block 1 
  (IC.seq (IC.ops [I.mk none (some 35) (Ef.pr Pr.mv) [X.t 7], I.mk none (some 36) (Ef.pr Pr.mv) [X.t 2], I.mk none (some 37) (Ef.pr Pr.lenS) [X.t 36], I.mk none (some 38) (Ef.pr (Pr.ar BinOp.sub)) [X.t 35, X.t 37], I.mk none (some 39) (Ef.pr (Pr.ar BinOp.mul)) [X.c (Value.int IntKind.i64 1023), X.t 38], I.mk none (some 8) (Ef.pr Pr.mv) [X.t 39]]) 
  (IC.cut 
  (IC.seq (IC.ops [I.mk none (some 40) (Ef.pr Pr.mv) [X.t 7], I.mk none (some 41) (Ef.pr Pr.mv) [X.t 2], I.mk none (some 42) (Ef.pr Pr.lenS) [X.t 41], I.mk none (some 43) (Ef.pr (Pr.cm BinOp.lss)) [X.t 40, X.t 42]]) 
  (IC.cond (X.t 43) (IC.ops [I.mk none (some 44) (Ef.pr Pr.mv) [X.t 2], I.mk none (some 45) (Ef.pr Pr.mv) [X.t 7], I.mk none (some 46) (Ef.pr (Pr.iaS 7)) [X.t 44, X.t 45], I.mk none (some 47) (Ef.pr (Pr.fa 2)) [X.t 46], I.mk none (some 48) (Ef.pr (Pr.ld 1 false)) [X.t 47], I.mk none (some 8) (Ef.pr Pr.mv) [X.t 48]]) IC.skip)) 
  (IC.seq (IC.ops [I.mk none (some 49) (Ef.pr Pr.mv) [X.t 0], I.mk none (some 50) (Ef.pr Pr.mv) [X.t 1], I.mk none (some 51) (Ef.pr Pr.mv) [X.t 8], I.mk none (some 52) (Ef.pr (Pr.bld [Value.int IntKind.i64 0, Value.bool false, Value.int IntKind.i64 0, Value.int IntKind.i64 0, Value.slice none 0 0, Value.bool false, Value.slice none 0 0] [(0, 1), (2, 1)])) [X.c (Value.int IntKind.i64 1), X.t 51], I.mk none (some 53) (Ef.call 58) [X.t 49, X.t 50, X.t 52], I.mk none (some 54) (Ef.pr (Pr.un UnOp.not)) [X.t 53], I.mk none (some 55) (Ef.pr Pr.mv) [X.t 54], I.mk (some (55, false)) (some 56) (Ef.pr Pr.mv) [X.t 0], I.mk (some (55, false)) (some 57) (Ef.pr Pr.mv) [X.t 1], I.mk (some (55, false)) (some 58) (Ef.pr Pr.mv) [X.t 8], I.mk (some (55, false)) (some 59) (Ef.pr (Pr.bld [Value.int IntKind.i64 0, Value.bool false, Value.int IntKind.i64 0, Value.int IntKind.i64 0, Value.slice none 0 0, Value.bool false, Value.slice none 0 0] [(0, 1), (2, 1)])) [X.c (Value.int IntKind.i64 9), X.t 58], I.mk (some (55, false)) (some 60) (Ef.call 58) [X.t 56, X.t 57, X.t 59], I.mk (some (55, false)) (some 61) (Ef.pr (Pr.un UnOp.not)) [X.t 60], I.mk none (some 62) (Ef.pr Pr.pick) [X.t 55, X.c (Value.bool true), X.t 61]]) 
  (IC.cond (X.t 62) 
  (IC.seq (IC.ops [I.mk none (some 6) (Ef.pr Pr.mv) [X.c (Value.bool false)]]) IC.ret) IC.skip))))) (IC.ops [I.mk none (some 33) (Ef.pr Pr.mv) [X.t 7], I.mk none (some 34) (Ef.pr (Pr.ar BinOp.add)) [X.t 33, X.c (Value.int IntKind.i64 1)], I.mk none (some 7) (Ef.pr Pr.mv) [X.t 34]])))))) 
  (IC.seq (IC.ops [I.mk none (some 6) (Ef.pr Pr.mv) [X.c (Value.bool true)]]) IC.ret)))

theorem k42 : Go.Proofs.Try.f42.body.bind (comp Go.Proofs.Try.prog 63 [] [9]) = some c42 := by kernel_rfl

theorem r42 : cRVs Go.Proofs.Try.prog Go.Proofs.Try.f42.results.toList = some [RV.t 6] := by kernel_rfl

theorem e42 {args : List Value} {h : Hp} {Q : Value → Hp → Prop} (hl : Nat.ble args.length 63 = true) (hk : codeK PR none c42 (retK Q [RV.t 6]) (fun _ _ _ _ => False) (retK Q [RV.t 6]) (argsE 0 args) [] h) : Ok PR 42 args h Q :=
  Ok.of mixed Go.Proofs.Try.func42 rfl k42 r42 hl hk

end Go.Proofs.Ytpkleblggehghaa.V
