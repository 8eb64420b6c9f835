/- The functions 30, 33, 5, resolved. -/
import Derived.Test.YtkmknolkblcbeaaVP
namespace Go.Proofs.Ytkmknolkblcbeaa.V
set_option linter.unusedVariables false
set_option linter.unusedSimpArgs false
set_option linter.unusedSectionVars false
open Go
set_option maxRecDepth 100000

def c30 : IC := IC.seq (IC.ops [I.mk none (some 2) (Ef.pr Pr.mv) [X.c (Value.pointer none)]]) 
  (IC.seq (IC.ops [I.mk none (some 6) (Ef.call 21) [], I.mk none (some 3) (Ef.pr Pr.mv) [X.t 6]]) 
  (IC.seq 
  (IC.seq (IC.ops [I.mk none (some 7) (Ef.pr Pr.mv) [X.t 0], I.mk none (some 8) (Ef.pr Pr.nilc) [X.t 7], I.mk none (some 9) (Ef.pr (Pr.fa 0)) [X.t 8], I.mk none (some 10) (Ef.pr (Pr.ld 1 false)) [X.t 9], I.mk none (some 11) Ef.rng [X.t 10]]) 
  (IC.block 0 
  (IC.loop 
  (IC.seq (IC.ops [I.mk none (some 12) Ef.nxt [X.t 11], I.mk none (some 13) (Ef.pr (Pr.ext 0)) [X.t 12]]) 
  (IC.seq 
  (IC.cond (X.t 13) IC.skip (IC.exit 0)) 
  (IC.block 1 
  (IC.seq (IC.ops [I.mk none (some 14) Ef.ent [X.t 11], I.mk none (some 15) (Ef.pr (Pr.ext 0)) [X.t 14], I.mk none (some 16) (Ef.pr (Pr.ext 1)) [X.t 14], I.mk none (some 5) (Ef.al [Value.string (ByteArray.mk (Array.mk [])), Value.int IntKind.i64 0, Value.int IntKind.i64 0]) [], I.mk none (some 4) (Ef.pr Pr.mv) [X.t 15], I.mk none none (Ef.st 3) [X.t 5, X.t 16]]) 
  (IC.seq (IC.plan (Plan.q (I.mk none (some 17) (Ef.pr Pr.mv) [X.t 3]) (Plan.q (I.mk none (some 18) (Ef.pr Pr.nilc) [X.t 17]) (Plan.q (I.mk none (some 19) (Ef.pr (Pr.fa 0)) [X.t 18]) (Plan.q (I.mk none (some 20) (Ef.pr (Pr.ld 1 false)) [X.t 19]) (Plan.q (I.mk none (some 21) (Ef.pr (Pr.ld 3 true)) [X.t 5]) (Plan.q (I.mk none (some 22) (Ef.pr Pr.mv) [X.t 4]) (Plan.br (PlanL.cons false false (I.mk none none (Ef.mup (EqT.ag [(0, EqS.s), (1, EqS.i), (2, EqS.i)])) [X.t 20, X.t 21, X.t 22]) Plan.done PlanL.nil))))))))) (IC.plan (Plan.q (I.mk none (some 23) (Ef.pr Pr.mv) [X.t 3]) (Plan.q (I.mk none (some 24) (Ef.pr Pr.nilc) [X.t 23]) (Plan.q (I.mk none (some 25) (Ef.pr (Pr.fa 1)) [X.t 24]) (Plan.q (I.mk none (some 26) (Ef.pr (Pr.ld 1 false)) [X.t 25]) (Plan.q (I.mk none (some 27) (Ef.pr Pr.mv) [X.t 4]) (Plan.q (I.mk none (some 28) (Ef.pr (Pr.ld 3 true)) [X.t 5]) (Plan.br (PlanL.cons false false (I.mk none none (Ef.mup (EqT.one EqS.i)) [X.t 26, X.t 27, X.t 28]) Plan.done PlanL.nil))))))))))))))))) 
  (IC.seq (IC.ops [I.mk none (some 29) (Ef.pr Pr.mv) [X.t 3], I.mk none (some 2) (Ef.pr Pr.mv) [X.t 29]]) IC.ret)))

theorem k30 : Go.Proofs.Try.f30.body.bind (comp Go.Proofs.Try.prog 30 [5] []) = some c30 := by kernel_rfl

theorem r30 : cRVs Go.Proofs.Try.prog Go.Proofs.Try.f30.results.toList = some [RV.t 2] := by kernel_rfl

theorem e30 {args : List Value} {h : Hp} {Q : Value → Hp → Prop} (hl : Nat.ble args.length 30 = true) (hk : codeK PR none c30 (retK Q [RV.t 2]) (fun _ _ _ _ => False) (retK Q [RV.t 2]) (argsE 0 args) [] h) : Ok PR 30 args h Q :=
  Ok.of mixed Go.Proofs.Try.func30 rfl k30 r30 hl hk

def c33 : IC := IC.seq (IC.ops [I.mk none (some 2) (Ef.pr Pr.mv) [X.c (Value.pointer none)]]) 
  (IC.seq (IC.ops [I.mk none (some 6) (Ef.call 20) [], I.mk none (some 3) (Ef.pr Pr.mv) [X.t 6]]) 
  (IC.seq 
  (IC.seq (IC.ops [I.mk none (some 7) (Ef.pr Pr.mv) [X.t 0], I.mk none (some 8) (Ef.pr Pr.nilc) [X.t 7], I.mk none (some 9) (Ef.pr (Pr.fa 0)) [X.t 8], I.mk none (some 10) (Ef.pr (Pr.ld 1 false)) [X.t 9], I.mk none (some 11) Ef.rng [X.t 10]]) 
  (IC.block 0 
  (IC.loop 
  (IC.seq (IC.ops [I.mk none (some 12) Ef.nxt [X.t 11], I.mk none (some 13) (Ef.pr (Pr.ext 0)) [X.t 12]]) 
  (IC.seq 
  (IC.cond (X.t 13) IC.skip (IC.exit 0)) 
  (IC.block 1 
  (IC.seq (IC.ops [I.mk none (some 14) Ef.ent [X.t 11], I.mk none (some 15) (Ef.pr (Pr.ext 0)) [X.t 14], I.mk none (some 16) (Ef.pr (Pr.ext 1)) [X.t 14], I.mk none (some 4) (Ef.al [Value.string (ByteArray.mk (Array.mk [])), Value.int IntKind.i64 0, Value.int IntKind.i64 0]) [], I.mk none none (Ef.st 3) [X.t 4, X.t 15], I.mk none (some 5) (Ef.pr Pr.mv) [X.t 16]]) 
  (IC.seq (IC.plan (Plan.q (I.mk none (some 17) (Ef.pr Pr.mv) [X.t 3]) (Plan.q (I.mk none (some 18) (Ef.pr Pr.nilc) [X.t 17]) (Plan.q (I.mk none (some 19) (Ef.pr (Pr.fa 0)) [X.t 18]) (Plan.q (I.mk none (some 20) (Ef.pr (Pr.ld 1 false)) [X.t 19]) (Plan.q (I.mk none (some 21) (Ef.pr Pr.mv) [X.t 5]) (Plan.q (I.mk none (some 22) (Ef.pr (Pr.ld 3 true)) [X.t 4]) (Plan.br (PlanL.cons false false (I.mk none none (Ef.mup (EqT.one EqS.i)) [X.t 20, X.t 21, X.t 22]) Plan.done PlanL.nil))))))))) (IC.plan (Plan.q (I.mk none (some 23) (Ef.pr Pr.mv) [X.t 3]) (Plan.q (I.mk none (some 24) (Ef.pr Pr.nilc) [X.t 23]) (Plan.q (I.mk none (some 25) (Ef.pr (Pr.fa 1)) [X.t 24]) (Plan.q (I.mk none (some 26) (Ef.pr (Pr.ld 1 false)) [X.t 25]) (Plan.q (I.mk none (some 27) (Ef.pr (Pr.ld 3 true)) [X.t 4]) (Plan.q (I.mk none (some 28) (Ef.pr Pr.mv) [X.t 5]) (Plan.br (PlanL.cons false false (I.mk none none (Ef.mup (EqT.ag [(0, EqS.s), (1, EqS.i), (2, EqS.i)])) [X.t 26, X.t 27, X.t 28]) Plan.done PlanL.nil))))))))))))))))) 
  (IC.seq (IC.ops [I.mk none (some 29) (Ef.pr Pr.mv) [X.t 3], I.mk none (some 2) (Ef.pr Pr.mv) [X.t 29]]) IC.ret)))

theorem k33 : Go.Proofs.Try.f33.body.bind (comp Go.Proofs.Try.prog 30 [4] []) = some c33 := by kernel_rfl

theorem r33 : cRVs Go.Proofs.Try.prog Go.Proofs.Try.f33.results.toList = some [RV.t 2] := by kernel_rfl

theorem e33 {args : List Value} {h : Hp} {Q : Value → Hp → Prop} (hl : Nat.ble args.length 30 = true) (hk : codeK PR none c33 (retK Q [RV.t 2]) (fun _ _ _ _ => False) (retK Q [RV.t 2]) (argsE 0 args) [] h) : Ok PR 33 args h Q :=
  Ok.of mixed Go.Proofs.Try.func33 rfl k33 r33 hl hk

def c5 : IC := IC.seq (IC.ops [I.mk none (some 4) (Ef.pr Pr.mv) [X.c (Value.bool false)]]) 
  (IC.seq 
  (IC.seq (IC.ops [I.mk none (some 25) (Ef.call 12) [], I.mk none (some 26) (Ef.pr (Pr.un UnOp.not)) [X.t 25]]) 
  (IC.cond (X.t 26) 
  (IC.seq (IC.ops [I.mk none (some 4) (Ef.pr Pr.mv) [X.c (Value.bool false)]]) IC.ret) IC.skip)) 
  (IC.seq (IC.ops [I.mk none (some 27) (Ef.call 20) [], I.mk none (some 5) (Ef.pr Pr.mv) [X.t 27]]) 
  (IC.seq 
  (IC.seq (IC.ops [I.mk none (some 28) (Ef.pr Pr.mv) [X.t 5], I.mk none (some 29) (Ef.pr (Pr.eq false (EqT.one EqS.p))) [X.t 28, X.c (Value.pointer none)]]) 
  (IC.cond (X.t 29) 
  (IC.seq (IC.ops [I.mk none (some 4) (Ef.pr Pr.mv) [X.c (Value.bool false)]]) IC.ret) IC.skip)) 
  (IC.seq (IC.ops [I.mk none (some 30) (Ef.pr Pr.mv) [X.t 5], I.mk none (some 31) (Ef.call 28) [X.c (Value.int IntKind.i64 2)], I.mk none (some 32) (Ef.call 27) [X.t 30, X.c (Value.int IntKind.i64 1), X.t 31]]) 
  (IC.seq 
  (IC.seq (IC.ops [I.mk none (some 6) (Ef.pr Pr.mv) [X.c (Value.int IntKind.i64 0)]]) 
  (IC.block 0 
  (IC.loop 
  (IC.seq 
  (IC.seq (IC.ops [I.mk none (some 33) (Ef.pr Pr.mv) [X.t 6], I.mk none (some 34) (Ef.pr Pr.mv) [X.t 0], I.mk none (some 35) (Ef.pr Pr.lenS) [X.t 34], I.mk none (some 36) (Ef.pr (Pr.cm BinOp.lss)) [X.t 33, X.t 35]]) 
  (IC.cond (X.t 36) IC.skip (IC.exit 0))) 
  (IC.seq 
  (IC.block 1 
  (IC.seq (IC.ops [I.mk none (some 39) (Ef.pr Pr.mv) [X.t 0], I.mk none (some 40) (Ef.pr Pr.mv) [X.t 6], I.mk none (some 41) (Ef.pr (Pr.iaS 4)) [X.t 39, X.t 40], I.mk none (some 42) (Ef.pr (Pr.ld 4 true)) [X.t 41], I.mk none (some 7) (Ef.al [Value.int IntKind.i64 0, Value.int IntKind.i64 0, Value.int IntKind.i64 0, Value.int IntKind.i64 0]) [], I.mk none none (Ef.st 4) [X.t 7, X.t 42]]) 
  (IC.seq (IC.ops [I.mk none (some 43) (Ef.pr (Pr.fa 0)) [X.t 7], I.mk none (some 44) (Ef.pr (Pr.ld 1 false)) [X.t 43]]) 
  (IC.block 2 
  (IC.seq (IC.ops [I.mk none (some 46) (Ef.pr (Pr.cm BinOp.eql)) [X.t 44, X.c (Value.int IntKind.i64 1)], I.mk none (some 45) (Ef.pr Pr.mv) [X.t 46]]) 
  (IC.cond (X.t 45) (IC.plan (Plan.q (I.mk none (some 47) (Ef.pr Pr.mv) [X.t 5]) (Plan.q (I.mk none (some 48) (Ef.pr (Pr.fa 2)) [X.t 7]) (Plan.q (I.mk none (some 49) (Ef.pr (Pr.ld 1 false)) [X.t 48]) (Plan.q (I.mk none (some 50) (Ef.pr (Pr.fa 3)) [X.t 7]) (Plan.q (I.mk none (some 51) (Ef.pr (Pr.ld 1 false)) [X.t 50]) (Plan.br (PlanL.cons true false (I.mk none (some 52) (Ef.call 28) [X.t 51]) (Plan.br (PlanL.cons false false (I.mk none (some 53) (Ef.call 27) [X.t 47, X.t 49, X.t 52]) Plan.done PlanL.nil)) PlanL.nil)))))))) 
  (IC.seq (IC.ops [I.mk none (some 55) (Ef.pr (Pr.cm BinOp.eql)) [X.t 44, X.c (Value.int IntKind.i64 4)], I.mk none (some 54) (Ef.pr Pr.mv) [X.t 55]]) 
  (IC.cond (X.t 54) (IC.ops [I.mk none (some 56) (Ef.pr Pr.mv) [X.t 5], I.mk none (some 57) (Ef.pr (Pr.fa 2)) [X.t 7], I.mk none (some 58) (Ef.pr (Pr.ld 1 false)) [X.t 57], I.mk none (some 59) (Ef.call 29) [X.t 56, X.t 58]]) IC.skip)))))))) (IC.ops [I.mk none (some 37) (Ef.pr Pr.mv) [X.t 6], I.mk none (some 38) (Ef.pr (Pr.ar BinOp.add)) [X.t 37, X.c (Value.int IntKind.i64 1)], I.mk none (some 6) (Ef.pr Pr.mv) [X.t 38]])))))) 
  (IC.seq (IC.ops [I.mk none (some 60) (Ef.pr Pr.mv) [X.t 5], I.mk none (some 61) (Ef.call 30) [X.t 60], I.mk none (some 8) (Ef.pr Pr.mv) [X.t 61]]) 
  (IC.seq 
  (IC.seq (IC.ops [I.mk none (some 62) (Ef.pr Pr.mv) [X.t 8], I.mk none (some 63) (Ef.pr (Pr.eq false (EqT.one EqS.p))) [X.t 62, X.c (Value.pointer none)], I.mk none (some 64) (Ef.pr Pr.mv) [X.t 63], I.mk (some (64, false)) (some 65) (Ef.pr Pr.mv) [X.t 8], I.mk (some (64, false)) (some 66) (Ef.call 31) [X.t 65], I.mk (some (64, false)) (some 67) (Ef.pr Pr.mv) [X.t 5], I.mk (some (64, false)) (some 68) (Ef.call 32) [X.t 67], I.mk (some (64, false)) (some 69) (Ef.pr (Pr.cm BinOp.neq)) [X.t 66, X.t 68], I.mk none (some 70) (Ef.pr Pr.pick) [X.t 64, X.c (Value.bool true), X.t 69]]) 
  (IC.cond (X.t 70) 
  (IC.seq (IC.ops [I.mk none (some 4) (Ef.pr Pr.mv) [X.c (Value.bool false)]]) IC.ret) IC.skip)) 
  (IC.seq (IC.ops [I.mk none (some 71) (Ef.pr Pr.mv) [X.t 8], I.mk none (some 72) (Ef.call 33) [X.t 71], I.mk none (some 9) (Ef.pr Pr.mv) [X.t 72]]) 
  (IC.seq 
  (IC.seq (IC.ops [I.mk none (some 73) (Ef.pr Pr.mv) [X.t 9], I.mk none (some 74) (Ef.pr (Pr.eq false (EqT.one EqS.p))) [X.t 73, X.c (Value.pointer none)], I.mk none (some 75) (Ef.pr Pr.mv) [X.t 74], I.mk (some (75, false)) (some 76) (Ef.pr Pr.mv) [X.t 9], I.mk (some (75, false)) (some 77) (Ef.call 32) [X.t 76], I.mk (some (75, false)) (some 78) (Ef.pr Pr.mv) [X.t 5], I.mk (some (75, false)) (some 79) (Ef.call 32) [X.t 78], I.mk (some (75, false)) (some 80) (Ef.pr (Pr.cm BinOp.neq)) [X.t 77, X.t 79], I.mk none (some 81) (Ef.pr Pr.pick) [X.t 75, X.c (Value.bool true), X.t 80]]) 
  (IC.cond (X.t 81) 
  (IC.seq (IC.ops [I.mk none (some 4) (Ef.pr Pr.mv) [X.c (Value.bool false)]]) IC.ret) IC.skip)) 
  (IC.seq (IC.ops [I.mk none (some 82) (Ef.pr Pr.mv) [X.t 5], I.mk none (some 83) (Ef.call 32) [X.t 82], I.mk none (some 10) (Ef.pr Pr.mv) [X.t 83]]) 
  (IC.seq 
  (IC.seq (IC.ops [I.mk none (some 11) (Ef.pr Pr.mv) [X.c (Value.int IntKind.i64 0)]]) 
  (IC.block 3 
  (IC.loop 
  (IC.seq 
  (IC.seq (IC.ops [I.mk none (some 84) (Ef.pr Pr.mv) [X.t 11], I.mk none (some 85) (Ef.pr Pr.mv) [X.t 0], I.mk none (some 86) (Ef.pr Pr.lenS) [X.t 85], I.mk none (some 87) (Ef.pr (Pr.cm BinOp.lss)) [X.t 84, X.t 86]]) 
  (IC.cond (X.t 87) IC.skip (IC.exit 3))) 
  (IC.seq 
  (IC.block 4 
  (IC.seq (IC.ops [I.mk none (some 91) (Ef.pr Pr.mv) [X.t 5], I.mk none (some 92) (Ef.pr Pr.mv) [X.t 0], I.mk none (some 93) (Ef.pr Pr.mv) [X.t 11], I.mk none (some 94) (Ef.pr (Pr.iaS 4)) [X.t 92, X.t 93], I.mk none (some 95) (Ef.pr (Pr.fa 2)) [X.t 94], I.mk none (some 96) (Ef.pr (Pr.ld 1 false)) [X.t 95], I.mk none (some 97) (Ef.call 34) [X.t 91, X.t 96], I.mk none (some 90) (Ef.pr Pr.mv) [X.t 97], I.mk none (some 98) (Ef.pr (Pr.ext 0)) [X.t 90], I.mk none (some 99) (Ef.pr (Pr.ext 1)) [X.t 90], I.mk none (some 12) (Ef.al [Value.string (ByteArray.mk (Array.mk [])), Value.int IntKind.i64 0, Value.int IntKind.i64 0]) [], I.mk none none (Ef.st 3) [X.t 12, X.t 98], I.mk none (some 13) (Ef.pr Pr.mv) [X.t 99]]) 
  (IC.seq (IC.ops [I.mk none (some 101) (Ef.pr Pr.mv) [X.t 9], I.mk none (some 102) (Ef.pr Pr.mv) [X.t 0], I.mk none (some 103) (Ef.pr Pr.mv) [X.t 11], I.mk none (some 104) (Ef.pr (Pr.iaS 4)) [X.t 102, X.t 103], I.mk none (some 105) (Ef.pr (Pr.fa 2)) [X.t 104], I.mk none (some 106) (Ef.pr (Pr.ld 1 false)) [X.t 105], I.mk none (some 107) (Ef.call 34) [X.t 101, X.t 106], I.mk none (some 100) (Ef.pr Pr.mv) [X.t 107], I.mk none (some 108) (Ef.pr (Pr.ext 0)) [X.t 100], I.mk none (some 109) (Ef.pr (Pr.ext 1)) [X.t 100], I.mk none (some 14) (Ef.al [Value.string (ByteArray.mk (Array.mk [])), Value.int IntKind.i64 0, Value.int IntKind.i64 0]) [], I.mk none none (Ef.st 3) [X.t 14, X.t 108], I.mk none (some 15) (Ef.pr Pr.mv) [X.t 109]]) 
  (IC.seq (IC.ops [I.mk none (some 110) (Ef.pr (Pr.ld 3 true)) [X.t 12], I.mk none (some 111) (Ef.pr (Pr.ld 3 true)) [X.t 14], I.mk none (some 112) (Ef.pr (Pr.eq true (EqT.ag [(0, EqS.s), (1, EqS.i), (2, EqS.i)]))) [X.t 110, X.t 111], I.mk none (some 113) (Ef.pr Pr.mv) [X.t 112], I.mk (some (113, false)) (some 114) (Ef.pr Pr.mv) [X.t 13], I.mk (some (113, false)) (some 115) (Ef.pr Pr.mv) [X.t 15], I.mk (some (113, false)) (some 116) (Ef.pr (Pr.eq true (EqT.one EqS.b))) [X.t 114, X.t 115], I.mk none (some 117) (Ef.pr Pr.pick) [X.t 113, X.c (Value.bool true), X.t 116]]) 
  (IC.cond (X.t 117) 
  (IC.seq (IC.ops [I.mk none (some 4) (Ef.pr Pr.mv) [X.c (Value.bool false)]]) IC.ret) IC.skip))))) (IC.ops [I.mk none (some 88) (Ef.pr Pr.mv) [X.t 11], I.mk none (some 89) (Ef.pr (Pr.ar BinOp.add)) [X.t 88, X.c (Value.int IntKind.i64 1)], I.mk none (some 11) (Ef.pr Pr.mv) [X.t 89]])))))) 
  (IC.seq 
  (IC.seq (IC.ops [I.mk none (some 16) (Ef.pr Pr.mv) [X.c (Value.int IntKind.i64 0)]]) 
  (IC.block 5 
  (IC.loop 
  (IC.seq 
  (IC.seq (IC.ops [I.mk none (some 118) (Ef.pr Pr.mv) [X.t 16], I.mk none (some 119) (Ef.pr Pr.mv) [X.t 1], I.mk none (some 120) (Ef.pr Pr.lenS) [X.t 119], I.mk none (some 121) (Ef.pr (Pr.cm BinOp.lss)) [X.t 118, X.t 120]]) 
  (IC.cond (X.t 121) IC.skip (IC.exit 5))) 
  (IC.seq 
  (IC.block 6 
  (IC.seq (IC.ops [I.mk none (some 124) (Ef.pr Pr.mv) [X.t 1], I.mk none (some 125) (Ef.pr Pr.mv) [X.t 16], I.mk none (some 126) (Ef.pr (Pr.iaS 4)) [X.t 124, X.t 125], I.mk none (some 127) (Ef.pr (Pr.ld 4 true)) [X.t 126], I.mk none (some 17) (Ef.al [Value.int IntKind.i64 0, Value.int IntKind.i64 0, Value.int IntKind.i64 0, Value.int IntKind.i64 0]) [], I.mk none none (Ef.st 4) [X.t 17, X.t 127]]) 
  (IC.seq (IC.ops [I.mk none (some 128) (Ef.pr (Pr.fa 0)) [X.t 17], I.mk none (some 129) (Ef.pr (Pr.ld 1 false)) [X.t 128]]) 
  (IC.block 7 
  (IC.seq (IC.ops [I.mk none (some 131) (Ef.pr (Pr.cm BinOp.eql)) [X.t 129, X.c (Value.int IntKind.i64 1)], I.mk none (some 130) (Ef.pr Pr.mv) [X.t 131]]) 
  (IC.cond (X.t 130) (IC.plan (Plan.q (I.mk none (some 132) (Ef.pr Pr.mv) [X.t 9]) (Plan.q (I.mk none (some 133) (Ef.pr (Pr.fa 2)) [X.t 17]) (Plan.q (I.mk none (some 134) (Ef.pr (Pr.ld 1 false)) [X.t 133]) (Plan.q (I.mk none (some 135) (Ef.pr (Pr.fa 3)) [X.t 17]) (Plan.q (I.mk none (some 136) (Ef.pr (Pr.ld 1 false)) [X.t 135]) (Plan.br (PlanL.cons true false (I.mk none (some 137) (Ef.call 28) [X.t 136]) (Plan.br (PlanL.cons false false (I.mk none (some 138) (Ef.call 27) [X.t 132, X.t 134, X.t 137]) Plan.done PlanL.nil)) PlanL.nil)))))))) 
  (IC.seq (IC.ops [I.mk none (some 140) (Ef.pr (Pr.cm BinOp.eql)) [X.t 129, X.c (Value.int IntKind.i64 4)], I.mk none (some 139) (Ef.pr Pr.mv) [X.t 140]]) 
  (IC.cond (X.t 139) (IC.ops [I.mk none (some 141) (Ef.pr Pr.mv) [X.t 9], I.mk none (some 142) (Ef.pr (Pr.fa 2)) [X.t 17], I.mk none (some 143) (Ef.pr (Pr.ld 1 false)) [X.t 142], I.mk none (some 144) (Ef.call 29) [X.t 141, X.t 143]]) IC.skip)))))))) (IC.ops [I.mk none (some 122) (Ef.pr Pr.mv) [X.t 16], I.mk none (some 123) (Ef.pr (Pr.ar BinOp.add)) [X.t 122, X.c (Value.int IntKind.i64 1)], I.mk none (some 16) (Ef.pr Pr.mv) [X.t 123]])))))) 
  (IC.seq 
  (IC.seq (IC.ops [I.mk none (some 145) (Ef.pr Pr.mv) [X.t 5], I.mk none (some 146) (Ef.call 32) [X.t 145], I.mk none (some 147) (Ef.pr Pr.mv) [X.t 10], I.mk none (some 148) (Ef.pr (Pr.cm BinOp.neq)) [X.t 146, X.t 147], I.mk none (some 149) (Ef.pr Pr.mv) [X.t 148], I.mk (some (149, false)) (some 150) (Ef.pr Pr.mv) [X.t 8], I.mk (some (149, false)) (some 151) (Ef.call 31) [X.t 150], I.mk (some (149, false)) (some 152) (Ef.pr Pr.mv) [X.t 10], I.mk (some (149, false)) (some 153) (Ef.pr (Pr.cm BinOp.neq)) [X.t 151, X.t 152], I.mk none (some 154) (Ef.pr Pr.pick) [X.t 149, X.c (Value.bool true), X.t 153]]) 
  (IC.cond (X.t 154) 
  (IC.seq (IC.ops [I.mk none (some 4) (Ef.pr Pr.mv) [X.c (Value.bool false)]]) IC.ret) IC.skip)) 
  (IC.seq 
  (IC.seq (IC.ops [I.mk none (some 18) (Ef.pr Pr.mv) [X.c (Value.int IntKind.i64 0)]]) 
  (IC.block 8 
  (IC.loop 
  (IC.seq 
  (IC.seq (IC.ops [I.mk none (some 155) (Ef.pr Pr.mv) [X.t 18], I.mk none (some 156) (Ef.pr Pr.mv) [X.t 0], I.mk none (some 157) (Ef.pr Pr.lenS) [X.t 156], I.mk none (some 158) (Ef.pr (Pr.cm BinOp.lss)) [X.t 155, X.t 157]]) 
  (IC.cond (X.t 158) IC.skip (IC.exit 8))) 
  (IC.seq 
  (IC.block 9 
  (IC.seq (IC.ops [I.mk none (some 162) (Ef.pr Pr.mv) [X.t 5], I.mk none (some 163) (Ef.pr Pr.mv) [X.t 0], I.mk none (some 164) (Ef.pr Pr.mv) [X.t 18], I.mk none (some 165) (Ef.pr (Pr.iaS 4)) [X.t 163, X.t 164], I.mk none (some 166) (Ef.pr (Pr.fa 2)) [X.t 165], I.mk none (some 167) (Ef.pr (Pr.ld 1 false)) [X.t 166], I.mk none (some 168) (Ef.call 34) [X.t 162, X.t 167], I.mk none (some 161) (Ef.pr Pr.mv) [X.t 168], I.mk none (some 169) (Ef.pr (Pr.ext 0)) [X.t 161], I.mk none (some 170) (Ef.pr (Pr.ext 1)) [X.t 161], I.mk none (some 19) (Ef.al [Value.string (ByteArray.mk (Array.mk [])), Value.int IntKind.i64 0, Value.int IntKind.i64 0]) [], I.mk none none (Ef.st 3) [X.t 19, X.t 169], I.mk none (some 20) (Ef.pr Pr.mv) [X.t 170]]) 
  (IC.seq 
  (IC.seq (IC.ops [I.mk none (some 171) (Ef.pr Pr.mv) [X.t 20], I.mk none (some 172) (Ef.pr (Pr.un UnOp.not)) [X.t 171]]) 
  (IC.cond (X.t 172) (IC.exit 9) IC.skip)) 
  (IC.seq (IC.ops [I.mk none (some 174) (Ef.pr Pr.mv) [X.t 8], I.mk none (some 175) (Ef.pr (Pr.ld 3 true)) [X.t 19], I.mk none (some 176) (Ef.call 35) [X.t 174, X.t 175], I.mk none (some 173) (Ef.pr Pr.mv) [X.t 176], I.mk none (some 177) (Ef.pr (Pr.ext 0)) [X.t 173], I.mk none (some 178) (Ef.pr (Pr.ext 1)) [X.t 173], I.mk none (some 21) (Ef.pr Pr.mv) [X.t 177], I.mk none (some 22) (Ef.pr Pr.mv) [X.t 178]]) 
  (IC.seq (IC.ops [I.mk none (some 180) (Ef.pr Pr.mv) [X.t 8], I.mk none (some 181) (Ef.pr Pr.mv) [X.t 0], I.mk none (some 182) (Ef.pr Pr.mv) [X.t 18], I.mk none (some 183) (Ef.pr (Pr.iaS 4)) [X.t 181, X.t 182], I.mk none (some 184) (Ef.pr (Pr.fa 2)) [X.t 183], I.mk none (some 185) (Ef.pr (Pr.ld 1 false)) [X.t 184], I.mk none (some 186) (Ef.call 36) [X.t 180, X.t 185], I.mk none (some 179) (Ef.pr Pr.mv) [X.t 186], I.mk none (some 187) (Ef.pr (Pr.ext 0)) [X.t 179], I.mk none (some 188) (Ef.pr (Pr.ext 1)) [X.t 179], I.mk none (some 23) (Ef.al [Value.string (ByteArray.mk (Array.mk [])), Value.int IntKind.i64 0, Value.int IntKind.i64 0]) [], I.mk none none (Ef.st 3) [X.t 23, X.t 187], I.mk none (some 24) (Ef.pr Pr.mv) [X.t 188]]) 
  (IC.seq (IC.ops [I.mk none (some 189) (Ef.pr Pr.mv) [X.t 22], I.mk none (some 190) (Ef.pr (Pr.un UnOp.not)) [X.t 189], I.mk none (some 191) (Ef.pr Pr.mv) [X.t 190], I.mk (some (191, false)) (some 192) (Ef.pr Pr.mv) [X.t 24], I.mk (some (191, false)) (some 193) (Ef.pr (Pr.un UnOp.not)) [X.t 192], I.mk none (some 194) (Ef.pr Pr.pick) [X.t 191, X.c (Value.bool true), X.t 193], I.mk none (some 195) (Ef.pr Pr.mv) [X.t 194], I.mk (some (195, false)) (some 196) (Ef.pr Pr.mv) [X.t 21], I.mk (some (195, false)) (some 197) (Ef.pr Pr.mv) [X.t 0], I.mk (some (195, false)) (some 198) (Ef.pr Pr.mv) [X.t 18], I.mk (some (195, false)) (some 199) (Ef.pr (Pr.iaS 4)) [X.t 197, X.t 198], I.mk (some (195, false)) (some 200) (Ef.pr (Pr.fa 2)) [X.t 199], I.mk (some (195, false)) (some 201) (Ef.pr (Pr.ld 1 false)) [X.t 200], I.mk (some (195, false)) (some 202) (Ef.pr (Pr.cm BinOp.neq)) [X.t 196, X.t 201], I.mk none (some 203) (Ef.pr Pr.pick) [X.t 195, X.c (Value.bool true), X.t 202], I.mk none (some 204) (Ef.pr Pr.mv) [X.t 203], I.mk (some (204, false)) (some 205) (Ef.pr (Pr.ld 3 true)) [X.t 23], I.mk (some (204, false)) (some 206) (Ef.pr (Pr.ld 3 true)) [X.t 19], I.mk (some (204, false)) (some 207) (Ef.pr (Pr.eq true (EqT.ag [(0, EqS.s), (1, EqS.i), (2, EqS.i)]))) [X.t 205, X.t 206], I.mk none (some 208) (Ef.pr Pr.pick) [X.t 204, X.c (Value.bool true), X.t 207]]) 
  (IC.cond (X.t 208) 
  (IC.seq (IC.ops [I.mk none (some 4) (Ef.pr Pr.mv) [X.c (Value.bool false)]]) IC.ret) IC.skip))))))) (IC.ops [I.mk none (some 159) (Ef.pr Pr.mv) [X.t 18], I.mk none (some 160) (Ef.pr (Pr.ar BinOp.add)) [X.t 159, X.c (Value.int IntKind.i64 1)], I.mk none (some 18) (Ef.pr Pr.mv) [X.t 160]])))))) 
  (IC.seq (IC.ops [I.mk none (some 4) (Ef.pr Pr.mv) [X.c (Value.bool true)]]) IC.ret)))))))))))))))

theorem k5 : Go.Proofs.Try.f5.body.bind (comp Go.Proofs.Try.prog 209 [7, 12, 14, 17, 19, 23] []) = some c5 := by kernel_rfl

theorem r5 : cRVs Go.Proofs.Try.prog Go.Proofs.Try.f5.results.toList = some [RV.t 4] := by kernel_rfl

theorem e5 {args : List Value} {h : Hp} {Q : Value → Hp → Prop} (hl : Nat.ble args.length 209 = true) (hk : codeK PR none c5 (retK Q [RV.t 4]) (fun _ _ _ _ => False) (retK Q [RV.t 4]) (argsE 0 args) [] h) : Ok PR 5 args h Q :=
  Ok.of mixed Go.Proofs.Try.func5 rfl k5 r5 hl hk

end Go.Proofs.Ytkmknolkblcbeaa.V
