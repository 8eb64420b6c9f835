/- The functions 51, 53, 54, 55, 56, 57, 58, 59, 60, 61, 62, 63, 64, 65, 66, 67, resolved. -/
import Derived.Test.YtpkleblggehghaaVP
namespace Go.Proofs.Ytpkleblggehghaa.V
set_option linter.unusedVariables false
set_option linter.unusedSimpArgs false
set_option linter.unusedSectionVars false
open Go
set_option maxRecDepth 100000

def c51 : IC := IC.seq (IC.ops [I.mk none (some 2) (Ef.pr Pr.mv) [X.c (Value.slice none 0 0)]]) 
  (IC.seq (IC.ops [I.mk none (some 3) (Ef.pr Pr.mv) [X.c (Value.slice none 0 0)]]) 
  (IC.seq (IC.ops [I.mk none (some 4) (Ef.pr Pr.mv) [X.t 3], I.mk none (some 5) (Ef.pr Pr.mv) [X.t 0], I.mk none (some 6) (Ef.app [Value.int IntKind.u8 0] 5 1) [X.t 4, X.t 5], I.mk none (some 3) (Ef.pr Pr.mv) [X.t 6]]) 
  (IC.seq (IC.ops [I.mk none (some 7) (Ef.pr Pr.mv) [X.t 3], I.mk none (some 2) (Ef.pr Pr.mv) [X.t 7]]) IC.ret)))

theorem k51 : Go.Proofs.Try.f51.body.bind (comp Go.Proofs.Try.prog 8 [] []) = some c51 := by kernel_rfl

theorem r51 : cRVs Go.Proofs.Try.prog Go.Proofs.Try.f51.results.toList = some [RV.t 2] := by kernel_rfl

theorem e51 {args : List Value} {h : Hp} {Q : Value → Hp → Prop} (hl : Nat.ble args.length 8 = true) (hk : codeK PR none c51 (retK Q [RV.t 2]) (fun _ _ _ _ => False) (retK Q [RV.t 2]) (argsE 0 args) [] h) : Ok PR 51 args h Q :=
  Ok.of mixed Go.Proofs.Try.func51 rfl k51 r51 hl hk

def c53 : IC := IC.seq (IC.ops [I.mk none (some 6) (Ef.pr Pr.mv) [X.c (Value.int IntKind.i64 0)]]) 
  (IC.seq 
  (IC.seq (IC.ops [I.mk none (some 7) (Ef.pr Pr.mv) [X.t 1], I.mk none (some 8) (Ef.call 59) [X.t 7], I.mk none (some 9) (Ef.pr (Pr.un UnOp.not)) [X.t 8]]) 
  (IC.cond (X.t 9) 
  (IC.seq (IC.ops [I.mk none (some 6) (Ef.pr Pr.mv) [X.c (Value.int IntKind.i64 40)]]) IC.ret) IC.skip)) 
  (IC.seq 
  (IC.seq (IC.ops [I.mk none (some 10) (Ef.pr Pr.mv) [X.t 2], I.mk none (some 11) (Ef.pr Pr.lenS) [X.t 10], I.mk none (some 12) (Ef.pr (Pr.cm BinOp.neq)) [X.t 11, X.c (Value.int IntKind.i64 128)]]) 
  (IC.cond (X.t 12) 
  (IC.seq (IC.ops [I.mk none (some 6) (Ef.pr Pr.mv) [X.c (Value.int IntKind.i64 41)]]) IC.ret) IC.skip)) 
  (IC.seq 
  (IC.seq (IC.ops [I.mk none (some 13) (Ef.pr Pr.mv) [X.t 0], I.mk none (some 14) (Ef.call 60) [X.t 13], I.mk none (some 15) (Ef.pr (Pr.un UnOp.not)) [X.t 14]]) 
  (IC.cond (X.t 15) 
  (IC.seq (IC.ops [I.mk none (some 6) (Ef.pr Pr.mv) [X.c (Value.int IntKind.i64 42)]]) IC.ret) IC.skip)) 
  (IC.seq (IC.plan (Plan.q (I.mk none (some 16) (Ef.pr Pr.mv) [X.t 0]) (Plan.q (I.mk none (some 17) (Ef.pr Pr.mv) [X.t 0]) (Plan.q (I.mk none (some 18) (Ef.pr Pr.nilc) [X.t 17]) (Plan.q (I.mk none (some 19) (Ef.pr (Pr.fa 1)) [X.t 18]) (Plan.q (I.mk none (some 20) (Ef.pr (Pr.ld 1 false)) [X.t 19]) (Plan.q (I.mk none (some 21) (Ef.pr Pr.mv) [X.t 1]) (Plan.q (I.mk none (some 22) (Ef.pr Pr.mv) [X.t 2]) (Plan.br (PlanL.cons true true (I.mk none (some 23) (Ef.call 51) [X.t 22]) (Plan.q (I.mk none (some 24) (Ef.pr (Pr.bld [Value.int IntKind.i64 0, Value.int IntKind.i64 0, Value.slice none 0 0] [(0, 1), (2, 1)])) [X.t 21, X.t 23]) (Plan.br (PlanL.cons true false (I.mk none (some 25) (Ef.bsl [Value.int IntKind.i64 0, Value.int IntKind.i64 0, Value.slice none 0 0] 94 1 3 [0]) [X.t 24]) (Plan.br (PlanL.cons false false (I.mk none (some 26) (Ef.app [Value.int IntKind.i64 0, Value.int IntKind.i64 0, Value.slice none 0 0] 94 40) [X.t 20, X.t 25]) (Plan.q (I.mk none (some 27) (Ef.pr Pr.nilc) [X.t 16]) (Plan.q (I.mk none (some 28) (Ef.pr (Pr.fa 1)) [X.t 27]) (Plan.br (PlanL.cons false false (I.mk none none (Ef.st 1) [X.t 28, X.t 26]) Plan.done PlanL.nil)))) PlanL.nil)) PlanL.nil))) PlanL.nil)))))))))) 
  (IC.seq (IC.ops [I.mk none (some 6) (Ef.pr Pr.mv) [X.c (Value.int IntKind.i64 0)]]) IC.ret)))))

theorem k53 : Go.Proofs.Try.f53.body.bind (comp Go.Proofs.Try.prog 29 [] []) = some c53 := by kernel_rfl

theorem r53 : cRVs Go.Proofs.Try.prog Go.Proofs.Try.f53.results.toList = some [RV.t 6] := by kernel_rfl

theorem e53 {args : List Value} {h : Hp} {Q : Value → Hp → Prop} (hl : Nat.ble args.length 29 = true) (hk : codeK PR none c53 (retK Q [RV.t 6]) (fun _ _ _ _ => False) (retK Q [RV.t 6]) (argsE 0 args) [] h) : Ok PR 53 args h Q :=
  Ok.of mixed Go.Proofs.Try.func53 rfl k53 r53 hl hk

def c54 : IC := IC.seq (IC.ops [I.mk none (some 2) (Ef.pr Pr.mv) [X.c (Value.int IntKind.i64 0)]]) 
  (IC.seq 
  (IC.seq (IC.ops [I.mk none (some 3) (Ef.pr Pr.mv) [X.t 0], I.mk none (some 4) (Ef.call 60) [X.t 3], I.mk none (some 5) (Ef.pr (Pr.un UnOp.not)) [X.t 4]]) 
  (IC.cond (X.t 5) 
  (IC.seq (IC.ops [I.mk none (some 2) (Ef.pr Pr.mv) [X.c (Value.int IntKind.i64 42)]]) IC.ret) IC.skip)) 
  (IC.seq (IC.plan (Plan.q (I.mk none (some 6) (Ef.pr Pr.mv) [X.t 0]) (Plan.q (I.mk none (some 7) (Ef.pr Pr.mv) [X.t 0]) (Plan.q (I.mk none (some 8) (Ef.pr Pr.nilc) [X.t 7]) (Plan.q (I.mk none (some 9) (Ef.pr (Pr.fa 0)) [X.t 8]) (Plan.q (I.mk none (some 10) (Ef.pr (Pr.ld 1 false)) [X.t 9]) (Plan.q (I.mk none (some 11) (Ef.pr Pr.mv) [X.t 0]) (Plan.q (I.mk none (some 12) (Ef.pr Pr.nilc) [X.t 11]) (Plan.q (I.mk none (some 13) (Ef.pr (Pr.fa 1)) [X.t 12]) (Plan.q (I.mk none (some 14) (Ef.pr (Pr.ld 1 false)) [X.t 13]) (Plan.br (PlanL.cons false false (I.mk none (some 15) (Ef.app [Value.int IntKind.i64 0, Value.int IntKind.i64 0, Value.slice none 0 0] 94 40) [X.t 10, X.t 14]) (Plan.q (I.mk none (some 16) (Ef.pr Pr.nilc) [X.t 6]) (Plan.q (I.mk none (some 17) (Ef.pr (Pr.fa 0)) [X.t 16]) (Plan.br (PlanL.cons false false (I.mk none none (Ef.st 1) [X.t 17, X.t 15]) Plan.done PlanL.nil)))) PlanL.nil)))))))))))) 
  (IC.seq (IC.ops [I.mk none (some 18) (Ef.pr Pr.mv) [X.t 0], I.mk none (some 19) (Ef.pr Pr.nilc) [X.t 18], I.mk none (some 20) (Ef.pr (Pr.fa 1)) [X.t 19], I.mk none none (Ef.st 1) [X.t 20, X.c (Value.slice none 0 0)]]) 
  (IC.seq (IC.ops [I.mk none (some 2) (Ef.pr Pr.mv) [X.c (Value.int IntKind.i64 0)]]) IC.ret))))

theorem k54 : Go.Proofs.Try.f54.body.bind (comp Go.Proofs.Try.prog 21 [] []) = some c54 := by kernel_rfl

theorem r54 : cRVs Go.Proofs.Try.prog Go.Proofs.Try.f54.results.toList = some [RV.t 2] := by kernel_rfl

theorem e54 {args : List Value} {h : Hp} {Q : Value → Hp → Prop} (hl : Nat.ble args.length 21 = true) (hk : codeK PR none c54 (retK Q [RV.t 2]) (fun _ _ _ _ => False) (retK Q [RV.t 2]) (argsE 0 args) [] h) : Ok PR 54 args h Q :=
  Ok.of mixed Go.Proofs.Try.func54 rfl k54 r54 hl hk

def c55 : IC := IC.seq (IC.ops [I.mk none (some 4) (Ef.pr Pr.mv) [X.c (Value.int IntKind.i64 0)]]) 
  (IC.seq 
  (IC.seq (IC.ops [I.mk none (some 5) (Ef.pr Pr.mv) [X.t 1], I.mk none (some 6) (Ef.pr (Pr.cm BinOp.lss)) [X.t 5, X.c (Value.int IntKind.i64 0)]]) 
  (IC.cond (X.t 6) 
  (IC.seq (IC.ops [I.mk none (some 4) (Ef.pr Pr.mv) [X.c (Value.int IntKind.i64 1)]]) IC.ret) IC.skip)) 
  (IC.seq 
  (IC.seq (IC.ops [I.mk none (some 7) (Ef.pr Pr.mv) [X.t 0], I.mk none (some 8) (Ef.pr Pr.nilc) [X.t 7], I.mk none (some 9) (Ef.pr (Pr.fa 3)) [X.t 8], I.mk none (some 10) (Ef.pr (Pr.ld 1 false)) [X.t 9]]) 
  (IC.cond (X.t 10) 
  (IC.seq (IC.ops [I.mk none (some 4) (Ef.pr Pr.mv) [X.c (Value.int IntKind.i64 42)]]) IC.ret) IC.skip)) 
  (IC.seq (IC.ops [I.mk none (some 11) (Ef.pr Pr.mv) [X.t 0], I.mk none (some 12) (Ef.pr Pr.mv) [X.t 1], I.mk none (some 13) (Ef.pr Pr.nilc) [X.t 11], I.mk none (some 14) (Ef.pr (Pr.fa 2)) [X.t 13], I.mk none none (Ef.st 1) [X.t 14, X.t 12]]) 
  (IC.seq (IC.ops [I.mk none (some 4) (Ef.pr Pr.mv) [X.c (Value.int IntKind.i64 0)]]) IC.ret))))

theorem k55 : Go.Proofs.Try.f55.body.bind (comp Go.Proofs.Try.prog 15 [] []) = some c55 := by kernel_rfl

theorem r55 : cRVs Go.Proofs.Try.prog Go.Proofs.Try.f55.results.toList = some [RV.t 4] := by kernel_rfl

theorem e55 {args : List Value} {h : Hp} {Q : Value → Hp → Prop} (hl : Nat.ble args.length 15 = true) (hk : codeK PR none c55 (retK Q [RV.t 4]) (fun _ _ _ _ => False) (retK Q [RV.t 4]) (argsE 0 args) [] h) : Ok PR 55 args h Q :=
  Ok.of mixed Go.Proofs.Try.func55 rfl k55 r55 hl hk

def c56 : IC := IC.seq (IC.ops [I.mk none (some 4) (Ef.pr Pr.mv) [X.c (Value.int IntKind.i64 0)]]) 
  (IC.seq (IC.ops [I.mk none (some 5) (Ef.pr Pr.mv) [X.c (Value.int IntKind.i64 0)]]) 
  (IC.seq 
  (IC.seq (IC.ops [I.mk none (some 6) (Ef.pr Pr.mv) [X.c (Value.int IntKind.i64 0)]]) 
  (IC.block 0 
  (IC.loop 
  (IC.seq 
  (IC.seq (IC.ops [I.mk none (some 7) (Ef.pr Pr.mv) [X.t 6], I.mk none (some 8) (Ef.pr Pr.mv) [X.t 0], I.mk none (some 9) (Ef.pr Pr.nilc) [X.t 8], I.mk none (some 10) (Ef.pr (Pr.fa 1)) [X.t 9], I.mk none (some 11) (Ef.pr (Pr.ld 1 false)) [X.t 10], I.mk none (some 12) (Ef.pr Pr.lenS) [X.t 11], I.mk none (some 13) (Ef.pr (Pr.cm BinOp.lss)) [X.t 7, X.t 12]]) 
  (IC.cond (X.t 13) IC.skip (IC.exit 0))) 
  (IC.seq 
  (IC.block 1 
  (IC.seq (IC.ops [I.mk none (some 16) (Ef.pr Pr.mv) [X.t 6], I.mk none (some 17) (Ef.pr Pr.mv) [X.t 1], I.mk none (some 18) (Ef.pr Pr.lenS) [X.t 17], I.mk none (some 19) (Ef.pr (Pr.cm BinOp.lss)) [X.t 16, X.t 18], I.mk none (some 20) (Ef.pr Pr.mv) [X.t 19], I.mk (some (20, true)) (some 21) (Ef.pr Pr.mv) [X.t 1], I.mk (some (20, true)) (some 22) (Ef.pr Pr.mv) [X.t 6], I.mk (some (20, true)) (some 23) (Ef.pr (Pr.iaS 1)) [X.t 21, X.t 22], I.mk (some (20, true)) (some 24) (Ef.pr (Pr.ld 1 false)) [X.t 23], I.mk none (some 25) (Ef.pr Pr.pick) [X.t 20, X.t 24, X.c (Value.bool false)]]) 
  (IC.cond (X.t 25) 
  (IC.seq (IC.plan (Plan.q (I.mk none (some 26) (Ef.pr Pr.mv) [X.t 0]) (Plan.q (I.mk none (some 27) (Ef.pr Pr.mv) [X.t 0]) (Plan.q (I.mk none (some 28) (Ef.pr Pr.nilc) [X.t 27]) (Plan.q (I.mk none (some 29) (Ef.pr (Pr.fa 0)) [X.t 28]) (Plan.q (I.mk none (some 30) (Ef.pr (Pr.ld 1 false)) [X.t 29]) (Plan.q (I.mk none (some 31) (Ef.pr Pr.mv) [X.t 0]) (Plan.q (I.mk none (some 32) (Ef.pr Pr.nilc) [X.t 31]) (Plan.q (I.mk none (some 33) (Ef.pr (Pr.fa 1)) [X.t 32]) (Plan.q (I.mk none (some 34) (Ef.pr (Pr.ld 1 false)) [X.t 33]) (Plan.q (I.mk none (some 35) (Ef.pr Pr.mv) [X.t 6]) (Plan.q (I.mk none (some 36) (Ef.pr (Pr.iaS 3)) [X.t 34, X.t 35]) (Plan.q (I.mk none (some 37) (Ef.pr (Pr.ld 3 true)) [X.t 36]) (Plan.br (PlanL.cons true false (I.mk none (some 38) (Ef.bsl [Value.int IntKind.i64 0, Value.int IntKind.i64 0, Value.slice none 0 0] 94 1 3 [0]) [X.t 37]) (Plan.br (PlanL.cons false false (I.mk none (some 39) (Ef.app [Value.int IntKind.i64 0, Value.int IntKind.i64 0, Value.slice none 0 0] 94 40) [X.t 30, X.t 38]) (Plan.q (I.mk none (some 40) (Ef.pr Pr.nilc) [X.t 26]) (Plan.q (I.mk none (some 41) (Ef.pr (Pr.fa 0)) [X.t 40]) (Plan.br (PlanL.cons false false (I.mk none none (Ef.st 1) [X.t 41, X.t 39]) Plan.done PlanL.nil)))) PlanL.nil)) PlanL.nil))))))))))))))) (IC.ops [I.mk none (some 42) (Ef.pr Pr.mv) [X.t 5], I.mk none (some 43) (Ef.pr (Pr.ar BinOp.add)) [X.t 42, X.c (Value.int IntKind.i64 1)], I.mk none (some 5) (Ef.pr Pr.mv) [X.t 43]])) IC.skip))) (IC.ops [I.mk none (some 14) (Ef.pr Pr.mv) [X.t 6], I.mk none (some 15) (Ef.pr (Pr.ar BinOp.add)) [X.t 14, X.c (Value.int IntKind.i64 1)], I.mk none (some 6) (Ef.pr Pr.mv) [X.t 15]])))))) 
  (IC.seq (IC.ops [I.mk none (some 44) (Ef.pr Pr.mv) [X.t 0], I.mk none (some 45) (Ef.pr Pr.nilc) [X.t 44], I.mk none (some 46) (Ef.pr (Pr.fa 1)) [X.t 45], I.mk none none (Ef.st 1) [X.t 46, X.c (Value.slice none 0 0)]]) 
  (IC.seq (IC.ops [I.mk none (some 47) (Ef.pr Pr.mv) [X.t 0], I.mk none (some 48) (Ef.pr Pr.nilc) [X.t 47], I.mk none (some 49) (Ef.pr (Pr.fa 2)) [X.t 48], I.mk none none (Ef.st 1) [X.t 49, X.c (Value.int IntKind.i64 (-1))]]) 
  (IC.seq (IC.ops [I.mk none (some 50) (Ef.pr Pr.mv) [X.t 0], I.mk none (some 51) (Ef.pr Pr.nilc) [X.t 50], I.mk none (some 52) (Ef.pr (Pr.fa 3)) [X.t 51], I.mk none none (Ef.st 1) [X.t 52, X.c (Value.bool false)]]) 
  (IC.seq (IC.ops [I.mk none (some 53) (Ef.pr Pr.mv) [X.t 5], I.mk none (some 4) (Ef.pr Pr.mv) [X.t 53]]) IC.ret))))))

theorem k56 : Go.Proofs.Try.f56.body.bind (comp Go.Proofs.Try.prog 54 [] []) = some c56 := by kernel_rfl

theorem r56 : cRVs Go.Proofs.Try.prog Go.Proofs.Try.f56.results.toList = some [RV.t 4] := by kernel_rfl

theorem e56 {args : List Value} {h : Hp} {Q : Value → Hp → Prop} (hl : Nat.ble args.length 54 = true) (hk : codeK PR none c56 (retK Q [RV.t 4]) (fun _ _ _ _ => False) (retK Q [RV.t 4]) (argsE 0 args) [] h) : Ok PR 56 args h Q :=
  Ok.of mixed Go.Proofs.Try.func56 rfl k56 r56 hl hk

def c57 : IC := IC.seq (IC.ops [I.mk none (some 8) (Ef.pr Pr.mv) [X.c (Value.int IntKind.i64 0)]]) 
  (IC.seq 
  (IC.seq (IC.ops [I.mk none (some 9) (Ef.pr Pr.mv) [X.t 1], I.mk none (some 10) (Ef.call 59) [X.t 9], I.mk none (some 11) (Ef.pr (Pr.un UnOp.not)) [X.t 10]]) 
  (IC.cond (X.t 11) 
  (IC.seq (IC.ops [I.mk none (some 8) (Ef.pr Pr.mv) [X.c (Value.int IntKind.i64 40)]]) IC.ret) IC.skip)) 
  (IC.seq 
  (IC.seq (IC.ops [I.mk none (some 12) (Ef.pr Pr.mv) [X.t 2], I.mk none (some 13) (Ef.pr (Pr.cm BinOp.lss)) [X.t 12, X.c (Value.int IntKind.i64 0)], I.mk none (some 14) (Ef.pr Pr.mv) [X.t 13], I.mk (some (14, false)) (some 15) (Ef.pr Pr.mv) [X.t 2], I.mk (some (14, false)) (some 16) (Ef.pr (Pr.cm BinOp.gtr)) [X.t 15, X.c (Value.int IntKind.i64 128)], I.mk none (some 17) (Ef.pr Pr.pick) [X.t 14, X.c (Value.bool true), X.t 16], I.mk none (some 18) (Ef.pr Pr.mv) [X.t 17], I.mk (some (18, false)) (some 19) (Ef.pr Pr.mv) [X.t 3], I.mk (some (18, false)) (some 20) (Ef.pr Pr.lenS) [X.t 19], I.mk (some (18, false)) (some 21) (Ef.pr Pr.mv) [X.t 2], I.mk (some (18, false)) (some 22) (Ef.pr (Pr.ar BinOp.sub)) [X.c (Value.int IntKind.i64 128), X.t 21], I.mk (some (18, false)) (some 23) (Ef.pr (Pr.cm BinOp.gtr)) [X.t 20, X.t 22], I.mk none (some 24) (Ef.pr Pr.pick) [X.t 18, X.c (Value.bool true), X.t 23]]) 
  (IC.cond (X.t 24) 
  (IC.seq (IC.ops [I.mk none (some 8) (Ef.pr Pr.mv) [X.c (Value.int IntKind.i64 1)]]) IC.ret) IC.skip)) 
  (IC.seq (IC.plan (Plan.q (I.mk none (some 25) (Ef.pr Pr.mv) [X.t 0]) (Plan.q (I.mk none (some 26) (Ef.pr Pr.mv) [X.t 0]) (Plan.q (I.mk none (some 27) (Ef.pr Pr.nilc) [X.t 26]) (Plan.q (I.mk none (some 28) (Ef.pr (Pr.fa 0)) [X.t 27]) (Plan.q (I.mk none (some 29) (Ef.pr (Pr.ld 1 false)) [X.t 28]) (Plan.q (I.mk none (some 30) (Ef.pr Pr.mv) [X.t 1]) (Plan.q (I.mk none (some 31) (Ef.pr Pr.mv) [X.t 2]) (Plan.q (I.mk none (some 32) (Ef.pr Pr.mv) [X.t 3]) (Plan.br (PlanL.cons true true (I.mk none (some 33) (Ef.call 51) [X.t 32]) (Plan.q (I.mk none (some 34) (Ef.pr (Pr.bld [Value.int IntKind.i64 0, Value.int IntKind.i64 0, Value.slice none 0 0] [(0, 1), (1, 1), (2, 1)])) [X.t 30, X.t 31, X.t 33]) (Plan.br (PlanL.cons true false (I.mk none (some 35) (Ef.bsl [Value.int IntKind.i64 0, Value.int IntKind.i64 0, Value.slice none 0 0] 94 1 3 [0]) [X.t 34]) (Plan.br (PlanL.cons false false (I.mk none (some 36) (Ef.app [Value.int IntKind.i64 0, Value.int IntKind.i64 0, Value.slice none 0 0] 94 40) [X.t 29, X.t 35]) (Plan.q (I.mk none (some 37) (Ef.pr Pr.nilc) [X.t 25]) (Plan.q (I.mk none (some 38) (Ef.pr (Pr.fa 0)) [X.t 37]) (Plan.br (PlanL.cons false false (I.mk none none (Ef.st 1) [X.t 38, X.t 36]) Plan.done PlanL.nil)))) PlanL.nil)) PlanL.nil))) PlanL.nil))))))))))) 
  (IC.seq (IC.ops [I.mk none (some 8) (Ef.pr Pr.mv) [X.c (Value.int IntKind.i64 0)]]) IC.ret))))

theorem k57 : Go.Proofs.Try.f57.body.bind (comp Go.Proofs.Try.prog 39 [] []) = some c57 := by kernel_rfl

theorem r57 : cRVs Go.Proofs.Try.prog Go.Proofs.Try.f57.results.toList = some [RV.t 8] := by kernel_rfl

theorem e57 {args : List Value} {h : Hp} {Q : Value → Hp → Prop} (hl : Nat.ble args.length 39 = true) (hk : codeK PR none c57 (retK Q [RV.t 8]) (fun _ _ _ _ => False) (retK Q [RV.t 8]) (argsE 0 args) [] h) : Ok PR 57 args h Q :=
  Ok.of mixed Go.Proofs.Try.func57 rfl k57 r57 hl hk

def c58 : IC := IC.seq (IC.ops [I.mk none (some 5) Ef.bx [X.t 2], I.mk none (some 6) (Ef.pr Pr.mv) [X.c (Value.bool false)]]) 
  (IC.seq 
  (IC.seq (IC.ops [I.mk none (some 24) (Ef.pr (Pr.fa 0)) [X.t 5], I.mk none (some 25) (Ef.pr (Pr.ld 1 false)) [X.t 24]]) 
  (IC.block 0 
  (IC.seq (IC.ops [I.mk none (some 27) (Ef.pr (Pr.cm BinOp.eql)) [X.t 25, X.c (Value.int IntKind.i64 1)], I.mk none (some 26) (Ef.pr Pr.mv) [X.t 27]]) 
  (IC.cond (X.t 26) 
  (IC.seq (IC.ops [I.mk none (some 29) (Ef.pr Pr.mv) [X.t 0], I.mk none (some 30) (Ef.pr (Pr.fa 2)) [X.t 5], I.mk none (some 31) (Ef.pr (Pr.ld 1 false)) [X.t 30], I.mk none (some 32) (Ef.call 22) [X.t 29, X.t 31], I.mk none (some 28) (Ef.pr Pr.mv) [X.t 32], I.mk none (some 33) (Ef.pr (Pr.ext 0)) [X.t 28], I.mk none (some 34) (Ef.pr (Pr.ext 1)) [X.t 28], I.mk none (some 7) (Ef.pr Pr.mv) [X.t 33], I.mk none (some 8) (Ef.pr Pr.mv) [X.t 34]]) 
  (IC.seq (IC.ops [I.mk none (some 36) (Ef.pr Pr.mv) [X.t 1], I.mk none (some 37) (Ef.pr (Pr.fa 2)) [X.t 5], I.mk none (some 38) (Ef.pr (Pr.ld 1 false)) [X.t 37], I.mk none (some 39) (Ef.call 61) [X.t 36, X.t 38], I.mk none (some 35) (Ef.pr Pr.mv) [X.t 39], I.mk none (some 40) (Ef.pr (Pr.ext 0)) [X.t 35], I.mk none (some 41) (Ef.pr (Pr.ext 1)) [X.t 35], I.mk none (some 9) (Ef.pr Pr.mv) [X.t 40], I.mk none (some 10) (Ef.pr Pr.mv) [X.t 41]]) 
  (IC.seq (IC.ops [I.mk none (some 42) (Ef.pr Pr.mv) [X.t 7], I.mk none (some 43) (Ef.pr Pr.mv) [X.t 9], I.mk none (some 44) (Ef.call 26) [X.t 42, X.t 43], I.mk none (some 45) (Ef.pr Pr.mv) [X.t 44], I.mk (some (45, true)) (some 46) (Ef.pr Pr.mv) [X.t 8], I.mk (some (45, true)) (some 47) (Ef.pr Pr.mv) [X.t 10], I.mk (some (45, true)) (some 48) (Ef.pr (Pr.cm BinOp.eql)) [X.t 46, X.t 47], I.mk none (some 49) (Ef.pr Pr.pick) [X.t 45, X.t 48, X.c (Value.bool false)], I.mk none (some 6) (Ef.pr Pr.mv) [X.t 49]]) IC.ret))) 
  (IC.seq (IC.ops [I.mk none (some 51) (Ef.pr (Pr.cm BinOp.eql)) [X.t 25, X.c (Value.int IntKind.i64 9)], I.mk none (some 50) (Ef.pr Pr.mv) [X.t 51]]) 
  (IC.cond (X.t 50) 
  (IC.seq (IC.ops [I.mk none (some 53) (Ef.pr Pr.mv) [X.t 0], I.mk none (some 54) (Ef.pr (Pr.fa 2)) [X.t 5], I.mk none (some 55) (Ef.pr (Pr.ld 1 false)) [X.t 54], I.mk none (some 56) (Ef.call 25) [X.t 53, X.t 55], I.mk none (some 52) (Ef.pr Pr.mv) [X.t 56], I.mk none (some 57) (Ef.pr (Pr.ext 0)) [X.t 52], I.mk none (some 58) (Ef.pr (Pr.ext 1)) [X.t 52], I.mk none (some 11) (Ef.pr Pr.mv) [X.t 57], I.mk none (some 12) (Ef.pr Pr.mv) [X.t 58]]) 
  (IC.seq (IC.ops [I.mk none (some 60) (Ef.pr Pr.mv) [X.t 1], I.mk none (some 61) (Ef.pr (Pr.fa 2)) [X.t 5], I.mk none (some 62) (Ef.pr (Pr.ld 1 false)) [X.t 61], I.mk none (some 63) (Ef.call 62) [X.t 60, X.t 62], I.mk none (some 59) (Ef.pr Pr.mv) [X.t 63], I.mk none (some 64) (Ef.pr (Pr.ext 0)) [X.t 59], I.mk none (some 65) (Ef.pr (Pr.ext 1)) [X.t 59], I.mk none (some 13) (Ef.pr Pr.mv) [X.t 64], I.mk none (some 14) (Ef.pr Pr.mv) [X.t 65]]) 
  (IC.seq (IC.ops [I.mk none (some 66) (Ef.pr Pr.mv) [X.t 11], I.mk none (some 67) (Ef.pr Pr.mv) [X.t 13], I.mk none (some 68) (Ef.call 26) [X.t 66, X.t 67], I.mk none (some 69) (Ef.pr Pr.mv) [X.t 68], I.mk (some (69, true)) (some 70) (Ef.pr Pr.mv) [X.t 12], I.mk (some (69, true)) (some 71) (Ef.pr Pr.mv) [X.t 14], I.mk (some (69, true)) (some 72) (Ef.pr (Pr.cm BinOp.eql)) [X.t 70, X.t 71], I.mk none (some 73) (Ef.pr Pr.pick) [X.t 69, X.t 72, X.c (Value.bool false)], I.mk none (some 6) (Ef.pr Pr.mv) [X.t 73]]) IC.ret))) 
  (IC.seq (IC.ops [I.mk none (some 75) (Ef.pr (Pr.cm BinOp.eql)) [X.t 25, X.c (Value.int IntKind.i64 4)], I.mk none (some 74) (Ef.pr Pr.mv) [X.t 75]]) 
  (IC.cond (X.t 74) 
  (IC.seq (IC.ops [I.mk none (some 76) (Ef.pr Pr.mv) [X.t 0], I.mk none (some 77) (Ef.call 23) [X.t 76], I.mk none (some 15) (Ef.pr Pr.mv) [X.t 77]]) 
  (IC.seq (IC.ops [I.mk none (some 78) (Ef.pr Pr.mv) [X.t 1], I.mk none (some 79) (Ef.call 63) [X.t 78], I.mk none (some 16) (Ef.pr Pr.mv) [X.t 79]]) 
  (IC.seq (IC.ops [I.mk none (some 80) (Ef.pr Pr.mv) [X.t 15], I.mk none (some 81) (Ef.pr Pr.mv) [X.t 16], I.mk none (some 82) (Ef.call 64) [X.t 80, X.t 81], I.mk none (some 6) (Ef.pr Pr.mv) [X.t 82]]) IC.ret))) 
  (IC.seq (IC.ops [I.mk none (some 84) (Ef.pr (Pr.cm BinOp.eql)) [X.t 25, X.c (Value.int IntKind.i64 6)], I.mk none (some 83) (Ef.pr Pr.mv) [X.t 84]]) 
  (IC.cond (X.t 83) 
  (IC.seq (IC.ops [I.mk none (some 85) (Ef.pr Pr.mv) [X.t 0], I.mk none (some 86) (Ef.call 18) [X.t 85], I.mk none (some 17) (Ef.pr Pr.mv) [X.t 86]]) 
  (IC.seq (IC.ops [I.mk none (some 87) (Ef.pr Pr.mv) [X.t 17], I.mk none (some 88) (Ef.pr Pr.mv) [X.t 1], I.mk none (some 89) (Ef.call 65) [X.t 88], I.mk none (some 90) (Ef.pr (Pr.eq false (EqT.one EqS.b))) [X.t 87, X.t 89], I.mk none (some 6) (Ef.pr Pr.mv) [X.t 90]]) IC.ret)) 
  (IC.seq (IC.ops [I.mk none (some 92) (Ef.pr (Pr.cm BinOp.eql)) [X.t 25, X.c (Value.int IntKind.i64 10)], I.mk none (some 91) (Ef.pr Pr.mv) [X.t 92]]) 
  (IC.cond (X.t 91) 
  (IC.seq (IC.ops [I.mk none (some 93) (Ef.pr Pr.mv) [X.t 0], I.mk none (some 94) (Ef.call 13) [X.t 93], I.mk none (some 18) (Ef.pr Pr.mv) [X.t 94]]) 
  (IC.seq (IC.ops [I.mk none (some 95) (Ef.pr Pr.mv) [X.t 18], I.mk none (some 96) (Ef.pr Pr.mv) [X.t 1], I.mk none (some 97) (Ef.call 66) [X.t 96], I.mk none (some 98) (Ef.pr (Pr.cm BinOp.eql)) [X.t 95, X.t 97], I.mk none (some 6) (Ef.pr Pr.mv) [X.t 98]]) IC.ret)) 
  (IC.seq (IC.ops [I.mk none (some 100) (Ef.pr (Pr.cm BinOp.eql)) [X.t 25, X.c (Value.int IntKind.i64 12)], I.mk none (some 99) (Ef.pr Pr.mv) [X.t 100]]) 
  (IC.cond (X.t 99) 
  (IC.seq (IC.ops [I.mk none (some 101) (Ef.pr Pr.mv) [X.t 0], I.mk none (some 102) (Ef.call 35) [X.t 101], I.mk none (some 19) (Ef.pr Pr.mv) [X.t 102]]) 
  (IC.seq (IC.ops [I.mk none (some 103) (Ef.pr Pr.mv) [X.t 19], I.mk none (some 104) (Ef.pr Pr.mv) [X.t 1], I.mk none (some 105) (Ef.call 40) [X.t 104], I.mk none (some 106) (Ef.call 26) [X.t 103, X.t 105], I.mk none (some 6) (Ef.pr Pr.mv) [X.t 106]]) IC.ret)) 
  (IC.seq (IC.ops [I.mk none (some 108) (Ef.pr (Pr.cm BinOp.eql)) [X.t 25, X.c (Value.int IntKind.i64 14)], I.mk none (some 107) (Ef.pr Pr.mv) [X.t 108]]) 
  (IC.cond (X.t 107) 
  (IC.seq (IC.ops [I.mk none (some 110) (Ef.pr (Pr.fa 4)) [X.t 5], I.mk none (some 111) (Ef.pr (Pr.ld 1 false)) [X.t 110], I.mk none (some 112) (Ef.call 27) [X.t 111], I.mk none (some 113) (Ef.call 36) [X.t 112], I.mk none (some 109) (Ef.pr Pr.mv) [X.t 113], I.mk none (some 114) (Ef.pr (Pr.ext 0)) [X.t 109], I.mk none (some 115) (Ef.pr (Pr.ext 1)) [X.t 109], I.mk none (some 20) (Ef.pr Pr.mv) [X.t 114], I.mk none (some 21) (Ef.pr Pr.mv) [X.t 115]]) 
  (IC.seq (IC.ops [I.mk none (some 117) (Ef.pr (Pr.fa 4)) [X.t 5], I.mk none (some 118) (Ef.pr (Pr.ld 1 false)) [X.t 117], I.mk none (some 119) (Ef.call 39) [X.t 118], I.mk none (some 116) (Ef.pr Pr.mv) [X.t 119], I.mk none (some 120) (Ef.pr (Pr.ext 0)) [X.t 116], I.mk none (some 121) (Ef.pr (Pr.ext 1)) [X.t 116], I.mk none (some 22) (Ef.pr Pr.mv) [X.t 120], I.mk none (some 23) (Ef.pr Pr.mv) [X.t 121]]) 
  (IC.seq (IC.ops [I.mk none (some 122) (Ef.pr Pr.mv) [X.t 23], I.mk none (some 123) (Ef.pr (Pr.cm BinOp.eql)) [X.t 122, X.c (Value.int IntKind.i64 0)], I.mk none (some 124) (Ef.pr Pr.mv) [X.t 123], I.mk (some (124, false)) (some 125) (Ef.pr Pr.mv) [X.t 20], I.mk (some (124, false)) (some 126) (Ef.pr (Pr.eq false (EqT.one EqS.p))) [X.t 125, X.c (Value.pointer none)], I.mk (some (124, false)) (some 127) (Ef.pr Pr.mv) [X.t 126], I.mk (some (127, true)) (some 128) (Ef.pr Pr.mv) [X.t 21], I.mk (some (127, true)) (some 129) (Ef.pr Pr.mv) [X.t 23], I.mk (some (127, true)) (some 130) (Ef.pr (Pr.cm BinOp.eql)) [X.t 128, X.t 129], I.mk (some (124, false)) (some 131) (Ef.pr Pr.pick) [X.t 127, X.t 130, X.c (Value.bool false)], I.mk none (some 132) (Ef.pr Pr.pick) [X.t 124, X.c (Value.bool true), X.t 131], I.mk none (some 6) (Ef.pr Pr.mv) [X.t 132]]) IC.ret))) IC.skip)))))))))))))))) 
  (IC.seq (IC.ops [I.mk none (some 6) (Ef.pr Pr.mv) [X.c (Value.bool true)]]) IC.ret))

theorem k58 : Go.Proofs.Try.f58.body.bind (comp Go.Proofs.Try.prog 133 [5] []) = some c58 := by kernel_rfl

theorem r58 : cRVs Go.Proofs.Try.prog Go.Proofs.Try.f58.results.toList = some [RV.t 6] := by kernel_rfl

theorem e58 {args : List Value} {h : Hp} {Q : Value → Hp → Prop} (hl : Nat.ble args.length 133 = true) (hk : codeK PR none c58 (retK Q [RV.t 6]) (fun _ _ _ _ => False) (retK Q [RV.t 6]) (argsE 0 args) [] h) : Ok PR 58 args h Q :=
  Ok.of mixed Go.Proofs.Try.func58 rfl k58 r58 hl hk

def c59 : IC := IC.seq (IC.ops [I.mk none (some 2) (Ef.pr Pr.mv) [X.c (Value.bool false)]]) 
  (IC.seq (IC.ops [I.mk none (some 3) (Ef.pr Pr.mv) [X.t 0], I.mk none (some 4) (Ef.pr (Pr.cm BinOp.geq)) [X.t 3, X.c (Value.int IntKind.i64 0)], I.mk none (some 5) (Ef.pr Pr.mv) [X.t 4], I.mk (some (5, true)) (some 6) (Ef.pr Pr.mv) [X.t 0], I.mk (some (5, true)) (some 7) (Ef.pr (Pr.cm BinOp.lss)) [X.t 6, X.c (Value.int IntKind.i64 1024)], I.mk none (some 8) (Ef.pr Pr.pick) [X.t 5, X.t 7, X.c (Value.bool false)], I.mk none (some 2) (Ef.pr Pr.mv) [X.t 8]]) IC.ret)

theorem k59 : Go.Proofs.Try.f59.body.bind (comp Go.Proofs.Try.prog 9 [] []) = some c59 := by kernel_rfl

theorem r59 : cRVs Go.Proofs.Try.prog Go.Proofs.Try.f59.results.toList = some [RV.t 2] := by kernel_rfl

theorem e59 {args : List Value} {h : Hp} {Q : Value → Hp → Prop} (hl : Nat.ble args.length 9 = true) (hk : codeK PR none c59 (retK Q [RV.t 2]) (fun _ _ _ _ => False) (retK Q [RV.t 2]) (argsE 0 args) [] h) : Ok PR 59 args h Q :=
  Ok.of mixed Go.Proofs.Try.func59 rfl k59 r59 hl hk

def c60 : IC := IC.seq (IC.ops [I.mk none (some 2) (Ef.pr Pr.mv) [X.c (Value.bool false)]]) 
  (IC.seq 
  (IC.seq (IC.ops [I.mk none (some 3) (Ef.pr Pr.mv) [X.t 0], I.mk none (some 4) (Ef.pr Pr.nilc) [X.t 3], I.mk none (some 5) (Ef.pr (Pr.fa 3)) [X.t 4], I.mk none (some 6) (Ef.pr (Pr.ld 1 false)) [X.t 5]]) 
  (IC.cond (X.t 6) 
  (IC.seq (IC.ops [I.mk none (some 2) (Ef.pr Pr.mv) [X.c (Value.bool false)]]) IC.ret) IC.skip)) 
  (IC.seq 
  (IC.seq (IC.ops [I.mk none (some 7) (Ef.pr Pr.mv) [X.t 0], I.mk none (some 8) (Ef.pr Pr.nilc) [X.t 7], I.mk none (some 9) (Ef.pr (Pr.fa 2)) [X.t 8], I.mk none (some 10) (Ef.pr (Pr.ld 1 false)) [X.t 9], I.mk none (some 11) (Ef.pr (Pr.cm BinOp.eql)) [X.t 10, X.c (Value.int IntKind.i64 0)]]) 
  (IC.cond (X.t 11) 
  (IC.seq (IC.ops [I.mk none (some 12) (Ef.pr Pr.mv) [X.t 0], I.mk none (some 13) (Ef.pr Pr.nilc) [X.t 12], I.mk none (some 14) (Ef.pr (Pr.fa 3)) [X.t 13], I.mk none none (Ef.st 1) [X.t 14, X.c (Value.bool true)]]) 
  (IC.seq (IC.ops [I.mk none (some 2) (Ef.pr Pr.mv) [X.c (Value.bool false)]]) IC.ret)) IC.skip)) 
  (IC.seq 
  (IC.seq (IC.ops [I.mk none (some 15) (Ef.pr Pr.mv) [X.t 0], I.mk none (some 16) (Ef.pr Pr.nilc) [X.t 15], I.mk none (some 17) (Ef.pr (Pr.fa 2)) [X.t 16], I.mk none (some 18) (Ef.pr (Pr.ld 1 false)) [X.t 17], I.mk none (some 19) (Ef.pr (Pr.cm BinOp.gtr)) [X.t 18, X.c (Value.int IntKind.i64 0)]]) 
  (IC.cond (X.t 19) (IC.ops [I.mk none (some 20) (Ef.pr Pr.mv) [X.t 0], I.mk none (some 21) (Ef.pr Pr.mv) [X.t 0], I.mk none (some 22) (Ef.pr Pr.nilc) [X.t 21], I.mk none (some 23) (Ef.pr (Pr.fa 2)) [X.t 22], I.mk none (some 24) (Ef.pr (Pr.ld 1 false)) [X.t 23], I.mk none (some 25) (Ef.pr (Pr.ar BinOp.sub)) [X.t 24, X.c (Value.int IntKind.i64 1)], I.mk none (some 26) (Ef.pr Pr.nilc) [X.t 20], I.mk none (some 27) (Ef.pr (Pr.fa 2)) [X.t 26], I.mk none none (Ef.st 1) [X.t 27, X.t 25]]) IC.skip)) 
  (IC.seq (IC.ops [I.mk none (some 28) (Ef.pr Pr.mv) [X.t 0], I.mk none (some 29) (Ef.pr Pr.mv) [X.t 0], I.mk none (some 30) (Ef.pr Pr.nilc) [X.t 29], I.mk none (some 31) (Ef.pr (Pr.fa 4)) [X.t 30], I.mk none (some 32) (Ef.pr (Pr.ld 1 false)) [X.t 31], I.mk none (some 33) (Ef.pr (Pr.ar BinOp.add)) [X.t 32, X.c (Value.int IntKind.i64 1)], I.mk none (some 34) (Ef.pr Pr.nilc) [X.t 28], I.mk none (some 35) (Ef.pr (Pr.fa 4)) [X.t 34], I.mk none none (Ef.st 1) [X.t 35, X.t 33]]) 
  (IC.seq (IC.ops [I.mk none (some 2) (Ef.pr Pr.mv) [X.c (Value.bool true)]]) IC.ret)))))

theorem k60 : Go.Proofs.Try.f60.body.bind (comp Go.Proofs.Try.prog 36 [] []) = some c60 := by kernel_rfl

theorem r60 : cRVs Go.Proofs.Try.prog Go.Proofs.Try.f60.results.toList = some [RV.t 2] := by kernel_rfl

theorem e60 {args : List Value} {h : Hp} {Q : Value → Hp → Prop} (hl : Nat.ble args.length 36 = true) (hk : codeK PR none c60 (retK Q [RV.t 2]) (fun _ _ _ _ => False) (retK Q [RV.t 2]) (argsE 0 args) [] h) : Ok PR 60 args h Q :=
  Ok.of mixed Go.Proofs.Try.func60 rfl k60 r60 hl hk

def c61 : IC := IC.seq (IC.ops [I.mk none (some 4) (Ef.pr Pr.mv) [X.c (Value.slice none 0 0)], I.mk none (some 5) (Ef.pr Pr.mv) [X.c (Value.int IntKind.i64 0)]]) 
  (IC.seq 
  (IC.seq (IC.ops [I.mk none (some 7) (Ef.pr Pr.mv) [X.t 1], I.mk none (some 8) (Ef.call 59) [X.t 7], I.mk none (some 9) (Ef.pr (Pr.un UnOp.not)) [X.t 8]]) 
  (IC.cond (X.t 9) 
  (IC.seq (IC.ops [I.mk none (some 4) (Ef.pr Pr.mv) [X.c (Value.slice none 0 0)], I.mk none (some 5) (Ef.pr Pr.mv) [X.c (Value.int IntKind.i64 40)]]) IC.ret) IC.skip)) 
  (IC.seq 
  (IC.seq (IC.ops [I.mk none (some 10) (Ef.pr Pr.mv) [X.t 0], I.mk none (some 11) (Ef.pr Pr.nilc) [X.t 10], I.mk none (some 12) (Ef.pr (Pr.fa 3)) [X.t 11], I.mk none (some 13) (Ef.pr (Pr.ld 1 false)) [X.t 12]]) 
  (IC.cond (X.t 13) 
  (IC.seq (IC.ops [I.mk none (some 4) (Ef.pr Pr.mv) [X.c (Value.slice none 0 0)], I.mk none (some 5) (Ef.pr Pr.mv) [X.c (Value.int IntKind.i64 42)]]) IC.ret) IC.skip)) 
  (IC.seq (IC.ops [I.mk none (some 14) (Ef.mks [Value.int IntKind.u8 0] 5 1) [X.c (Value.int IntKind.i64 128), X.c (Value.int IntKind.i64 128)], I.mk none (some 6) (Ef.pr Pr.mv) [X.t 14]]) 
  (IC.seq (IC.ops [I.mk none (some 15) (Ef.pr Pr.mv) [X.t 6], I.mk none (some 16) (Ef.pr Pr.mv) [X.t 0], I.mk none (some 17) (Ef.pr Pr.nilc) [X.t 16], I.mk none (some 18) (Ef.pr (Pr.fa 0)) [X.t 17], I.mk none (some 19) (Ef.pr (Pr.ld 1 false)) [X.t 18], I.mk none (some 20) (Ef.pr Pr.mv) [X.t 1], I.mk none (some 21) (Ef.call 67) [X.t 15, X.t 19, X.t 20]]) 
  (IC.seq (IC.ops [I.mk none (some 22) (Ef.pr Pr.mv) [X.t 6], I.mk none (some 23) (Ef.pr Pr.mv) [X.t 0], I.mk none (some 24) (Ef.pr Pr.nilc) [X.t 23], I.mk none (some 25) (Ef.pr (Pr.fa 1)) [X.t 24], I.mk none (some 26) (Ef.pr (Pr.ld 1 false)) [X.t 25], I.mk none (some 27) (Ef.pr Pr.mv) [X.t 1], I.mk none (some 28) (Ef.call 67) [X.t 22, X.t 26, X.t 27]]) 
  (IC.seq (IC.ops [I.mk none (some 29) (Ef.pr Pr.mv) [X.t 6], I.mk none (some 4) (Ef.pr Pr.mv) [X.t 29], I.mk none (some 5) (Ef.pr Pr.mv) [X.c (Value.int IntKind.i64 0)]]) IC.ret))))))

theorem k61 : Go.Proofs.Try.f61.body.bind (comp Go.Proofs.Try.prog 30 [] []) = some c61 := by kernel_rfl

theorem r61 : cRVs Go.Proofs.Try.prog Go.Proofs.Try.f61.results.toList = some [RV.t 4, RV.t 5] := by kernel_rfl

theorem e61 {args : List Value} {h : Hp} {Q : Value → Hp → Prop} (hl : Nat.ble args.length 30 = true) (hk : codeK PR none c61 (retK Q [RV.t 4, RV.t 5]) (fun _ _ _ _ => False) (retK Q [RV.t 4, RV.t 5]) (argsE 0 args) [] h) : Ok PR 61 args h Q :=
  Ok.of mixed Go.Proofs.Try.func61 rfl k61 r61 hl hk

def c62 : IC := IC.seq (IC.ops [I.mk none (some 4) (Ef.pr Pr.mv) [X.c (Value.slice none 0 0)], I.mk none (some 5) (Ef.pr Pr.mv) [X.c (Value.int IntKind.i64 0)]]) 
  (IC.seq 
  (IC.seq (IC.ops [I.mk none (some 7) (Ef.pr Pr.mv) [X.t 1], I.mk none (some 8) (Ef.call 59) [X.t 7], I.mk none (some 9) (Ef.pr (Pr.un UnOp.not)) [X.t 8]]) 
  (IC.cond (X.t 9) 
  (IC.seq (IC.ops [I.mk none (some 4) (Ef.pr Pr.mv) [X.c (Value.slice none 0 0)], I.mk none (some 5) (Ef.pr Pr.mv) [X.c (Value.int IntKind.i64 40)]]) IC.ret) IC.skip)) 
  (IC.seq (IC.ops [I.mk none (some 10) (Ef.mks [Value.int IntKind.u8 0] 5 1) [X.c (Value.int IntKind.i64 128), X.c (Value.int IntKind.i64 128)], I.mk none (some 6) (Ef.pr Pr.mv) [X.t 10]]) 
  (IC.seq (IC.ops [I.mk none (some 11) (Ef.pr Pr.mv) [X.t 6], I.mk none (some 12) (Ef.pr Pr.mv) [X.t 0], I.mk none (some 13) (Ef.pr Pr.nilc) [X.t 12], I.mk none (some 14) (Ef.pr (Pr.fa 0)) [X.t 13], I.mk none (some 15) (Ef.pr (Pr.ld 1 false)) [X.t 14], I.mk none (some 16) (Ef.pr Pr.mv) [X.t 1], I.mk none (some 17) (Ef.call 67) [X.t 11, X.t 15, X.t 16]]) 
  (IC.seq (IC.ops [I.mk none (some 18) (Ef.pr Pr.mv) [X.t 6], I.mk none (some 4) (Ef.pr Pr.mv) [X.t 18], I.mk none (some 5) (Ef.pr Pr.mv) [X.c (Value.int IntKind.i64 0)]]) IC.ret))))

theorem k62 : Go.Proofs.Try.f62.body.bind (comp Go.Proofs.Try.prog 19 [] []) = some c62 := by kernel_rfl

theorem r62 : cRVs Go.Proofs.Try.prog Go.Proofs.Try.f62.results.toList = some [RV.t 4, RV.t 5] := by kernel_rfl

theorem e62 {args : List Value} {h : Hp} {Q : Value → Hp → Prop} (hl : Nat.ble args.length 19 = true) (hk : codeK PR none c62 (retK Q [RV.t 4, RV.t 5]) (fun _ _ _ _ => False) (retK Q [RV.t 4, RV.t 5]) (argsE 0 args) [] h) : Ok PR 62 args h Q :=
  Ok.of mixed Go.Proofs.Try.func62 rfl k62 r62 hl hk

def c63 : IC := IC.seq (IC.ops [I.mk none (some 2) (Ef.pr Pr.mv) [X.c (Value.slice none 0 0)]]) 
  (IC.seq (IC.ops [I.mk none (some 3) (Ef.pr Pr.mv) [X.c (Value.slice none 0 0)]]) 
  (IC.seq 
  (IC.seq (IC.ops [I.mk none (some 4) (Ef.pr Pr.mv) [X.c (Value.int IntKind.i64 0)]]) 
  (IC.block 0 
  (IC.loop 
  (IC.seq 
  (IC.seq (IC.ops [I.mk none (some 5) (Ef.pr Pr.mv) [X.t 4], I.mk none (some 6) (Ef.pr Pr.mv) [X.t 0], I.mk none (some 7) (Ef.pr Pr.nilc) [X.t 6], I.mk none (some 8) (Ef.pr (Pr.fa 1)) [X.t 7], I.mk none (some 9) (Ef.pr (Pr.ld 1 false)) [X.t 8], I.mk none (some 10) (Ef.pr Pr.lenS) [X.t 9], I.mk none (some 11) (Ef.pr (Pr.cm BinOp.lss)) [X.t 5, X.t 10]]) 
  (IC.cond (X.t 11) IC.skip (IC.exit 0))) 
  (IC.seq 
  (IC.block 1 (IC.ops [I.mk none (some 14) (Ef.pr Pr.mv) [X.t 3], I.mk none (some 15) (Ef.pr Pr.mv) [X.t 0], I.mk none (some 16) (Ef.pr Pr.nilc) [X.t 15], I.mk none (some 17) (Ef.pr (Pr.fa 1)) [X.t 16], I.mk none (some 18) (Ef.pr (Pr.ld 1 false)) [X.t 17], I.mk none (some 19) (Ef.pr Pr.mv) [X.t 4], I.mk none (some 20) (Ef.pr (Pr.iaS 3)) [X.t 18, X.t 19], I.mk none (some 21) (Ef.pr (Pr.fa 0)) [X.t 20], I.mk none (some 22) (Ef.pr (Pr.ld 1 false)) [X.t 21], I.mk none (some 23) (Ef.bsl [Value.int IntKind.i64 0] 3 1 1 [0]) [X.t 22], I.mk none (some 24) (Ef.app [Value.int IntKind.i64 0] 3 8) [X.t 14, X.t 23], I.mk none (some 3) (Ef.pr Pr.mv) [X.t 24]])) (IC.ops [I.mk none (some 12) (Ef.pr Pr.mv) [X.t 4], I.mk none (some 13) (Ef.pr (Pr.ar BinOp.add)) [X.t 12, X.c (Value.int IntKind.i64 1)], I.mk none (some 4) (Ef.pr Pr.mv) [X.t 13]])))))) 
  (IC.seq (IC.ops [I.mk none (some 25) (Ef.pr Pr.mv) [X.t 3], I.mk none (some 2) (Ef.pr Pr.mv) [X.t 25]]) IC.ret)))

theorem k63 : Go.Proofs.Try.f63.body.bind (comp Go.Proofs.Try.prog 26 [] []) = some c63 := by kernel_rfl

theorem r63 : cRVs Go.Proofs.Try.prog Go.Proofs.Try.f63.results.toList = some [RV.t 2] := by kernel_rfl

theorem e63 {args : List Value} {h : Hp} {Q : Value → Hp → Prop} (hl : Nat.ble args.length 26 = true) (hk : codeK PR none c63 (retK Q [RV.t 2]) (fun _ _ _ _ => False) (retK Q [RV.t 2]) (argsE 0 args) [] h) : Ok PR 63 args h Q :=
  Ok.of mixed Go.Proofs.Try.func63 rfl k63 r63 hl hk

def c64 : IC := IC.seq (IC.ops [I.mk none (some 4) (Ef.pr Pr.mv) [X.c (Value.bool false)]]) 
  (IC.seq 
  (IC.seq (IC.ops [I.mk none (some 6) (Ef.pr Pr.mv) [X.t 0], I.mk none (some 7) (Ef.pr Pr.lenS) [X.t 6], I.mk none (some 8) (Ef.pr Pr.mv) [X.t 1], I.mk none (some 9) (Ef.pr Pr.lenS) [X.t 8], I.mk none (some 10) (Ef.pr (Pr.cm BinOp.neq)) [X.t 7, X.t 9]]) 
  (IC.cond (X.t 10) 
  (IC.seq (IC.ops [I.mk none (some 4) (Ef.pr Pr.mv) [X.c (Value.bool false)]]) IC.ret) IC.skip)) 
  (IC.seq 
  (IC.seq (IC.ops [I.mk none (some 5) (Ef.pr Pr.mv) [X.c (Value.int IntKind.i64 0)]]) 
  (IC.block 0 
  (IC.loop 
  (IC.seq 
  (IC.seq (IC.ops [I.mk none (some 11) (Ef.pr Pr.mv) [X.t 5], I.mk none (some 12) (Ef.pr Pr.mv) [X.t 0], I.mk none (some 13) (Ef.pr Pr.lenS) [X.t 12], I.mk none (some 14) (Ef.pr (Pr.cm BinOp.lss)) [X.t 11, X.t 13]]) 
  (IC.cond (X.t 14) IC.skip (IC.exit 0))) 
  (IC.seq 
  (IC.block 1 
  (IC.seq (IC.plan (Plan.q (I.mk none (some 17) (Ef.pr Pr.mv) [X.t 0]) (Plan.q (I.mk none (some 18) (Ef.pr Pr.mv) [X.t 5]) (Plan.q (I.mk none (some 19) (Ef.pr (Pr.iaS 1)) [X.t 17, X.t 18]) (Plan.q (I.mk none (some 20) (Ef.pr (Pr.ld 1 false)) [X.t 19]) (Plan.q (I.mk none (some 21) (Ef.pr Pr.mv) [X.t 1]) (Plan.q (I.mk none (some 22) (Ef.pr Pr.mv) [X.t 5]) (Plan.q (I.mk none (some 23) (Ef.pr (Pr.iaS 1)) [X.t 21, X.t 22]) (Plan.q (I.mk none (some 24) (Ef.pr (Pr.ld 1 false)) [X.t 23]) (Plan.q (I.mk none (some 25) (Ef.pr (Pr.cm BinOp.neq)) [X.t 20, X.t 24]) Plan.done)))))))))) 
  (IC.cond (X.t 25) 
  (IC.seq (IC.ops [I.mk none (some 4) (Ef.pr Pr.mv) [X.c (Value.bool false)]]) IC.ret) IC.skip))) (IC.ops [I.mk none (some 15) (Ef.pr Pr.mv) [X.t 5], I.mk none (some 16) (Ef.pr (Pr.ar BinOp.add)) [X.t 15, X.c (Value.int IntKind.i64 1)], I.mk none (some 5) (Ef.pr Pr.mv) [X.t 16]])))))) 
  (IC.seq (IC.ops [I.mk none (some 4) (Ef.pr Pr.mv) [X.c (Value.bool true)]]) IC.ret)))

theorem k64 : Go.Proofs.Try.f64.body.bind (comp Go.Proofs.Try.prog 26 [] []) = some c64 := by kernel_rfl

theorem r64 : cRVs Go.Proofs.Try.prog Go.Proofs.Try.f64.results.toList = some [RV.t 4] := by kernel_rfl

theorem e64 {args : List Value} {h : Hp} {Q : Value → Hp → Prop} (hl : Nat.ble args.length 26 = true) (hk : codeK PR none c64 (retK Q [RV.t 4]) (fun _ _ _ _ => False) (retK Q [RV.t 4]) (argsE 0 args) [] h) : Ok PR 64 args h Q :=
  Ok.of mixed Go.Proofs.Try.func64 rfl k64 r64 hl hk

def c65 : IC := IC.seq (IC.ops [I.mk none (some 2) (Ef.pr Pr.mv) [X.c (Value.bool false)]]) 
  (IC.seq (IC.ops [I.mk none (some 3) (Ef.pr Pr.mv) [X.t 0], I.mk none (some 4) (Ef.pr Pr.nilc) [X.t 3], I.mk none (some 5) (Ef.pr (Pr.fa 3)) [X.t 4], I.mk none (some 6) (Ef.pr (Pr.ld 1 false)) [X.t 5], I.mk none (some 2) (Ef.pr Pr.mv) [X.t 6]]) IC.ret)

theorem k65 : Go.Proofs.Try.f65.body.bind (comp Go.Proofs.Try.prog 7 [] []) = some c65 := by kernel_rfl

theorem r65 : cRVs Go.Proofs.Try.prog Go.Proofs.Try.f65.results.toList = some [RV.t 2] := by kernel_rfl

theorem e65 {args : List Value} {h : Hp} {Q : Value → Hp → Prop} (hl : Nat.ble args.length 7 = true) (hk : codeK PR none c65 (retK Q [RV.t 2]) (fun _ _ _ _ => False) (retK Q [RV.t 2]) (argsE 0 args) [] h) : Ok PR 65 args h Q :=
  Ok.of mixed Go.Proofs.Try.func65 rfl k65 r65 hl hk

def c66 : IC := IC.seq (IC.ops [I.mk none (some 2) (Ef.pr Pr.mv) [X.c (Value.int IntKind.i64 0)]]) 
  (IC.seq (IC.ops [I.mk none (some 3) (Ef.pr Pr.mv) [X.t 0], I.mk none (some 4) (Ef.pr Pr.nilc) [X.t 3], I.mk none (some 5) (Ef.pr (Pr.fa 4)) [X.t 4], I.mk none (some 6) (Ef.pr (Pr.ld 1 false)) [X.t 5], I.mk none (some 2) (Ef.pr Pr.mv) [X.t 6]]) IC.ret)

theorem k66 : Go.Proofs.Try.f66.body.bind (comp Go.Proofs.Try.prog 7 [] []) = some c66 := by kernel_rfl

theorem r66 : cRVs Go.Proofs.Try.prog Go.Proofs.Try.f66.results.toList = some [RV.t 2] := by kernel_rfl

theorem e66 {args : List Value} {h : Hp} {Q : Value → Hp → Prop} (hl : Nat.ble args.length 7 = true) (hk : codeK PR none c66 (retK Q [RV.t 2]) (fun _ _ _ _ => False) (retK Q [RV.t 2]) (argsE 0 args) [] h) : Ok PR 66 args h Q :=
  Ok.of mixed Go.Proofs.Try.func66 rfl k66 r66 hl hk

def c67 : IC := IC.seq (IC.ops [I.mk none (some 6) (Ef.pr Pr.mv) [X.c (Value.int IntKind.i64 0)]]) 
  (IC.block 0 
  (IC.loop 
  (IC.seq 
  (IC.seq (IC.ops [I.mk none (some 8) (Ef.pr Pr.mv) [X.t 6], I.mk none (some 9) (Ef.pr Pr.mv) [X.t 1], I.mk none (some 10) (Ef.pr Pr.lenS) [X.t 9], I.mk none (some 11) (Ef.pr (Pr.cm BinOp.lss)) [X.t 8, X.t 10]]) 
  (IC.cond (X.t 11) IC.skip (IC.exit 0))) 
  (IC.seq 
  (IC.block 1 
  (IC.seq 
  (IC.seq (IC.ops [I.mk none (some 14) (Ef.pr Pr.mv) [X.t 1], I.mk none (some 15) (Ef.pr Pr.mv) [X.t 6], I.mk none (some 16) (Ef.pr (Pr.iaS 3)) [X.t 14, X.t 15], I.mk none (some 17) (Ef.pr (Pr.fa 0)) [X.t 16], I.mk none (some 18) (Ef.pr (Pr.ld 1 false)) [X.t 17], I.mk none (some 19) (Ef.pr Pr.mv) [X.t 2], I.mk none (some 20) (Ef.pr (Pr.cm BinOp.neq)) [X.t 18, X.t 19]]) 
  (IC.cond (X.t 20) (IC.exit 1) IC.skip)) 
  (IC.seq (IC.ops [I.mk none (some 7) (Ef.pr Pr.mv) [X.c (Value.int IntKind.i64 0)]]) 
  (IC.block 2 
  (IC.loop 
  (IC.seq 
  (IC.seq (IC.ops [I.mk none (some 21) (Ef.pr Pr.mv) [X.t 7], I.mk none (some 22) (Ef.pr Pr.mv) [X.t 1], I.mk none (some 23) (Ef.pr Pr.mv) [X.t 6], I.mk none (some 24) (Ef.pr (Pr.iaS 3)) [X.t 22, X.t 23], I.mk none (some 25) (Ef.pr (Pr.fa 2)) [X.t 24], I.mk none (some 26) (Ef.pr (Pr.ld 1 false)) [X.t 25], I.mk none (some 27) (Ef.pr Pr.lenS) [X.t 26], I.mk none (some 28) (Ef.pr (Pr.cm BinOp.lss)) [X.t 21, X.t 27]]) 
  (IC.cond (X.t 28) IC.skip (IC.exit 2))) 
  (IC.seq 
  (IC.block 3 (IC.plan (Plan.q (I.mk none (some 31) (Ef.pr Pr.mv) [X.t 0]) (Plan.q (I.mk none (some 32) (Ef.pr Pr.mv) [X.t 1]) (Plan.q (I.mk none (some 33) (Ef.pr Pr.mv) [X.t 6]) (Plan.q (I.mk none (some 34) (Ef.pr (Pr.iaS 3)) [X.t 32, X.t 33]) (Plan.q (I.mk none (some 35) (Ef.pr (Pr.fa 1)) [X.t 34]) (Plan.q (I.mk none (some 36) (Ef.pr (Pr.ld 1 false)) [X.t 35]) (Plan.q (I.mk none (some 37) (Ef.pr Pr.mv) [X.t 7]) (Plan.q (I.mk none (some 38) (Ef.pr (Pr.ar BinOp.add)) [X.t 36, X.t 37]) (Plan.q (I.mk none (some 39) (Ef.pr Pr.mv) [X.t 1]) (Plan.q (I.mk none (some 40) (Ef.pr Pr.mv) [X.t 6]) (Plan.q (I.mk none (some 41) (Ef.pr (Pr.iaS 3)) [X.t 39, X.t 40]) (Plan.q (I.mk none (some 42) (Ef.pr (Pr.fa 2)) [X.t 41]) (Plan.q (I.mk none (some 43) (Ef.pr (Pr.ld 1 false)) [X.t 42]) (Plan.q (I.mk none (some 44) (Ef.pr Pr.mv) [X.t 7]) (Plan.q (I.mk none (some 45) (Ef.pr (Pr.iaS 1)) [X.t 43, X.t 44]) (Plan.q (I.mk none (some 46) (Ef.pr (Pr.ld 1 false)) [X.t 45]) (Plan.q (I.mk none (some 47) (Ef.pr (Pr.iaS 1)) [X.t 31, X.t 38]) (Plan.br (PlanL.cons false false (I.mk none none (Ef.st 1) [X.t 47, X.t 46]) Plan.done PlanL.nil))))))))))))))))))))) (IC.ops [I.mk none (some 29) (Ef.pr Pr.mv) [X.t 7], I.mk none (some 30) (Ef.pr (Pr.ar BinOp.add)) [X.t 29, X.c (Value.int IntKind.i64 1)], I.mk none (some 7) (Ef.pr Pr.mv) [X.t 30]])))))))) (IC.ops [I.mk none (some 12) (Ef.pr Pr.mv) [X.t 6], I.mk none (some 13) (Ef.pr (Pr.ar BinOp.add)) [X.t 12, X.c (Value.int IntKind.i64 1)], I.mk none (some 6) (Ef.pr Pr.mv) [X.t 13]])))))

theorem k67 : Go.Proofs.Try.f67.body.bind (comp Go.Proofs.Try.prog 48 [] []) = some c67 := by kernel_rfl

theorem r67 : cRVs Go.Proofs.Try.prog Go.Proofs.Try.f67.results.toList = some [] := by kernel_rfl

theorem e67 {args : List Value} {h : Hp} {Q : Value → Hp → Prop} (hl : Nat.ble args.length 48 = true) (hk : codeK PR none c67 (retK Q []) (fun _ _ _ _ => False) (retK Q []) (argsE 0 args) [] h) : Ok PR 67 args h Q :=
  Ok.of mixed Go.Proofs.Try.func67 rfl k67 r67 hl hk

end Go.Proofs.Ytpkleblggehghaa.V
