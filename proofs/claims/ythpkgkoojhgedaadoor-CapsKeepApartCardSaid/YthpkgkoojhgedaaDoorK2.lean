/- The functions 42, 43, 46, 47, 48, 50, 52, 53, 54, 57, 58, 59, 75, 76, 20, 23, 27, 29, 30, 15, 16, 17, 18, 21, 22, 44, 45, 24, 25, 26, 51, 3, 4, 5, 6, 7, 8, 9, resolved. -/
import Derived.Test.YthpkgkoojhgedaaDoorVP
namespace Go.Proofs.YthpkgkoojhgedaaDoor.V
set_option linter.unusedVariables false
set_option linter.unusedSimpArgs false
set_option linter.unusedSectionVars false
open Go
set_option maxRecDepth 100000

def c42 : IC := IC.seq (IC.ops [I.mk none (some 2) (Ef.bxh 23) [X.t 0], I.mk none (some 4) (Ef.pr Pr.mv) [X.c (Value.slice none 0 0)], I.mk none (some 5) (Ef.pr Pr.mv) [X.c (Value.int IntKind.i64 0)]]) 
  (IC.seq (IC.ops [I.mk none (some 10) (Ef.pr (Pr.ld 1 false)) [X.t 2], I.mk none (some 11) (Ef.pr Pr.mv) [X.t 1], I.mk none (some 12) (Ef.call 37) [X.t 10, X.t 11], I.mk none (some 6) (Ef.pr Pr.mv) [X.t 12]]) 
  (IC.seq 
  (IC.seq (IC.ops [I.mk none (some 13) (Ef.pr Pr.mv) [X.t 6], I.mk none (some 14) (Ef.pr (Pr.eq false (EqT.one EqS.p))) [X.t 13, X.c (Value.pointer none)]]) 
  (IC.cond (X.t 14) 
  (IC.seq (IC.ops [I.mk none (some 4) (Ef.pr Pr.mv) [X.c (Value.slice none 0 0)], I.mk none (some 5) (Ef.pr Pr.mv) [X.c (Value.int IntKind.i64 83)]]) IC.ret) IC.skip)) 
  (IC.seq (IC.ops [I.mk none (some 7) (Ef.alh [Value.slice none 0 0] 41) []]) 
  (IC.seq 
  (IC.seq (IC.ops [I.mk none (some 15) (Ef.pr Pr.mv) [X.t 6], I.mk none (some 16) (Ef.call 49) [X.t 15]]) 
  (IC.block 0 (IC.rf (X.t 16) [17, 18] (IC.ops [I.mk none (some 9) (Ef.pr Pr.mv) [X.t 18]]) 
  (IC.block 1 
  (IC.seq (IC.plan (Plan.q (I.mk none (some 19) (Ef.pr (Pr.ld 1 false)) [X.t 7]) (Plan.q (I.mk none (some 20) (Ef.pr Pr.mv) [X.t 9]) (Plan.br (PlanL.cons true true (I.mk none (some 21) (Ef.call 50) [X.t 20]) (Plan.br (PlanL.cons true false (I.mk none (some 22) (Ef.bsl [Value.int IntKind.i64 0, Value.int IntKind.i64 0, Value.int IntKind.i64 0, Value.int IntKind.i64 0, Value.int IntKind.i64 0, Value.int IntKind.i64 0] 49 1 6 [0]) [X.t 21]) (Plan.br (PlanL.cons false false (I.mk none (some 23) (Ef.app [Value.int IntKind.i64 0, Value.int IntKind.i64 0, Value.int IntKind.i64 0, Value.int IntKind.i64 0, Value.int IntKind.i64 0, Value.int IntKind.i64 0] 49 48) [X.t 19, X.t 22]) (Plan.br (PlanL.cons false false (I.mk none none (Ef.st 1) [X.t 7, X.t 23]) Plan.done PlanL.nil)) PlanL.nil)) PlanL.nil)) PlanL.nil))))) (IC.ops [I.mk none (some 24) (Ef.pr (Pr.ld 1 false)) [X.t 2], I.mk none (some 25) (Ef.pr Pr.mv) [X.t 9], I.mk none (some 26) (Ef.call 41) [X.t 24, X.t 25]])))))) 
  (IC.seq (IC.ops [I.mk none (some 27) (Ef.pr (Pr.ld 1 false)) [X.t 2], I.mk none (some 28) (Ef.pr Pr.mv) [X.t 1], I.mk none (some 29) (Ef.pr Pr.nilc) [X.t 27], I.mk none (some 30) (Ef.pr (Pr.fa 0)) [X.t 29], I.mk none (some 31) (Ef.pr (Pr.iaA 16 1)) [X.t 30, X.t 28], I.mk none none (Ef.st 1) [X.t 31, X.c (Value.pointer none)]]) 
  (IC.seq (IC.ops [I.mk none (some 32) (Ef.pr (Pr.ld 1 false)) [X.t 7], I.mk none (some 4) (Ef.pr Pr.mv) [X.t 32], I.mk none (some 5) (Ef.pr Pr.mv) [X.c (Value.int IntKind.i64 0)]]) IC.ret))))))

theorem k42 : Go.Proofs.Tryd.f42.body.bind (comp Go.Proofs.Tryd.prog 33 [] []) = some c42 := by kernel_rfl

theorem r42 : cRVs Go.Proofs.Tryd.prog Go.Proofs.Tryd.f42.results.toList = some [RV.t 4, RV.t 5] := by kernel_rfl

theorem e42 {args : List Value} {h : Hp} {Q : Value → Hp → Prop} (hl : Nat.ble args.length 33 = true) (hk : codeK PR none c42 (retK Q [RV.t 4, RV.t 5]) (fun _ _ _ _ => False) (retK Q [RV.t 4, RV.t 5]) (argsE 0 args) [] h) : Ok PR 42 args h Q :=
  Ok.of mixed Go.Proofs.Tryd.func42 rfl k42 r42 hl hk

def c43 : IC := IC.seq (IC.ops [I.mk none (some 4) (Ef.bxh 3) [X.t 1], I.mk none (some 5) (Ef.bxh 3) [X.t 2], I.mk none (some 6) (Ef.pr Pr.mv) [X.c (Value.slice none 0 0)]]) 
  (IC.seq (IC.ops [I.mk none (some 7) (Ef.pr Pr.mv) [X.t 0], I.mk none (some 8) (Ef.pr (Pr.mkf (Fn.func 75) 0)) [X.t 4, X.t 5], I.mk none (some 9) (Ef.call 47) [X.t 7, X.t 8], I.mk none (some 6) (Ef.pr Pr.mv) [X.t 9]]) IC.ret)

theorem k43 : Go.Proofs.Tryd.f43.body.bind (comp Go.Proofs.Tryd.prog 10 [] []) = some c43 := by kernel_rfl

theorem r43 : cRVs Go.Proofs.Tryd.prog Go.Proofs.Tryd.f43.results.toList = some [RV.t 6] := by kernel_rfl

theorem e43 {args : List Value} {h : Hp} {Q : Value → Hp → Prop} (hl : Nat.ble args.length 10 = true) (hk : codeK PR none c43 (retK Q [RV.t 6]) (fun _ _ _ _ => False) (retK Q [RV.t 6]) (argsE 0 args) [] h) : Ok PR 43 args h Q :=
  Ok.of mixed Go.Proofs.Tryd.func43 rfl k43 r43 hl hk

def c46 : IC := IC.seq (IC.ops [I.mk none (some 6) (Ef.pr Pr.mv) [X.t 0], I.mk none (some 7) (Ef.pr Pr.nilc) [X.t 6], I.mk none (some 8) (Ef.pr (Pr.fa 7)) [X.t 7], I.mk none (some 9) (Ef.pr (Pr.ld 1 false)) [X.t 8], I.mk none (some 10) (Ef.pr Pr.lenS) [X.t 9], I.mk none (some 11) (Ef.pr Pr.mv) [X.c (Value.int IntKind.i64 0)]]) 
  (IC.block 0 
  (IC.loop 
  (IC.seq (IC.ops [I.mk none (some 12) (Ef.pr (Pr.cm BinOp.lss)) [X.t 11, X.t 10]]) 
  (IC.seq 
  (IC.cond (X.t 12) IC.skip (IC.exit 0)) 
  (IC.seq 
  (IC.block 1 
  (IC.seq (IC.ops [I.mk none (some 13) (Ef.pr (Pr.iaS 1)) [X.t 9, X.t 11], I.mk none (some 14) (Ef.pr (Pr.ld 1 false)) [X.t 13], I.mk none (some 5) (Ef.pr Pr.mv) [X.t 14]]) 
  (IC.seq (IC.ops [I.mk none (some 15) (Ef.pr Pr.mv) [X.t 1], I.mk none (some 16) (Ef.pr Pr.mv) [X.t 5], I.mk none none (Ef.mup (EqT.one EqS.p)) [X.t 15, X.t 16, X.c (Value.int IntKind.i64 1)]]) (IC.ops [I.mk none (some 17) (Ef.pr Pr.mv) [X.t 5], I.mk none (some 18) (Ef.pr Pr.mv) [X.t 1], I.mk none (some 19) (Ef.call 46) [X.t 17, X.t 18]])))) (IC.ops [I.mk none (some 20) (Ef.pr (Pr.ar BinOp.add)) [X.t 11, X.c (Value.int IntKind.i64 1)], I.mk none (some 11) (Ef.pr Pr.mv) [X.t 20]]))))))

theorem k46 : Go.Proofs.Tryd.f46.body.bind (comp Go.Proofs.Tryd.prog 21 [] []) = some c46 := by kernel_rfl

theorem r46 : cRVs Go.Proofs.Tryd.prog Go.Proofs.Tryd.f46.results.toList = some [] := by kernel_rfl

theorem e46 {args : List Value} {h : Hp} {Q : Value → Hp → Prop} (hl : Nat.ble args.length 21 = true) (hk : codeK PR none c46 (retK Q []) (fun _ _ _ _ => False) (retK Q []) (argsE 0 args) [] h) : Ok PR 46 args h Q :=
  Ok.of mixed Go.Proofs.Tryd.func46 rfl k46 r46 hl hk

def c47 : IC := IC.seq (IC.ops [I.mk none (some 2) (Ef.bxh 23) [X.t 0], I.mk none (some 3) (Ef.bxh 93) [X.t 1], I.mk none (some 4) (Ef.pr Pr.mv) [X.c (Value.slice none 0 0)]]) 
  (IC.seq (IC.ops [I.mk none (some 5) (Ef.alh [Value.slice none 0 0] 41) []]) 
  (IC.seq (IC.ops [I.mk none (some 6) (Ef.pr (Pr.ld 1 false)) [X.t 2], I.mk none (some 7) (Ef.pr (Pr.mkf (Fn.func 76) 0)) [X.t 3, X.t 5, X.t 2], I.mk none (some 8) (Ef.call 57) [X.t 6, X.t 7]]) 
  (IC.seq (IC.ops [I.mk none (some 9) (Ef.pr (Pr.ld 1 false)) [X.t 5], I.mk none (some 4) (Ef.pr Pr.mv) [X.t 9]]) IC.ret)))

theorem k47 : Go.Proofs.Tryd.f47.body.bind (comp Go.Proofs.Tryd.prog 10 [] []) = some c47 := by kernel_rfl

theorem r47 : cRVs Go.Proofs.Tryd.prog Go.Proofs.Tryd.f47.results.toList = some [RV.t 4] := by kernel_rfl

theorem e47 {args : List Value} {h : Hp} {Q : Value → Hp → Prop} (hl : Nat.ble args.length 10 = true) (hk : codeK PR none c47 (retK Q [RV.t 4]) (fun _ _ _ _ => False) (retK Q [RV.t 4]) (argsE 0 args) [] h) : Ok PR 47 args h Q :=
  Ok.of mixed Go.Proofs.Tryd.func47 rfl k47 r47 hl hk

def c48 : IC := IC.seq (IC.ops [I.mk none (some 3) (Ef.pr Pr.mv) [X.c (Value.bool false)]]) 
  (IC.seq (IC.ops [I.mk none (some 4) (Ef.pr (Pr.ld 1 false)) [X.t 1], I.mk none (some 5) (Ef.pr Pr.mv) [X.t 0], I.mk none (some 6) (Ef.pr (Pr.look (EqT.one EqS.p) (Value.int IntKind.i64 0) false)) [X.t 4, X.t 5], I.mk none (some 7) (Ef.pr (Pr.cm BinOp.gtr)) [X.t 6, X.c (Value.int IntKind.i64 0)], I.mk none (some 3) (Ef.pr Pr.mv) [X.t 7]]) IC.ret)

theorem k48 : Go.Proofs.Tryd.f48.body.bind (comp Go.Proofs.Tryd.prog 8 [] []) = some c48 := by kernel_rfl

theorem r48 : cRVs Go.Proofs.Tryd.prog Go.Proofs.Tryd.f48.results.toList = some [RV.t 3] := by kernel_rfl

theorem e48 {args : List Value} {h : Hp} {Q : Value → Hp → Prop} (hl : Nat.ble args.length 8 = true) (hk : codeK PR none c48 (retK Q [RV.t 3]) (fun _ _ _ _ => False) (retK Q [RV.t 3]) (argsE 0 args) [] h) : Ok PR 48 args h Q :=
  Ok.of mixed Go.Proofs.Tryd.func48 rfl k48 r48 hl hk

def c50 : IC := IC.seq (IC.ops [I.mk none (some 2) (Ef.al [Value.int IntKind.i64 0, Value.int IntKind.i64 0, Value.int IntKind.i64 0, Value.int IntKind.i64 0, Value.int IntKind.i64 0, Value.int IntKind.i64 0]) []]) 
  (IC.seq (IC.plan (Plan.q (I.mk none (some 3) (Ef.pr Pr.mv) [X.t 0]) (Plan.q (I.mk none (some 4) (Ef.pr Pr.nilc) [X.t 3]) (Plan.q (I.mk none (some 5) (Ef.pr (Pr.fa 0)) [X.t 4]) (Plan.q (I.mk none (some 6) (Ef.pr (Pr.fa 0)) [X.t 5]) (Plan.q (I.mk none (some 7) (Ef.pr (Pr.ld 1 false)) [X.t 6]) (Plan.q (I.mk none (some 8) (Ef.pr Pr.mv) [X.t 0]) (Plan.q (I.mk none (some 9) (Ef.pr Pr.nilc) [X.t 8]) (Plan.q (I.mk none (some 10) (Ef.pr (Pr.fa 0)) [X.t 9]) (Plan.q (I.mk none (some 11) (Ef.pr (Pr.fa 1)) [X.t 10]) (Plan.q (I.mk none (some 12) (Ef.pr (Pr.ld 1 false)) [X.t 11]) (Plan.q (I.mk none (some 13) (Ef.pr Pr.mv) [X.t 0]) (Plan.q (I.mk none (some 14) (Ef.pr Pr.nilc) [X.t 13]) (Plan.q (I.mk none (some 15) (Ef.pr (Pr.fa 2)) [X.t 14]) (Plan.q (I.mk none (some 16) (Ef.pr (Pr.ld 4 true)) [X.t 15]) (Plan.q (I.mk none (some 17) (Ef.pr (Pr.bld [Value.int IntKind.i64 0, Value.int IntKind.i64 0, Value.int IntKind.i64 0, Value.int IntKind.i64 0, Value.int IntKind.i64 0, Value.int IntKind.i64 0] [(0, 1), (1, 1), (2, 4)])) [X.t 7, X.t 12, X.t 16]) (Plan.br (PlanL.cons false false (I.mk none none (Ef.st 6) [X.t 2, X.t 17]) Plan.done PlanL.nil)))))))))))))))))) IC.ret)

theorem k50 : Go.Proofs.Tryd.f50.body.bind (comp Go.Proofs.Tryd.prog 18 [2] []) = some c50 := by kernel_rfl

theorem r50 : cRVs Go.Proofs.Tryd.prog Go.Proofs.Tryd.f50.results.toList = some [RV.c 2 6 true] := by kernel_rfl

theorem e50 {args : List Value} {h : Hp} {Q : Value → Hp → Prop} (hl : Nat.ble args.length 18 = true) (hk : codeK PR none c50 (retK Q [RV.c 2 6 true]) (fun _ _ _ _ => False) (retK Q [RV.c 2 6 true]) (argsE 0 args) [] h) : Ok PR 50 args h Q :=
  Ok.of mixed Go.Proofs.Tryd.func50 rfl k50 r50 hl hk

def c52 : IC := IC.seq (IC.ops [I.mk none (some 4) (Ef.pr Pr.mv) [X.c (Value.bool false)]]) 
  (IC.seq 
  (IC.seq (IC.ops [I.mk none (some 7) (Ef.pr Pr.mv) [X.t 1], I.mk none (some 8) (Ef.pr Pr.lenS) [X.t 7], I.mk none (some 9) (Ef.pr Pr.mv) [X.c (Value.int IntKind.i64 0)]]) 
  (IC.block 0 
  (IC.loop 
  (IC.seq (IC.ops [I.mk none (some 10) (Ef.pr (Pr.cm BinOp.lss)) [X.t 9, X.t 8]]) 
  (IC.seq 
  (IC.cond (X.t 10) IC.skip (IC.exit 0)) 
  (IC.seq 
  (IC.block 1 
  (IC.seq (IC.ops [I.mk none (some 11) (Ef.pr (Pr.iaS 2)) [X.t 7, X.t 9], I.mk none (some 12) (Ef.pr (Pr.ld 2 true)) [X.t 11], I.mk none (some 6) (Ef.al [Value.nilFunc, Value.int IntKind.i64 0]) [], I.mk none none (Ef.st 2) [X.t 6, X.t 12]]) 
  (IC.seq (IC.plan (Plan.q (I.mk none (some 13) (Ef.pr (Pr.fa 0)) [X.t 6]) (Plan.q (I.mk none (some 14) (Ef.pr (Pr.ld 1 false)) [X.t 13]) (Plan.q (I.mk none (some 15) (Ef.pr Pr.mv) [X.t 0]) (Plan.q (I.mk none (some 17) (Ef.pr (Pr.fa 1)) [X.t 6]) (Plan.q (I.mk none (some 18) (Ef.pr (Pr.ld 1 false)) [X.t 17]) (Plan.br (PlanL.cons true false (I.mk none (some 16) Ef.callv [X.t 14, X.t 15]) (Plan.q (I.mk none (some 19) (Ef.pr (Pr.cm BinOp.neq)) [X.t 16, X.t 18]) Plan.done) PlanL.nil)))))))) 
  (IC.cond (X.t 19) 
  (IC.seq (IC.ops [I.mk none (some 4) (Ef.pr Pr.mv) [X.c (Value.bool false)]]) IC.ret) IC.skip)))) (IC.ops [I.mk none (some 20) (Ef.pr (Pr.ar BinOp.add)) [X.t 9, X.c (Value.int IntKind.i64 1)], I.mk none (some 9) (Ef.pr Pr.mv) [X.t 20]]))))))) 
  (IC.seq (IC.ops [I.mk none (some 4) (Ef.pr Pr.mv) [X.c (Value.bool true)]]) IC.ret))

theorem k52 : Go.Proofs.Tryd.f52.body.bind (comp Go.Proofs.Tryd.prog 21 [6] []) = some c52 := by kernel_rfl

theorem r52 : cRVs Go.Proofs.Tryd.prog Go.Proofs.Tryd.f52.results.toList = some [RV.t 4] := by kernel_rfl

theorem e52 {args : List Value} {h : Hp} {Q : Value → Hp → Prop} (hl : Nat.ble args.length 21 = true) (hk : codeK PR none c52 (retK Q [RV.t 4]) (fun _ _ _ _ => False) (retK Q [RV.t 4]) (argsE 0 args) [] h) : Ok PR 52 args h Q :=
  Ok.of mixed Go.Proofs.Tryd.func52 rfl k52 r52 hl hk

def c53 : IC := IC.seq (IC.ops [I.mk none (some 2) (Ef.pr Pr.mv) [X.c (Value.int IntKind.i64 0)]]) 
  (IC.seq (IC.ops [I.mk none (some 3) (Ef.pr Pr.mv) [X.t 0], I.mk none (some 4) (Ef.pr Pr.nilc) [X.t 3], I.mk none (some 5) (Ef.pr (Pr.fa 2)) [X.t 4], I.mk none (some 6) (Ef.pr (Pr.fa 0)) [X.t 5], I.mk none (some 7) (Ef.pr (Pr.ld 1 false)) [X.t 6], I.mk none (some 2) (Ef.pr Pr.mv) [X.t 7]]) IC.ret)

theorem k53 : Go.Proofs.Tryd.f53.body.bind (comp Go.Proofs.Tryd.prog 8 [] []) = some c53 := by kernel_rfl

theorem r53 : cRVs Go.Proofs.Tryd.prog Go.Proofs.Tryd.f53.results.toList = some [RV.t 2] := by kernel_rfl

theorem e53 {args : List Value} {h : Hp} {Q : Value → Hp → Prop} (hl : Nat.ble args.length 8 = true) (hk : codeK PR none c53 (retK Q [RV.t 2]) (fun _ _ _ _ => False) (retK Q [RV.t 2]) (argsE 0 args) [] h) : Ok PR 53 args h Q :=
  Ok.of mixed Go.Proofs.Tryd.func53 rfl k53 r53 hl hk

def c54 : IC := IC.seq (IC.ops [I.mk none (some 2) (Ef.pr Pr.mv) [X.c (Value.int IntKind.i64 0)]]) 
  (IC.seq (IC.ops [I.mk none (some 3) (Ef.pr Pr.mv) [X.t 0], I.mk none (some 4) (Ef.pr Pr.nilc) [X.t 3], I.mk none (some 5) (Ef.pr (Pr.fa 2)) [X.t 4], I.mk none (some 6) (Ef.pr (Pr.fa 2)) [X.t 5], I.mk none (some 7) (Ef.pr (Pr.ld 1 false)) [X.t 6], I.mk none (some 2) (Ef.pr Pr.mv) [X.t 7]]) IC.ret)

theorem k54 : Go.Proofs.Tryd.f54.body.bind (comp Go.Proofs.Tryd.prog 8 [] []) = some c54 := by kernel_rfl

theorem r54 : cRVs Go.Proofs.Tryd.prog Go.Proofs.Tryd.f54.results.toList = some [RV.t 2] := by kernel_rfl

theorem e54 {args : List Value} {h : Hp} {Q : Value → Hp → Prop} (hl : Nat.ble args.length 8 = true) (hk : codeK PR none c54 (retK Q [RV.t 2]) (fun _ _ _ _ => False) (retK Q [RV.t 2]) (argsE 0 args) [] h) : Ok PR 54 args h Q :=
  Ok.of mixed Go.Proofs.Tryd.func54 rfl k54 r54 hl hk

def c57 : IC := IC.seq (IC.ops [I.mk none (some 3) (Ef.bxh 86) [X.t 1]]) 
  (IC.seq (IC.ops [I.mk none (some 8) (Ef.pr Pr.mv) [X.t 0], I.mk none (some 9) (Ef.pr Pr.nilc) [X.t 8], I.mk none (some 10) (Ef.pr (Pr.fa 0)) [X.t 9], I.mk none (some 11) (Ef.pr (Pr.ld 16 true)) [X.t 10], I.mk none (some 12) (Ef.pr Pr.mv) [X.c (Value.int IntKind.i64 0)]]) 
  (IC.block 0 
  (IC.loop 
  (IC.seq (IC.ops [I.mk none (some 13) (Ef.pr (Pr.cm BinOp.lss)) [X.t 12, X.c (Value.int IntKind.i64 16)]]) 
  (IC.seq 
  (IC.cond (X.t 13) IC.skip (IC.exit 0)) 
  (IC.seq 
  (IC.block 1 
  (IC.seq (IC.ops [I.mk none (some 14) (Ef.pr (Pr.ixA 16 1 false)) [X.t 11, X.t 12], I.mk none (some 5) (Ef.pr Pr.mv) [X.t 14]]) 
  (IC.seq 
  (IC.seq (IC.ops [I.mk none (some 15) (Ef.pr Pr.mv) [X.t 5], I.mk none (some 16) (Ef.pr (Pr.eq false (EqT.one EqS.p))) [X.t 15, X.c (Value.pointer none)]]) 
  (IC.cond (X.t 16) (IC.exit 1) IC.skip)) 
  (IC.seq (IC.ops [I.mk none (some 17) (Ef.pr Pr.mv) [X.t 5], I.mk none (some 18) (Ef.call 49) [X.t 17]]) 
  (IC.block 2 (IC.rf (X.t 18) [19, 20] (IC.ops [I.mk none (some 7) (Ef.pr Pr.mv) [X.t 20]]) 
  (IC.block 3 (IC.ops [I.mk none (some 21) (Ef.pr (Pr.ld 1 false)) [X.t 3], I.mk none (some 22) (Ef.pr Pr.mv) [X.t 7], I.mk none (some 23) Ef.callv [X.t 21, X.t 22]])))))))) (IC.ops [I.mk none (some 24) (Ef.pr (Pr.ar BinOp.add)) [X.t 12, X.c (Value.int IntKind.i64 1)], I.mk none (some 12) (Ef.pr Pr.mv) [X.t 24]])))))))

theorem k57 : Go.Proofs.Tryd.f57.body.bind (comp Go.Proofs.Tryd.prog 25 [] []) = some c57 := by kernel_rfl

theorem r57 : cRVs Go.Proofs.Tryd.prog Go.Proofs.Tryd.f57.results.toList = some [] := by kernel_rfl

theorem e57 {args : List Value} {h : Hp} {Q : Value → Hp → Prop} (hl : Nat.ble args.length 25 = true) (hk : codeK PR none c57 (retK Q []) (fun _ _ _ _ => False) (retK Q []) (argsE 0 args) [] h) : Ok PR 57 args h Q :=
  Ok.of mixed Go.Proofs.Tryd.func57 rfl k57 r57 hl hk

def c58 : IC := IC.seq (IC.ops [I.mk none (some 5) (Ef.pr Pr.mv) [X.t 0], I.mk none (some 6) (Ef.pr (Pr.ld 1 false)) [X.t 1], I.mk none (some 7) (Ef.pr (Pr.bld [Value.nilFunc, Value.int IntKind.i64 0] [(0, 1), (1, 1)])) [X.c (Value.func (Fn.func 53) (Array.mk []) (Array.mk [])), X.t 6], I.mk none (some 8) (Ef.pr (Pr.ld 1 false)) [X.t 2], I.mk none (some 9) (Ef.pr (Pr.bld [Value.nilFunc, Value.int IntKind.i64 0] [(0, 1), (1, 1)])) [X.c (Value.func (Fn.func 59) (Array.mk []) (Array.mk [])), X.t 8], I.mk none (some 10) (Ef.bsl [Value.nilFunc, Value.int IntKind.i64 0] 103 2 2 [0, 1]) [X.t 7, X.t 9], I.mk none (some 11) (Ef.call 52) [X.t 5, X.t 10]]) 
  (IC.cond (X.t 11) (IC.ops [I.mk none (some 12) (Ef.pr (Pr.ld 1 false)) [X.t 3], I.mk none (some 13) (Ef.pr (Pr.ar BinOp.add)) [X.t 12, X.c (Value.int IntKind.i64 1)], I.mk none none (Ef.st 1) [X.t 3, X.t 13]]) IC.skip)

theorem k58 : Go.Proofs.Tryd.f58.body.bind (comp Go.Proofs.Tryd.prog 14 [] []) = some c58 := by kernel_rfl

theorem r58 : cRVs Go.Proofs.Tryd.prog Go.Proofs.Tryd.f58.results.toList = some [] := by kernel_rfl

theorem e58 {args : List Value} {h : Hp} {Q : Value → Hp → Prop} (hl : Nat.ble args.length 14 = true) (hk : codeK PR none c58 (retK Q []) (fun _ _ _ _ => False) (retK Q []) (argsE 0 args) [] h) : Ok PR 58 args h Q :=
  Ok.of mixed Go.Proofs.Tryd.func58 rfl k58 r58 hl hk

def c59 : IC := IC.seq (IC.ops [I.mk none (some 2) (Ef.pr Pr.mv) [X.c (Value.int IntKind.i64 0)]]) 
  (IC.seq (IC.ops [I.mk none (some 3) (Ef.pr Pr.mv) [X.t 0], I.mk none (some 4) (Ef.pr Pr.nilc) [X.t 3], I.mk none (some 5) (Ef.pr (Pr.fa 2)) [X.t 4], I.mk none (some 6) (Ef.pr (Pr.fa 1)) [X.t 5], I.mk none (some 7) (Ef.pr (Pr.ld 1 false)) [X.t 6], I.mk none (some 2) (Ef.pr Pr.mv) [X.t 7]]) IC.ret)

theorem k59 : Go.Proofs.Tryd.f59.body.bind (comp Go.Proofs.Tryd.prog 8 [] []) = some c59 := by kernel_rfl

theorem r59 : cRVs Go.Proofs.Tryd.prog Go.Proofs.Tryd.f59.results.toList = some [RV.t 2] := by kernel_rfl

theorem e59 {args : List Value} {h : Hp} {Q : Value → Hp → Prop} (hl : Nat.ble args.length 8 = true) (hk : codeK PR none c59 (retK Q [RV.t 2]) (fun _ _ _ _ => False) (retK Q [RV.t 2]) (argsE 0 args) [] h) : Ok PR 59 args h Q :=
  Ok.of mixed Go.Proofs.Tryd.func59 rfl k59 r59 hl hk

def c75 : IC := IC.seq (IC.ops [I.mk none (some 4) (Ef.pr Pr.mv) [X.c (Value.bool false)]]) 
  (IC.seq (IC.ops [I.mk none (some 5) (Ef.pr Pr.mv) [X.t 0], I.mk none (some 6) (Ef.pr (Pr.ld 1 false)) [X.t 1], I.mk none (some 7) (Ef.pr (Pr.bld [Value.nilFunc, Value.int IntKind.i64 0] [(0, 1), (1, 1)])) [X.c (Value.func (Fn.func 53) (Array.mk []) (Array.mk [])), X.t 6], I.mk none (some 8) (Ef.pr (Pr.ld 1 false)) [X.t 2], I.mk none (some 9) (Ef.pr (Pr.bld [Value.nilFunc, Value.int IntKind.i64 0] [(0, 1), (1, 1)])) [X.c (Value.func (Fn.func 59) (Array.mk []) (Array.mk [])), X.t 8], I.mk none (some 10) (Ef.bsl [Value.nilFunc, Value.int IntKind.i64 0] 103 2 2 [0, 1]) [X.t 7, X.t 9], I.mk none (some 11) (Ef.call 52) [X.t 5, X.t 10], I.mk none (some 4) (Ef.pr Pr.mv) [X.t 11]]) IC.ret)

theorem k75 : Go.Proofs.Tryd.f75.body.bind (comp Go.Proofs.Tryd.prog 12 [] []) = some c75 := by kernel_rfl

theorem r75 : cRVs Go.Proofs.Tryd.prog Go.Proofs.Tryd.f75.results.toList = some [RV.t 4] := by kernel_rfl

theorem e75 {args : List Value} {h : Hp} {Q : Value → Hp → Prop} (hl : Nat.ble args.length 12 = true) (hk : codeK PR none c75 (retK Q [RV.t 4]) (fun _ _ _ _ => False) (retK Q [RV.t 4]) (argsE 0 args) [] h) : Ok PR 75 args h Q :=
  Ok.of mixed Go.Proofs.Tryd.func75 rfl k75 r75 hl hk

def c76 : IC := IC.seq (IC.ops [I.mk none (some 5) (Ef.pr (Pr.ld 1 false)) [X.t 1], I.mk none (some 6) (Ef.pr Pr.mv) [X.t 0], I.mk none (some 7) Ef.callv [X.t 5, X.t 6]]) 
  (IC.cond (X.t 7) 
  (IC.seq (IC.plan (Plan.q (I.mk none (some 8) (Ef.pr (Pr.ld 1 false)) [X.t 2]) (Plan.q (I.mk none (some 9) (Ef.pr Pr.mv) [X.t 0]) (Plan.br (PlanL.cons true true (I.mk none (some 10) (Ef.call 50) [X.t 9]) (Plan.br (PlanL.cons true false (I.mk none (some 11) (Ef.bsl [Value.int IntKind.i64 0, Value.int IntKind.i64 0, Value.int IntKind.i64 0, Value.int IntKind.i64 0, Value.int IntKind.i64 0, Value.int IntKind.i64 0] 49 1 6 [0]) [X.t 10]) (Plan.br (PlanL.cons false false (I.mk none (some 12) (Ef.app [Value.int IntKind.i64 0, Value.int IntKind.i64 0, Value.int IntKind.i64 0, Value.int IntKind.i64 0, Value.int IntKind.i64 0, Value.int IntKind.i64 0] 49 48) [X.t 8, X.t 11]) (Plan.br (PlanL.cons false false (I.mk none none (Ef.st 1) [X.t 2, X.t 12]) Plan.done PlanL.nil)) PlanL.nil)) PlanL.nil)) PlanL.nil))))) (IC.ops [I.mk none (some 13) (Ef.pr (Pr.ld 1 false)) [X.t 3], I.mk none (some 14) (Ef.pr Pr.mv) [X.t 0], I.mk none (some 15) (Ef.call 41) [X.t 13, X.t 14]])) IC.skip)

theorem k76 : Go.Proofs.Tryd.f76.body.bind (comp Go.Proofs.Tryd.prog 16 [] []) = some c76 := by kernel_rfl

theorem r76 : cRVs Go.Proofs.Tryd.prog Go.Proofs.Tryd.f76.results.toList = some [] := by kernel_rfl

theorem e76 {args : List Value} {h : Hp} {Q : Value → Hp → Prop} (hl : Nat.ble args.length 16 = true) (hk : codeK PR none c76 (retK Q []) (fun _ _ _ _ => False) (retK Q []) (argsE 0 args) [] h) : Ok PR 76 args h Q :=
  Ok.of mixed Go.Proofs.Tryd.func76 rfl k76 r76 hl hk

def c20 : IC := IC.seq (IC.ops [I.mk none (some 6) (Ef.pr Pr.mv) [X.c (Value.slice none 0 0)], I.mk none (some 7) (Ef.pr Pr.mv) [X.c (Value.int IntKind.i64 0)]]) 
  (IC.seq (IC.ops [I.mk none (some 12) (Ef.pr Pr.mv) [X.t 0], I.mk none (some 13) (Ef.pr Pr.mv) [X.t 1], I.mk none (some 14) (Ef.pr Pr.mv) [X.t 2], I.mk none (some 15) (Ef.call 38) [X.t 12, X.t 13, X.t 14], I.mk none (some 11) (Ef.pr Pr.mv) [X.t 15], I.mk none (some 16) (Ef.pr (Pr.ext 0)) [X.t 11], I.mk none (some 17) (Ef.pr (Pr.ext 1)) [X.t 11], I.mk none (some 8) (Ef.pr Pr.mv) [X.t 16], I.mk none (some 9) (Ef.pr Pr.mv) [X.t 17]]) 
  (IC.seq 
  (IC.seq (IC.ops [I.mk none (some 18) (Ef.pr Pr.mv) [X.t 9], I.mk none (some 19) (Ef.pr (Pr.cm BinOp.neq)) [X.t 18, X.c (Value.int IntKind.i64 0)]]) 
  (IC.cond (X.t 19) 
  (IC.seq (IC.ops [I.mk none (some 20) (Ef.pr Pr.mv) [X.t 9], I.mk none (some 6) (Ef.pr Pr.mv) [X.c (Value.slice none 0 0)], I.mk none (some 7) (Ef.pr Pr.mv) [X.t 20]]) IC.ret) IC.skip)) 
  (IC.seq (IC.ops [I.mk none (some 21) Ef.mkm [], I.mk none (some 10) (Ef.alh [Value.map none] 90) [], I.mk none none (Ef.st 1) [X.t 10, X.t 21]]) 
  (IC.seq (IC.ops [I.mk none (some 22) (Ef.pr Pr.mv) [X.t 8], I.mk none (some 23) (Ef.pr (Pr.ld 1 false)) [X.t 10], I.mk none (some 24) (Ef.call 46) [X.t 22, X.t 23]]) 
  (IC.seq (IC.ops [I.mk none (some 25) (Ef.pr Pr.mv) [X.t 0], I.mk none (some 26) (Ef.pr (Pr.mkf (Fn.func 48) 0)) [X.t 10], I.mk none (some 27) (Ef.call 47) [X.t 25, X.t 26], I.mk none (some 6) (Ef.pr Pr.mv) [X.t 27], I.mk none (some 7) (Ef.pr Pr.mv) [X.c (Value.int IntKind.i64 0)]]) IC.ret)))))

theorem k20 : Go.Proofs.Tryd.f20.body.bind (comp Go.Proofs.Tryd.prog 28 [] []) = some c20 := by kernel_rfl

theorem r20 : cRVs Go.Proofs.Tryd.prog Go.Proofs.Tryd.f20.results.toList = some [RV.t 6, RV.t 7] := by kernel_rfl

theorem e20 {args : List Value} {h : Hp} {Q : Value → Hp → Prop} (hl : Nat.ble args.length 28 = true) (hk : codeK PR none c20 (retK Q [RV.t 6, RV.t 7]) (fun _ _ _ _ => False) (retK Q [RV.t 6, RV.t 7]) (argsE 0 args) [] h) : Ok PR 20 args h Q :=
  Ok.of mixed Go.Proofs.Tryd.func20 rfl k20 r20 hl hk

def c23 : IC := IC.seq (IC.ops [I.mk none (some 4) (Ef.pr Pr.mv) [X.c (Value.slice none 0 0)], I.mk none (some 5) (Ef.pr Pr.mv) [X.c (Value.int IntKind.i64 0)]]) 
  (IC.seq (IC.ops [I.mk none (some 10) (Ef.pr Pr.mv) [X.t 0], I.mk none (some 11) (Ef.pr Pr.mv) [X.t 1], I.mk none (some 12) (Ef.call 37) [X.t 10, X.t 11], I.mk none (some 6) (Ef.pr Pr.mv) [X.t 12]]) 
  (IC.seq 
  (IC.seq (IC.ops [I.mk none (some 13) (Ef.pr Pr.mv) [X.t 6], I.mk none (some 14) (Ef.pr (Pr.eq false (EqT.one EqS.p))) [X.t 13, X.c (Value.pointer none)]]) 
  (IC.cond (X.t 14) 
  (IC.seq (IC.ops [I.mk none (some 4) (Ef.pr Pr.mv) [X.c (Value.slice none 0 0)], I.mk none (some 5) (Ef.pr Pr.mv) [X.c (Value.int IntKind.i64 83)]]) IC.ret) IC.skip)) 
  (IC.seq (IC.ops [I.mk none (some 7) (Ef.alh [Value.slice none 0 0] 41) []]) 
  (IC.seq 
  (IC.seq (IC.ops [I.mk none (some 15) (Ef.pr Pr.mv) [X.t 6], I.mk none (some 16) (Ef.call 49) [X.t 15]]) 
  (IC.block 0 (IC.rf (X.t 16) [17, 18] (IC.ops [I.mk none (some 9) (Ef.pr Pr.mv) [X.t 18]]) 
  (IC.block 1 (IC.plan (Plan.q (I.mk none (some 19) (Ef.pr (Pr.ld 1 false)) [X.t 7]) (Plan.q (I.mk none (some 20) (Ef.pr Pr.mv) [X.t 9]) (Plan.br (PlanL.cons true true (I.mk none (some 21) (Ef.call 50) [X.t 20]) (Plan.br (PlanL.cons true false (I.mk none (some 22) (Ef.bsl [Value.int IntKind.i64 0, Value.int IntKind.i64 0, Value.int IntKind.i64 0, Value.int IntKind.i64 0, Value.int IntKind.i64 0, Value.int IntKind.i64 0] 49 1 6 [0]) [X.t 21]) (Plan.br (PlanL.cons false false (I.mk none (some 23) (Ef.app [Value.int IntKind.i64 0, Value.int IntKind.i64 0, Value.int IntKind.i64 0, Value.int IntKind.i64 0, Value.int IntKind.i64 0, Value.int IntKind.i64 0] 49 48) [X.t 19, X.t 22]) (Plan.br (PlanL.cons false false (I.mk none none (Ef.st 1) [X.t 7, X.t 23]) Plan.done PlanL.nil)) PlanL.nil)) PlanL.nil)) PlanL.nil))))))))) 
  (IC.seq (IC.ops [I.mk none (some 24) (Ef.pr (Pr.ld 1 false)) [X.t 7], I.mk none (some 4) (Ef.pr Pr.mv) [X.t 24], I.mk none (some 5) (Ef.pr Pr.mv) [X.c (Value.int IntKind.i64 0)]]) IC.ret)))))

theorem k23 : Go.Proofs.Tryd.f23.body.bind (comp Go.Proofs.Tryd.prog 25 [] []) = some c23 := by kernel_rfl

theorem r23 : cRVs Go.Proofs.Tryd.prog Go.Proofs.Tryd.f23.results.toList = some [RV.t 4, RV.t 5] := by kernel_rfl

theorem e23 {args : List Value} {h : Hp} {Q : Value → Hp → Prop} (hl : Nat.ble args.length 25 = true) (hk : codeK PR none c23 (retK Q [RV.t 4, RV.t 5]) (fun _ _ _ _ => False) (retK Q [RV.t 4, RV.t 5]) (argsE 0 args) [] h) : Ok PR 23 args h Q :=
  Ok.of mixed Go.Proofs.Tryd.func23 rfl k23 r23 hl hk

def c27 : IC := IC.seq (IC.ops [I.mk none (some 7) (Ef.bxh 3) [X.t 2], I.mk none (some 8) (Ef.bxh 3) [X.t 3], I.mk none (some 9) (Ef.bxh 3) [X.t 4], I.mk none (some 10) (Ef.alh [Value.int IntKind.i64 0] 3) []]) 
  (IC.seq (IC.ops [I.mk none (some 14) (Ef.pr Pr.mv) [X.t 0], I.mk none (some 15) (Ef.pr Pr.mv) [X.t 1], I.mk none (some 16) (Ef.call 37) [X.t 14, X.t 15], I.mk none (some 11) (Ef.pr Pr.mv) [X.t 16]]) 
  (IC.seq 
  (IC.seq (IC.ops [I.mk none (some 17) (Ef.pr Pr.mv) [X.t 11], I.mk none (some 18) (Ef.pr (Pr.eq false (EqT.one EqS.p))) [X.t 17, X.c (Value.pointer none)], I.mk none (some 19) (Ef.pr Pr.mv) [X.t 18], I.mk (some (19, false)) (some 20) (Ef.pr (Pr.ld 1 false)) [X.t 9], I.mk (some (19, false)) (some 21) (Ef.pr (Pr.cm BinOp.lss)) [X.t 20, X.c (Value.int IntKind.i64 0)], I.mk none (some 22) (Ef.pr Pr.pick) [X.t 19, X.c (Value.bool true), X.t 21], I.mk none (some 23) (Ef.pr Pr.mv) [X.t 22], I.mk (some (23, false)) (some 24) (Ef.pr (Pr.ld 1 false)) [X.t 9], I.mk (some (23, false)) (some 25) (Ef.pr (Pr.cm BinOp.gtr)) [X.t 24, X.c (Value.int IntKind.i64 15)], I.mk none (some 26) (Ef.pr Pr.pick) [X.t 23, X.c (Value.bool true), X.t 25]]) 
  (IC.cond (X.t 26) 
  (IC.seq (IC.ops [I.mk none none (Ef.st 1) [X.t 10, X.c (Value.int IntKind.i64 (-1))]]) IC.ret) IC.skip)) 
  (IC.seq 
  (IC.seq (IC.ops [I.mk none (some 27) (Ef.pr Pr.mv) [X.t 11], I.mk none (some 28) (Ef.call 49) [X.t 27]]) 
  (IC.block 0 (IC.rf (X.t 28) [29, 30] 
  (IC.seq (IC.ops [I.mk none (some 12) (Ef.pr Pr.mv) [X.t 29]]) (IC.ops [I.mk none (some 13) (Ef.pr Pr.mv) [X.t 30]])) 
  (IC.block 1 
  (IC.seq (IC.plan (Plan.q (I.mk none (some 31) (Ef.pr Pr.mv) [X.t 13]) (Plan.q (I.mk none (some 32) (Ef.pr (Pr.ld 1 false)) [X.t 7]) (Plan.q (I.mk none (some 33) (Ef.pr (Pr.bld [Value.nilFunc, Value.int IntKind.i64 0] [(0, 1), (1, 1)])) [X.c (Value.func (Fn.func 53) (Array.mk []) (Array.mk [])), X.t 32]) (Plan.q (I.mk none (some 34) (Ef.pr (Pr.ld 1 false)) [X.t 8]) (Plan.q (I.mk none (some 35) (Ef.pr (Pr.bld [Value.nilFunc, Value.int IntKind.i64 0] [(0, 1), (1, 1)])) [X.c (Value.func (Fn.func 54) (Array.mk []) (Array.mk [])), X.t 34]) (Plan.br (PlanL.cons false false (I.mk none (some 36) (Ef.bsl [Value.nilFunc, Value.int IntKind.i64 0] 103 2 2 [0, 1]) [X.t 33, X.t 35]) (Plan.br (PlanL.cons false false (I.mk none (some 37) (Ef.call 52) [X.t 31, X.t 36]) (Plan.q (I.mk none (some 38) (Ef.pr Pr.mv) [X.t 37]) (Plan.q (I.mk (some (38, true)) (some 39) (Ef.pr (Pr.ld 1 false)) [X.t 9]) (Plan.q (I.mk (some (38, true)) (some 40) (Ef.pr Pr.mv) [X.t 13]) (Plan.q (I.mk (some (38, true)) (some 41) (Ef.pr Pr.nilc) [X.t 40]) (Plan.q (I.mk (some (38, true)) (some 42) (Ef.pr (Pr.fa 2)) [X.t 41]) (Plan.q (I.mk (some (38, true)) (some 43) (Ef.pr (Pr.fa 3)) [X.t 42]) (Plan.q (I.mk (some (38, true)) (some 44) (Ef.pr (Pr.ld 1 false)) [X.t 43]) (Plan.q (I.mk (some (38, true)) (some 45) (Ef.pr (Pr.bt BinOp.andNot)) [X.t 39, X.t 44]) (Plan.q (I.mk (some (38, true)) (some 46) (Ef.pr (Pr.cm BinOp.eql)) [X.t 45, X.c (Value.int IntKind.i64 0)]) (Plan.q (I.mk none (some 47) (Ef.pr Pr.pick) [X.t 38, X.t 46, X.c (Value.bool false)]) Plan.done)))))))))) PlanL.nil)) PlanL.nil)))))))) 
  (IC.cond (X.t 47) 
  (IC.seq (IC.ops [I.mk none (some 48) (Ef.pr Pr.mv) [X.t 12], I.mk none none (Ef.st 1) [X.t 10, X.t 48]]) IC.ret) IC.skip)))))) 
  (IC.seq (IC.ops [I.mk none none (Ef.st 1) [X.t 10, X.c (Value.int IntKind.i64 (-1))]]) IC.ret))))

theorem k27 : Go.Proofs.Tryd.f27.body.bind (comp Go.Proofs.Tryd.prog 49 [] []) = some c27 := by kernel_rfl

theorem r27 : cRVs Go.Proofs.Tryd.prog Go.Proofs.Tryd.f27.results.toList = some [RV.c 10 1 false] := by kernel_rfl

theorem e27 {args : List Value} {h : Hp} {Q : Value → Hp → Prop} (hl : Nat.ble args.length 49 = true) (hk : codeK PR none c27 (retK Q [RV.c 10 1 false]) (fun _ _ _ _ => False) (retK Q [RV.c 10 1 false]) (argsE 0 args) [] h) : Ok PR 27 args h Q :=
  Ok.of mixed Go.Proofs.Tryd.func27 rfl k27 r27 hl hk

def c29 : IC := IC.seq (IC.ops [I.mk none (some 5) (Ef.bxh 3) [X.t 2], I.mk none (some 6) (Ef.pr Pr.mv) [X.c (Value.int IntKind.i64 0)]]) 
  (IC.seq (IC.ops [I.mk none (some 11) (Ef.pr Pr.mv) [X.t 0], I.mk none (some 12) (Ef.pr Pr.mv) [X.t 1], I.mk none (some 13) (Ef.call 37) [X.t 11, X.t 12], I.mk none (some 8) (Ef.alh [Value.int IntKind.i64 0] 3) [], I.mk none (some 7) (Ef.pr Pr.mv) [X.t 13], I.mk none none (Ef.st 1) [X.t 8, X.c (Value.int IntKind.i64 0)]]) 
  (IC.seq 
  (IC.seq (IC.ops [I.mk none (some 14) (Ef.pr Pr.mv) [X.t 7], I.mk none (some 15) (Ef.pr (Pr.eq false (EqT.one EqS.p))) [X.t 14, X.c (Value.pointer none)]]) 
  (IC.cond (X.t 15) 
  (IC.seq (IC.ops [I.mk none (some 6) (Ef.pr Pr.mv) [X.c (Value.int IntKind.i64 0)]]) IC.ret) IC.skip)) 
  (IC.seq 
  (IC.seq (IC.ops [I.mk none (some 16) (Ef.pr Pr.mv) [X.t 7], I.mk none (some 17) (Ef.call 49) [X.t 16]]) 
  (IC.block 0 (IC.rf (X.t 17) [18, 19] (IC.ops [I.mk none (some 10) (Ef.pr Pr.mv) [X.t 19]]) 
  (IC.block 1 
  (IC.seq (IC.ops [I.mk none (some 20) (Ef.pr Pr.mv) [X.t 10], I.mk none (some 21) (Ef.pr (Pr.ld 1 false)) [X.t 5], I.mk none (some 22) (Ef.pr (Pr.bld [Value.nilFunc, Value.int IntKind.i64 0] [(0, 1), (1, 1)])) [X.c (Value.func (Fn.func 53) (Array.mk []) (Array.mk [])), X.t 21], I.mk none (some 23) (Ef.bsl [Value.nilFunc, Value.int IntKind.i64 0] 103 1 2 [0]) [X.t 22], I.mk none (some 24) (Ef.call 52) [X.t 20, X.t 23]]) 
  (IC.cond (X.t 24) (IC.ops [I.mk none (some 25) (Ef.pr (Pr.ld 1 false)) [X.t 8], I.mk none (some 26) (Ef.pr (Pr.ar BinOp.add)) [X.t 25, X.c (Value.int IntKind.i64 1)], I.mk none none (Ef.st 1) [X.t 8, X.t 26]]) IC.skip)))))) 
  (IC.seq (IC.ops [I.mk none (some 27) (Ef.pr (Pr.ld 1 false)) [X.t 8], I.mk none (some 6) (Ef.pr Pr.mv) [X.t 27]]) IC.ret))))

theorem k29 : Go.Proofs.Tryd.f29.body.bind (comp Go.Proofs.Tryd.prog 28 [] []) = some c29 := by kernel_rfl

theorem r29 : cRVs Go.Proofs.Tryd.prog Go.Proofs.Tryd.f29.results.toList = some [RV.t 6] := by kernel_rfl

theorem e29 {args : List Value} {h : Hp} {Q : Value → Hp → Prop} (hl : Nat.ble args.length 28 = true) (hk : codeK PR none c29 (retK Q [RV.t 6]) (fun _ _ _ _ => False) (retK Q [RV.t 6]) (argsE 0 args) [] h) : Ok PR 29 args h Q :=
  Ok.of mixed Go.Proofs.Tryd.func29 rfl k29 r29 hl hk

def c30 : IC := IC.seq (IC.ops [I.mk none (some 4) (Ef.bxh 3) [X.t 1], I.mk none (some 5) (Ef.bxh 3) [X.t 2], I.mk none (some 6) (Ef.pr Pr.mv) [X.c (Value.int IntKind.i64 0)]]) 
  (IC.seq (IC.ops [I.mk none (some 7) (Ef.alh [Value.int IntKind.i64 0] 3) [], I.mk none none (Ef.st 1) [X.t 7, X.c (Value.int IntKind.i64 0)]]) 
  (IC.seq (IC.ops [I.mk none (some 8) (Ef.pr Pr.mv) [X.t 0], I.mk none (some 9) (Ef.pr (Pr.mkf (Fn.func 58) 0)) [X.t 4, X.t 5, X.t 7], I.mk none (some 10) (Ef.call 57) [X.t 8, X.t 9]]) 
  (IC.seq (IC.ops [I.mk none (some 11) (Ef.pr (Pr.ld 1 false)) [X.t 7], I.mk none (some 6) (Ef.pr Pr.mv) [X.t 11]]) IC.ret)))

theorem k30 : Go.Proofs.Tryd.f30.body.bind (comp Go.Proofs.Tryd.prog 12 [] []) = some c30 := by kernel_rfl

theorem r30 : cRVs Go.Proofs.Tryd.prog Go.Proofs.Tryd.f30.results.toList = some [RV.t 6] := by kernel_rfl

theorem e30 {args : List Value} {h : Hp} {Q : Value → Hp → Prop} (hl : Nat.ble args.length 12 = true) (hk : codeK PR none c30 (retK Q [RV.t 6]) (fun _ _ _ _ => False) (retK Q [RV.t 6]) (argsE 0 args) [] h) : Ok PR 30 args h Q :=
  Ok.of mixed Go.Proofs.Tryd.func30 rfl k30 r30 hl hk

def c15 : IC := IC.seq (IC.ops [I.mk none (some 2) (Ef.pr Pr.mv) [X.c (Value.slice none 0 0)]]) 
  (IC.seq (IC.ops [I.mk none (some 3) (Ef.pr Pr.mv) [X.c (Value.slice none 0 0)]]) 
  (IC.seq 
  (IC.seq (IC.ops [I.mk none (some 4) (Ef.pr Pr.mv) [X.c (Value.int IntKind.i64 0)]]) 
  (IC.block 0 
  (IC.loop 
  (IC.seq 
  (IC.seq (IC.ops [I.mk none (some 7) (Ef.pr Pr.mv) [X.t 4], I.mk none (some 8) (Ef.pr (Pr.cm BinOp.lss)) [X.t 7, X.c (Value.int IntKind.i64 16)]]) 
  (IC.cond (X.t 8) IC.skip (IC.exit 0))) 
  (IC.seq 
  (IC.block 1 
  (IC.seq (IC.ops [I.mk none (some 12) (Ef.pr Pr.mv) [X.t 0], I.mk none (some 13) (Ef.pr Pr.mv) [X.t 4], I.mk none (some 14) (Ef.call 23) [X.t 12, X.t 13], I.mk none (some 11) (Ef.pr Pr.mv) [X.t 14], I.mk none (some 15) (Ef.pr (Pr.ext 0)) [X.t 11], I.mk none (some 16) (Ef.pr (Pr.ext 1)) [X.t 11], I.mk none (some 5) (Ef.pr Pr.mv) [X.t 15], I.mk none (some 6) (Ef.pr Pr.mv) [X.t 16]]) (IC.ops [I.mk none (some 17) (Ef.pr Pr.mv) [X.t 3], I.mk none (some 18) (Ef.pr Pr.mv) [X.t 5], I.mk none (some 19) (Ef.app [Value.int IntKind.i64 0, Value.int IntKind.i64 0, Value.int IntKind.i64 0, Value.int IntKind.i64 0, Value.int IntKind.i64 0, Value.int IntKind.i64 0] 49 48) [X.t 17, X.t 18], I.mk none (some 3) (Ef.pr Pr.mv) [X.t 19]]))) (IC.ops [I.mk none (some 9) (Ef.pr Pr.mv) [X.t 4], I.mk none (some 10) (Ef.pr (Pr.ar BinOp.add)) [X.t 9, X.c (Value.int IntKind.i64 1)], I.mk none (some 4) (Ef.pr Pr.mv) [X.t 10]])))))) 
  (IC.seq (IC.ops [I.mk none (some 20) (Ef.pr Pr.mv) [X.t 3], I.mk none (some 2) (Ef.pr Pr.mv) [X.t 20]]) IC.ret)))

theorem k15 : Go.Proofs.Tryd.f15.body.bind (comp Go.Proofs.Tryd.prog 21 [] []) = some c15 := by kernel_rfl

theorem r15 : cRVs Go.Proofs.Tryd.prog Go.Proofs.Tryd.f15.results.toList = some [RV.t 2] := by kernel_rfl

theorem e15 {args : List Value} {h : Hp} {Q : Value → Hp → Prop} (hl : Nat.ble args.length 21 = true) (hk : codeK PR none c15 (retK Q [RV.t 2]) (fun _ _ _ _ => False) (retK Q [RV.t 2]) (argsE 0 args) [] h) : Ok PR 15 args h Q :=
  Ok.of mixed Go.Proofs.Tryd.func15 rfl k15 r15 hl hk

def c16 : IC := IC.seq (IC.ops [I.mk none (some 4) (Ef.pr Pr.mv) [X.c (Value.bool false)]]) 
  (IC.seq 
  (IC.seq (IC.ops [I.mk none (some 5) (Ef.pr Pr.mv) [X.c (Value.int IntKind.i64 0)]]) 
  (IC.block 0 
  (IC.loop 
  (IC.seq 
  (IC.seq (IC.ops [I.mk none (some 12) (Ef.pr Pr.mv) [X.t 5], I.mk none (some 13) (Ef.pr Pr.mv) [X.t 1], I.mk none (some 14) (Ef.pr Pr.lenS) [X.t 13], I.mk none (some 15) (Ef.pr (Pr.cm BinOp.lss)) [X.t 12, X.t 14]]) 
  (IC.cond (X.t 15) IC.skip (IC.exit 0))) 
  (IC.seq 
  (IC.block 1 
  (IC.seq (IC.ops [I.mk none (some 18) (Ef.pr Pr.mv) [X.t 1], I.mk none (some 19) (Ef.pr Pr.mv) [X.t 5], I.mk none (some 20) (Ef.pr (Pr.iaS 6)) [X.t 18, X.t 19], I.mk none (some 21) (Ef.pr (Pr.ld 6 true)) [X.t 20], I.mk none (some 6) (Ef.al [Value.int IntKind.i64 0, Value.int IntKind.i64 0, Value.int IntKind.i64 0, Value.int IntKind.i64 0, Value.int IntKind.i64 0, Value.int IntKind.i64 0]) [], I.mk none none (Ef.st 6) [X.t 6, X.t 21]]) 
  (IC.seq (IC.ops [I.mk none (some 7) (Ef.pr Pr.mv) [X.c (Value.int IntKind.i64 0)]]) 
  (IC.block 2 
  (IC.loop 
  (IC.seq 
  (IC.block 3 
  (IC.seq 
  (IC.seq (IC.ops [I.mk none (some 24) (Ef.pr Pr.mv) [X.t 7], I.mk none (some 25) (Ef.pr Pr.mv) [X.t 1], I.mk none (some 26) (Ef.pr Pr.lenS) [X.t 25], I.mk none (some 27) (Ef.pr (Pr.cm BinOp.gtr)) [X.t 24, X.t 26]]) 
  (IC.cond (X.t 27) 
  (IC.seq (IC.ops [I.mk none (some 4) (Ef.pr Pr.mv) [X.c (Value.bool false)]]) IC.ret) IC.skip)) 
  (IC.seq (IC.ops [I.mk none (some 29) (Ef.pr Pr.mv) [X.t 0], I.mk none (some 30) (Ef.pr (Pr.fa 0)) [X.t 6], I.mk none (some 31) (Ef.pr (Pr.ld 1 false)) [X.t 30], I.mk none (some 32) (Ef.pr (Pr.fa 1)) [X.t 6], I.mk none (some 33) (Ef.pr (Pr.ld 1 false)) [X.t 32], I.mk none (some 34) (Ef.call 13) [X.t 29, X.t 31, X.t 33], I.mk none (some 28) (Ef.pr Pr.mv) [X.t 34], I.mk none (some 35) (Ef.pr (Pr.ext 0)) [X.t 28], I.mk none (some 36) (Ef.pr (Pr.ext 1)) [X.t 28], I.mk none (some 8) (Ef.al [Value.int IntKind.i64 0, Value.int IntKind.i64 0]) [], I.mk none none (Ef.st 2) [X.t 8, X.t 35], I.mk none (some 9) (Ef.pr Pr.mv) [X.t 36]]) 
  (IC.seq 
  (IC.seq (IC.ops [I.mk none (some 37) (Ef.pr Pr.mv) [X.t 9], I.mk none (some 38) (Ef.pr (Pr.cm BinOp.neq)) [X.t 37, X.c (Value.int IntKind.i64 0)]]) 
  (IC.cond (X.t 38) 
  (IC.seq (IC.ops [I.mk none (some 4) (Ef.pr Pr.mv) [X.c (Value.bool false)]]) IC.ret) IC.skip)) 
  (IC.seq 
  (IC.seq (IC.ops [I.mk none (some 39) (Ef.pr (Pr.fa 0)) [X.t 8], I.mk none (some 40) (Ef.pr (Pr.ld 1 false)) [X.t 39], I.mk none (some 41) (Ef.pr (Pr.cm BinOp.eql)) [X.t 40, X.c (Value.int IntKind.i64 (-1))], I.mk none (some 42) (Ef.pr Pr.mv) [X.t 41], I.mk (some (42, true)) (some 43) (Ef.pr (Pr.fa 1)) [X.t 8], I.mk (some (42, true)) (some 44) (Ef.pr (Pr.ld 1 false)) [X.t 43], I.mk (some (42, true)) (some 45) (Ef.pr (Pr.cm BinOp.eql)) [X.t 44, X.c (Value.int IntKind.i64 (-1))], I.mk none (some 46) (Ef.pr Pr.pick) [X.t 42, X.t 45, X.c (Value.bool false)]]) 
  (IC.cond (X.t 46) (IC.exit 2) IC.skip)) 
  (IC.seq (IC.ops [I.mk none (some 48) (Ef.pr Pr.mv) [X.t 1], I.mk none (some 49) (Ef.pr (Pr.ld 2 true)) [X.t 8], I.mk none (some 50) (Ef.call 22) [X.t 48, X.t 49], I.mk none (some 47) (Ef.pr Pr.mv) [X.t 50], I.mk none (some 51) (Ef.pr (Pr.ext 0)) [X.t 47], I.mk none (some 52) (Ef.pr (Pr.ext 1)) [X.t 47], I.mk none (some 10) (Ef.al [Value.int IntKind.i64 0, Value.int IntKind.i64 0, Value.int IntKind.i64 0, Value.int IntKind.i64 0, Value.int IntKind.i64 0, Value.int IntKind.i64 0]) [], I.mk none none (Ef.st 6) [X.t 10, X.t 51], I.mk none (some 11) (Ef.pr Pr.mv) [X.t 52]]) 
  (IC.seq 
  (IC.seq (IC.ops [I.mk none (some 53) (Ef.pr Pr.mv) [X.t 11], I.mk none (some 54) (Ef.pr (Pr.un UnOp.not)) [X.t 53], I.mk none (some 55) (Ef.pr Pr.mv) [X.t 54], I.mk (some (55, false)) (some 56) (Ef.pr (Pr.fa 2)) [X.t 10], I.mk (some (55, false)) (some 57) (Ef.pr (Pr.fa 0)) [X.t 56], I.mk (some (55, false)) (some 58) (Ef.pr (Pr.ld 1 false)) [X.t 57], I.mk (some (55, false)) (some 59) (Ef.pr (Pr.fa 2)) [X.t 6], I.mk (some (55, false)) (some 60) (Ef.pr (Pr.fa 0)) [X.t 59], I.mk (some (55, false)) (some 61) (Ef.pr (Pr.ld 1 false)) [X.t 60], I.mk (some (55, false)) (some 62) (Ef.pr (Pr.cm BinOp.neq)) [X.t 58, X.t 61], I.mk none (some 63) (Ef.pr Pr.pick) [X.t 55, X.c (Value.bool true), X.t 62], I.mk none (some 64) (Ef.pr Pr.mv) [X.t 63], I.mk (some (64, false)) (some 65) (Ef.pr (Pr.fa 2)) [X.t 10], I.mk (some (64, false)) (some 66) (Ef.pr (Pr.fa 1)) [X.t 65], I.mk (some (64, false)) (some 67) (Ef.pr (Pr.ld 1 false)) [X.t 66], I.mk (some (64, false)) (some 68) (Ef.pr (Pr.fa 2)) [X.t 6], I.mk (some (64, false)) (some 69) (Ef.pr (Pr.fa 1)) [X.t 68], I.mk (some (64, false)) (some 70) (Ef.pr (Pr.ld 1 false)) [X.t 69], I.mk (some (64, false)) (some 71) (Ef.pr (Pr.cm BinOp.neq)) [X.t 67, X.t 70], I.mk none (some 72) (Ef.pr Pr.pick) [X.t 64, X.c (Value.bool true), X.t 71], I.mk none (some 73) (Ef.pr Pr.mv) [X.t 72], I.mk (some (73, false)) (some 74) (Ef.pr (Pr.fa 2)) [X.t 10], I.mk (some (73, false)) (some 75) (Ef.pr (Pr.fa 2)) [X.t 74], I.mk (some (73, false)) (some 76) (Ef.pr (Pr.ld 1 false)) [X.t 75], I.mk (some (73, false)) (some 77) (Ef.pr (Pr.fa 2)) [X.t 6], I.mk (some (73, false)) (some 78) (Ef.pr (Pr.fa 2)) [X.t 77], I.mk (some (73, false)) (some 79) (Ef.pr (Pr.ld 1 false)) [X.t 78], I.mk (some (73, false)) (some 80) (Ef.pr (Pr.cm BinOp.neq)) [X.t 76, X.t 79], I.mk none (some 81) (Ef.pr Pr.pick) [X.t 73, X.c (Value.bool true), X.t 80]]) 
  (IC.cond (X.t 81) 
  (IC.seq (IC.ops [I.mk none (some 4) (Ef.pr Pr.mv) [X.c (Value.bool false)]]) IC.ret) IC.skip)) 
  (IC.seq 
  (IC.seq (IC.ops [I.mk none (some 82) (Ef.pr (Pr.fa 2)) [X.t 10], I.mk none (some 83) (Ef.pr (Pr.fa 3)) [X.t 82], I.mk none (some 84) (Ef.pr (Pr.ld 1 false)) [X.t 83], I.mk none (some 85) (Ef.pr (Pr.bt BinOp.and)) [X.t 84, X.c (Value.int IntKind.i64 4)], I.mk none (some 86) (Ef.pr (Pr.cm BinOp.eql)) [X.t 85, X.c (Value.int IntKind.i64 0)], I.mk none (some 87) (Ef.pr Pr.mv) [X.t 86], I.mk (some (87, false)) (some 88) (Ef.pr (Pr.fa 2)) [X.t 6], I.mk (some (87, false)) (some 89) (Ef.pr (Pr.fa 3)) [X.t 88], I.mk (some (87, false)) (some 90) (Ef.pr (Pr.ld 1 false)) [X.t 89], I.mk (some (87, false)) (some 91) (Ef.pr (Pr.fa 2)) [X.t 10], I.mk (some (87, false)) (some 92) (Ef.pr (Pr.fa 3)) [X.t 91], I.mk (some (87, false)) (some 93) (Ef.pr (Pr.ld 1 false)) [X.t 92], I.mk (some (87, false)) (some 94) (Ef.pr (Pr.bt BinOp.and)) [X.t 90, X.t 93], I.mk (some (87, false)) (some 95) (Ef.pr (Pr.fa 2)) [X.t 6], I.mk (some (87, false)) (some 96) (Ef.pr (Pr.fa 3)) [X.t 95], I.mk (some (87, false)) (some 97) (Ef.pr (Pr.ld 1 false)) [X.t 96], I.mk (some (87, false)) (some 98) (Ef.pr (Pr.cm BinOp.neq)) [X.t 94, X.t 97], I.mk none (some 99) (Ef.pr Pr.pick) [X.t 87, X.c (Value.bool true), X.t 98]]) 
  (IC.cond (X.t 99) 
  (IC.seq (IC.ops [I.mk none (some 4) (Ef.pr Pr.mv) [X.c (Value.bool false)]]) IC.ret) IC.skip)) (IC.ops [I.mk none (some 100) (Ef.pr (Pr.ld 6 true)) [X.t 10], I.mk none none (Ef.st 6) [X.t 6, X.t 100]]))))))))) (IC.ops [I.mk none (some 22) (Ef.pr Pr.mv) [X.t 7], I.mk none (some 23) (Ef.pr (Pr.ar BinOp.add)) [X.t 22, X.c (Value.int IntKind.i64 1)], I.mk none (some 7) (Ef.pr Pr.mv) [X.t 23]]))))))) (IC.ops [I.mk none (some 16) (Ef.pr Pr.mv) [X.t 5], I.mk none (some 17) (Ef.pr (Pr.ar BinOp.add)) [X.t 16, X.c (Value.int IntKind.i64 1)], I.mk none (some 5) (Ef.pr Pr.mv) [X.t 17]])))))) 
  (IC.seq (IC.ops [I.mk none (some 4) (Ef.pr Pr.mv) [X.c (Value.bool true)]]) IC.ret))

theorem k16 : Go.Proofs.Tryd.f16.body.bind (comp Go.Proofs.Tryd.prog 101 [6, 8, 10] []) = some c16 := by kernel_rfl

theorem r16 : cRVs Go.Proofs.Tryd.prog Go.Proofs.Tryd.f16.results.toList = some [RV.t 4] := by kernel_rfl

theorem e16 {args : List Value} {h : Hp} {Q : Value → Hp → Prop} (hl : Nat.ble args.length 101 = true) (hk : codeK PR none c16 (retK Q [RV.t 4]) (fun _ _ _ _ => False) (retK Q [RV.t 4]) (argsE 0 args) [] h) : Ok PR 16 args h Q :=
  Ok.of mixed Go.Proofs.Tryd.func16 rfl k16 r16 hl hk

def c17 : IC := IC.seq (IC.ops [I.mk none (some 3) Ef.bx [X.t 1]]) 
  (IC.seq (IC.ops [I.mk none (some 4) (Ef.pr (Pr.fa 1)) [X.t 3], I.mk none (some 5) (Ef.pr (Pr.ld 1 false)) [X.t 4]]) 
  (IC.block 0 
  (IC.seq (IC.ops [I.mk none (some 7) (Ef.pr (Pr.cm BinOp.eql)) [X.t 5, X.c (Value.int IntKind.i64 1)], I.mk none (some 6) (Ef.pr Pr.mv) [X.t 7]]) 
  (IC.cond (X.t 6) (IC.ops [I.mk none (some 8) (Ef.pr Pr.mv) [X.t 0], I.mk none (some 9) (Ef.pr (Pr.fa 2)) [X.t 3], I.mk none (some 10) (Ef.pr (Pr.ld 1 false)) [X.t 9], I.mk none (some 11) (Ef.call 35) [X.t 8, X.t 10]]) 
  (IC.seq (IC.ops [I.mk none (some 13) (Ef.pr (Pr.cm BinOp.eql)) [X.t 5, X.c (Value.int IntKind.i64 2)], I.mk none (some 12) (Ef.pr Pr.mv) [X.t 13]]) 
  (IC.cond (X.t 12) (IC.ops [I.mk none (some 14) (Ef.pr Pr.mv) [X.t 0], I.mk none (some 15) (Ef.pr (Pr.fa 2)) [X.t 3], I.mk none (some 16) (Ef.pr (Pr.ld 1 false)) [X.t 15], I.mk none (some 17) (Ef.call 42) [X.t 14, X.t 16]]) 
  (IC.seq (IC.ops [I.mk none (some 19) (Ef.pr (Pr.cm BinOp.eql)) [X.t 5, X.c (Value.int IntKind.i64 3)], I.mk none (some 18) (Ef.pr Pr.mv) [X.t 19]]) 
  (IC.cond (X.t 18) (IC.ops [I.mk none (some 20) (Ef.pr Pr.mv) [X.t 0], I.mk none (some 21) (Ef.pr (Pr.fa 2)) [X.t 3], I.mk none (some 22) (Ef.pr (Pr.ld 1 false)) [X.t 21], I.mk none (some 23) (Ef.pr (Pr.fa 5)) [X.t 3], I.mk none (some 24) (Ef.pr (Pr.ld 1 false)) [X.t 23], I.mk none (some 25) (Ef.pr (Pr.fa 7)) [X.t 3], I.mk none (some 26) (Ef.pr (Pr.ld 4 true)) [X.t 25], I.mk none (some 27) (Ef.call 36) [X.t 20, X.t 22, X.t 24, X.t 26]]) 
  (IC.seq (IC.ops [I.mk none (some 29) (Ef.pr (Pr.cm BinOp.eql)) [X.t 5, X.c (Value.int IntKind.i64 4)], I.mk none (some 28) (Ef.pr Pr.mv) [X.t 29]]) 
  (IC.cond (X.t 28) (IC.ops [I.mk none (some 30) (Ef.pr Pr.mv) [X.t 0], I.mk none (some 31) (Ef.pr (Pr.fa 2)) [X.t 3], I.mk none (some 32) (Ef.pr (Pr.ld 1 false)) [X.t 31], I.mk none (some 33) (Ef.pr (Pr.fa 3)) [X.t 3], I.mk none (some 34) (Ef.pr (Pr.ld 1 false)) [X.t 33], I.mk none (some 35) (Ef.pr (Pr.fa 4)) [X.t 3], I.mk none (some 36) (Ef.pr (Pr.ld 1 false)) [X.t 35], I.mk none (some 37) (Ef.pr (Pr.fa 5)) [X.t 3], I.mk none (some 38) (Ef.pr (Pr.ld 1 false)) [X.t 37], I.mk none (some 39) (Ef.pr (Pr.fa 6)) [X.t 3], I.mk none (some 40) (Ef.pr (Pr.ld 1 false)) [X.t 39], I.mk none (some 41) (Ef.call 11) [X.t 30, X.t 32, X.t 34, X.t 36, X.t 38, X.t 40]]) 
  (IC.seq (IC.ops [I.mk none (some 43) (Ef.pr (Pr.cm BinOp.eql)) [X.t 5, X.c (Value.int IntKind.i64 5)], I.mk none (some 42) (Ef.pr Pr.mv) [X.t 43]]) 
  (IC.cond (X.t 42) (IC.ops [I.mk none (some 44) (Ef.pr Pr.mv) [X.t 0], I.mk none (some 45) (Ef.pr (Pr.fa 2)) [X.t 3], I.mk none (some 46) (Ef.pr (Pr.ld 1 false)) [X.t 45], I.mk none (some 47) (Ef.pr (Pr.fa 3)) [X.t 3], I.mk none (some 48) (Ef.pr (Pr.ld 1 false)) [X.t 47], I.mk none (some 49) (Ef.call 12) [X.t 44, X.t 46, X.t 48]]) 
  (IC.seq (IC.ops [I.mk none (some 51) (Ef.pr (Pr.cm BinOp.eql)) [X.t 5, X.c (Value.int IntKind.i64 6)], I.mk none (some 50) (Ef.pr Pr.mv) [X.t 51]]) 
  (IC.cond (X.t 50) (IC.ops [I.mk none (some 52) (Ef.pr Pr.mv) [X.t 0], I.mk none (some 53) (Ef.pr (Pr.fa 2)) [X.t 3], I.mk none (some 54) (Ef.pr (Pr.ld 1 false)) [X.t 53], I.mk none (some 55) (Ef.pr (Pr.fa 3)) [X.t 3], I.mk none (some 56) (Ef.pr (Pr.ld 1 false)) [X.t 55], I.mk none (some 57) (Ef.call 20) [X.t 52, X.t 54, X.t 56]]) 
  (IC.seq (IC.ops [I.mk none (some 59) (Ef.pr (Pr.cm BinOp.eql)) [X.t 5, X.c (Value.int IntKind.i64 7)], I.mk none (some 58) (Ef.pr Pr.mv) [X.t 59]]) 
  (IC.cond (X.t 58) (IC.ops [I.mk none (some 60) (Ef.pr Pr.mv) [X.t 0], I.mk none (some 61) (Ef.pr (Pr.fa 7)) [X.t 3], I.mk none (some 62) (Ef.pr (Pr.fa 0)) [X.t 61], I.mk none (some 63) (Ef.pr (Pr.ld 1 false)) [X.t 62], I.mk none (some 64) (Ef.pr (Pr.fa 7)) [X.t 3], I.mk none (some 65) (Ef.pr (Pr.fa 1)) [X.t 64], I.mk none (some 66) (Ef.pr (Pr.ld 1 false)) [X.t 65], I.mk none (some 67) (Ef.call 43) [X.t 60, X.t 63, X.t 66]]) IC.skip))))))))))))))))

theorem k17 : Go.Proofs.Tryd.f17.body.bind (comp Go.Proofs.Tryd.prog 68 [3] []) = some c17 := by kernel_rfl

theorem r17 : cRVs Go.Proofs.Tryd.prog Go.Proofs.Tryd.f17.results.toList = some [] := by kernel_rfl

theorem e17 {args : List Value} {h : Hp} {Q : Value → Hp → Prop} (hl : Nat.ble args.length 68 = true) (hk : codeK PR none c17 (retK Q []) (fun _ _ _ _ => False) (retK Q []) (argsE 0 args) [] h) : Ok PR 17 args h Q :=
  Ok.of mixed Go.Proofs.Tryd.func17 rfl k17 r17 hl hk

def c18 : IC := IC.seq (IC.ops [I.mk none (some 6) Ef.bx [X.t 2], I.mk none (some 7) Ef.bx [X.t 3]]) 
  (IC.seq (IC.ops [I.mk none (some 17) (Ef.pr (Pr.fa 1)) [X.t 6], I.mk none (some 18) (Ef.pr (Pr.ld 1 false)) [X.t 17]]) 
  (IC.block 0 
  (IC.seq (IC.ops [I.mk none (some 23) (Ef.pr (Pr.cm BinOp.eql)) [X.t 18, X.c (Value.int IntKind.i64 4)], I.mk none (some 22) (Ef.pr Pr.mv) [X.t 23]]) 
  (IC.cond (X.t 22) 
  (IC.seq (IC.ops [I.mk none (some 25) (Ef.pr Pr.mv) [X.t 1], I.mk none (some 26) (Ef.pr (Pr.fa 2)) [X.t 6], I.mk none (some 27) (Ef.pr (Pr.ld 1 false)) [X.t 26], I.mk none (some 28) (Ef.pr (Pr.fa 3)) [X.t 6], I.mk none (some 29) (Ef.pr (Pr.ld 1 false)) [X.t 28], I.mk none (some 30) (Ef.pr (Pr.fa 4)) [X.t 6], I.mk none (some 31) (Ef.pr (Pr.ld 1 false)) [X.t 30], I.mk none (some 32) (Ef.pr (Pr.fa 5)) [X.t 6], I.mk none (some 33) (Ef.pr (Pr.ld 1 false)) [X.t 32], I.mk none (some 34) (Ef.pr (Pr.fa 6)) [X.t 6], I.mk none (some 35) (Ef.pr (Pr.ld 1 false)) [X.t 34], I.mk none (some 36) (Ef.call 11) [X.t 25, X.t 27, X.t 29, X.t 31, X.t 33, X.t 35], I.mk none (some 24) (Ef.pr Pr.mv) [X.t 36], I.mk none (some 37) (Ef.pr (Pr.ext 0)) [X.t 24], I.mk none (some 38) (Ef.pr (Pr.ext 1)) [X.t 24], I.mk none (some 8) (Ef.pr Pr.mv) [X.t 37], I.mk none (some 9) (Ef.pr Pr.mv) [X.t 38]]) 
  (IC.seq (IC.ops [I.mk none (some 39) (Ef.pr (Pr.fa 2)) [X.t 6], I.mk none (some 40) (Ef.pr (Pr.ld 1 false)) [X.t 39], I.mk none (some 41) (Ef.pr (Pr.fa 3)) [X.t 6], I.mk none (some 42) (Ef.pr (Pr.ld 1 false)) [X.t 41], I.mk none (some 43) (Ef.pr (Pr.bld [Value.int IntKind.i64 0, Value.int IntKind.i64 0] [(0, 1), (1, 1)])) [X.t 40, X.t 42], I.mk none (some 10) (Ef.al [Value.int IntKind.i64 0, Value.int IntKind.i64 0]) [], I.mk none none (Ef.st 2) [X.t 10, X.t 43]]) 
  (IC.seq (IC.ops [I.mk none (some 44) (Ef.pr Pr.mv) [X.t 9], I.mk none (some 45) (Ef.pr (Pr.cm BinOp.eql)) [X.t 44, X.c (Value.int IntKind.i64 0)], I.mk none (some 46) (Ef.pr Pr.mv) [X.t 45], I.mk (some (46, true)) (some 47) (Ef.pr (Pr.ld 2 true)) [X.t 10], I.mk (some (46, true)) (some 48) (Ef.pr (Pr.ld 2 true)) [X.t 7], I.mk (some (46, true)) (some 49) (Ef.pr (Pr.eq false (EqT.ag [(0, EqS.i), (1, EqS.i)]))) [X.t 47, X.t 48], I.mk (some (46, true)) (some 50) (Ef.pr Pr.mv) [X.t 49], I.mk (some (50, false)) (some 51) (Ef.pr Pr.mv) [X.t 0], I.mk (some (50, false)) (some 52) (Ef.pr (Pr.ld 2 true)) [X.t 10], I.mk (some (50, false)) (some 53) (Ef.call 21) [X.t 51, X.t 52], I.mk (some (50, false)) (some 54) (Ef.pr (Pr.cm BinOp.geq)) [X.t 53, X.c (Value.int IntKind.i64 0)], I.mk (some (46, true)) (some 55) (Ef.pr Pr.pick) [X.t 50, X.c (Value.bool true), X.t 54], I.mk none (some 56) (Ef.pr Pr.pick) [X.t 46, X.t 55, X.c (Value.bool false)]]) 
  (IC.cond (X.t 56) (IC.plan (Plan.q (I.mk none (some 57) (Ef.pr Pr.mv) [X.t 0]) (Plan.q (I.mk none (some 58) (Ef.pr Pr.mv) [X.t 0]) (Plan.q (I.mk none (some 59) (Ef.pr Pr.nilc) [X.t 58]) (Plan.q (I.mk none (some 60) (Ef.pr (Pr.fa 0)) [X.t 59]) (Plan.q (I.mk none (some 61) (Ef.pr (Pr.ld 1 false)) [X.t 60]) (Plan.q (I.mk none (some 62) (Ef.pr (Pr.fa 4)) [X.t 6]) (Plan.q (I.mk none (some 63) (Ef.pr (Pr.ld 1 false)) [X.t 62]) (Plan.q (I.mk none (some 64) (Ef.pr Pr.mv) [X.t 8]) (Plan.q (I.mk none (some 65) (Ef.pr (Pr.bld [Value.int IntKind.i64 0, Value.int IntKind.i64 0] [(0, 1), (1, 1)])) [X.t 63, X.t 64]) (Plan.br (PlanL.cons true false (I.mk none (some 66) (Ef.bsl [Value.int IntKind.i64 0, Value.int IntKind.i64 0] 28 1 2 [0]) [X.t 65]) (Plan.br (PlanL.cons false false (I.mk none (some 67) (Ef.app [Value.int IntKind.i64 0, Value.int IntKind.i64 0] 28 16) [X.t 61, X.t 66]) (Plan.q (I.mk none (some 68) (Ef.pr Pr.nilc) [X.t 57]) (Plan.q (I.mk none (some 69) (Ef.pr (Pr.fa 0)) [X.t 68]) (Plan.br (PlanL.cons false false (I.mk none none (Ef.st 1) [X.t 69, X.t 67]) Plan.done PlanL.nil)))) PlanL.nil)) PlanL.nil)))))))))))) IC.skip)))) 
  (IC.seq (IC.ops [I.mk none (some 71) (Ef.pr (Pr.cm BinOp.eql)) [X.t 18, X.c (Value.int IntKind.i64 5)], I.mk none (some 70) (Ef.pr Pr.mv) [X.t 71]]) 
  (IC.cond (X.t 70) 
  (IC.seq (IC.ops [I.mk none (some 73) (Ef.pr Pr.mv) [X.t 1], I.mk none (some 74) (Ef.pr (Pr.fa 2)) [X.t 6], I.mk none (some 75) (Ef.pr (Pr.ld 1 false)) [X.t 74], I.mk none (some 76) (Ef.pr (Pr.fa 3)) [X.t 6], I.mk none (some 77) (Ef.pr (Pr.ld 1 false)) [X.t 76], I.mk none (some 78) (Ef.call 12) [X.t 73, X.t 75, X.t 77], I.mk none (some 72) (Ef.pr Pr.mv) [X.t 78], I.mk none (some 79) (Ef.pr (Pr.ext 0)) [X.t 72], I.mk none (some 80) (Ef.pr (Pr.ext 1)) [X.t 72], I.mk none (some 11) (Ef.al [Value.int IntKind.i64 0, Value.int IntKind.i64 0, Value.int IntKind.i64 0, Value.int IntKind.i64 0]) [], I.mk none none (Ef.st 4) [X.t 11, X.t 79], I.mk none (some 12) (Ef.pr Pr.mv) [X.t 80]]) 
  (IC.seq (IC.ops [I.mk none (some 81) (Ef.pr Pr.mv) [X.t 12], I.mk none (some 82) (Ef.pr (Pr.cm BinOp.eql)) [X.t 81, X.c (Value.int IntKind.i64 0)]]) 
  (IC.cond (X.t 82) (IC.ops [I.mk none (some 83) (Ef.pr Pr.mv) [X.t 0], I.mk none (some 84) (Ef.pr (Pr.fa 2)) [X.t 6], I.mk none (some 85) (Ef.pr (Pr.ld 1 false)) [X.t 84], I.mk none (some 86) (Ef.pr (Pr.fa 3)) [X.t 6], I.mk none (some 87) (Ef.pr (Pr.ld 1 false)) [X.t 86], I.mk none (some 88) (Ef.pr (Pr.bld [Value.int IntKind.i64 0, Value.int IntKind.i64 0] [(0, 1), (1, 1)])) [X.t 85, X.t 87], I.mk none (some 89) (Ef.call 44) [X.t 83, X.t 88]]) IC.skip))) 
  (IC.seq (IC.ops [I.mk none (some 91) (Ef.pr (Pr.cm BinOp.eql)) [X.t 18, X.c (Value.int IntKind.i64 6)], I.mk none (some 90) (Ef.pr Pr.mv) [X.t 91]]) 
  (IC.cond (X.t 90) 
  (IC.seq (IC.ops [I.mk none (some 93) (Ef.pr Pr.mv) [X.t 1], I.mk none (some 94) (Ef.pr (Pr.fa 2)) [X.t 6], I.mk none (some 95) (Ef.pr (Pr.ld 1 false)) [X.t 94], I.mk none (some 96) (Ef.pr (Pr.fa 3)) [X.t 6], I.mk none (some 97) (Ef.pr (Pr.ld 1 false)) [X.t 96], I.mk none (some 98) (Ef.call 20) [X.t 93, X.t 95, X.t 97], I.mk none (some 92) (Ef.pr Pr.mv) [X.t 98], I.mk none (some 99) (Ef.pr (Pr.ext 0)) [X.t 92], I.mk none (some 100) (Ef.pr (Pr.ext 1)) [X.t 92], I.mk none (some 13) (Ef.pr Pr.mv) [X.t 99], I.mk none (some 14) (Ef.pr Pr.mv) [X.t 100]]) (IC.ops [I.mk none (some 101) (Ef.pr Pr.mv) [X.t 0], I.mk none (some 102) (Ef.pr Pr.mv) [X.t 13], I.mk none (some 103) (Ef.call 45) [X.t 101, X.t 102]])) 
  (IC.seq (IC.ops [I.mk none (some 105) (Ef.pr (Pr.cm BinOp.eql)) [X.t 18, X.c (Value.int IntKind.i64 2)], I.mk none (some 104) (Ef.pr Pr.mv) [X.t 105]]) 
  (IC.cond (X.t 104) 
  (IC.seq (IC.ops [I.mk none (some 107) (Ef.pr Pr.mv) [X.t 1], I.mk none (some 108) (Ef.pr (Pr.fa 2)) [X.t 6], I.mk none (some 109) (Ef.pr (Pr.ld 1 false)) [X.t 108], I.mk none (some 110) (Ef.call 42) [X.t 107, X.t 109], I.mk none (some 106) (Ef.pr Pr.mv) [X.t 110], I.mk none (some 111) (Ef.pr (Pr.ext 0)) [X.t 106], I.mk none (some 112) (Ef.pr (Pr.ext 1)) [X.t 106], I.mk none (some 15) (Ef.pr Pr.mv) [X.t 111], I.mk none (some 16) (Ef.pr Pr.mv) [X.t 112]]) (IC.ops [I.mk none (some 113) (Ef.pr Pr.mv) [X.t 0], I.mk none (some 114) (Ef.pr Pr.mv) [X.t 15], I.mk none (some 115) (Ef.call 45) [X.t 113, X.t 114]])) (IC.ops [I.mk none (some 19) (Ef.pr Pr.mv) [X.t 1], I.mk none (some 20) (Ef.pr (Pr.ld 12 true)) [X.t 6], I.mk none (some 21) (Ef.call 17) [X.t 19, X.t 20]])))))))))))

theorem k18 : Go.Proofs.Tryd.f18.body.bind (comp Go.Proofs.Tryd.prog 116 [6, 7, 10, 11] []) = some c18 := by kernel_rfl

theorem r18 : cRVs Go.Proofs.Tryd.prog Go.Proofs.Tryd.f18.results.toList = some [] := by kernel_rfl

theorem e18 {args : List Value} {h : Hp} {Q : Value → Hp → Prop} (hl : Nat.ble args.length 116 = true) (hk : codeK PR none c18 (retK Q []) (fun _ _ _ _ => False) (retK Q []) (argsE 0 args) [] h) : Ok PR 18 args h Q :=
  Ok.of mixed Go.Proofs.Tryd.func18 rfl k18 r18 hl hk

def c21 : IC := IC.seq (IC.ops [I.mk none (some 3) Ef.bx [X.t 1], I.mk none (some 4) (Ef.pr Pr.mv) [X.c (Value.int IntKind.i64 0)]]) 
  (IC.seq 
  (IC.seq (IC.ops [I.mk none (some 5) (Ef.pr Pr.mv) [X.c (Value.int IntKind.i64 0)]]) 
  (IC.block 0 
  (IC.loop 
  (IC.seq 
  (IC.seq (IC.ops [I.mk none (some 6) (Ef.pr Pr.mv) [X.t 5], I.mk none (some 7) (Ef.pr Pr.mv) [X.t 0], I.mk none (some 8) (Ef.pr Pr.nilc) [X.t 7], I.mk none (some 9) (Ef.pr (Pr.fa 0)) [X.t 8], I.mk none (some 10) (Ef.pr (Pr.ld 1 false)) [X.t 9], I.mk none (some 11) (Ef.pr Pr.lenS) [X.t 10], I.mk none (some 12) (Ef.pr (Pr.cm BinOp.lss)) [X.t 6, X.t 11]]) 
  (IC.cond (X.t 12) IC.skip (IC.exit 0))) 
  (IC.seq 
  (IC.block 1 
  (IC.seq (IC.plan (Plan.q (I.mk none (some 15) (Ef.pr Pr.mv) [X.t 0]) (Plan.q (I.mk none (some 16) (Ef.pr Pr.nilc) [X.t 15]) (Plan.q (I.mk none (some 17) (Ef.pr (Pr.fa 0)) [X.t 16]) (Plan.q (I.mk none (some 18) (Ef.pr (Pr.ld 1 false)) [X.t 17]) (Plan.q (I.mk none (some 19) (Ef.pr Pr.mv) [X.t 5]) (Plan.q (I.mk none (some 20) (Ef.pr (Pr.iaS 2)) [X.t 18, X.t 19]) (Plan.q (I.mk none (some 21) (Ef.pr (Pr.ld 2 true)) [X.t 20]) (Plan.q (I.mk none (some 22) (Ef.pr (Pr.ld 2 true)) [X.t 3]) (Plan.q (I.mk none (some 23) (Ef.pr (Pr.eq false (EqT.ag [(0, EqS.i), (1, EqS.i)]))) [X.t 21, X.t 22]) Plan.done)))))))))) 
  (IC.cond (X.t 23) 
  (IC.seq (IC.ops [I.mk none (some 24) (Ef.pr Pr.mv) [X.t 5], I.mk none (some 4) (Ef.pr Pr.mv) [X.t 24]]) IC.ret) IC.skip))) (IC.ops [I.mk none (some 13) (Ef.pr Pr.mv) [X.t 5], I.mk none (some 14) (Ef.pr (Pr.ar BinOp.add)) [X.t 13, X.c (Value.int IntKind.i64 1)], I.mk none (some 5) (Ef.pr Pr.mv) [X.t 14]])))))) 
  (IC.seq (IC.ops [I.mk none (some 4) (Ef.pr Pr.mv) [X.c (Value.int IntKind.i64 (-1))]]) IC.ret))

theorem k21 : Go.Proofs.Tryd.f21.body.bind (comp Go.Proofs.Tryd.prog 25 [3] []) = some c21 := by kernel_rfl

theorem r21 : cRVs Go.Proofs.Tryd.prog Go.Proofs.Tryd.f21.results.toList = some [RV.t 4] := by kernel_rfl

theorem e21 {args : List Value} {h : Hp} {Q : Value → Hp → Prop} (hl : Nat.ble args.length 25 = true) (hk : codeK PR none c21 (retK Q [RV.t 4]) (fun _ _ _ _ => False) (retK Q [RV.t 4]) (argsE 0 args) [] h) : Ok PR 21 args h Q :=
  Ok.of mixed Go.Proofs.Tryd.func21 rfl k21 r21 hl hk

def c22 : IC := IC.seq (IC.ops [I.mk none (some 3) Ef.bx [X.t 1], I.mk none (some 4) (Ef.al [Value.int IntKind.i64 0, Value.int IntKind.i64 0, Value.int IntKind.i64 0, Value.int IntKind.i64 0, Value.int IntKind.i64 0, Value.int IntKind.i64 0]) [], I.mk none (some 5) (Ef.pr Pr.mv) [X.c (Value.bool false)]]) 
  (IC.seq 
  (IC.seq (IC.ops [I.mk none (some 6) (Ef.pr Pr.mv) [X.c (Value.int IntKind.i64 0)]]) 
  (IC.block 0 
  (IC.loop 
  (IC.seq 
  (IC.seq (IC.ops [I.mk none (some 7) (Ef.pr Pr.mv) [X.t 6], I.mk none (some 8) (Ef.pr Pr.mv) [X.t 0], I.mk none (some 9) (Ef.pr Pr.lenS) [X.t 8], I.mk none (some 10) (Ef.pr (Pr.cm BinOp.lss)) [X.t 7, X.t 9]]) 
  (IC.cond (X.t 10) IC.skip (IC.exit 0))) 
  (IC.seq 
  (IC.block 1 
  (IC.seq (IC.plan (Plan.q (I.mk none (some 13) (Ef.pr Pr.mv) [X.t 0]) (Plan.q (I.mk none (some 14) (Ef.pr Pr.mv) [X.t 6]) (Plan.q (I.mk none (some 15) (Ef.pr (Pr.iaS 6)) [X.t 13, X.t 14]) (Plan.q (I.mk none (some 16) (Ef.pr (Pr.fa 0)) [X.t 15]) (Plan.q (I.mk none (some 17) (Ef.pr (Pr.ld 1 false)) [X.t 16]) (Plan.q (I.mk none (some 18) (Ef.pr (Pr.fa 0)) [X.t 3]) (Plan.q (I.mk none (some 19) (Ef.pr (Pr.ld 1 false)) [X.t 18]) (Plan.q (I.mk none (some 20) (Ef.pr (Pr.cm BinOp.eql)) [X.t 17, X.t 19]) (Plan.q (I.mk none (some 21) (Ef.pr Pr.mv) [X.t 20]) (Plan.q (I.mk (some (21, true)) (some 22) (Ef.pr Pr.mv) [X.t 0]) (Plan.q (I.mk (some (21, true)) (some 23) (Ef.pr Pr.mv) [X.t 6]) (Plan.q (I.mk (some (21, true)) (some 24) (Ef.pr (Pr.iaS 6)) [X.t 22, X.t 23]) (Plan.q (I.mk (some (21, true)) (some 25) (Ef.pr (Pr.fa 1)) [X.t 24]) (Plan.q (I.mk (some (21, true)) (some 26) (Ef.pr (Pr.ld 1 false)) [X.t 25]) (Plan.q (I.mk (some (21, true)) (some 27) (Ef.pr (Pr.fa 1)) [X.t 3]) (Plan.q (I.mk (some (21, true)) (some 28) (Ef.pr (Pr.ld 1 false)) [X.t 27]) (Plan.q (I.mk (some (21, true)) (some 29) (Ef.pr (Pr.cm BinOp.eql)) [X.t 26, X.t 28]) (Plan.q (I.mk none (some 30) (Ef.pr Pr.pick) [X.t 21, X.t 29, X.c (Value.bool false)]) Plan.done))))))))))))))))))) 
  (IC.cond (X.t 30) 
  (IC.seq (IC.ops [I.mk none (some 31) (Ef.pr Pr.mv) [X.t 0], I.mk none (some 32) (Ef.pr Pr.mv) [X.t 6], I.mk none (some 33) (Ef.pr (Pr.iaS 6)) [X.t 31, X.t 32], I.mk none (some 34) (Ef.pr (Pr.ld 6 true)) [X.t 33], I.mk none none (Ef.st 6) [X.t 4, X.t 34], I.mk none (some 5) (Ef.pr Pr.mv) [X.c (Value.bool true)]]) IC.ret) IC.skip))) (IC.ops [I.mk none (some 11) (Ef.pr Pr.mv) [X.t 6], I.mk none (some 12) (Ef.pr (Pr.ar BinOp.add)) [X.t 11, X.c (Value.int IntKind.i64 1)], I.mk none (some 6) (Ef.pr Pr.mv) [X.t 12]])))))) 
  (IC.seq (IC.ops [I.mk none (some 35) (Ef.pr (Pr.bld [Value.int IntKind.i64 0, Value.int IntKind.i64 0, Value.int IntKind.i64 0, Value.int IntKind.i64 0, Value.int IntKind.i64 0, Value.int IntKind.i64 0] [])) [], I.mk none none (Ef.st 6) [X.t 4, X.t 35], I.mk none (some 5) (Ef.pr Pr.mv) [X.c (Value.bool false)]]) IC.ret))

theorem k22 : Go.Proofs.Tryd.f22.body.bind (comp Go.Proofs.Tryd.prog 36 [3, 4] []) = some c22 := by kernel_rfl

theorem r22 : cRVs Go.Proofs.Tryd.prog Go.Proofs.Tryd.f22.results.toList = some [RV.c 4 6 true, RV.t 5] := by kernel_rfl

theorem e22 {args : List Value} {h : Hp} {Q : Value → Hp → Prop} (hl : Nat.ble args.length 36 = true) (hk : codeK PR none c22 (retK Q [RV.c 4 6 true, RV.t 5]) (fun _ _ _ _ => False) (retK Q [RV.c 4 6 true, RV.t 5]) (argsE 0 args) [] h) : Ok PR 22 args h Q :=
  Ok.of mixed Go.Proofs.Tryd.func22 rfl k22 r22 hl hk

def c44 : IC := IC.seq (IC.ops [I.mk none (some 3) Ef.bx [X.t 1]]) 
  (IC.seq (IC.ops [I.mk none (some 5) (Ef.pr Pr.mv) [X.t 0], I.mk none (some 6) (Ef.pr (Pr.ld 2 true)) [X.t 3], I.mk none (some 7) (Ef.call 21) [X.t 5, X.t 6], I.mk none (some 4) (Ef.pr Pr.mv) [X.t 7]]) 
  (IC.seq (IC.ops [I.mk none (some 8) (Ef.pr Pr.mv) [X.t 4], I.mk none (some 9) (Ef.pr (Pr.cm BinOp.geq)) [X.t 8, X.c (Value.int IntKind.i64 0)]]) 
  (IC.cond (X.t 9) (IC.plan (Plan.q (I.mk none (some 10) (Ef.pr Pr.mv) [X.t 0]) (Plan.q (I.mk none (some 11) (Ef.pr Pr.mv) [X.t 0]) (Plan.q (I.mk none (some 12) (Ef.pr Pr.nilc) [X.t 11]) (Plan.q (I.mk none (some 13) (Ef.pr (Pr.fa 0)) [X.t 12]) (Plan.q (I.mk none (some 14) (Ef.pr (Pr.ld 1 false)) [X.t 13]) (Plan.q (I.mk none (some 15) (Ef.pr Pr.mv) [X.t 4]) (Plan.q (I.mk none (some 16) (Ef.pr Pr.mv) [X.t 4]) (Plan.q (I.mk none (some 17) (Ef.pr (Pr.slS 2 false true true)) [X.t 14, X.t 15, X.t 16]) (Plan.q (I.mk none (some 18) (Ef.pr Pr.mv) [X.t 0]) (Plan.q (I.mk none (some 19) (Ef.pr Pr.nilc) [X.t 18]) (Plan.q (I.mk none (some 20) (Ef.pr (Pr.fa 0)) [X.t 19]) (Plan.q (I.mk none (some 21) (Ef.pr (Pr.ld 1 false)) [X.t 20]) (Plan.q (I.mk none (some 22) (Ef.pr Pr.mv) [X.t 4]) (Plan.q (I.mk none (some 23) (Ef.pr (Pr.ar BinOp.add)) [X.t 22, X.c (Value.int IntKind.i64 1)]) (Plan.q (I.mk none (some 24) (Ef.pr (Pr.slS 2 true false false)) [X.t 21, X.t 23]) (Plan.br (PlanL.cons false false (I.mk none (some 25) (Ef.app [Value.int IntKind.i64 0, Value.int IntKind.i64 0] 28 16) [X.t 17, X.t 24]) (Plan.q (I.mk none (some 26) (Ef.pr Pr.nilc) [X.t 10]) (Plan.q (I.mk none (some 27) (Ef.pr (Pr.fa 0)) [X.t 26]) (Plan.br (PlanL.cons false false (I.mk none none (Ef.st 1) [X.t 27, X.t 25]) Plan.done PlanL.nil)))) PlanL.nil)))))))))))))))))) IC.skip)))

theorem k44 : Go.Proofs.Tryd.f44.body.bind (comp Go.Proofs.Tryd.prog 28 [3] []) = some c44 := by kernel_rfl

theorem r44 : cRVs Go.Proofs.Tryd.prog Go.Proofs.Tryd.f44.results.toList = some [] := by kernel_rfl

theorem e44 {args : List Value} {h : Hp} {Q : Value → Hp → Prop} (hl : Nat.ble args.length 28 = true) (hk : codeK PR none c44 (retK Q []) (fun _ _ _ _ => False) (retK Q []) (argsE 0 args) [] h) : Ok PR 44 args h Q :=
  Ok.of mixed Go.Proofs.Tryd.func44 rfl k44 r44 hl hk

def c45 : IC := IC.seq (IC.ops [I.mk none (some 4) (Ef.pr Pr.mv) [X.c (Value.int IntKind.i64 0)]]) 
  (IC.block 0 
  (IC.loop 
  (IC.seq 
  (IC.seq (IC.ops [I.mk none (some 5) (Ef.pr Pr.mv) [X.t 4], I.mk none (some 6) (Ef.pr Pr.mv) [X.t 1], I.mk none (some 7) (Ef.pr Pr.lenS) [X.t 6], I.mk none (some 8) (Ef.pr (Pr.cm BinOp.lss)) [X.t 5, X.t 7]]) 
  (IC.cond (X.t 8) IC.skip (IC.exit 0))) 
  (IC.seq 
  (IC.block 1 (IC.plan (Plan.q (I.mk none (some 11) (Ef.pr Pr.mv) [X.t 0]) (Plan.q (I.mk none (some 12) (Ef.pr Pr.mv) [X.t 1]) (Plan.q (I.mk none (some 13) (Ef.pr Pr.mv) [X.t 4]) (Plan.q (I.mk none (some 14) (Ef.pr (Pr.iaS 6)) [X.t 12, X.t 13]) (Plan.q (I.mk none (some 15) (Ef.pr (Pr.fa 0)) [X.t 14]) (Plan.q (I.mk none (some 16) (Ef.pr (Pr.ld 1 false)) [X.t 15]) (Plan.q (I.mk none (some 17) (Ef.pr Pr.mv) [X.t 1]) (Plan.q (I.mk none (some 18) (Ef.pr Pr.mv) [X.t 4]) (Plan.q (I.mk none (some 19) (Ef.pr (Pr.iaS 6)) [X.t 17, X.t 18]) (Plan.q (I.mk none (some 20) (Ef.pr (Pr.fa 1)) [X.t 19]) (Plan.q (I.mk none (some 21) (Ef.pr (Pr.ld 1 false)) [X.t 20]) (Plan.q (I.mk none (some 22) (Ef.pr (Pr.bld [Value.int IntKind.i64 0, Value.int IntKind.i64 0] [(0, 1), (1, 1)])) [X.t 16, X.t 21]) (Plan.br (PlanL.cons false false (I.mk none (some 23) (Ef.call 44) [X.t 11, X.t 22]) Plan.done PlanL.nil)))))))))))))))) (IC.ops [I.mk none (some 9) (Ef.pr Pr.mv) [X.t 4], I.mk none (some 10) (Ef.pr (Pr.ar BinOp.add)) [X.t 9, X.c (Value.int IntKind.i64 1)], I.mk none (some 4) (Ef.pr Pr.mv) [X.t 10]])))))

theorem k45 : Go.Proofs.Tryd.f45.body.bind (comp Go.Proofs.Tryd.prog 24 [] []) = some c45 := by kernel_rfl

theorem r45 : cRVs Go.Proofs.Tryd.prog Go.Proofs.Tryd.f45.results.toList = some [] := by kernel_rfl

theorem e45 {args : List Value} {h : Hp} {Q : Value → Hp → Prop} (hl : Nat.ble args.length 24 = true) (hk : codeK PR none c45 (retK Q []) (fun _ _ _ _ => False) (retK Q []) (argsE 0 args) [] h) : Ok PR 45 args h Q :=
  Ok.of mixed Go.Proofs.Tryd.func45 rfl k45 r45 hl hk

def c24 : IC := IC.seq (IC.ops [I.mk none (some 4) (Ef.pr Pr.mv) [X.c (Value.int IntKind.i64 0)]]) 
  (IC.block 0 
  (IC.loop 
  (IC.seq 
  (IC.seq (IC.ops [I.mk none (some 5) (Ef.pr Pr.mv) [X.t 4], I.mk none (some 6) (Ef.pr Pr.mv) [X.t 0], I.mk none (some 7) (Ef.pr Pr.lenS) [X.t 6], I.mk none (some 8) (Ef.pr (Pr.cm BinOp.lss)) [X.t 5, X.t 7]]) 
  (IC.cond (X.t 8) IC.skip (IC.exit 0))) 
  (IC.seq 
  (IC.block 1 (IC.ops [I.mk none (some 11) (Ef.pr Pr.mv) [X.t 0], I.mk none (some 12) (Ef.pr Pr.mv) [X.t 4], I.mk none (some 13) (Ef.pr Pr.mv) [X.t 1], I.mk none (some 14) (Ef.pr Pr.mv) [X.t 4], I.mk none (some 15) (Ef.pr (Pr.ar BinOp.add)) [X.t 13, X.t 14], I.mk none (some 16) (Ef.pr (Pr.iaS 6)) [X.t 11, X.t 12], I.mk none (some 17) (Ef.pr (Pr.fa 1)) [X.t 16], I.mk none none (Ef.st 1) [X.t 17, X.t 15]])) (IC.ops [I.mk none (some 9) (Ef.pr Pr.mv) [X.t 4], I.mk none (some 10) (Ef.pr (Pr.ar BinOp.add)) [X.t 9, X.c (Value.int IntKind.i64 1)], I.mk none (some 4) (Ef.pr Pr.mv) [X.t 10]])))))

theorem k24 : Go.Proofs.Tryd.f24.body.bind (comp Go.Proofs.Tryd.prog 18 [] []) = some c24 := by kernel_rfl

theorem r24 : cRVs Go.Proofs.Tryd.prog Go.Proofs.Tryd.f24.results.toList = some [] := by kernel_rfl

theorem e24 {args : List Value} {h : Hp} {Q : Value → Hp → Prop} (hl : Nat.ble args.length 18 = true) (hk : codeK PR none c24 (retK Q []) (fun _ _ _ _ => False) (retK Q []) (argsE 0 args) [] h) : Ok PR 24 args h Q :=
  Ok.of mixed Go.Proofs.Tryd.func24 rfl k24 r24 hl hk

def c25 : IC := IC.seq (IC.ops [I.mk none (some 4) (Ef.pr Pr.mv) [X.c (Value.bool false)]]) 
  (IC.seq 
  (IC.seq (IC.ops [I.mk none (some 5) (Ef.pr Pr.mv) [X.c (Value.int IntKind.i64 0)]]) 
  (IC.block 0 
  (IC.loop 
  (IC.seq 
  (IC.seq (IC.ops [I.mk none (some 6) (Ef.pr Pr.mv) [X.t 5], I.mk none (some 7) (Ef.pr Pr.mv) [X.t 0], I.mk none (some 8) (Ef.pr Pr.lenS) [X.t 7], I.mk none (some 9) (Ef.pr (Pr.cm BinOp.lss)) [X.t 6, X.t 8]]) 
  (IC.cond (X.t 9) IC.skip (IC.exit 0))) 
  (IC.seq 
  (IC.block 1 
  (IC.seq (IC.ops [I.mk none (some 12) (Ef.pr Pr.mv) [X.t 0], I.mk none (some 13) (Ef.pr Pr.mv) [X.t 5], I.mk none (some 14) (Ef.pr (Pr.iaS 6)) [X.t 12, X.t 13], I.mk none (some 15) (Ef.pr (Pr.fa 1)) [X.t 14], I.mk none (some 16) (Ef.pr (Pr.ld 1 false)) [X.t 15], I.mk none (some 17) (Ef.pr Pr.mv) [X.t 1], I.mk none (some 18) (Ef.pr Pr.mv) [X.t 5], I.mk none (some 19) (Ef.pr (Pr.ar BinOp.add)) [X.t 17, X.t 18], I.mk none (some 20) (Ef.pr (Pr.cm BinOp.neq)) [X.t 16, X.t 19]]) 
  (IC.cond (X.t 20) 
  (IC.seq (IC.ops [I.mk none (some 4) (Ef.pr Pr.mv) [X.c (Value.bool false)]]) IC.ret) IC.skip))) (IC.ops [I.mk none (some 10) (Ef.pr Pr.mv) [X.t 5], I.mk none (some 11) (Ef.pr (Pr.ar BinOp.add)) [X.t 10, X.c (Value.int IntKind.i64 1)], I.mk none (some 5) (Ef.pr Pr.mv) [X.t 11]])))))) 
  (IC.seq (IC.ops [I.mk none (some 21) (Ef.pr Pr.mv) [X.t 0], I.mk none (some 22) (Ef.pr Pr.lenS) [X.t 21], I.mk none (some 23) (Ef.pr (Pr.cm BinOp.gtr)) [X.t 22, X.c (Value.int IntKind.i64 0)], I.mk none (some 4) (Ef.pr Pr.mv) [X.t 23]]) IC.ret))

theorem k25 : Go.Proofs.Tryd.f25.body.bind (comp Go.Proofs.Tryd.prog 24 [] []) = some c25 := by kernel_rfl

theorem r25 : cRVs Go.Proofs.Tryd.prog Go.Proofs.Tryd.f25.results.toList = some [RV.t 4] := by kernel_rfl

theorem e25 {args : List Value} {h : Hp} {Q : Value → Hp → Prop} (hl : Nat.ble args.length 24 = true) (hk : codeK PR none c25 (retK Q [RV.t 4]) (fun _ _ _ _ => False) (retK Q [RV.t 4]) (argsE 0 args) [] h) : Ok PR 25 args h Q :=
  Ok.of mixed Go.Proofs.Tryd.func25 rfl k25 r25 hl hk

def c26 : IC := IC.seq (IC.ops [I.mk none (some 6) (Ef.pr Pr.mv) [X.c (Value.bool false)]]) 
  (IC.seq (IC.ops [I.mk none (some 15) (Ef.pr Pr.mv) [X.t 1], I.mk none (some 16) (Ef.call 24) [X.t 15, X.c (Value.int IntKind.i64 500)]]) 
  (IC.seq 
  (IC.seq (IC.ops [I.mk none (some 17) (Ef.pr Pr.mv) [X.t 0], I.mk none (some 18) (Ef.pr Pr.mv) [X.t 2], I.mk none (some 19) (Ef.call 51) [X.t 17, X.c (Value.int IntKind.i64 1), X.t 18], I.mk none (some 20) (Ef.pr (Pr.un UnOp.not)) [X.t 19]]) 
  (IC.cond (X.t 20) 
  (IC.seq (IC.ops [I.mk none (some 6) (Ef.pr Pr.mv) [X.c (Value.bool false)]]) IC.ret) IC.skip)) 
  (IC.seq (IC.ops [I.mk none (some 22) (Ef.pr Pr.mv) [X.t 0], I.mk none (some 23) (Ef.call 20) [X.t 22, X.c (Value.int IntKind.i64 0), X.c (Value.int IntKind.i64 0)], I.mk none (some 21) (Ef.pr Pr.mv) [X.t 23], I.mk none (some 24) (Ef.pr (Pr.ext 0)) [X.t 21], I.mk none (some 25) (Ef.pr (Pr.ext 1)) [X.t 21], I.mk none (some 7) (Ef.pr Pr.mv) [X.t 24], I.mk none (some 8) (Ef.pr Pr.mv) [X.t 25]]) 
  (IC.seq 
  (IC.seq (IC.ops [I.mk none (some 26) (Ef.pr Pr.mv) [X.t 8], I.mk none (some 27) (Ef.pr (Pr.cm BinOp.neq)) [X.t 26, X.c (Value.int IntKind.i64 0)], I.mk none (some 28) (Ef.pr Pr.mv) [X.t 27], I.mk (some (28, false)) (some 29) (Ef.pr Pr.mv) [X.t 7], I.mk (some (28, false)) (some 30) (Ef.pr Pr.lenS) [X.t 29], I.mk (some (28, false)) (some 31) (Ef.pr Pr.mv) [X.t 2], I.mk (some (28, false)) (some 32) (Ef.pr (Pr.cm BinOp.neq)) [X.t 30, X.t 31], I.mk none (some 33) (Ef.pr Pr.pick) [X.t 28, X.c (Value.bool true), X.t 32], I.mk none (some 34) (Ef.pr Pr.mv) [X.t 33], I.mk (some (34, false)) (some 35) (Ef.pr Pr.mv) [X.t 1], I.mk (some (34, false)) (some 36) (Ef.call 25) [X.t 35, X.c (Value.int IntKind.i64 500)], I.mk (some (34, false)) (some 37) (Ef.pr (Pr.un UnOp.not)) [X.t 36], I.mk none (some 38) (Ef.pr Pr.pick) [X.t 34, X.c (Value.bool true), X.t 37], I.mk none (some 39) (Ef.pr Pr.mv) [X.t 38], I.mk (some (39, false)) (some 40) (Ef.pr Pr.mv) [X.t 0], I.mk (some (39, false)) (some 41) (Ef.pr Pr.mv) [X.t 2], I.mk (some (39, false)) (some 42) (Ef.call 51) [X.t 40, X.c (Value.int IntKind.i64 1), X.t 41], I.mk (some (39, false)) (some 43) (Ef.pr (Pr.un UnOp.not)) [X.t 42], I.mk none (some 44) (Ef.pr Pr.pick) [X.t 39, X.c (Value.bool true), X.t 43], I.mk none (some 45) (Ef.pr Pr.mv) [X.t 44], I.mk (some (45, false)) (some 46) (Ef.pr Pr.mv) [X.t 0], I.mk (some (45, false)) (some 47) (Ef.pr Pr.mv) [X.t 2], I.mk (some (45, false)) (some 48) (Ef.call 51) [X.t 46, X.c (Value.int IntKind.i64 2), X.t 47], I.mk (some (45, false)) (some 49) (Ef.pr (Pr.un UnOp.not)) [X.t 48], I.mk none (some 50) (Ef.pr Pr.pick) [X.t 45, X.c (Value.bool true), X.t 49]]) 
  (IC.cond (X.t 50) 
  (IC.seq (IC.ops [I.mk none (some 6) (Ef.pr Pr.mv) [X.c (Value.bool false)]]) IC.ret) IC.skip)) 
  (IC.seq (IC.ops [I.mk none (some 51) (Ef.pr Pr.mv) [X.t 7], I.mk none (some 52) (Ef.call 24) [X.t 51, X.c (Value.int IntKind.i64 600)]]) 
  (IC.seq (IC.ops [I.mk none (some 54) (Ef.pr Pr.mv) [X.t 0], I.mk none (some 55) (Ef.call 42) [X.t 54, X.c (Value.int IntKind.i64 1)], I.mk none (some 53) (Ef.pr Pr.mv) [X.t 55], I.mk none (some 56) (Ef.pr (Pr.ext 0)) [X.t 53], I.mk none (some 57) (Ef.pr (Pr.ext 1)) [X.t 53], I.mk none (some 9) (Ef.pr Pr.mv) [X.t 56], I.mk none (some 8) (Ef.pr Pr.mv) [X.t 57]]) 
  (IC.seq (IC.ops [I.mk none (some 58) (Ef.pr Pr.mv) [X.t 9], I.mk none (some 59) (Ef.call 24) [X.t 58, X.c (Value.int IntKind.i64 700)]]) 
  (IC.seq (IC.ops [I.mk none (some 61) (Ef.pr Pr.mv) [X.t 0], I.mk none (some 62) (Ef.call 42) [X.t 61, X.c (Value.int IntKind.i64 2)], I.mk none (some 60) (Ef.pr Pr.mv) [X.t 62], I.mk none (some 63) (Ef.pr (Pr.ext 0)) [X.t 60], I.mk none (some 64) (Ef.pr (Pr.ext 1)) [X.t 60], I.mk none (some 10) (Ef.pr Pr.mv) [X.t 63], I.mk none (some 11) (Ef.pr Pr.mv) [X.t 64]]) 
  (IC.seq 
  (IC.seq (IC.ops [I.mk none (some 65) (Ef.pr Pr.mv) [X.t 8], I.mk none (some 66) (Ef.pr (Pr.cm BinOp.neq)) [X.t 65, X.c (Value.int IntKind.i64 0)], I.mk none (some 67) (Ef.pr Pr.mv) [X.t 66], I.mk (some (67, false)) (some 68) (Ef.pr Pr.mv) [X.t 11], I.mk (some (67, false)) (some 69) (Ef.pr (Pr.cm BinOp.neq)) [X.t 68, X.c (Value.int IntKind.i64 0)], I.mk none (some 70) (Ef.pr Pr.pick) [X.t 67, X.c (Value.bool true), X.t 69], I.mk none (some 71) (Ef.pr Pr.mv) [X.t 70], I.mk (some (71, false)) (some 72) (Ef.pr Pr.mv) [X.t 9], I.mk (some (71, false)) (some 73) (Ef.pr Pr.lenS) [X.t 72], I.mk (some (71, false)) (some 74) (Ef.pr Pr.mv) [X.t 2], I.mk (some (71, false)) (some 75) (Ef.pr (Pr.cm BinOp.neq)) [X.t 73, X.t 74], I.mk none (some 76) (Ef.pr Pr.pick) [X.t 71, X.c (Value.bool true), X.t 75], I.mk none (some 77) (Ef.pr Pr.mv) [X.t 76], I.mk (some (77, false)) (some 78) (Ef.pr Pr.mv) [X.t 10], I.mk (some (77, false)) (some 79) (Ef.pr Pr.lenS) [X.t 78], I.mk (some (77, false)) (some 80) (Ef.pr Pr.mv) [X.t 2], I.mk (some (77, false)) (some 81) (Ef.pr (Pr.cm BinOp.neq)) [X.t 79, X.t 80], I.mk none (some 82) (Ef.pr Pr.pick) [X.t 77, X.c (Value.bool true), X.t 81], I.mk none (some 83) (Ef.pr Pr.mv) [X.t 82], I.mk (some (83, false)) (some 84) (Ef.pr Pr.mv) [X.t 7], I.mk (some (83, false)) (some 85) (Ef.call 25) [X.t 84, X.c (Value.int IntKind.i64 600)], I.mk (some (83, false)) (some 86) (Ef.pr (Pr.un UnOp.not)) [X.t 85], I.mk none (some 87) (Ef.pr Pr.pick) [X.t 83, X.c (Value.bool true), X.t 86], I.mk none (some 88) (Ef.pr Pr.mv) [X.t 87], I.mk (some (88, false)) (some 89) (Ef.pr Pr.mv) [X.t 9], I.mk (some (88, false)) (some 90) (Ef.call 25) [X.t 89, X.c (Value.int IntKind.i64 700)], I.mk (some (88, false)) (some 91) (Ef.pr (Pr.un UnOp.not)) [X.t 90], I.mk none (some 92) (Ef.pr Pr.pick) [X.t 88, X.c (Value.bool true), X.t 91], I.mk none (some 93) (Ef.pr Pr.mv) [X.t 92], I.mk (some (93, false)) (some 94) (Ef.pr Pr.mv) [X.t 0], I.mk (some (93, false)) (some 95) (Ef.pr Pr.mv) [X.t 2], I.mk (some (93, false)) (some 96) (Ef.call 51) [X.t 94, X.c (Value.int IntKind.i64 3), X.t 95], I.mk (some (93, false)) (some 97) (Ef.pr (Pr.un UnOp.not)) [X.t 96], I.mk none (some 98) (Ef.pr Pr.pick) [X.t 93, X.c (Value.bool true), X.t 97]]) 
  (IC.cond (X.t 98) 
  (IC.seq (IC.ops [I.mk none (some 6) (Ef.pr Pr.mv) [X.c (Value.bool false)]]) IC.ret) IC.skip)) 
  (IC.seq (IC.ops [I.mk none (some 99) (Ef.pr Pr.mv) [X.t 0], I.mk none (some 100) (Ef.call 43) [X.t 99, X.c (Value.int IntKind.i64 1), X.c (Value.int IntKind.i64 5)], I.mk none (some 12) (Ef.pr Pr.mv) [X.t 100]]) 
  (IC.seq 
  (IC.seq (IC.ops [I.mk none (some 101) (Ef.pr Pr.mv) [X.t 12], I.mk none (some 102) (Ef.pr Pr.lenS) [X.t 101], I.mk none (some 103) (Ef.pr Pr.mv) [X.t 2], I.mk none (some 104) (Ef.pr (Pr.ar BinOp.add)) [X.t 103, X.c (Value.int IntKind.i64 1)], I.mk none (some 105) (Ef.pr (Pr.cm BinOp.neq)) [X.t 102, X.t 104]]) 
  (IC.cond (X.t 105) 
  (IC.seq (IC.ops [I.mk none (some 6) (Ef.pr Pr.mv) [X.c (Value.bool false)]]) IC.ret) IC.skip)) 
  (IC.seq (IC.ops [I.mk none (some 106) (Ef.pr Pr.mv) [X.t 12], I.mk none (some 107) (Ef.call 24) [X.t 106, X.c (Value.int IntKind.i64 800)]]) 
  (IC.seq (IC.ops [I.mk none (some 109) (Ef.pr Pr.mv) [X.t 0], I.mk none (some 110) (Ef.pr (Pr.bld [Value.int IntKind.i64 0, Value.int IntKind.i64 0, Value.int IntKind.i64 0, Value.int IntKind.i64 0] [(0, 1), (1, 1), (2, 1), (3, 1)])) [X.c (Value.int IntKind.i64 1), X.c (Value.int IntKind.i64 5), X.c (Value.int IntKind.i64 8), X.c (Value.int IntKind.i64 15)], I.mk none (some 111) (Ef.call 36) [X.t 109, X.c (Value.int IntKind.i64 0), X.c (Value.int IntKind.i64 0), X.t 110], I.mk none (some 108) (Ef.pr Pr.mv) [X.t 111], I.mk none (some 112) (Ef.pr (Pr.ext 0)) [X.t 108], I.mk none (some 113) (Ef.pr (Pr.ext 1)) [X.t 108], I.mk none (some 13) (Ef.pr Pr.mv) [X.t 112], I.mk none (some 8) (Ef.pr Pr.mv) [X.t 113]]) 
  (IC.seq 
  (IC.seq (IC.ops [I.mk none (some 114) (Ef.pr Pr.mv) [X.t 13], I.mk none (some 115) (Ef.pr (Pr.cm BinOp.neq)) [X.t 114, X.c (Value.int IntKind.i64 0)], I.mk none (some 116) (Ef.pr Pr.mv) [X.t 115], I.mk (some (116, false)) (some 117) (Ef.pr Pr.mv) [X.t 8], I.mk (some (116, false)) (some 118) (Ef.pr (Pr.cm BinOp.neq)) [X.t 117, X.c (Value.int IntKind.i64 0)], I.mk none (some 119) (Ef.pr Pr.pick) [X.t 116, X.c (Value.bool true), X.t 118], I.mk none (some 120) (Ef.pr Pr.mv) [X.t 119], I.mk (some (120, false)) (some 121) (Ef.pr Pr.mv) [X.t 0], I.mk (some (120, false)) (some 122) (Ef.pr Pr.mv) [X.t 2], I.mk (some (120, false)) (some 123) (Ef.call 51) [X.t 121, X.c (Value.int IntKind.i64 3), X.t 122], I.mk (some (120, false)) (some 124) (Ef.pr (Pr.un UnOp.not)) [X.t 123], I.mk none (some 125) (Ef.pr Pr.pick) [X.t 120, X.c (Value.bool true), X.t 124]]) 
  (IC.cond (X.t 125) 
  (IC.seq (IC.ops [I.mk none (some 6) (Ef.pr Pr.mv) [X.c (Value.bool false)]]) IC.ret) IC.skip)) 
  (IC.seq (IC.ops [I.mk none (some 126) (Ef.pr Pr.mv) [X.t 0], I.mk none (some 127) (Ef.call 43) [X.t 126, X.c (Value.int IntKind.i64 1), X.c (Value.int IntKind.i64 5)], I.mk none (some 14) (Ef.pr Pr.mv) [X.t 127]]) 
  (IC.seq (IC.ops [I.mk none (some 128) (Ef.pr Pr.mv) [X.t 14], I.mk none (some 129) (Ef.pr Pr.lenS) [X.t 128], I.mk none (some 130) (Ef.pr Pr.mv) [X.t 2], I.mk none (some 131) (Ef.pr (Pr.ar BinOp.add)) [X.t 130, X.c (Value.int IntKind.i64 1)], I.mk none (some 132) (Ef.pr (Pr.cm BinOp.eql)) [X.t 129, X.t 131], I.mk none (some 133) (Ef.pr Pr.mv) [X.t 132], I.mk (some (133, true)) (some 134) (Ef.pr Pr.mv) [X.t 12], I.mk (some (133, true)) (some 135) (Ef.call 25) [X.t 134, X.c (Value.int IntKind.i64 800)], I.mk none (some 136) (Ef.pr Pr.pick) [X.t 133, X.t 135, X.c (Value.bool false)], I.mk none (some 137) (Ef.pr Pr.mv) [X.t 136], I.mk (some (137, true)) (some 138) (Ef.pr Pr.mv) [X.t 14], I.mk (some (137, true)) (some 139) (Ef.pr (Pr.iaS 6)) [X.t 138, X.c (Value.int IntKind.i64 0)], I.mk (some (137, true)) (some 140) (Ef.pr (Pr.fa 1)) [X.t 139], I.mk (some (137, true)) (some 141) (Ef.pr (Pr.ld 1 false)) [X.t 140], I.mk (some (137, true)) (some 142) (Ef.pr (Pr.cm BinOp.eql)) [X.t 141, X.c (Value.int IntKind.i64 0)], I.mk none (some 143) (Ef.pr Pr.pick) [X.t 137, X.t 142, X.c (Value.bool false)], I.mk none (some 6) (Ef.pr Pr.mv) [X.t 143]]) IC.ret))))))))))))))))

theorem k26 : Go.Proofs.Tryd.f26.body.bind (comp Go.Proofs.Tryd.prog 144 [] []) = some c26 := by kernel_rfl

theorem r26 : cRVs Go.Proofs.Tryd.prog Go.Proofs.Tryd.f26.results.toList = some [RV.t 6] := by kernel_rfl

theorem e26 {args : List Value} {h : Hp} {Q : Value → Hp → Prop} (hl : Nat.ble args.length 144 = true) (hk : codeK PR none c26 (retK Q [RV.t 6]) (fun _ _ _ _ => False) (retK Q [RV.t 6]) (argsE 0 args) [] h) : Ok PR 26 args h Q :=
  Ok.of mixed Go.Proofs.Tryd.func26 rfl k26 r26 hl hk

def c51 : IC := IC.seq (IC.ops [I.mk none (some 6) (Ef.pr Pr.mv) [X.c (Value.bool false)]]) 
  (IC.seq 
  (IC.seq (IC.ops [I.mk none (some 7) (Ef.pr Pr.mv) [X.c (Value.int IntKind.i64 0)]]) 
  (IC.block 0 
  (IC.loop 
  (IC.seq 
  (IC.seq (IC.ops [I.mk none (some 10) (Ef.pr Pr.mv) [X.t 7], I.mk none (some 11) (Ef.pr Pr.mv) [X.t 2], I.mk none (some 12) (Ef.pr (Pr.cm BinOp.lss)) [X.t 10, X.t 11]]) 
  (IC.cond (X.t 12) IC.skip (IC.exit 0))) 
  (IC.seq 
  (IC.block 1 
  (IC.seq (IC.ops [I.mk none (some 16) (Ef.pr Pr.mv) [X.t 0], I.mk none (some 17) (Ef.pr Pr.mv) [X.t 1], I.mk none (some 18) (Ef.call 11) [X.t 16, X.c (Value.int IntKind.i64 0), X.c (Value.int IntKind.i64 0), X.t 17, X.c (Value.int IntKind.i64 (-1)), X.c (Value.int IntKind.i64 5)], I.mk none (some 15) (Ef.pr Pr.mv) [X.t 18], I.mk none (some 19) (Ef.pr (Pr.ext 0)) [X.t 15], I.mk none (some 20) (Ef.pr (Pr.ext 1)) [X.t 15], I.mk none (some 8) (Ef.pr Pr.mv) [X.t 19], I.mk none (some 9) (Ef.pr Pr.mv) [X.t 20]]) 
  (IC.seq (IC.ops [I.mk none (some 21) (Ef.pr Pr.mv) [X.t 9], I.mk none (some 22) (Ef.pr (Pr.cm BinOp.neq)) [X.t 21, X.c (Value.int IntKind.i64 0)]]) 
  (IC.cond (X.t 22) 
  (IC.seq (IC.ops [I.mk none (some 6) (Ef.pr Pr.mv) [X.c (Value.bool false)]]) IC.ret) IC.skip)))) (IC.ops [I.mk none (some 13) (Ef.pr Pr.mv) [X.t 7], I.mk none (some 14) (Ef.pr (Pr.ar BinOp.add)) [X.t 13, X.c (Value.int IntKind.i64 1)], I.mk none (some 7) (Ef.pr Pr.mv) [X.t 14]])))))) 
  (IC.seq (IC.ops [I.mk none (some 6) (Ef.pr Pr.mv) [X.c (Value.bool true)]]) IC.ret))

theorem k51 : Go.Proofs.Tryd.f51.body.bind (comp Go.Proofs.Tryd.prog 23 [] []) = some c51 := by kernel_rfl

theorem r51 : cRVs Go.Proofs.Tryd.prog Go.Proofs.Tryd.f51.results.toList = some [RV.t 6] := by kernel_rfl

theorem e51 {args : List Value} {h : Hp} {Q : Value → Hp → Prop} (hl : Nat.ble args.length 23 = true) (hk : codeK PR none c51 (retK Q [RV.t 6]) (fun _ _ _ _ => False) (retK Q [RV.t 6]) (argsE 0 args) [] h) : Ok PR 51 args h Q :=
  Ok.of mixed Go.Proofs.Tryd.func51 rfl k51 r51 hl hk

def c3 : IC := IC.seq (IC.ops [I.mk none (some 4) (Ef.pr Pr.mv) [X.c (Value.bool false)]]) 
  (IC.seq 
  (IC.seq (IC.ops [I.mk none (some 22) (Ef.pr Pr.mv) [X.t 0], I.mk none (some 23) (Ef.pr (Pr.cm BinOp.lss)) [X.t 22, X.c (Value.int IntKind.i64 2)], I.mk none (some 24) (Ef.pr Pr.mv) [X.t 23], I.mk (some (24, false)) (some 25) (Ef.pr Pr.mv) [X.t 0], I.mk (some (24, false)) (some 26) (Ef.pr (Pr.cm BinOp.gtr)) [X.t 25, X.c (Value.int IntKind.i64 40)], I.mk none (some 27) (Ef.pr Pr.pick) [X.t 24, X.c (Value.bool true), X.t 26]]) 
  (IC.cond (X.t 27) 
  (IC.seq (IC.ops [I.mk none (some 4) (Ef.pr Pr.mv) [X.c (Value.bool true)]]) IC.ret) IC.skip)) 
  (IC.seq (IC.ops [I.mk none (some 28) (Ef.pr (Pr.bld [Value.int IntKind.i64 0, Value.int IntKind.i64 0, Value.int IntKind.i64 0, Value.int IntKind.i64 0] [(0, 1), (1, 1), (2, 1), (3, 1)])) [X.c (Value.int IntKind.i64 1), X.c (Value.int IntKind.i64 5), X.c (Value.int IntKind.i64 7), X.c (Value.int IntKind.i64 15)], I.mk none (some 29) (Ef.call 10) [X.t 28], I.mk none (some 5) (Ef.pr Pr.mv) [X.t 29]]) 
  (IC.seq 
  (IC.seq (IC.ops [I.mk none (some 30) (Ef.pr Pr.mv) [X.t 5], I.mk none (some 31) (Ef.pr (Pr.eq false (EqT.one EqS.p))) [X.t 30, X.c (Value.pointer none)]]) 
  (IC.cond (X.t 31) 
  (IC.seq (IC.ops [I.mk none (some 4) (Ef.pr Pr.mv) [X.c (Value.bool false)]]) IC.ret) IC.skip)) 
  (IC.seq (IC.ops [I.mk none (some 32) (Ef.pr (Pr.bld [Value.int IntKind.i64 0, Value.int IntKind.i64 0] [(0, 1), (1, 1)])) [X.c (Value.int IntKind.i64 0), X.c (Value.int IntKind.i64 0)], I.mk none (some 33) (Ef.bsl [Value.int IntKind.i64 0, Value.int IntKind.i64 0] 28 1 2 [0]) [X.t 32], I.mk none (some 6) (Ef.pr Pr.mv) [X.t 33]]) 
  (IC.seq (IC.ops [I.mk none (some 7) (Ef.pr Pr.mv) [X.c (Value.slice none 0 0)]]) 
  (IC.seq (IC.ops [I.mk none (some 34) (Ef.pr Pr.mv) [X.t 7], I.mk none (some 35) (Ef.bsl [Value.bool false] 4 1 1 [0]) [X.c (Value.bool true)], I.mk none (some 36) (Ef.app [Value.bool false] 4 1) [X.t 34, X.t 35], I.mk none (some 7) (Ef.pr Pr.mv) [X.t 36]]) 
  (IC.seq 
  (IC.seq (IC.ops [I.mk none (some 8) (Ef.pr Pr.mv) [X.c (Value.int IntKind.i64 1)]]) 
  (IC.block 0 
  (IC.loop 
  (IC.seq 
  (IC.seq (IC.ops [I.mk none (some 37) (Ef.pr Pr.mv) [X.t 8], I.mk none (some 38) (Ef.pr Pr.mv) [X.t 0], I.mk none (some 39) (Ef.pr (Pr.cm BinOp.lss)) [X.t 37, X.t 38]]) 
  (IC.cond (X.t 39) IC.skip (IC.exit 0))) 
  (IC.seq 
  (IC.block 1 
  (IC.seq (IC.plan (Plan.q (I.mk none (some 43) (Ef.pr Pr.mv) [X.t 5]) (Plan.q (I.mk none (some 44) (Ef.pr Pr.mv) [X.t 6]) (Plan.q (I.mk none (some 45) (Ef.pr Pr.mv) [X.t 8]) (Plan.q (I.mk none (some 46) (Ef.pr (Pr.ar BinOp.sub)) [X.t 45, X.c (Value.int IntKind.i64 1)]) (Plan.q (I.mk none (some 47) (Ef.pr (Pr.iaS 2)) [X.t 44, X.t 46]) (Plan.q (I.mk none (some 48) (Ef.pr (Pr.fa 0)) [X.t 47]) (Plan.q (I.mk none (some 49) (Ef.pr (Pr.ld 1 false)) [X.t 48]) (Plan.q (I.mk none (some 50) (Ef.pr Pr.mv) [X.t 6]) (Plan.q (I.mk none (some 51) (Ef.pr Pr.mv) [X.t 8]) (Plan.q (I.mk none (some 52) (Ef.pr (Pr.ar BinOp.sub)) [X.t 51, X.c (Value.int IntKind.i64 1)]) (Plan.q (I.mk none (some 53) (Ef.pr (Pr.iaS 2)) [X.t 50, X.t 52]) (Plan.q (I.mk none (some 54) (Ef.pr (Pr.fa 1)) [X.t 53]) (Plan.q (I.mk none (some 55) (Ef.pr (Pr.ld 1 false)) [X.t 54]) (Plan.q (I.mk none (some 56) (Ef.pr Pr.mv) [X.t 8]) (Plan.q (I.mk none (some 57) (Ef.pr (Pr.dv BinOp.rem)) [X.t 56, X.c (Value.int IntKind.i64 4)]) (Plan.br (PlanL.cons false false (I.mk none (some 58) (Ef.call 11) [X.t 43, X.t 49, X.t 55, X.t 57, X.c (Value.int IntKind.i64 (-1)), X.c (Value.int IntKind.i64 15)]) (Plan.q (I.mk none (some 42) (Ef.pr Pr.mv) [X.t 58]) (Plan.q (I.mk none (some 59) (Ef.pr (Pr.ext 0)) [X.t 42]) (Plan.q (I.mk none (some 60) (Ef.pr (Pr.ext 1)) [X.t 42]) (Plan.q (I.mk none (some 9) (Ef.pr Pr.mv) [X.t 59]) (Plan.q (I.mk none (some 10) (Ef.pr Pr.mv) [X.t 60]) Plan.done))))) PlanL.nil)))))))))))))))))) 
  (IC.seq 
  (IC.seq (IC.ops [I.mk none (some 61) (Ef.pr Pr.mv) [X.t 10], I.mk none (some 62) (Ef.pr (Pr.cm BinOp.neq)) [X.t 61, X.c (Value.int IntKind.i64 0)]]) 
  (IC.cond (X.t 62) 
  (IC.seq (IC.ops [I.mk none (some 4) (Ef.pr Pr.mv) [X.c (Value.bool false)]]) IC.ret) IC.skip)) 
  (IC.seq (IC.ops [I.mk none (some 63) (Ef.pr Pr.mv) [X.t 6], I.mk none (some 64) (Ef.pr Pr.mv) [X.t 8], I.mk none (some 65) (Ef.pr (Pr.dv BinOp.rem)) [X.t 64, X.c (Value.int IntKind.i64 4)], I.mk none (some 66) (Ef.pr Pr.mv) [X.t 9], I.mk none (some 67) (Ef.pr (Pr.bld [Value.int IntKind.i64 0, Value.int IntKind.i64 0] [(0, 1), (1, 1)])) [X.t 65, X.t 66], I.mk none (some 68) (Ef.bsl [Value.int IntKind.i64 0, Value.int IntKind.i64 0] 28 1 2 [0]) [X.t 67], I.mk none (some 69) (Ef.app [Value.int IntKind.i64 0, Value.int IntKind.i64 0] 28 16) [X.t 63, X.t 68], I.mk none (some 6) (Ef.pr Pr.mv) [X.t 69]]) (IC.ops [I.mk none (some 70) (Ef.pr Pr.mv) [X.t 7], I.mk none (some 71) (Ef.bsl [Value.bool false] 4 1 1 [0]) [X.c (Value.bool true)], I.mk none (some 72) (Ef.app [Value.bool false] 4 1) [X.t 70, X.t 71], I.mk none (some 7) (Ef.pr Pr.mv) [X.t 72]]))))) (IC.ops [I.mk none (some 40) (Ef.pr Pr.mv) [X.t 8], I.mk none (some 41) (Ef.pr (Pr.ar BinOp.add)) [X.t 40, X.c (Value.int IntKind.i64 1)], I.mk none (some 8) (Ef.pr Pr.mv) [X.t 41]])))))) 
  (IC.seq 
  (IC.seq (IC.ops [I.mk none (some 11) (Ef.pr Pr.mv) [X.c (Value.int IntKind.i64 0)]]) 
  (IC.block 2 
  (IC.loop 
  (IC.seq 
  (IC.seq (IC.ops [I.mk none (some 73) (Ef.pr Pr.mv) [X.t 11], I.mk none (some 74) (Ef.pr Pr.mv) [X.t 1], I.mk none (some 75) (Ef.pr Pr.lenS) [X.t 74], I.mk none (some 76) (Ef.pr (Pr.cm BinOp.lss)) [X.t 73, X.t 75], I.mk none (some 77) (Ef.pr Pr.mv) [X.t 76], I.mk (some (77, true)) (some 78) (Ef.pr Pr.mv) [X.t 11], I.mk (some (77, true)) (some 79) (Ef.pr (Pr.cm BinOp.lss)) [X.t 78, X.c (Value.int IntKind.i64 100)], I.mk none (some 80) (Ef.pr Pr.pick) [X.t 77, X.t 79, X.c (Value.bool false)]]) 
  (IC.cond (X.t 80) IC.skip (IC.exit 2))) 
  (IC.seq 
  (IC.block 3 
  (IC.seq (IC.ops [I.mk none (some 83) (Ef.pr Pr.mv) [X.t 1], I.mk none (some 84) (Ef.pr Pr.mv) [X.t 11], I.mk none (some 85) (Ef.pr (Pr.iaS 1)) [X.t 83, X.t 84], I.mk none (some 86) (Ef.pr (Pr.ld 1 false)) [X.t 85], I.mk none (some 12) (Ef.pr Pr.mv) [X.t 86]]) 
  (IC.seq 
  (IC.seq (IC.ops [I.mk none (some 87) (Ef.pr Pr.mv) [X.t 12], I.mk none (some 88) (Ef.pr (Pr.cm BinOp.lss)) [X.t 87, X.c (Value.int IntKind.i64 0)], I.mk none (some 89) (Ef.pr Pr.mv) [X.t 88], I.mk (some (89, false)) (some 90) (Ef.pr Pr.mv) [X.t 12], I.mk (some (89, false)) (some 91) (Ef.pr Pr.mv) [X.t 0], I.mk (some (89, false)) (some 92) (Ef.pr (Pr.cm BinOp.geq)) [X.t 90, X.t 91], I.mk none (some 93) (Ef.pr Pr.pick) [X.t 89, X.c (Value.bool true), X.t 92], I.mk none (some 94) (Ef.pr Pr.mv) [X.t 93], I.mk (some (94, false)) (some 95) (Ef.pr Pr.mv) [X.t 7], I.mk (some (94, false)) (some 96) (Ef.pr Pr.mv) [X.t 12], I.mk (some (94, false)) (some 97) (Ef.pr (Pr.iaS 1)) [X.t 95, X.t 96], I.mk (some (94, false)) (some 98) (Ef.pr (Pr.ld 1 false)) [X.t 97], I.mk (some (94, false)) (some 99) (Ef.pr (Pr.un UnOp.not)) [X.t 98], I.mk none (some 100) (Ef.pr Pr.pick) [X.t 94, X.c (Value.bool true), X.t 99]]) 
  (IC.cond (X.t 100) (IC.exit 3) IC.skip)) 
  (IC.seq (IC.plan (Plan.q (I.mk none (some 102) (Ef.pr Pr.mv) [X.t 5]) (Plan.q (I.mk none (some 103) (Ef.pr Pr.mv) [X.t 6]) (Plan.q (I.mk none (some 104) (Ef.pr Pr.mv) [X.t 12]) (Plan.q (I.mk none (some 105) (Ef.pr (Pr.iaS 2)) [X.t 103, X.t 104]) (Plan.q (I.mk none (some 106) (Ef.pr (Pr.fa 0)) [X.t 105]) (Plan.q (I.mk none (some 107) (Ef.pr (Pr.ld 1 false)) [X.t 106]) (Plan.q (I.mk none (some 108) (Ef.pr Pr.mv) [X.t 6]) (Plan.q (I.mk none (some 109) (Ef.pr Pr.mv) [X.t 12]) (Plan.q (I.mk none (some 110) (Ef.pr (Pr.iaS 2)) [X.t 108, X.t 109]) (Plan.q (I.mk none (some 111) (Ef.pr (Pr.fa 1)) [X.t 110]) (Plan.q (I.mk none (some 112) (Ef.pr (Pr.ld 1 false)) [X.t 111]) (Plan.br (PlanL.cons false true (I.mk none (some 113) (Ef.call 12) [X.t 102, X.t 107, X.t 112]) (Plan.q (I.mk none (some 101) (Ef.pr Pr.mv) [X.t 113]) (Plan.q (I.mk none (some 114) (Ef.pr (Pr.ext 0)) [X.t 101]) (Plan.q (I.mk none (some 115) (Ef.pr (Pr.ext 1)) [X.t 101]) (Plan.br (PlanL.cons true false (I.mk none (some 13) (Ef.al [Value.int IntKind.i64 0, Value.int IntKind.i64 0, Value.int IntKind.i64 0, Value.int IntKind.i64 0]) []) (Plan.br (PlanL.cons false false (I.mk none none (Ef.st 4) [X.t 13, X.t 114]) (Plan.q (I.mk none (some 14) (Ef.pr Pr.mv) [X.t 115]) Plan.done) PlanL.nil)) PlanL.nil))))) (PlanL.cons true false (I.mk none (some 13) (Ef.al [Value.int IntKind.i64 0, Value.int IntKind.i64 0, Value.int IntKind.i64 0, Value.int IntKind.i64 0]) []) (Plan.br (PlanL.cons false false (I.mk none (some 113) (Ef.call 12) [X.t 102, X.t 107, X.t 112]) (Plan.q (I.mk none (some 101) (Ef.pr Pr.mv) [X.t 113]) (Plan.q (I.mk none (some 114) (Ef.pr (Pr.ext 0)) [X.t 101]) (Plan.q (I.mk none (some 115) (Ef.pr (Pr.ext 1)) [X.t 101]) (Plan.br (PlanL.cons false false (I.mk none none (Ef.st 4) [X.t 13, X.t 114]) (Plan.q (I.mk none (some 14) (Ef.pr Pr.mv) [X.t 115]) Plan.done) PlanL.nil))))) PlanL.nil)) PlanL.nil))))))))))))))) 
  (IC.seq 
  (IC.seq (IC.ops [I.mk none (some 116) (Ef.pr Pr.mv) [X.t 14], I.mk none (some 117) (Ef.pr (Pr.cm BinOp.neq)) [X.t 116, X.c (Value.int IntKind.i64 0)]]) 
  (IC.cond (X.t 117) 
  (IC.seq (IC.ops [I.mk none (some 4) (Ef.pr Pr.mv) [X.c (Value.bool false)]]) IC.ret) IC.skip)) (IC.ops [I.mk none (some 118) (Ef.pr Pr.mv) [X.t 7], I.mk none (some 119) (Ef.pr Pr.mv) [X.t 12], I.mk none (some 120) (Ef.pr (Pr.iaS 1)) [X.t 118, X.t 119], I.mk none none (Ef.st 1) [X.t 120, X.c (Value.bool false)]])))))) (IC.ops [I.mk none (some 81) (Ef.pr Pr.mv) [X.t 11], I.mk none (some 82) (Ef.pr (Pr.ar BinOp.add)) [X.t 81, X.c (Value.int IntKind.i64 1)], I.mk none (some 11) (Ef.pr Pr.mv) [X.t 82]])))))) 
  (IC.seq (IC.ops [I.mk none (some 121) (Ef.pr (Pr.bld [Value.int IntKind.i64 0, Value.int IntKind.i64 0] [(0, 1), (1, 1)])) [X.c (Value.int IntKind.i64 (-1)), X.c (Value.int IntKind.i64 (-1))], I.mk none (some 15) (Ef.al [Value.int IntKind.i64 0, Value.int IntKind.i64 0]) [], I.mk none none (Ef.st 2) [X.t 15, X.t 121]]) 
  (IC.seq (IC.ops [I.mk none (some 122) (Ef.pr (Pr.bld [Value.int IntKind.i64 0, Value.int IntKind.i64 0] [(0, 1), (1, 1)])) [X.c (Value.int IntKind.i64 (-1)), X.c (Value.int IntKind.i64 (-1))], I.mk none (some 16) (Ef.al [Value.int IntKind.i64 0, Value.int IntKind.i64 0]) [], I.mk none none (Ef.st 2) [X.t 16, X.t 122]]) 
  (IC.seq 
  (IC.seq (IC.ops [I.mk none (some 17) (Ef.pr Pr.mv) [X.c (Value.int IntKind.i64 0)]]) 
  (IC.block 4 
  (IC.loop 
  (IC.seq 
  (IC.seq (IC.ops [I.mk none (some 123) (Ef.pr Pr.mv) [X.t 17], I.mk none (some 124) (Ef.pr Pr.mv) [X.t 0], I.mk none (some 125) (Ef.pr (Pr.cm BinOp.lss)) [X.t 123, X.t 124]]) 
  (IC.cond (X.t 125) IC.skip (IC.exit 4))) 
  (IC.seq 
  (IC.block 5 
  (IC.seq 
  (IC.seq (IC.ops [I.mk none (some 128) (Ef.pr Pr.mv) [X.t 7], I.mk none (some 129) (Ef.pr Pr.mv) [X.t 17], I.mk none (some 130) (Ef.pr (Pr.iaS 1)) [X.t 128, X.t 129], I.mk none (some 131) (Ef.pr (Pr.ld 1 false)) [X.t 130], I.mk none (some 132) (Ef.pr (Pr.un UnOp.not)) [X.t 131]]) 
  (IC.cond (X.t 132) (IC.exit 5) IC.skip)) 
  (IC.seq (IC.plan (Plan.q (I.mk none (some 134) (Ef.pr Pr.mv) [X.t 5]) (Plan.q (I.mk none (some 135) (Ef.pr Pr.mv) [X.t 6]) (Plan.q (I.mk none (some 136) (Ef.pr Pr.mv) [X.t 17]) (Plan.q (I.mk none (some 137) (Ef.pr (Pr.iaS 2)) [X.t 135, X.t 136]) (Plan.q (I.mk none (some 138) (Ef.pr (Pr.fa 0)) [X.t 137]) (Plan.q (I.mk none (some 139) (Ef.pr (Pr.ld 1 false)) [X.t 138]) (Plan.q (I.mk none (some 140) (Ef.pr Pr.mv) [X.t 6]) (Plan.q (I.mk none (some 141) (Ef.pr Pr.mv) [X.t 17]) (Plan.q (I.mk none (some 142) (Ef.pr (Pr.iaS 2)) [X.t 140, X.t 141]) (Plan.q (I.mk none (some 143) (Ef.pr (Pr.fa 1)) [X.t 142]) (Plan.q (I.mk none (some 144) (Ef.pr (Pr.ld 1 false)) [X.t 143]) (Plan.br (PlanL.cons false true (I.mk none (some 145) (Ef.call 13) [X.t 134, X.t 139, X.t 144]) (Plan.q (I.mk none (some 133) (Ef.pr Pr.mv) [X.t 145]) (Plan.q (I.mk none (some 146) (Ef.pr (Pr.ext 0)) [X.t 133]) (Plan.q (I.mk none (some 147) (Ef.pr (Pr.ext 1)) [X.t 133]) (Plan.br (PlanL.cons true false (I.mk none (some 18) (Ef.al [Value.int IntKind.i64 0, Value.int IntKind.i64 0]) []) (Plan.br (PlanL.cons false false (I.mk none none (Ef.st 2) [X.t 18, X.t 146]) (Plan.q (I.mk none (some 19) (Ef.pr Pr.mv) [X.t 147]) Plan.done) PlanL.nil)) PlanL.nil))))) (PlanL.cons true false (I.mk none (some 18) (Ef.al [Value.int IntKind.i64 0, Value.int IntKind.i64 0]) []) (Plan.br (PlanL.cons false false (I.mk none (some 145) (Ef.call 13) [X.t 134, X.t 139, X.t 144]) (Plan.q (I.mk none (some 133) (Ef.pr Pr.mv) [X.t 145]) (Plan.q (I.mk none (some 146) (Ef.pr (Pr.ext 0)) [X.t 133]) (Plan.q (I.mk none (some 147) (Ef.pr (Pr.ext 1)) [X.t 133]) (Plan.br (PlanL.cons false false (I.mk none none (Ef.st 2) [X.t 18, X.t 146]) (Plan.q (I.mk none (some 19) (Ef.pr Pr.mv) [X.t 147]) Plan.done) PlanL.nil))))) PlanL.nil)) PlanL.nil))))))))))))))) 
  (IC.seq (IC.plan (Plan.q (I.mk none (some 149) (Ef.pr Pr.mv) [X.t 5]) (Plan.q (I.mk none (some 150) (Ef.pr Pr.mv) [X.t 6]) (Plan.q (I.mk none (some 151) (Ef.pr Pr.mv) [X.t 17]) (Plan.q (I.mk none (some 152) (Ef.pr (Pr.iaS 2)) [X.t 150, X.t 151]) (Plan.q (I.mk none (some 153) (Ef.pr (Pr.fa 0)) [X.t 152]) (Plan.q (I.mk none (some 154) (Ef.pr (Pr.ld 1 false)) [X.t 153]) (Plan.q (I.mk none (some 155) (Ef.pr Pr.mv) [X.t 6]) (Plan.q (I.mk none (some 156) (Ef.pr Pr.mv) [X.t 17]) (Plan.q (I.mk none (some 157) (Ef.pr (Pr.iaS 2)) [X.t 155, X.t 156]) (Plan.q (I.mk none (some 158) (Ef.pr (Pr.fa 1)) [X.t 157]) (Plan.q (I.mk none (some 159) (Ef.pr (Pr.ld 1 false)) [X.t 158]) (Plan.br (PlanL.cons true true (I.mk none (some 160) (Ef.bsl [Value.int IntKind.i64 0] 3 2 1 [0, 1]) [X.c (Value.int IntKind.i64 3), X.c (Value.int IntKind.i64 0)]) (Plan.br (PlanL.cons false true (I.mk none (some 161) (Ef.call 14) [X.t 149, X.t 154, X.t 159, X.t 160]) (Plan.q (I.mk none (some 148) (Ef.pr Pr.mv) [X.t 161]) (Plan.q (I.mk none (some 162) (Ef.pr (Pr.ext 0)) [X.t 148]) (Plan.q (I.mk none (some 163) (Ef.pr (Pr.ext 1)) [X.t 148]) (Plan.br (PlanL.cons true false (I.mk none (some 20) (Ef.al [Value.int IntKind.i64 0, Value.int IntKind.i64 0]) []) (Plan.br (PlanL.cons false false (I.mk none none (Ef.st 2) [X.t 20, X.t 162]) (Plan.q (I.mk none (some 21) (Ef.pr Pr.mv) [X.t 163]) Plan.done) PlanL.nil)) PlanL.nil))))) (PlanL.cons true false (I.mk none (some 20) (Ef.al [Value.int IntKind.i64 0, Value.int IntKind.i64 0]) []) (Plan.br (PlanL.cons false false (I.mk none (some 161) (Ef.call 14) [X.t 149, X.t 154, X.t 159, X.t 160]) (Plan.q (I.mk none (some 148) (Ef.pr Pr.mv) [X.t 161]) (Plan.q (I.mk none (some 162) (Ef.pr (Pr.ext 0)) [X.t 148]) (Plan.q (I.mk none (some 163) (Ef.pr (Pr.ext 1)) [X.t 148]) (Plan.br (PlanL.cons false false (I.mk none none (Ef.st 2) [X.t 20, X.t 162]) (Plan.q (I.mk none (some 21) (Ef.pr Pr.mv) [X.t 163]) Plan.done) PlanL.nil))))) PlanL.nil)) PlanL.nil))) (PlanL.cons true true (I.mk none (some 20) (Ef.al [Value.int IntKind.i64 0, Value.int IntKind.i64 0]) []) (Plan.br (PlanL.cons true false (I.mk none (some 160) (Ef.bsl [Value.int IntKind.i64 0] 3 2 1 [0, 1]) [X.c (Value.int IntKind.i64 3), X.c (Value.int IntKind.i64 0)]) (Plan.br (PlanL.cons false false (I.mk none (some 161) (Ef.call 14) [X.t 149, X.t 154, X.t 159, X.t 160]) (Plan.q (I.mk none (some 148) (Ef.pr Pr.mv) [X.t 161]) (Plan.q (I.mk none (some 162) (Ef.pr (Pr.ext 0)) [X.t 148]) (Plan.q (I.mk none (some 163) (Ef.pr (Pr.ext 1)) [X.t 148]) (Plan.br (PlanL.cons false false (I.mk none none (Ef.st 2) [X.t 20, X.t 162]) (Plan.q (I.mk none (some 21) (Ef.pr Pr.mv) [X.t 163]) Plan.done) PlanL.nil))))) PlanL.nil)) PlanL.nil)) PlanL.nil))))))))))))))) 
  (IC.seq 
  (IC.seq (IC.ops [I.mk none (some 164) (Ef.pr (Pr.ld 2 true)) [X.t 18], I.mk none (some 165) (Ef.pr (Pr.ld 2 true)) [X.t 15], I.mk none (some 166) (Ef.pr (Pr.eq true (EqT.ag [(0, EqS.i), (1, EqS.i)]))) [X.t 164, X.t 165], I.mk none (some 167) (Ef.pr Pr.mv) [X.t 166], I.mk (some (167, false)) (some 168) (Ef.pr (Pr.ld 2 true)) [X.t 20], I.mk (some (167, false)) (some 169) (Ef.pr (Pr.ld 2 true)) [X.t 16], I.mk (some (167, false)) (some 170) (Ef.pr (Pr.eq true (EqT.ag [(0, EqS.i), (1, EqS.i)]))) [X.t 168, X.t 169], I.mk none (some 171) (Ef.pr Pr.pick) [X.t 167, X.c (Value.bool true), X.t 170], I.mk none (some 172) (Ef.pr Pr.mv) [X.t 171], I.mk (some (172, false)) (some 173) (Ef.pr Pr.mv) [X.t 19], I.mk (some (172, false)) (some 174) (Ef.pr (Pr.cm BinOp.neq)) [X.t 173, X.c (Value.int IntKind.i64 0)], I.mk none (some 175) (Ef.pr Pr.pick) [X.t 172, X.c (Value.bool true), X.t 174], I.mk none (some 176) (Ef.pr Pr.mv) [X.t 175], I.mk (some (176, false)) (some 177) (Ef.pr Pr.mv) [X.t 21], I.mk (some (176, false)) (some 178) (Ef.pr (Pr.cm BinOp.neq)) [X.t 177, X.c (Value.int IntKind.i64 0)], I.mk none (some 179) (Ef.pr Pr.pick) [X.t 176, X.c (Value.bool true), X.t 178]]) 
  (IC.cond (X.t 179) 
  (IC.seq (IC.ops [I.mk none (some 4) (Ef.pr Pr.mv) [X.c (Value.bool false)]]) IC.ret) IC.skip)) 
  (IC.seq (IC.ops [I.mk none (some 180) (Ef.pr Pr.mv) [X.t 6], I.mk none (some 181) (Ef.pr Pr.mv) [X.t 17], I.mk none (some 182) (Ef.pr (Pr.iaS 2)) [X.t 180, X.t 181], I.mk none (some 183) (Ef.pr (Pr.ld 2 true)) [X.t 182], I.mk none none (Ef.st 2) [X.t 15, X.t 183]]) 
  (IC.seq (IC.ops [I.mk none (some 184) (Ef.pr (Pr.fa 0)) [X.t 15], I.mk none (some 185) (Ef.pr (Pr.ld 1 false)) [X.t 184], I.mk none (some 186) (Ef.pr (Pr.cm BinOp.eql)) [X.t 185, X.c (Value.int IntKind.i64 0)], I.mk none (some 187) (Ef.pr Pr.mv) [X.t 186], I.mk (some (187, false)) (some 188) (Ef.pr (Pr.fa 0)) [X.t 15], I.mk (some (187, false)) (some 189) (Ef.pr (Pr.ld 1 false)) [X.t 188], I.mk (some (187, false)) (some 190) (Ef.pr (Pr.cm BinOp.eql)) [X.t 189, X.c (Value.int IntKind.i64 3)], I.mk none (some 191) (Ef.pr Pr.pick) [X.t 187, X.c (Value.bool true), X.t 190]]) 
  (IC.cond (X.t 191) (IC.ops [I.mk none (some 192) (Ef.pr (Pr.ld 2 true)) [X.t 15], I.mk none none (Ef.st 2) [X.t 16, X.t 192]]) IC.skip)))))))) (IC.ops [I.mk none (some 126) (Ef.pr Pr.mv) [X.t 17], I.mk none (some 127) (Ef.pr (Pr.ar BinOp.add)) [X.t 126, X.c (Value.int IntKind.i64 1)], I.mk none (some 17) (Ef.pr Pr.mv) [X.t 127]])))))) 
  (IC.seq (IC.ops [I.mk none (some 4) (Ef.pr Pr.mv) [X.c (Value.bool true)]]) IC.ret))))))))))))

theorem k3 : Go.Proofs.Tryd.f3.body.bind (comp Go.Proofs.Tryd.prog 193 [13, 15, 16, 18, 20] []) = some c3 := by kernel_rfl

theorem r3 : cRVs Go.Proofs.Tryd.prog Go.Proofs.Tryd.f3.results.toList = some [RV.t 4] := by kernel_rfl

theorem e3 {args : List Value} {h : Hp} {Q : Value → Hp → Prop} (hl : Nat.ble args.length 193 = true) (hk : codeK PR none c3 (retK Q [RV.t 4]) (fun _ _ _ _ => False) (retK Q [RV.t 4]) (argsE 0 args) [] h) : Ok PR 3 args h Q :=
  Ok.of mixed Go.Proofs.Tryd.func3 rfl k3 r3 hl hk

def c4 : IC := IC.seq (IC.ops [I.mk none (some 2) (Ef.pr Pr.mv) [X.c (Value.bool false)]]) 
  (IC.seq (IC.ops [I.mk none (some 6) (Ef.pr (Pr.bld [Value.int IntKind.i64 0, Value.int IntKind.i64 0, Value.int IntKind.i64 0, Value.int IntKind.i64 0] [(0, 1), (1, 1), (2, 1), (3, 1)])) [X.c (Value.int IntKind.i64 1), X.c (Value.int IntKind.i64 5), X.c (Value.int IntKind.i64 7), X.c (Value.int IntKind.i64 15)], I.mk none (some 7) (Ef.call 10) [X.t 6], I.mk none (some 3) (Ef.pr Pr.mv) [X.t 7]]) 
  (IC.seq 
  (IC.seq (IC.ops [I.mk none (some 8) (Ef.pr Pr.mv) [X.t 3], I.mk none (some 9) (Ef.pr (Pr.eq false (EqT.one EqS.p))) [X.t 8, X.c (Value.pointer none)]]) 
  (IC.cond (X.t 9) 
  (IC.seq (IC.ops [I.mk none (some 2) (Ef.pr Pr.mv) [X.c (Value.bool false)]]) IC.ret) IC.skip)) 
  (IC.seq (IC.ops [I.mk none (some 10) (Ef.pr Pr.mv) [X.t 3], I.mk none (some 11) (Ef.call 15) [X.t 10], I.mk none (some 4) (Ef.pr Pr.mv) [X.t 11]]) 
  (IC.seq 
  (IC.seq (IC.ops [I.mk none (some 12) (Ef.pr Pr.mv) [X.t 4], I.mk none (some 13) (Ef.pr Pr.lenS) [X.t 12], I.mk none (some 14) (Ef.pr (Pr.cm BinOp.neq)) [X.t 13, X.c (Value.int IntKind.i64 1)], I.mk none (some 15) (Ef.pr Pr.mv) [X.t 14], I.mk (some (15, false)) (some 16) (Ef.pr Pr.mv) [X.t 3], I.mk (some (15, false)) (some 17) (Ef.pr Pr.mv) [X.t 4], I.mk (some (15, false)) (some 18) (Ef.call 16) [X.t 16, X.t 17], I.mk (some (15, false)) (some 19) (Ef.pr (Pr.un UnOp.not)) [X.t 18], I.mk none (some 20) (Ef.pr Pr.pick) [X.t 15, X.c (Value.bool true), X.t 19]]) 
  (IC.cond (X.t 20) 
  (IC.seq (IC.ops [I.mk none (some 2) (Ef.pr Pr.mv) [X.c (Value.bool false)]]) IC.ret) IC.skip)) 
  (IC.seq 
  (IC.seq (IC.ops [I.mk none (some 5) (Ef.pr Pr.mv) [X.c (Value.int IntKind.i64 0)]]) 
  (IC.block 0 
  (IC.loop 
  (IC.seq 
  (IC.seq (IC.ops [I.mk none (some 21) (Ef.pr Pr.mv) [X.t 5], I.mk none (some 22) (Ef.pr Pr.mv) [X.t 0], I.mk none (some 23) (Ef.pr Pr.lenS) [X.t 22], I.mk none (some 24) (Ef.pr (Pr.cm BinOp.lss)) [X.t 21, X.t 23], I.mk none (some 25) (Ef.pr Pr.mv) [X.t 24], I.mk (some (25, true)) (some 26) (Ef.pr Pr.mv) [X.t 5], I.mk (some (25, true)) (some 27) (Ef.pr (Pr.cm BinOp.lss)) [X.t 26, X.c (Value.int IntKind.i64 1024)], I.mk none (some 28) (Ef.pr Pr.pick) [X.t 25, X.t 27, X.c (Value.bool false)]]) 
  (IC.cond (X.t 28) IC.skip (IC.exit 0))) 
  (IC.seq 
  (IC.block 1 
  (IC.seq (IC.ops [I.mk none (some 31) (Ef.pr Pr.mv) [X.t 3], I.mk none (some 32) (Ef.pr Pr.mv) [X.t 0], I.mk none (some 33) (Ef.pr Pr.mv) [X.t 5], I.mk none (some 34) (Ef.pr (Pr.iaS 12)) [X.t 32, X.t 33], I.mk none (some 35) (Ef.pr (Pr.ld 12 true)) [X.t 34], I.mk none (some 36) (Ef.call 17) [X.t 31, X.t 35]]) 
  (IC.seq (IC.ops [I.mk none (some 37) (Ef.pr Pr.mv) [X.t 3], I.mk none (some 38) (Ef.call 15) [X.t 37], I.mk none (some 4) (Ef.pr Pr.mv) [X.t 38]]) 
  (IC.seq (IC.ops [I.mk none (some 39) (Ef.pr Pr.mv) [X.t 3], I.mk none (some 40) (Ef.pr Pr.mv) [X.t 4], I.mk none (some 41) (Ef.call 16) [X.t 39, X.t 40], I.mk none (some 42) (Ef.pr (Pr.un UnOp.not)) [X.t 41]]) 
  (IC.cond (X.t 42) 
  (IC.seq (IC.ops [I.mk none (some 2) (Ef.pr Pr.mv) [X.c (Value.bool false)]]) IC.ret) IC.skip))))) (IC.ops [I.mk none (some 29) (Ef.pr Pr.mv) [X.t 5], I.mk none (some 30) (Ef.pr (Pr.ar BinOp.add)) [X.t 29, X.c (Value.int IntKind.i64 1)], I.mk none (some 5) (Ef.pr Pr.mv) [X.t 30]])))))) 
  (IC.seq (IC.ops [I.mk none (some 2) (Ef.pr Pr.mv) [X.c (Value.bool true)]]) IC.ret))))))

theorem k4 : Go.Proofs.Tryd.f4.body.bind (comp Go.Proofs.Tryd.prog 43 [] []) = some c4 := by kernel_rfl

theorem r4 : cRVs Go.Proofs.Tryd.prog Go.Proofs.Tryd.f4.results.toList = some [RV.t 2] := by kernel_rfl

theorem e4 {args : List Value} {h : Hp} {Q : Value → Hp → Prop} (hl : Nat.ble args.length 43 = true) (hk : codeK PR none c4 (retK Q [RV.t 2]) (fun _ _ _ _ => False) (retK Q [RV.t 2]) (argsE 0 args) [] h) : Ok PR 4 args h Q :=
  Ok.of mixed Go.Proofs.Tryd.func4 rfl k4 r4 hl hk

def c5 : IC := IC.seq (IC.ops [I.mk none (some 4) (Ef.pr Pr.mv) [X.c (Value.bool false)]]) 
  (IC.seq 
  (IC.seq (IC.ops [I.mk none (some 14) (Ef.pr Pr.mv) [X.t 0], I.mk none (some 15) (Ef.pr (Pr.cm BinOp.lss)) [X.t 14, X.c (Value.int IntKind.i64 0)], I.mk none (some 16) (Ef.pr Pr.mv) [X.t 15], I.mk (some (16, false)) (some 17) (Ef.pr Pr.mv) [X.t 0], I.mk (some (16, false)) (some 18) (Ef.pr (Pr.cm BinOp.gtr)) [X.t 17, X.c (Value.int IntKind.i64 15)], I.mk none (some 19) (Ef.pr Pr.pick) [X.t 16, X.c (Value.bool true), X.t 18]]) 
  (IC.cond (X.t 19) 
  (IC.seq (IC.ops [I.mk none (some 4) (Ef.pr Pr.mv) [X.c (Value.bool true)]]) IC.ret) IC.skip)) 
  (IC.seq (IC.ops [I.mk none (some 20) (Ef.pr Pr.mv) [X.t 0], I.mk none (some 21) (Ef.pr (Pr.bld [Value.int IntKind.i64 0, Value.int IntKind.i64 0, Value.int IntKind.i64 0, Value.int IntKind.i64 0] [(0, 1), (1, 1), (2, 1), (3, 1)])) [X.c (Value.int IntKind.i64 2), X.c (Value.int IntKind.i64 3), X.c (Value.int IntKind.i64 11), X.t 20], I.mk none (some 5) (Ef.al [Value.int IntKind.i64 0, Value.int IntKind.i64 0, Value.int IntKind.i64 0, Value.int IntKind.i64 0]) [], I.mk none none (Ef.st 4) [X.t 5, X.t 21]]) 
  (IC.seq (IC.ops [I.mk none (some 22) (Ef.pr (Pr.ld 4 true)) [X.t 5], I.mk none (some 23) (Ef.call 10) [X.t 22], I.mk none (some 6) (Ef.pr Pr.mv) [X.t 23]]) 
  (IC.seq 
  (IC.seq (IC.ops [I.mk none (some 24) (Ef.pr Pr.mv) [X.t 6], I.mk none (some 25) (Ef.pr (Pr.eq false (EqT.one EqS.p))) [X.t 24, X.c (Value.pointer none)]]) 
  (IC.cond (X.t 25) 
  (IC.seq (IC.ops [I.mk none (some 4) (Ef.pr Pr.mv) [X.c (Value.bool false)]]) IC.ret) IC.skip)) 
  (IC.seq (IC.ops [I.mk none (some 27) (Ef.pr Pr.mv) [X.t 6], I.mk none (some 28) (Ef.pr Pr.mv) [X.t 0], I.mk none (some 29) (Ef.call 11) [X.t 27, X.c (Value.int IntKind.i64 0), X.c (Value.int IntKind.i64 0), X.c (Value.int IntKind.i64 1), X.c (Value.int IntKind.i64 (-1)), X.t 28], I.mk none (some 26) (Ef.pr Pr.mv) [X.t 29], I.mk none (some 30) (Ef.pr (Pr.ext 0)) [X.t 26], I.mk none (some 31) (Ef.pr (Pr.ext 1)) [X.t 26], I.mk none (some 7) (Ef.pr Pr.mv) [X.t 30], I.mk none (some 8) (Ef.pr Pr.mv) [X.t 31]]) 
  (IC.seq 
  (IC.seq (IC.ops [I.mk none (some 32) (Ef.pr Pr.mv) [X.t 0], I.mk none (some 33) (Ef.pr (Pr.bt BinOp.and)) [X.t 32, X.c (Value.int IntKind.i64 4)], I.mk none (some 34) (Ef.pr (Pr.cm BinOp.neq)) [X.t 33, X.c (Value.int IntKind.i64 0)], I.mk none (some 35) (Ef.pr Pr.mv) [X.t 34], I.mk (some (35, true)) (some 36) (Ef.pr Pr.mv) [X.t 7], I.mk (some (35, true)) (some 37) (Ef.pr (Pr.cm BinOp.neq)) [X.t 36, X.c (Value.int IntKind.i64 0)], I.mk (some (35, true)) (some 38) (Ef.pr Pr.mv) [X.t 37], I.mk (some (38, false)) (some 39) (Ef.pr Pr.mv) [X.t 8], I.mk (some (38, false)) (some 40) (Ef.pr (Pr.cm BinOp.neq)) [X.t 39, X.c (Value.int IntKind.i64 0)], I.mk (some (35, true)) (some 41) (Ef.pr Pr.pick) [X.t 38, X.c (Value.bool true), X.t 40], I.mk none (some 42) (Ef.pr Pr.pick) [X.t 35, X.t 41, X.c (Value.bool false)], I.mk none (some 43) (Ef.pr Pr.mv) [X.t 42], I.mk (some (43, false)) (some 44) (Ef.pr Pr.mv) [X.t 0], I.mk (some (43, false)) (some 45) (Ef.pr (Pr.bt BinOp.and)) [X.t 44, X.c (Value.int IntKind.i64 4)], I.mk (some (43, false)) (some 46) (Ef.pr (Pr.cm BinOp.eql)) [X.t 45, X.c (Value.int IntKind.i64 0)], I.mk (some (43, false)) (some 47) (Ef.pr Pr.mv) [X.t 46], I.mk (some (47, true)) (some 48) (Ef.pr Pr.mv) [X.t 7], I.mk (some (47, true)) (some 49) (Ef.pr (Pr.cm BinOp.neq)) [X.t 48, X.c (Value.int IntKind.i64 (-1))], I.mk (some (47, true)) (some 50) (Ef.pr Pr.mv) [X.t 49], I.mk (some (50, false)) (some 51) (Ef.pr Pr.mv) [X.t 8], I.mk (some (50, false)) (some 52) (Ef.pr (Pr.cm BinOp.neq)) [X.t 51, X.c (Value.int IntKind.i64 81)], I.mk (some (47, true)) (some 53) (Ef.pr Pr.pick) [X.t 50, X.c (Value.bool true), X.t 52], I.mk (some (43, false)) (some 54) (Ef.pr Pr.pick) [X.t 47, X.t 53, X.c (Value.bool false)], I.mk none (some 55) (Ef.pr Pr.pick) [X.t 43, X.c (Value.bool true), X.t 54]]) 
  (IC.cond (X.t 55) 
  (IC.seq (IC.ops [I.mk none (some 4) (Ef.pr Pr.mv) [X.c (Value.bool false)]]) IC.ret) IC.skip)) 
  (IC.seq 
  (IC.seq (IC.ops [I.mk none (some 9) (Ef.pr Pr.mv) [X.c (Value.int IntKind.i64 0)]]) 
  (IC.block 0 
  (IC.loop 
  (IC.seq 
  (IC.seq (IC.ops [I.mk none (some 56) (Ef.pr Pr.mv) [X.t 9], I.mk none (some 57) (Ef.pr Pr.mv) [X.t 1], I.mk none (some 58) (Ef.pr Pr.lenS) [X.t 57], I.mk none (some 59) (Ef.pr (Pr.cm BinOp.lss)) [X.t 56, X.t 58], I.mk none (some 60) (Ef.pr Pr.mv) [X.t 59], I.mk (some (60, true)) (some 61) (Ef.pr Pr.mv) [X.t 9], I.mk (some (60, true)) (some 62) (Ef.pr (Pr.cm BinOp.lss)) [X.t 61, X.c (Value.int IntKind.i64 1024)], I.mk none (some 63) (Ef.pr Pr.pick) [X.t 60, X.t 62, X.c (Value.bool false)]]) 
  (IC.cond (X.t 63) IC.skip (IC.exit 0))) 
  (IC.seq 
  (IC.block 1 
  (IC.seq (IC.ops [I.mk none (some 66) (Ef.pr Pr.mv) [X.t 1], I.mk none (some 67) (Ef.pr Pr.mv) [X.t 9], I.mk none (some 68) (Ef.pr (Pr.iaS 12)) [X.t 66, X.t 67], I.mk none (some 69) (Ef.pr (Pr.ld 12 true)) [X.t 68], I.mk none (some 10) (Ef.al [Value.bool false, Value.int IntKind.i64 0, Value.int IntKind.i64 0, Value.int IntKind.i64 0, Value.int IntKind.i64 0, Value.int IntKind.i64 0, Value.int IntKind.i64 0, Value.int IntKind.i64 0, Value.int IntKind.i64 0, Value.int IntKind.i64 0, Value.int IntKind.i64 0, Value.slice none 0 0]) [], I.mk none none (Ef.st 12) [X.t 10, X.t 69]]) 
  (IC.seq 
  (IC.seq (IC.ops [I.mk none (some 70) (Ef.pr (Pr.fa 1)) [X.t 10], I.mk none (some 71) (Ef.pr (Pr.ld 1 false)) [X.t 70], I.mk none (some 72) (Ef.pr (Pr.cm BinOp.eql)) [X.t 71, X.c (Value.int IntKind.i64 3)]]) 
  (IC.cond (X.t 72) (IC.ops [I.mk none (some 73) (Ef.pr (Pr.fa 1)) [X.t 10], I.mk none none (Ef.st 1) [X.t 73, X.c (Value.int IntKind.i64 4)]]) IC.skip)) 
  (IC.seq (IC.ops [I.mk none (some 74) (Ef.pr Pr.mv) [X.t 6], I.mk none (some 75) (Ef.pr (Pr.ld 12 true)) [X.t 10], I.mk none (some 76) (Ef.call 17) [X.t 74, X.t 75]]) 
  (IC.seq (IC.ops [I.mk none (some 77) (Ef.pr Pr.mv) [X.t 6], I.mk none (some 78) (Ef.call 15) [X.t 77], I.mk none (some 11) (Ef.pr Pr.mv) [X.t 78]]) 
  (IC.seq 
  (IC.seq (IC.ops [I.mk none (some 79) (Ef.pr Pr.mv) [X.t 0], I.mk none (some 80) (Ef.pr (Pr.bt BinOp.and)) [X.t 79, X.c (Value.int IntKind.i64 4)], I.mk none (some 81) (Ef.pr (Pr.cm BinOp.eql)) [X.t 80, X.c (Value.int IntKind.i64 0)], I.mk none (some 82) (Ef.pr Pr.mv) [X.t 81], I.mk (some (82, true)) (some 83) (Ef.pr Pr.mv) [X.t 11], I.mk (some (82, true)) (some 84) (Ef.pr Pr.lenS) [X.t 83], I.mk (some (82, true)) (some 85) (Ef.pr (Pr.cm BinOp.gtr)) [X.t 84, X.c (Value.int IntKind.i64 1)], I.mk none (some 86) (Ef.pr Pr.pick) [X.t 82, X.t 85, X.c (Value.bool false)]]) 
  (IC.cond (X.t 86) 
  (IC.seq (IC.ops [I.mk none (some 4) (Ef.pr Pr.mv) [X.c (Value.bool false)]]) IC.ret) IC.skip)) 
  (IC.seq (IC.ops [I.mk none (some 12) (Ef.pr Pr.mv) [X.c (Value.int IntKind.i64 0)]]) 
  (IC.block 2 
  (IC.loop 
  (IC.seq 
  (IC.seq (IC.ops [I.mk none (some 87) (Ef.pr Pr.mv) [X.t 12], I.mk none (some 88) (Ef.pr Pr.mv) [X.t 11], I.mk none (some 89) (Ef.pr Pr.lenS) [X.t 88], I.mk none (some 90) (Ef.pr (Pr.cm BinOp.lss)) [X.t 87, X.t 89]]) 
  (IC.cond (X.t 90) IC.skip (IC.exit 2))) 
  (IC.seq 
  (IC.block 3 
  (IC.seq (IC.ops [I.mk none (some 93) (Ef.pr Pr.mv) [X.t 11], I.mk none (some 94) (Ef.pr Pr.mv) [X.t 12], I.mk none (some 95) (Ef.pr (Pr.iaS 6)) [X.t 93, X.t 94], I.mk none (some 96) (Ef.pr (Pr.fa 2)) [X.t 95], I.mk none (some 97) (Ef.pr (Pr.ld 4 true)) [X.t 96], I.mk none (some 13) (Ef.al [Value.int IntKind.i64 0, Value.int IntKind.i64 0, Value.int IntKind.i64 0, Value.int IntKind.i64 0]) [], I.mk none none (Ef.st 4) [X.t 13, X.t 97]]) 
  (IC.seq (IC.ops [I.mk none (some 98) (Ef.pr (Pr.fa 0)) [X.t 13], I.mk none (some 99) (Ef.pr (Pr.ld 1 false)) [X.t 98], I.mk none (some 100) (Ef.pr (Pr.cm BinOp.neq)) [X.t 99, X.c (Value.int IntKind.i64 2)], I.mk none (some 101) (Ef.pr Pr.mv) [X.t 100], I.mk (some (101, false)) (some 102) (Ef.pr (Pr.fa 1)) [X.t 13], I.mk (some (101, false)) (some 103) (Ef.pr (Pr.ld 1 false)) [X.t 102], I.mk (some (101, false)) (some 104) (Ef.pr (Pr.cm BinOp.neq)) [X.t 103, X.c (Value.int IntKind.i64 3)], I.mk none (some 105) (Ef.pr Pr.pick) [X.t 101, X.c (Value.bool true), X.t 104], I.mk none (some 106) (Ef.pr Pr.mv) [X.t 105], I.mk (some (106, false)) (some 107) (Ef.pr (Pr.fa 2)) [X.t 13], I.mk (some (106, false)) (some 108) (Ef.pr (Pr.ld 1 false)) [X.t 107], I.mk (some (106, false)) (some 109) (Ef.pr (Pr.cm BinOp.neq)) [X.t 108, X.c (Value.int IntKind.i64 11)], I.mk none (some 110) (Ef.pr Pr.pick) [X.t 106, X.c (Value.bool true), X.t 109], I.mk none (some 111) (Ef.pr Pr.mv) [X.t 110], I.mk (some (111, false)) (some 112) (Ef.pr (Pr.fa 3)) [X.t 13], I.mk (some (111, false)) (some 113) (Ef.pr (Pr.ld 1 false)) [X.t 112], I.mk (some (111, false)) (some 114) (Ef.pr Pr.mv) [X.t 0], I.mk (some (111, false)) (some 115) (Ef.pr (Pr.bt BinOp.and)) [X.t 113, X.t 114], I.mk (some (111, false)) (some 116) (Ef.pr (Pr.fa 3)) [X.t 13], I.mk (some (111, false)) (some 117) (Ef.pr (Pr.ld 1 false)) [X.t 116], I.mk (some (111, false)) (some 118) (Ef.pr (Pr.cm BinOp.neq)) [X.t 115, X.t 117], I.mk none (some 119) (Ef.pr Pr.pick) [X.t 111, X.c (Value.bool true), X.t 118]]) 
  (IC.cond (X.t 119) 
  (IC.seq (IC.ops [I.mk none (some 4) (Ef.pr Pr.mv) [X.c (Value.bool false)]]) IC.ret) IC.skip)))) (IC.ops [I.mk none (some 91) (Ef.pr Pr.mv) [X.t 12], I.mk none (some 92) (Ef.pr (Pr.ar BinOp.add)) [X.t 91, X.c (Value.int IntKind.i64 1)], I.mk none (some 12) (Ef.pr Pr.mv) [X.t 92]])))))))))))) (IC.ops [I.mk none (some 64) (Ef.pr Pr.mv) [X.t 9], I.mk none (some 65) (Ef.pr (Pr.ar BinOp.add)) [X.t 64, X.c (Value.int IntKind.i64 1)], I.mk none (some 9) (Ef.pr Pr.mv) [X.t 65]])))))) 
  (IC.seq (IC.ops [I.mk none (some 4) (Ef.pr Pr.mv) [X.c (Value.bool true)]]) IC.ret))))))))

theorem k5 : Go.Proofs.Tryd.f5.body.bind (comp Go.Proofs.Tryd.prog 120 [5, 10, 13] []) = some c5 := by kernel_rfl

theorem r5 : cRVs Go.Proofs.Tryd.prog Go.Proofs.Tryd.f5.results.toList = some [RV.t 4] := by kernel_rfl

theorem e5 {args : List Value} {h : Hp} {Q : Value → Hp → Prop} (hl : Nat.ble args.length 120 = true) (hk : codeK PR none c5 (retK Q [RV.t 4]) (fun _ _ _ _ => False) (retK Q [RV.t 4]) (argsE 0 args) [] h) : Ok PR 5 args h Q :=
  Ok.of mixed Go.Proofs.Tryd.func5 rfl k5 r5 hl hk

def c6 : IC := IC.seq (IC.ops [I.mk none (some 4) (Ef.pr Pr.mv) [X.c (Value.bool false)]]) 
  (IC.seq (IC.ops [I.mk none (some 23) (Ef.pr (Pr.bld [Value.int IntKind.i64 0, Value.int IntKind.i64 0, Value.int IntKind.i64 0, Value.int IntKind.i64 0] [(0, 1), (1, 1), (2, 1), (3, 1)])) [X.c (Value.int IntKind.i64 1), X.c (Value.int IntKind.i64 5), X.c (Value.int IntKind.i64 7), X.c (Value.int IntKind.i64 15)], I.mk none (some 24) (Ef.call 10) [X.t 23], I.mk none (some 5) (Ef.pr Pr.mv) [X.t 24]]) 
  (IC.seq 
  (IC.seq (IC.ops [I.mk none (some 25) (Ef.pr Pr.mv) [X.t 5], I.mk none (some 26) (Ef.pr (Pr.eq false (EqT.one EqS.p))) [X.t 25, X.c (Value.pointer none)]]) 
  (IC.cond (X.t 26) 
  (IC.seq (IC.ops [I.mk none (some 4) (Ef.pr Pr.mv) [X.c (Value.bool false)]]) IC.ret) IC.skip)) 
  (IC.seq 
  (IC.seq (IC.ops [I.mk none (some 6) (Ef.pr Pr.mv) [X.c (Value.int IntKind.i64 0)]]) 
  (IC.block 0 
  (IC.loop 
  (IC.seq 
  (IC.seq (IC.ops [I.mk none (some 27) (Ef.pr Pr.mv) [X.t 6], I.mk none (some 28) (Ef.pr Pr.mv) [X.t 0], I.mk none (some 29) (Ef.pr Pr.lenS) [X.t 28], I.mk none (some 30) (Ef.pr (Pr.cm BinOp.lss)) [X.t 27, X.t 29], I.mk none (some 31) (Ef.pr Pr.mv) [X.t 30], I.mk (some (31, true)) (some 32) (Ef.pr Pr.mv) [X.t 6], I.mk (some (31, true)) (some 33) (Ef.pr (Pr.cm BinOp.lss)) [X.t 32, X.c (Value.int IntKind.i64 1024)], I.mk none (some 34) (Ef.pr Pr.pick) [X.t 31, X.t 33, X.c (Value.bool false)]]) 
  (IC.cond (X.t 34) IC.skip (IC.exit 0))) 
  (IC.seq 
  (IC.block 1 
  (IC.seq (IC.ops [I.mk none (some 37) (Ef.pr Pr.mv) [X.t 0], I.mk none (some 38) (Ef.pr Pr.mv) [X.t 6], I.mk none (some 39) (Ef.pr (Pr.iaS 12)) [X.t 37, X.t 38], I.mk none (some 40) (Ef.pr (Pr.fa 1)) [X.t 39], I.mk none (some 41) (Ef.pr (Pr.ld 1 false)) [X.t 40], I.mk none (some 42) (Ef.pr (Pr.cm BinOp.eql)) [X.t 41, X.c (Value.int IntKind.i64 4)], I.mk none (some 43) (Ef.pr Pr.mv) [X.t 42], I.mk (some (43, false)) (some 44) (Ef.pr Pr.mv) [X.t 0], I.mk (some (43, false)) (some 45) (Ef.pr Pr.mv) [X.t 6], I.mk (some (43, false)) (some 46) (Ef.pr (Pr.iaS 12)) [X.t 44, X.t 45], I.mk (some (43, false)) (some 47) (Ef.pr (Pr.fa 1)) [X.t 46], I.mk (some (43, false)) (some 48) (Ef.pr (Pr.ld 1 false)) [X.t 47], I.mk (some (43, false)) (some 49) (Ef.pr (Pr.cm BinOp.eql)) [X.t 48, X.c (Value.int IntKind.i64 3)], I.mk none (some 50) (Ef.pr Pr.pick) [X.t 43, X.c (Value.bool true), X.t 49]]) 
  (IC.cond (X.t 50) (IC.ops [I.mk none (some 51) (Ef.pr Pr.mv) [X.t 5], I.mk none (some 52) (Ef.pr Pr.mv) [X.t 0], I.mk none (some 53) (Ef.pr Pr.mv) [X.t 6], I.mk none (some 54) (Ef.pr (Pr.iaS 12)) [X.t 52, X.t 53], I.mk none (some 55) (Ef.pr (Pr.ld 12 true)) [X.t 54], I.mk none (some 56) (Ef.call 17) [X.t 51, X.t 55]]) IC.skip))) (IC.ops [I.mk none (some 35) (Ef.pr Pr.mv) [X.t 6], I.mk none (some 36) (Ef.pr (Pr.ar BinOp.add)) [X.t 35, X.c (Value.int IntKind.i64 1)], I.mk none (some 6) (Ef.pr Pr.mv) [X.t 36]])))))) 
  (IC.seq (IC.ops [I.mk none (some 57) (Ef.pr (Pr.bld [Value.int IntKind.i64 0, Value.int IntKind.i64 0] [(0, 1), (1, 1)])) [X.c (Value.int IntKind.i64 1), X.c (Value.int IntKind.i64 40)], I.mk none (some 7) (Ef.al [Value.int IntKind.i64 0, Value.int IntKind.i64 0]) [], I.mk none none (Ef.st 2) [X.t 7, X.t 57]]) 
  (IC.seq (IC.ops [I.mk none (some 59) (Ef.pr Pr.mv) [X.t 5], I.mk none (some 60) (Ef.call 11) [X.t 59, X.c (Value.int IntKind.i64 0), X.c (Value.int IntKind.i64 0), X.c (Value.int IntKind.i64 1), X.c (Value.int IntKind.i64 40), X.c (Value.int IntKind.i64 15)], I.mk none (some 58) (Ef.pr Pr.mv) [X.t 60], I.mk none (some 61) (Ef.pr (Pr.ext 0)) [X.t 58], I.mk none (some 62) (Ef.pr (Pr.ext 1)) [X.t 58], I.mk none (some 8) (Ef.pr Pr.mv) [X.t 61], I.mk none (some 9) (Ef.pr Pr.mv) [X.t 62]]) 
  (IC.seq 
  (IC.seq (IC.ops [I.mk none (some 63) (Ef.pr Pr.mv) [X.t 9], I.mk none (some 64) (Ef.pr (Pr.cm BinOp.eql)) [X.t 63, X.c (Value.int IntKind.i64 31)]]) 
  (IC.cond (X.t 64) 
  (IC.seq (IC.ops [I.mk none (some 4) (Ef.pr Pr.mv) [X.c (Value.bool true)]]) IC.ret) IC.skip)) 
  (IC.seq 
  (IC.seq (IC.ops [I.mk none (some 65) (Ef.pr Pr.mv) [X.t 8], I.mk none (some 66) (Ef.pr (Pr.cm BinOp.neq)) [X.t 65, X.c (Value.int IntKind.i64 40)], I.mk none (some 67) (Ef.pr Pr.mv) [X.t 66], I.mk (some (67, false)) (some 68) (Ef.pr Pr.mv) [X.t 9], I.mk (some (67, false)) (some 69) (Ef.pr (Pr.cm BinOp.neq)) [X.t 68, X.c (Value.int IntKind.i64 0)], I.mk none (some 70) (Ef.pr Pr.pick) [X.t 67, X.c (Value.bool true), X.t 69]]) 
  (IC.cond (X.t 70) 
  (IC.seq (IC.ops [I.mk none (some 4) (Ef.pr Pr.mv) [X.c (Value.bool false)]]) IC.ret) IC.skip)) 
  (IC.seq (IC.ops [I.mk none (some 72) (Ef.pr Pr.mv) [X.t 5], I.mk none (some 73) (Ef.call 11) [X.t 72, X.c (Value.int IntKind.i64 1), X.c (Value.int IntKind.i64 40), X.c (Value.int IntKind.i64 2), X.c (Value.int IntKind.i64 (-1)), X.c (Value.int IntKind.i64 7)], I.mk none (some 71) (Ef.pr Pr.mv) [X.t 73], I.mk none (some 74) (Ef.pr (Pr.ext 0)) [X.t 71], I.mk none (some 75) (Ef.pr (Pr.ext 1)) [X.t 71], I.mk none (some 10) (Ef.pr Pr.mv) [X.t 74], I.mk none (some 9) (Ef.pr Pr.mv) [X.t 75]]) 
  (IC.seq 
  (IC.seq (IC.ops [I.mk none (some 76) (Ef.pr Pr.mv) [X.t 9], I.mk none (some 77) (Ef.pr (Pr.cm BinOp.eql)) [X.t 76, X.c (Value.int IntKind.i64 2)]]) 
  (IC.cond (X.t 77) 
  (IC.seq (IC.ops [I.mk none (some 4) (Ef.pr Pr.mv) [X.c (Value.bool true)]]) IC.ret) IC.skip)) 
  (IC.seq 
  (IC.seq (IC.ops [I.mk none (some 78) (Ef.pr Pr.mv) [X.t 9], I.mk none (some 79) (Ef.pr (Pr.cm BinOp.neq)) [X.t 78, X.c (Value.int IntKind.i64 0)]]) 
  (IC.cond (X.t 79) 
  (IC.seq (IC.ops [I.mk none (some 4) (Ef.pr Pr.mv) [X.c (Value.bool false)]]) IC.ret) IC.skip)) 
  (IC.seq (IC.ops [I.mk none (some 80) (Ef.pr (Pr.bld [Value.slice none 0 0] [])) [], I.mk none (some 81) (Ef.bxh 53) [X.t 80], I.mk none (some 11) (Ef.pr Pr.mv) [X.t 81]]) 
  (IC.seq (IC.ops [I.mk none (some 82) (Ef.pr Pr.mv) [X.t 11], I.mk none (some 83) (Ef.pr Pr.mv) [X.t 11], I.mk none (some 84) (Ef.pr Pr.nilc) [X.t 83], I.mk none (some 85) (Ef.pr (Pr.fa 0)) [X.t 84], I.mk none (some 86) (Ef.pr (Pr.ld 1 false)) [X.t 85], I.mk none (some 87) (Ef.pr Pr.mv) [X.t 10], I.mk none (some 88) (Ef.pr (Pr.bld [Value.int IntKind.i64 0, Value.int IntKind.i64 0] [(0, 1), (1, 1)])) [X.c (Value.int IntKind.i64 2), X.t 87], I.mk none (some 89) (Ef.bsl [Value.int IntKind.i64 0, Value.int IntKind.i64 0] 28 1 2 [0]) [X.t 88], I.mk none (some 90) (Ef.app [Value.int IntKind.i64 0, Value.int IntKind.i64 0] 28 16) [X.t 86, X.t 89], I.mk none (some 91) (Ef.pr Pr.nilc) [X.t 82], I.mk none (some 92) (Ef.pr (Pr.fa 0)) [X.t 91], I.mk none none (Ef.st 1) [X.t 92, X.t 90]]) 
  (IC.seq 
  (IC.seq (IC.ops [I.mk none (some 12) (Ef.pr Pr.mv) [X.c (Value.int IntKind.i64 0)]]) 
  (IC.block 2 
  (IC.loop 
  (IC.seq 
  (IC.seq (IC.ops [I.mk none (some 93) (Ef.pr Pr.mv) [X.t 12], I.mk none (some 94) (Ef.pr Pr.mv) [X.t 1], I.mk none (some 95) (Ef.pr Pr.lenS) [X.t 94], I.mk none (some 96) (Ef.pr (Pr.cm BinOp.lss)) [X.t 93, X.t 95], I.mk none (some 97) (Ef.pr Pr.mv) [X.t 96], I.mk (some (97, true)) (some 98) (Ef.pr Pr.mv) [X.t 12], I.mk (some (97, true)) (some 99) (Ef.pr (Pr.cm BinOp.lss)) [X.t 98, X.c (Value.int IntKind.i64 1024)], I.mk none (some 100) (Ef.pr Pr.pick) [X.t 97, X.t 99, X.c (Value.bool false)]]) 
  (IC.cond (X.t 100) IC.skip (IC.exit 2))) 
  (IC.seq 
  (IC.block 3 
  (IC.seq (IC.ops [I.mk none (some 103) (Ef.pr Pr.mv) [X.t 1], I.mk none (some 104) (Ef.pr Pr.mv) [X.t 12], I.mk none (some 105) (Ef.pr (Pr.iaS 12)) [X.t 103, X.t 104], I.mk none (some 106) (Ef.pr (Pr.ld 12 true)) [X.t 105], I.mk none (some 13) (Ef.al [Value.bool false, Value.int IntKind.i64 0, Value.int IntKind.i64 0, Value.int IntKind.i64 0, Value.int IntKind.i64 0, Value.int IntKind.i64 0, Value.int IntKind.i64 0, Value.int IntKind.i64 0, Value.int IntKind.i64 0, Value.int IntKind.i64 0, Value.int IntKind.i64 0, Value.slice none 0 0]) [], I.mk none none (Ef.st 12) [X.t 13, X.t 106]]) 
  (IC.seq 
  (IC.seq (IC.ops [I.mk none (some 107) (Ef.pr (Pr.fa 1)) [X.t 13], I.mk none (some 108) (Ef.pr (Pr.ld 1 false)) [X.t 107], I.mk none (some 109) (Ef.pr (Pr.cm BinOp.eql)) [X.t 108, X.c (Value.int IntKind.i64 7)], I.mk none (some 110) (Ef.pr Pr.mv) [X.t 109], I.mk (some (110, false)) (some 111) (Ef.pr (Pr.fa 1)) [X.t 13], I.mk (some (110, false)) (some 112) (Ef.pr (Pr.ld 1 false)) [X.t 111], I.mk (some (110, false)) (some 113) (Ef.pr (Pr.cm BinOp.eql)) [X.t 112, X.c (Value.int IntKind.i64 5)], I.mk (some (110, false)) (some 114) (Ef.pr Pr.mv) [X.t 113], I.mk (some (114, true)) (some 115) (Ef.pr (Pr.fa 2)) [X.t 13], I.mk (some (114, true)) (some 116) (Ef.pr (Pr.ld 1 false)) [X.t 115], I.mk (some (114, true)) (some 117) (Ef.pr (Pr.cm BinOp.eql)) [X.t 116, X.c (Value.int IntKind.i64 1)], I.mk (some (110, false)) (some 118) (Ef.pr Pr.pick) [X.t 114, X.t 117, X.c (Value.bool false)], I.mk (some (110, false)) (some 119) (Ef.pr Pr.mv) [X.t 118], I.mk (some (119, true)) (some 120) (Ef.pr (Pr.fa 3)) [X.t 13], I.mk (some (119, true)) (some 121) (Ef.pr (Pr.ld 1 false)) [X.t 120], I.mk (some (119, true)) (some 122) (Ef.pr (Pr.cm BinOp.eql)) [X.t 121, X.c (Value.int IntKind.i64 40)], I.mk (some (110, false)) (some 123) (Ef.pr Pr.pick) [X.t 119, X.t 122, X.c (Value.bool false)], I.mk none (some 124) (Ef.pr Pr.pick) [X.t 110, X.c (Value.bool true), X.t 123], I.mk none (some 125) (Ef.pr Pr.mv) [X.t 124], I.mk (some (125, false)) (some 126) (Ef.pr (Pr.fa 1)) [X.t 13], I.mk (some (125, false)) (some 127) (Ef.pr (Pr.ld 1 false)) [X.t 126], I.mk (some (125, false)) (some 128) (Ef.pr (Pr.cm BinOp.eql)) [X.t 127, X.c (Value.int IntKind.i64 2)], I.mk (some (125, false)) (some 129) (Ef.pr Pr.mv) [X.t 128], I.mk (some (129, true)) (some 130) (Ef.pr (Pr.fa 2)) [X.t 13], I.mk (some (129, true)) (some 131) (Ef.pr (Pr.ld 1 false)) [X.t 130], I.mk (some (129, true)) (some 132) (Ef.pr (Pr.cm BinOp.eql)) [X.t 131, X.c (Value.int IntKind.i64 1)], I.mk (some (125, false)) (some 133) (Ef.pr Pr.pick) [X.t 129, X.t 132, X.c (Value.bool false)], I.mk none (some 134) (Ef.pr Pr.pick) [X.t 125, X.c (Value.bool true), X.t 133]]) 
  (IC.cond (X.t 134) (IC.exit 3) IC.skip)) 
  (IC.seq (IC.ops [I.mk none (some 135) (Ef.pr Pr.mv) [X.t 11], I.mk none (some 136) (Ef.pr Pr.mv) [X.t 5], I.mk none (some 137) (Ef.pr (Pr.ld 12 true)) [X.t 13], I.mk none (some 138) (Ef.pr (Pr.ld 2 true)) [X.t 7], I.mk none (some 139) (Ef.call 18) [X.t 135, X.t 136, X.t 137, X.t 138]]) 
  (IC.seq (IC.ops [I.mk none (some 141) (Ef.pr Pr.mv) [X.t 5], I.mk none (some 142) (Ef.call 19) [X.t 141, X.c (Value.int IntKind.i64 1), X.c (Value.int IntKind.i64 40)], I.mk none (some 140) (Ef.pr Pr.mv) [X.t 142], I.mk none (some 143) (Ef.pr (Pr.ext 0)) [X.t 140], I.mk none (some 144) (Ef.pr (Pr.ext 1)) [X.t 140], I.mk none (some 14) (Ef.al [Value.int IntKind.i64 0, Value.int IntKind.i64 0, Value.int IntKind.i64 0, Value.int IntKind.i64 0]) [], I.mk none none (Ef.st 4) [X.t 14, X.t 143], I.mk none (some 15) (Ef.pr Pr.mv) [X.t 144]]) 
  (IC.seq (IC.ops [I.mk none (some 145) (Ef.pr Pr.mv) [X.t 15], I.mk none (some 146) (Ef.pr (Pr.cm BinOp.eql)) [X.t 145, X.c (Value.int IntKind.i64 80)]]) 
  (IC.cond (X.t 146) 
  (IC.seq (IC.ops [I.mk none (some 4) (Ef.pr Pr.mv) [X.c (Value.bool true)]]) IC.ret) IC.skip))))))) (IC.ops [I.mk none (some 101) (Ef.pr Pr.mv) [X.t 12], I.mk none (some 102) (Ef.pr (Pr.ar BinOp.add)) [X.t 101, X.c (Value.int IntKind.i64 1)], I.mk none (some 12) (Ef.pr Pr.mv) [X.t 102]])))))) 
  (IC.seq (IC.ops [I.mk none (some 147) (Ef.pr Pr.mv) [X.t 5], I.mk none (some 148) (Ef.call 15) [X.t 147], I.mk none (some 16) (Ef.pr Pr.mv) [X.t 148]]) 
  (IC.seq (IC.ops [I.mk none (some 150) (Ef.pr Pr.mv) [X.t 5], I.mk none (some 151) (Ef.call 20) [X.t 150, X.c (Value.int IntKind.i64 1), X.c (Value.int IntKind.i64 40)], I.mk none (some 149) (Ef.pr Pr.mv) [X.t 151], I.mk none (some 152) (Ef.pr (Pr.ext 0)) [X.t 149], I.mk none (some 153) (Ef.pr (Pr.ext 1)) [X.t 149], I.mk none (some 17) (Ef.pr Pr.mv) [X.t 152], I.mk none (some 9) (Ef.pr Pr.mv) [X.t 153]]) 
  (IC.seq 
  (IC.seq (IC.ops [I.mk none (some 154) (Ef.pr Pr.mv) [X.t 9], I.mk none (some 155) (Ef.pr (Pr.cm BinOp.neq)) [X.t 154, X.c (Value.int IntKind.i64 0)], I.mk none (some 156) (Ef.pr Pr.mv) [X.t 155], I.mk (some (156, false)) (some 157) (Ef.pr Pr.mv) [X.t 17], I.mk (some (156, false)) (some 158) (Ef.pr Pr.lenS) [X.t 157], I.mk (some (156, false)) (some 159) (Ef.pr Pr.mv) [X.t 11], I.mk (some (156, false)) (some 160) (Ef.pr Pr.nilc) [X.t 159], I.mk (some (156, false)) (some 161) (Ef.pr (Pr.fa 0)) [X.t 160], I.mk (some (156, false)) (some 162) (Ef.pr (Pr.ld 1 false)) [X.t 161], I.mk (some (156, false)) (some 163) (Ef.pr Pr.lenS) [X.t 162], I.mk (some (156, false)) (some 164) (Ef.pr (Pr.cm BinOp.neq)) [X.t 158, X.t 163], I.mk none (some 165) (Ef.pr Pr.pick) [X.t 156, X.c (Value.bool true), X.t 164]]) 
  (IC.cond (X.t 165) 
  (IC.seq (IC.ops [I.mk none (some 4) (Ef.pr Pr.mv) [X.c (Value.bool false)]]) IC.ret) IC.skip)) 
  (IC.seq 
  (IC.seq (IC.ops [I.mk none (some 18) (Ef.pr Pr.mv) [X.c (Value.int IntKind.i64 0)]]) 
  (IC.block 4 
  (IC.loop 
  (IC.seq 
  (IC.seq (IC.ops [I.mk none (some 166) (Ef.pr Pr.mv) [X.t 18], I.mk none (some 167) (Ef.pr Pr.mv) [X.t 17], I.mk none (some 168) (Ef.pr Pr.lenS) [X.t 167], I.mk none (some 169) (Ef.pr (Pr.cm BinOp.lss)) [X.t 166, X.t 168]]) 
  (IC.cond (X.t 169) IC.skip (IC.exit 4))) 
  (IC.seq 
  (IC.block 5 
  (IC.seq (IC.plan (Plan.q (I.mk none (some 172) (Ef.pr Pr.mv) [X.t 11]) (Plan.q (I.mk none (some 173) (Ef.pr Pr.mv) [X.t 17]) (Plan.q (I.mk none (some 174) (Ef.pr Pr.mv) [X.t 18]) (Plan.q (I.mk none (some 175) (Ef.pr (Pr.iaS 6)) [X.t 173, X.t 174]) (Plan.q (I.mk none (some 176) (Ef.pr (Pr.fa 0)) [X.t 175]) (Plan.q (I.mk none (some 177) (Ef.pr (Pr.ld 1 false)) [X.t 176]) (Plan.q (I.mk none (some 178) (Ef.pr Pr.mv) [X.t 17]) (Plan.q (I.mk none (some 179) (Ef.pr Pr.mv) [X.t 18]) (Plan.q (I.mk none (some 180) (Ef.pr (Pr.iaS 6)) [X.t 178, X.t 179]) (Plan.q (I.mk none (some 181) (Ef.pr (Pr.fa 1)) [X.t 180]) (Plan.q (I.mk none (some 182) (Ef.pr (Pr.ld 1 false)) [X.t 181]) (Plan.q (I.mk none (some 183) (Ef.pr (Pr.bld [Value.int IntKind.i64 0, Value.int IntKind.i64 0] [(0, 1), (1, 1)])) [X.t 177, X.t 182]) (Plan.br (PlanL.cons false false (I.mk none (some 184) (Ef.call 21) [X.t 172, X.t 183]) (Plan.q (I.mk none (some 185) (Ef.pr (Pr.cm BinOp.lss)) [X.t 184, X.c (Value.int IntKind.i64 0)]) Plan.done) PlanL.nil))))))))))))))) 
  (IC.cond (X.t 185) 
  (IC.seq (IC.ops [I.mk none (some 4) (Ef.pr Pr.mv) [X.c (Value.bool false)]]) IC.ret) IC.skip))) (IC.ops [I.mk none (some 170) (Ef.pr Pr.mv) [X.t 18], I.mk none (some 171) (Ef.pr (Pr.ar BinOp.add)) [X.t 170, X.c (Value.int IntKind.i64 1)], I.mk none (some 18) (Ef.pr Pr.mv) [X.t 171]])))))) 
  (IC.seq (IC.ops [I.mk none (some 186) (Ef.pr Pr.mv) [X.t 5], I.mk none (some 187) (Ef.call 15) [X.t 186], I.mk none (some 19) (Ef.pr Pr.mv) [X.t 187]]) 
  (IC.seq 
  (IC.seq (IC.ops [I.mk none (some 188) (Ef.pr Pr.mv) [X.t 19], I.mk none (some 189) (Ef.pr Pr.lenS) [X.t 188], I.mk none (some 190) (Ef.pr Pr.mv) [X.t 16], I.mk none (some 191) (Ef.pr Pr.lenS) [X.t 190], I.mk none (some 192) (Ef.pr Pr.mv) [X.t 17], I.mk none (some 193) (Ef.pr Pr.lenS) [X.t 192], I.mk none (some 194) (Ef.pr (Pr.ar BinOp.sub)) [X.t 191, X.t 193], I.mk none (some 195) (Ef.pr (Pr.cm BinOp.neq)) [X.t 189, X.t 194]]) 
  (IC.cond (X.t 195) 
  (IC.seq (IC.ops [I.mk none (some 4) (Ef.pr Pr.mv) [X.c (Value.bool false)]]) IC.ret) IC.skip)) 
  (IC.seq 
  (IC.seq (IC.ops [I.mk none (some 20) (Ef.pr Pr.mv) [X.c (Value.int IntKind.i64 0)]]) 
  (IC.block 6 
  (IC.loop 
  (IC.seq 
  (IC.seq (IC.ops [I.mk none (some 196) (Ef.pr Pr.mv) [X.t 20], I.mk none (some 197) (Ef.pr Pr.mv) [X.t 19], I.mk none (some 198) (Ef.pr Pr.lenS) [X.t 197], I.mk none (some 199) (Ef.pr (Pr.cm BinOp.lss)) [X.t 196, X.t 198]]) 
  (IC.cond (X.t 199) IC.skip (IC.exit 6))) 
  (IC.seq 
  (IC.block 7 
  (IC.seq (IC.plan (Plan.q (I.mk none (some 203) (Ef.pr Pr.mv) [X.t 16]) (Plan.q (I.mk none (some 204) (Ef.pr Pr.mv) [X.t 19]) (Plan.q (I.mk none (some 205) (Ef.pr Pr.mv) [X.t 20]) (Plan.q (I.mk none (some 206) (Ef.pr (Pr.iaS 6)) [X.t 204, X.t 205]) (Plan.q (I.mk none (some 207) (Ef.pr (Pr.fa 0)) [X.t 206]) (Plan.q (I.mk none (some 208) (Ef.pr (Pr.ld 1 false)) [X.t 207]) (Plan.q (I.mk none (some 209) (Ef.pr Pr.mv) [X.t 19]) (Plan.q (I.mk none (some 210) (Ef.pr Pr.mv) [X.t 20]) (Plan.q (I.mk none (some 211) (Ef.pr (Pr.iaS 6)) [X.t 209, X.t 210]) (Plan.q (I.mk none (some 212) (Ef.pr (Pr.fa 1)) [X.t 211]) (Plan.q (I.mk none (some 213) (Ef.pr (Pr.ld 1 false)) [X.t 212]) (Plan.q (I.mk none (some 214) (Ef.pr (Pr.bld [Value.int IntKind.i64 0, Value.int IntKind.i64 0] [(0, 1), (1, 1)])) [X.t 208, X.t 213]) (Plan.br (PlanL.cons false true (I.mk none (some 215) (Ef.call 22) [X.t 203, X.t 214]) (Plan.q (I.mk none (some 202) (Ef.pr Pr.mv) [X.t 215]) (Plan.q (I.mk none (some 216) (Ef.pr (Pr.ext 0)) [X.t 202]) (Plan.q (I.mk none (some 217) (Ef.pr (Pr.ext 1)) [X.t 202]) (Plan.br (PlanL.cons true false (I.mk none (some 21) (Ef.al [Value.int IntKind.i64 0, Value.int IntKind.i64 0, Value.int IntKind.i64 0, Value.int IntKind.i64 0, Value.int IntKind.i64 0, Value.int IntKind.i64 0]) []) (Plan.br (PlanL.cons false false (I.mk none none (Ef.st 6) [X.t 21, X.t 216]) (Plan.q (I.mk none (some 22) (Ef.pr Pr.mv) [X.t 217]) Plan.done) PlanL.nil)) PlanL.nil))))) (PlanL.cons true false (I.mk none (some 21) (Ef.al [Value.int IntKind.i64 0, Value.int IntKind.i64 0, Value.int IntKind.i64 0, Value.int IntKind.i64 0, Value.int IntKind.i64 0, Value.int IntKind.i64 0]) []) (Plan.br (PlanL.cons false false (I.mk none (some 215) (Ef.call 22) [X.t 203, X.t 214]) (Plan.q (I.mk none (some 202) (Ef.pr Pr.mv) [X.t 215]) (Plan.q (I.mk none (some 216) (Ef.pr (Pr.ext 0)) [X.t 202]) (Plan.q (I.mk none (some 217) (Ef.pr (Pr.ext 1)) [X.t 202]) (Plan.br (PlanL.cons false false (I.mk none none (Ef.st 6) [X.t 21, X.t 216]) (Plan.q (I.mk none (some 22) (Ef.pr Pr.mv) [X.t 217]) Plan.done) PlanL.nil))))) PlanL.nil)) PlanL.nil)))))))))))))))) 
  (IC.seq (IC.plan (Plan.q (I.mk none (some 218) (Ef.pr Pr.mv) [X.t 22]) (Plan.q (I.mk none (some 219) (Ef.pr (Pr.un UnOp.not)) [X.t 218]) (Plan.q (I.mk none (some 220) (Ef.pr Pr.mv) [X.t 219]) (Plan.q (I.mk (some (220, false)) (some 221) (Ef.pr (Pr.ld 6 true)) [X.t 21]) (Plan.q (I.mk (some (220, false)) (some 222) (Ef.pr Pr.mv) [X.t 19]) (Plan.q (I.mk (some (220, false)) (some 223) (Ef.pr Pr.mv) [X.t 20]) (Plan.q (I.mk (some (220, false)) (some 224) (Ef.pr (Pr.iaS 6)) [X.t 222, X.t 223]) (Plan.q (I.mk (some (220, false)) (some 225) (Ef.pr (Pr.ld 6 true)) [X.t 224]) (Plan.q (I.mk (some (220, false)) (some 226) (Ef.pr (Pr.eq true (EqT.ag [(0, EqS.i), (1, EqS.i), (2, EqS.i), (3, EqS.i), (4, EqS.i), (5, EqS.i)]))) [X.t 221, X.t 225]) (Plan.q (I.mk none (some 227) (Ef.pr Pr.pick) [X.t 220, X.c (Value.bool true), X.t 226]) (Plan.q (I.mk none (some 228) (Ef.pr Pr.mv) [X.t 227]) (Plan.q (I.mk (some (228, false)) (some 229) (Ef.pr Pr.mv) [X.t 11]) (Plan.q (I.mk (some (228, false)) (some 230) (Ef.pr (Pr.fa 0)) [X.t 21]) (Plan.q (I.mk (some (228, false)) (some 231) (Ef.pr (Pr.ld 1 false)) [X.t 230]) (Plan.q (I.mk (some (228, false)) (some 232) (Ef.pr (Pr.fa 1)) [X.t 21]) (Plan.q (I.mk (some (228, false)) (some 233) (Ef.pr (Pr.ld 1 false)) [X.t 232]) (Plan.q (I.mk (some (228, false)) (some 234) (Ef.pr (Pr.bld [Value.int IntKind.i64 0, Value.int IntKind.i64 0] [(0, 1), (1, 1)])) [X.t 231, X.t 233]) (Plan.br (PlanL.cons false false (I.mk (some (228, false)) (some 235) (Ef.call 21) [X.t 229, X.t 234]) (Plan.q (I.mk (some (228, false)) (some 236) (Ef.pr (Pr.cm BinOp.geq)) [X.t 235, X.c (Value.int IntKind.i64 0)]) (Plan.q (I.mk none (some 237) (Ef.pr Pr.pick) [X.t 228, X.c (Value.bool true), X.t 236]) Plan.done)) PlanL.nil)))))))))))))))))))) 
  (IC.cond (X.t 237) 
  (IC.seq (IC.ops [I.mk none (some 4) (Ef.pr Pr.mv) [X.c (Value.bool false)]]) IC.ret) IC.skip)))) (IC.ops [I.mk none (some 200) (Ef.pr Pr.mv) [X.t 20], I.mk none (some 201) (Ef.pr (Pr.ar BinOp.add)) [X.t 200, X.c (Value.int IntKind.i64 1)], I.mk none (some 20) (Ef.pr Pr.mv) [X.t 201]])))))) 
  (IC.seq (IC.ops [I.mk none (some 4) (Ef.pr Pr.mv) [X.c (Value.bool true)]]) IC.ret)))))))))))))))))))))

theorem k6 : Go.Proofs.Tryd.f6.body.bind (comp Go.Proofs.Tryd.prog 238 [7, 13, 14, 21] []) = some c6 := by kernel_rfl

theorem r6 : cRVs Go.Proofs.Tryd.prog Go.Proofs.Tryd.f6.results.toList = some [RV.t 4] := by kernel_rfl

theorem e6 {args : List Value} {h : Hp} {Q : Value → Hp → Prop} (hl : Nat.ble args.length 238 = true) (hk : codeK PR none c6 (retK Q [RV.t 4]) (fun _ _ _ _ => False) (retK Q [RV.t 4]) (argsE 0 args) [] h) : Ok PR 6 args h Q :=
  Ok.of mixed Go.Proofs.Tryd.func6 rfl k6 r6 hl hk

def c7 : IC := IC.seq (IC.ops [I.mk none (some 2) (Ef.pr Pr.mv) [X.c (Value.bool false)]]) 
  (IC.seq 
  (IC.seq (IC.ops [I.mk none (some 26) (Ef.pr Pr.mv) [X.t 0], I.mk none (some 27) (Ef.pr (Pr.cm BinOp.lss)) [X.t 26, X.c (Value.int IntKind.i64 1)], I.mk none (some 28) (Ef.pr Pr.mv) [X.t 27], I.mk (some (28, false)) (some 29) (Ef.pr Pr.mv) [X.t 0], I.mk (some (28, false)) (some 30) (Ef.pr (Pr.cm BinOp.gtr)) [X.t 29, X.c (Value.int IntKind.i64 20)], I.mk none (some 31) (Ef.pr Pr.pick) [X.t 28, X.c (Value.bool true), X.t 30]]) 
  (IC.cond (X.t 31) 
  (IC.seq (IC.ops [I.mk none (some 2) (Ef.pr Pr.mv) [X.c (Value.bool true)]]) IC.ret) IC.skip)) 
  (IC.seq (IC.ops [I.mk none (some 32) (Ef.pr (Pr.bld [Value.int IntKind.i64 0, Value.int IntKind.i64 0, Value.int IntKind.i64 0, Value.int IntKind.i64 0] [(0, 1), (1, 1), (2, 1), (3, 1)])) [X.c (Value.int IntKind.i64 1), X.c (Value.int IntKind.i64 5), X.c (Value.int IntKind.i64 7), X.c (Value.int IntKind.i64 15)], I.mk none (some 33) (Ef.call 10) [X.t 32], I.mk none (some 3) (Ef.pr Pr.mv) [X.t 33]]) 
  (IC.seq 
  (IC.seq (IC.ops [I.mk none (some 34) (Ef.pr Pr.mv) [X.t 3], I.mk none (some 35) (Ef.pr (Pr.eq false (EqT.one EqS.p))) [X.t 34, X.c (Value.pointer none)]]) 
  (IC.cond (X.t 35) 
  (IC.seq (IC.ops [I.mk none (some 2) (Ef.pr Pr.mv) [X.c (Value.bool false)]]) IC.ret) IC.skip)) 
  (IC.seq 
  (IC.seq (IC.ops [I.mk none (some 4) (Ef.pr Pr.mv) [X.c (Value.int IntKind.i64 0)]]) 
  (IC.block 0 
  (IC.loop 
  (IC.seq 
  (IC.seq (IC.ops [I.mk none (some 36) (Ef.pr Pr.mv) [X.t 4], I.mk none (some 37) (Ef.pr Pr.mv) [X.t 0], I.mk none (some 38) (Ef.pr (Pr.cm BinOp.lss)) [X.t 36, X.t 37]]) 
  (IC.cond (X.t 38) IC.skip (IC.exit 0))) 
  (IC.seq 
  (IC.block 1 
  (IC.seq (IC.ops [I.mk none (some 42) (Ef.pr Pr.mv) [X.t 3], I.mk none (some 43) (Ef.call 11) [X.t 42, X.c (Value.int IntKind.i64 0), X.c (Value.int IntKind.i64 0), X.c (Value.int IntKind.i64 1), X.c (Value.int IntKind.i64 (-1)), X.c (Value.int IntKind.i64 5)], I.mk none (some 41) (Ef.pr Pr.mv) [X.t 43], I.mk none (some 44) (Ef.pr (Pr.ext 0)) [X.t 41], I.mk none (some 45) (Ef.pr (Pr.ext 1)) [X.t 41], I.mk none (some 5) (Ef.pr Pr.mv) [X.t 44], I.mk none (some 6) (Ef.pr Pr.mv) [X.t 45]]) 
  (IC.seq (IC.ops [I.mk none (some 46) (Ef.pr Pr.mv) [X.t 6], I.mk none (some 47) (Ef.pr (Pr.cm BinOp.neq)) [X.t 46, X.c (Value.int IntKind.i64 0)]]) 
  (IC.cond (X.t 47) 
  (IC.seq (IC.ops [I.mk none (some 2) (Ef.pr Pr.mv) [X.c (Value.bool false)]]) IC.ret) IC.skip)))) (IC.ops [I.mk none (some 39) (Ef.pr Pr.mv) [X.t 4], I.mk none (some 40) (Ef.pr (Pr.ar BinOp.add)) [X.t 39, X.c (Value.int IntKind.i64 1)], I.mk none (some 4) (Ef.pr Pr.mv) [X.t 40]])))))) 
  (IC.seq (IC.ops [I.mk none (some 49) (Ef.pr Pr.mv) [X.t 3], I.mk none (some 50) (Ef.call 23) [X.t 49, X.c (Value.int IntKind.i64 1)], I.mk none (some 48) (Ef.pr Pr.mv) [X.t 50], I.mk none (some 51) (Ef.pr (Pr.ext 0)) [X.t 48], I.mk none (some 52) (Ef.pr (Pr.ext 1)) [X.t 48], I.mk none (some 7) (Ef.pr Pr.mv) [X.t 51], I.mk none (some 8) (Ef.pr Pr.mv) [X.t 52]]) 
  (IC.seq (IC.ops [I.mk none (some 54) (Ef.pr Pr.mv) [X.t 3], I.mk none (some 55) (Ef.call 23) [X.t 54, X.c (Value.int IntKind.i64 1)], I.mk none (some 53) (Ef.pr Pr.mv) [X.t 55], I.mk none (some 56) (Ef.pr (Pr.ext 0)) [X.t 53], I.mk none (some 57) (Ef.pr (Pr.ext 1)) [X.t 53], I.mk none (some 9) (Ef.pr Pr.mv) [X.t 56], I.mk none (some 10) (Ef.pr Pr.mv) [X.t 57]]) 
  (IC.seq (IC.ops [I.mk none (some 59) (Ef.pr Pr.mv) [X.t 3], I.mk none (some 60) (Ef.call 23) [X.t 59, X.c (Value.int IntKind.i64 0)], I.mk none (some 58) (Ef.pr Pr.mv) [X.t 60], I.mk none (some 61) (Ef.pr (Pr.ext 0)) [X.t 58], I.mk none (some 62) (Ef.pr (Pr.ext 1)) [X.t 58], I.mk none (some 11) (Ef.pr Pr.mv) [X.t 61], I.mk none (some 12) (Ef.pr Pr.mv) [X.t 62]]) 
  (IC.seq 
  (IC.seq (IC.ops [I.mk none (some 63) (Ef.pr Pr.mv) [X.t 7], I.mk none (some 64) (Ef.pr Pr.lenS) [X.t 63], I.mk none (some 65) (Ef.pr Pr.mv) [X.t 0], I.mk none (some 66) (Ef.pr (Pr.cm BinOp.neq)) [X.t 64, X.t 65], I.mk none (some 67) (Ef.pr Pr.mv) [X.t 66], I.mk (some (67, false)) (some 68) (Ef.pr Pr.mv) [X.t 9], I.mk (some (67, false)) (some 69) (Ef.pr Pr.lenS) [X.t 68], I.mk (some (67, false)) (some 70) (Ef.pr Pr.mv) [X.t 0], I.mk (some (67, false)) (some 71) (Ef.pr (Pr.cm BinOp.neq)) [X.t 69, X.t 70], I.mk none (some 72) (Ef.pr Pr.pick) [X.t 67, X.c (Value.bool true), X.t 71], I.mk none (some 73) (Ef.pr Pr.mv) [X.t 72], I.mk (some (73, false)) (some 74) (Ef.pr Pr.mv) [X.t 11], I.mk (some (73, false)) (some 75) (Ef.pr Pr.lenS) [X.t 74], I.mk (some (73, false)) (some 76) (Ef.pr (Pr.cm BinOp.neq)) [X.t 75, X.c (Value.int IntKind.i64 1)], I.mk none (some 77) (Ef.pr Pr.pick) [X.t 73, X.c (Value.bool true), X.t 76]]) 
  (IC.cond (X.t 77) 
  (IC.seq (IC.ops [I.mk none (some 2) (Ef.pr Pr.mv) [X.c (Value.bool false)]]) IC.ret) IC.skip)) 
  (IC.seq 
  (IC.seq (IC.ops [I.mk none (some 13) (Ef.pr Pr.mv) [X.c (Value.int IntKind.i64 0)]]) 
  (IC.block 2 
  (IC.loop 
  (IC.seq 
  (IC.seq (IC.ops [I.mk none (some 78) (Ef.pr Pr.mv) [X.t 13], I.mk none (some 79) (Ef.pr Pr.mv) [X.t 0], I.mk none (some 80) (Ef.pr (Pr.cm BinOp.lss)) [X.t 78, X.t 79]]) 
  (IC.cond (X.t 80) IC.skip (IC.exit 2))) 
  (IC.seq 
  (IC.block 3 
  (IC.seq (IC.ops [I.mk none (some 83) (Ef.pr Pr.mv) [X.t 7], I.mk none (some 84) (Ef.pr Pr.mv) [X.t 13], I.mk none (some 85) (Ef.pr Pr.mv) [X.t 13], I.mk none (some 86) (Ef.pr (Pr.ar BinOp.add)) [X.c (Value.int IntKind.i64 100), X.t 85], I.mk none (some 87) (Ef.pr (Pr.iaS 6)) [X.t 83, X.t 84], I.mk none (some 88) (Ef.pr (Pr.fa 1)) [X.t 87], I.mk none none (Ef.st 1) [X.t 88, X.t 86]]) (IC.ops [I.mk none (some 89) (Ef.pr Pr.mv) [X.t 7], I.mk none (some 90) (Ef.pr Pr.mv) [X.t 13], I.mk none (some 91) (Ef.pr (Pr.iaS 6)) [X.t 89, X.t 90], I.mk none (some 92) (Ef.pr (Pr.fa 2)) [X.t 91], I.mk none (some 93) (Ef.pr (Pr.fa 3)) [X.t 92], I.mk none none (Ef.st 1) [X.t 93, X.c (Value.int IntKind.i64 8)]]))) (IC.ops [I.mk none (some 81) (Ef.pr Pr.mv) [X.t 13], I.mk none (some 82) (Ef.pr (Pr.ar BinOp.add)) [X.t 81, X.c (Value.int IntKind.i64 1)], I.mk none (some 13) (Ef.pr Pr.mv) [X.t 82]])))))) 
  (IC.seq 
  (IC.seq (IC.ops [I.mk none (some 14) (Ef.pr Pr.mv) [X.c (Value.int IntKind.i64 0)]]) 
  (IC.block 4 
  (IC.loop 
  (IC.seq 
  (IC.seq (IC.ops [I.mk none (some 94) (Ef.pr Pr.mv) [X.t 14], I.mk none (some 95) (Ef.pr Pr.mv) [X.t 0], I.mk none (some 96) (Ef.pr (Pr.cm BinOp.lss)) [X.t 94, X.t 95]]) 
  (IC.cond (X.t 96) IC.skip (IC.exit 4))) 
  (IC.seq 
  (IC.block 5 
  (IC.seq (IC.ops [I.mk none (some 99) (Ef.pr Pr.mv) [X.t 9], I.mk none (some 100) (Ef.pr Pr.mv) [X.t 14], I.mk none (some 101) (Ef.pr (Pr.iaS 6)) [X.t 99, X.t 100], I.mk none (some 102) (Ef.pr (Pr.fa 1)) [X.t 101], I.mk none (some 103) (Ef.pr (Pr.ld 1 false)) [X.t 102], I.mk none (some 104) (Ef.pr Pr.mv) [X.t 14], I.mk none (some 105) (Ef.pr (Pr.cm BinOp.neq)) [X.t 103, X.t 104], I.mk none (some 106) (Ef.pr Pr.mv) [X.t 105], I.mk (some (106, false)) (some 107) (Ef.pr Pr.mv) [X.t 9], I.mk (some (106, false)) (some 108) (Ef.pr Pr.mv) [X.t 14], I.mk (some (106, false)) (some 109) (Ef.pr (Pr.iaS 6)) [X.t 107, X.t 108], I.mk (some (106, false)) (some 110) (Ef.pr (Pr.fa 2)) [X.t 109], I.mk (some (106, false)) (some 111) (Ef.pr (Pr.fa 3)) [X.t 110], I.mk (some (106, false)) (some 112) (Ef.pr (Pr.ld 1 false)) [X.t 111], I.mk (some (106, false)) (some 113) (Ef.pr (Pr.cm BinOp.neq)) [X.t 112, X.c (Value.int IntKind.i64 5)], I.mk none (some 114) (Ef.pr Pr.pick) [X.t 106, X.c (Value.bool true), X.t 113]]) 
  (IC.cond (X.t 114) 
  (IC.seq (IC.ops [I.mk none (some 2) (Ef.pr Pr.mv) [X.c (Value.bool false)]]) IC.ret) IC.skip))) (IC.ops [I.mk none (some 97) (Ef.pr Pr.mv) [X.t 14], I.mk none (some 98) (Ef.pr (Pr.ar BinOp.add)) [X.t 97, X.c (Value.int IntKind.i64 1)], I.mk none (some 14) (Ef.pr Pr.mv) [X.t 98]])))))) 
  (IC.seq 
  (IC.seq (IC.ops [I.mk none (some 115) (Ef.pr Pr.mv) [X.t 11], I.mk none (some 116) (Ef.pr (Pr.iaS 6)) [X.t 115, X.c (Value.int IntKind.i64 0)], I.mk none (some 117) (Ef.pr (Pr.fa 1)) [X.t 116], I.mk none (some 118) (Ef.pr (Pr.ld 1 false)) [X.t 117], I.mk none (some 119) (Ef.pr (Pr.cm BinOp.neq)) [X.t 118, X.c (Value.int IntKind.i64 0)], I.mk none (some 120) (Ef.pr Pr.mv) [X.t 119], I.mk (some (120, false)) (some 121) (Ef.pr Pr.mv) [X.t 11], I.mk (some (120, false)) (some 122) (Ef.pr (Pr.iaS 6)) [X.t 121, X.c (Value.int IntKind.i64 0)], I.mk (some (120, false)) (some 123) (Ef.pr (Pr.fa 0)) [X.t 122], I.mk (some (120, false)) (some 124) (Ef.pr (Pr.ld 1 false)) [X.t 123], I.mk (some (120, false)) (some 125) (Ef.pr (Pr.cm BinOp.neq)) [X.t 124, X.c (Value.int IntKind.i64 0)], I.mk none (some 126) (Ef.pr Pr.pick) [X.t 120, X.c (Value.bool true), X.t 125]]) 
  (IC.cond (X.t 126) 
  (IC.seq (IC.ops [I.mk none (some 2) (Ef.pr Pr.mv) [X.c (Value.bool false)]]) IC.ret) IC.skip)) 
  (IC.seq (IC.ops [I.mk none (some 127) (Ef.pr Pr.mv) [X.t 9], I.mk none (some 128) (Ef.call 24) [X.t 127, X.c (Value.int IntKind.i64 300)]]) 
  (IC.seq (IC.ops [I.mk none (some 129) (Ef.pr Pr.mv) [X.t 11], I.mk none (some 130) (Ef.call 24) [X.t 129, X.c (Value.int IntKind.i64 400)]]) 
  (IC.seq 
  (IC.seq (IC.ops [I.mk none (some 131) (Ef.pr Pr.mv) [X.t 7], I.mk none (some 132) (Ef.call 25) [X.t 131, X.c (Value.int IntKind.i64 100)], I.mk none (some 133) (Ef.pr (Pr.un UnOp.not)) [X.t 132]]) 
  (IC.cond (X.t 133) 
  (IC.seq (IC.ops [I.mk none (some 2) (Ef.pr Pr.mv) [X.c (Value.bool false)]]) IC.ret) IC.skip)) 
  (IC.seq (IC.ops [I.mk none (some 134) (Ef.pr Pr.mv) [X.t 7], I.mk none (some 135) (Ef.pr (Pr.bld [Value.int IntKind.i64 0, Value.int IntKind.i64 0, Value.int IntKind.i64 0, Value.int IntKind.i64 0, Value.int IntKind.i64 0, Value.int IntKind.i64 0] [(1, 1)])) [X.c (Value.int IntKind.i64 999)], I.mk none (some 136) (Ef.bsl [Value.int IntKind.i64 0, Value.int IntKind.i64 0, Value.int IntKind.i64 0, Value.int IntKind.i64 0, Value.int IntKind.i64 0, Value.int IntKind.i64 0] 49 1 6 [0]) [X.t 135], I.mk none (some 137) (Ef.app [Value.int IntKind.i64 0, Value.int IntKind.i64 0, Value.int IntKind.i64 0, Value.int IntKind.i64 0, Value.int IntKind.i64 0, Value.int IntKind.i64 0] 49 48) [X.t 134, X.t 136], I.mk none (some 15) (Ef.pr Pr.mv) [X.t 137]]) 
  (IC.seq (IC.ops [I.mk none (some 138) (Ef.bsl [Value.int IntKind.i64 0] 3 6 1 [0, 1, 2, 3, 4, 5]) [X.c (Value.int IntKind.i64 5), X.c (Value.int IntKind.i64 0), X.c (Value.int IntKind.i64 0), X.c (Value.int IntKind.i64 99), X.c (Value.int IntKind.i64 171), X.c (Value.int IntKind.i64 172)], I.mk none (some 16) (Ef.pr Pr.mv) [X.t 138]]) 
  (IC.seq (IC.ops [I.mk none (some 139) (Ef.pr Pr.mv) [X.t 16], I.mk none (some 140) (Ef.pr (Pr.slS 1 false true false)) [X.t 139, X.c (Value.int IntKind.i64 4)], I.mk none (some 17) (Ef.pr Pr.mv) [X.t 140]]) 
  (IC.seq (IC.ops [I.mk none (some 142) (Ef.pr Pr.mv) [X.t 3], I.mk none (some 143) (Ef.pr Pr.mv) [X.t 17], I.mk none (some 144) (Ef.call 14) [X.t 142, X.c (Value.int IntKind.i64 1), X.c (Value.int IntKind.i64 0), X.t 143], I.mk none (some 141) (Ef.pr Pr.mv) [X.t 144], I.mk none (some 145) (Ef.pr (Pr.ext 0)) [X.t 141], I.mk none (some 146) (Ef.pr (Pr.ext 1)) [X.t 141], I.mk none (some 18) (Ef.al [Value.int IntKind.i64 0, Value.int IntKind.i64 0]) [], I.mk none none (Ef.st 2) [X.t 18, X.t 145], I.mk none (some 19) (Ef.pr Pr.mv) [X.t 146]]) 
  (IC.seq 
  (IC.seq (IC.ops [I.mk none (some 147) (Ef.pr Pr.mv) [X.t 16], I.mk none (some 148) (Ef.pr (Pr.iaS 1)) [X.t 147, X.c (Value.int IntKind.i64 4)], I.mk none (some 149) (Ef.pr (Pr.ld 1 false)) [X.t 148], I.mk none (some 150) (Ef.pr (Pr.cm BinOp.neq)) [X.t 149, X.c (Value.int IntKind.i64 171)], I.mk none (some 151) (Ef.pr Pr.mv) [X.t 150], I.mk (some (151, false)) (some 152) (Ef.pr Pr.mv) [X.t 16], I.mk (some (151, false)) (some 153) (Ef.pr (Pr.iaS 1)) [X.t 152, X.c (Value.int IntKind.i64 5)], I.mk (some (151, false)) (some 154) (Ef.pr (Pr.ld 1 false)) [X.t 153], I.mk (some (151, false)) (some 155) (Ef.pr (Pr.cm BinOp.neq)) [X.t 154, X.c (Value.int IntKind.i64 172)], I.mk none (some 156) (Ef.pr Pr.pick) [X.t 151, X.c (Value.bool true), X.t 155], I.mk none (some 157) (Ef.pr Pr.mv) [X.t 156], I.mk (some (157, false)) (some 158) (Ef.pr (Pr.fa 0)) [X.t 18], I.mk (some (157, false)) (some 159) (Ef.pr (Pr.ld 1 false)) [X.t 158], I.mk (some (157, false)) (some 160) (Ef.pr (Pr.cm BinOp.neq)) [X.t 159, X.c (Value.int IntKind.i64 0)], I.mk none (some 161) (Ef.pr Pr.pick) [X.t 157, X.c (Value.bool true), X.t 160], I.mk none (some 162) (Ef.pr Pr.mv) [X.t 161], I.mk (some (162, false)) (some 163) (Ef.pr (Pr.fa 1)) [X.t 18], I.mk (some (162, false)) (some 164) (Ef.pr (Pr.ld 1 false)) [X.t 163], I.mk (some (162, false)) (some 165) (Ef.pr (Pr.cm BinOp.neq)) [X.t 164, X.c (Value.int IntKind.i64 0)], I.mk none (some 166) (Ef.pr Pr.pick) [X.t 162, X.c (Value.bool true), X.t 165], I.mk none (some 167) (Ef.pr Pr.mv) [X.t 166], I.mk (some (167, false)) (some 168) (Ef.pr Pr.mv) [X.t 19], I.mk (some (167, false)) (some 169) (Ef.pr (Pr.cm BinOp.neq)) [X.t 168, X.c (Value.int IntKind.i64 0)], I.mk none (some 170) (Ef.pr Pr.pick) [X.t 167, X.c (Value.bool true), X.t 169], I.mk none (some 171) (Ef.pr Pr.mv) [X.t 170], I.mk (some (171, false)) (some 172) (Ef.pr Pr.mv) [X.t 17], I.mk (some (171, false)) (some 173) (Ef.pr (Pr.iaS 1)) [X.t 172, X.c (Value.int IntKind.i64 0)], I.mk (some (171, false)) (some 174) (Ef.pr (Pr.ld 1 false)) [X.t 173], I.mk (some (171, false)) (some 175) (Ef.pr (Pr.cm BinOp.neq)) [X.t 174, X.c (Value.int IntKind.i64 5)], I.mk none (some 176) (Ef.pr Pr.pick) [X.t 171, X.c (Value.bool true), X.t 175], I.mk none (some 177) (Ef.pr Pr.mv) [X.t 176], I.mk (some (177, false)) (some 178) (Ef.pr Pr.mv) [X.t 17], I.mk (some (177, false)) (some 179) (Ef.pr (Pr.iaS 1)) [X.t 178, X.c (Value.int IntKind.i64 1)], I.mk (some (177, false)) (some 180) (Ef.pr (Pr.ld 1 false)) [X.t 179], I.mk (some (177, false)) (some 181) (Ef.pr (Pr.cm BinOp.neq)) [X.t 180, X.c (Value.int IntKind.i64 0)], I.mk none (some 182) (Ef.pr Pr.pick) [X.t 177, X.c (Value.bool true), X.t 181], I.mk none (some 183) (Ef.pr Pr.mv) [X.t 182], I.mk (some (183, false)) (some 184) (Ef.pr Pr.mv) [X.t 17], I.mk (some (183, false)) (some 185) (Ef.pr (Pr.iaS 1)) [X.t 184, X.c (Value.int IntKind.i64 2)], I.mk (some (183, false)) (some 186) (Ef.pr (Pr.ld 1 false)) [X.t 185], I.mk (some (183, false)) (some 187) (Ef.pr (Pr.cm BinOp.neq)) [X.t 186, X.c (Value.int IntKind.i64 0)], I.mk none (some 188) (Ef.pr Pr.pick) [X.t 183, X.c (Value.bool true), X.t 187], I.mk none (some 189) (Ef.pr Pr.mv) [X.t 188], I.mk (some (189, false)) (some 190) (Ef.pr Pr.mv) [X.t 17], I.mk (some (189, false)) (some 191) (Ef.pr (Pr.iaS 1)) [X.t 190, X.c (Value.int IntKind.i64 3)], I.mk (some (189, false)) (some 192) (Ef.pr (Pr.ld 1 false)) [X.t 191], I.mk (some (189, false)) (some 193) (Ef.pr (Pr.cm BinOp.neq)) [X.t 192, X.c (Value.int IntKind.i64 99)], I.mk none (some 194) (Ef.pr Pr.pick) [X.t 189, X.c (Value.bool true), X.t 193]]) 
  (IC.cond (X.t 194) 
  (IC.seq (IC.ops [I.mk none (some 2) (Ef.pr Pr.mv) [X.c (Value.bool false)]]) IC.ret) IC.skip)) 
  (IC.seq (IC.ops [I.mk none (some 195) (Ef.pr Pr.mv) [X.t 3], I.mk none (some 196) (Ef.call 11) [X.t 195, X.c (Value.int IntKind.i64 0), X.c (Value.int IntKind.i64 0), X.c (Value.int IntKind.i64 1), X.c (Value.int IntKind.i64 (-1)), X.c (Value.int IntKind.i64 5)]]) 
  (IC.seq (IC.ops [I.mk none (some 198) (Ef.pr Pr.mv) [X.t 3], I.mk none (some 199) (Ef.call 23) [X.t 198, X.c (Value.int IntKind.i64 1)], I.mk none (some 197) (Ef.pr Pr.mv) [X.t 199], I.mk none (some 200) (Ef.pr (Pr.ext 0)) [X.t 197], I.mk none (some 201) (Ef.pr (Pr.ext 1)) [X.t 197], I.mk none (some 20) (Ef.pr Pr.mv) [X.t 200], I.mk none (some 21) (Ef.pr Pr.mv) [X.t 201]]) 
  (IC.seq 
  (IC.seq (IC.ops [I.mk none (some 202) (Ef.pr Pr.mv) [X.t 20], I.mk none (some 203) (Ef.pr Pr.lenS) [X.t 202], I.mk none (some 204) (Ef.pr Pr.mv) [X.t 0], I.mk none (some 205) (Ef.pr (Pr.ar BinOp.add)) [X.t 204, X.c (Value.int IntKind.i64 1)], I.mk none (some 206) (Ef.pr (Pr.cm BinOp.neq)) [X.t 203, X.t 205], I.mk none (some 207) (Ef.pr Pr.mv) [X.t 206], I.mk (some (207, false)) (some 208) (Ef.pr Pr.mv) [X.t 15], I.mk (some (207, false)) (some 209) (Ef.pr Pr.mv) [X.t 0], I.mk (some (207, false)) (some 210) (Ef.pr (Pr.iaS 6)) [X.t 208, X.t 209], I.mk (some (207, false)) (some 211) (Ef.pr (Pr.fa 1)) [X.t 210], I.mk (some (207, false)) (some 212) (Ef.pr (Pr.ld 1 false)) [X.t 211], I.mk (some (207, false)) (some 213) (Ef.pr (Pr.cm BinOp.neq)) [X.t 212, X.c (Value.int IntKind.i64 999)], I.mk none (some 214) (Ef.pr Pr.pick) [X.t 207, X.c (Value.bool true), X.t 213]]) 
  (IC.cond (X.t 214) 
  (IC.seq (IC.ops [I.mk none (some 2) (Ef.pr Pr.mv) [X.c (Value.bool false)]]) IC.ret) IC.skip)) 
  (IC.seq 
  (IC.seq (IC.ops [I.mk none (some 22) (Ef.pr Pr.mv) [X.c (Value.int IntKind.i64 0)]]) 
  (IC.block 6 
  (IC.loop 
  (IC.seq 
  (IC.seq (IC.ops [I.mk none (some 215) (Ef.pr Pr.mv) [X.t 22], I.mk none (some 216) (Ef.pr Pr.mv) [X.t 0], I.mk none (some 217) (Ef.pr (Pr.cm BinOp.leq)) [X.t 215, X.t 216]]) 
  (IC.cond (X.t 217) IC.skip (IC.exit 6))) 
  (IC.seq 
  (IC.block 7 
  (IC.seq (IC.ops [I.mk none (some 220) (Ef.pr Pr.mv) [X.t 20], I.mk none (some 221) (Ef.pr Pr.mv) [X.t 22], I.mk none (some 222) (Ef.pr (Pr.iaS 6)) [X.t 220, X.t 221], I.mk none (some 223) (Ef.pr (Pr.fa 1)) [X.t 222], I.mk none (some 224) (Ef.pr (Pr.ld 1 false)) [X.t 223], I.mk none (some 225) (Ef.pr Pr.mv) [X.t 22], I.mk none (some 226) (Ef.pr (Pr.cm BinOp.neq)) [X.t 224, X.t 225], I.mk none (some 227) (Ef.pr Pr.mv) [X.t 226], I.mk (some (227, false)) (some 228) (Ef.pr Pr.mv) [X.t 20], I.mk (some (227, false)) (some 229) (Ef.pr Pr.mv) [X.t 22], I.mk (some (227, false)) (some 230) (Ef.pr (Pr.iaS 6)) [X.t 228, X.t 229], I.mk (some (227, false)) (some 231) (Ef.pr (Pr.fa 0)) [X.t 230], I.mk (some (227, false)) (some 232) (Ef.pr (Pr.ld 1 false)) [X.t 231], I.mk (some (227, false)) (some 233) (Ef.pr (Pr.cm BinOp.neq)) [X.t 232, X.c (Value.int IntKind.i64 1)], I.mk none (some 234) (Ef.pr Pr.pick) [X.t 227, X.c (Value.bool true), X.t 233], I.mk none (some 235) (Ef.pr Pr.mv) [X.t 234], I.mk (some (235, false)) (some 236) (Ef.pr Pr.mv) [X.t 20], I.mk (some (235, false)) (some 237) (Ef.pr Pr.mv) [X.t 22], I.mk (some (235, false)) (some 238) (Ef.pr (Pr.iaS 6)) [X.t 236, X.t 237], I.mk (some (235, false)) (some 239) (Ef.pr (Pr.fa 2)) [X.t 238], I.mk (some (235, false)) (some 240) (Ef.pr (Pr.fa 3)) [X.t 239], I.mk (some (235, false)) (some 241) (Ef.pr (Pr.ld 1 false)) [X.t 240], I.mk (some (235, false)) (some 242) (Ef.pr (Pr.cm BinOp.neq)) [X.t 241, X.c (Value.int IntKind.i64 5)], I.mk none (some 243) (Ef.pr Pr.pick) [X.t 235, X.c (Value.bool true), X.t 242], I.mk none (some 244) (Ef.pr Pr.mv) [X.t 243], I.mk (some (244, false)) (some 245) (Ef.pr Pr.mv) [X.t 22], I.mk (some (244, false)) (some 246) (Ef.pr Pr.mv) [X.t 0], I.mk (some (244, false)) (some 247) (Ef.pr (Pr.cm BinOp.lss)) [X.t 245, X.t 246], I.mk (some (244, false)) (some 248) (Ef.pr Pr.mv) [X.t 247], I.mk (some (248, true)) (some 249) (Ef.pr Pr.mv) [X.t 7], I.mk (some (248, true)) (some 250) (Ef.pr Pr.mv) [X.t 22], I.mk (some (248, true)) (some 251) (Ef.pr (Pr.iaS 6)) [X.t 249, X.t 250], I.mk (some (248, true)) (some 252) (Ef.pr (Pr.fa 1)) [X.t 251], I.mk (some (248, true)) (some 253) (Ef.pr (Pr.ld 1 false)) [X.t 252], I.mk (some (248, true)) (some 254) (Ef.pr Pr.mv) [X.t 22], I.mk (some (248, true)) (some 255) (Ef.pr (Pr.ar BinOp.add)) [X.c (Value.int IntKind.i64 100), X.t 254], I.mk (some (248, true)) (some 256) (Ef.pr (Pr.cm BinOp.neq)) [X.t 253, X.t 255], I.mk (some (244, false)) (some 257) (Ef.pr Pr.pick) [X.t 248, X.t 256, X.c (Value.bool false)], I.mk none (some 258) (Ef.pr Pr.pick) [X.t 244, X.c (Value.bool true), X.t 257]]) 
  (IC.cond (X.t 258) 
  (IC.seq (IC.ops [I.mk none (some 2) (Ef.pr Pr.mv) [X.c (Value.bool false)]]) IC.ret) IC.skip))) (IC.ops [I.mk none (some 218) (Ef.pr Pr.mv) [X.t 22], I.mk none (some 219) (Ef.pr (Pr.ar BinOp.add)) [X.t 218, X.c (Value.int IntKind.i64 1)], I.mk none (some 22) (Ef.pr Pr.mv) [X.t 219]])))))) 
  (IC.seq (IC.ops [I.mk none (some 260) (Ef.pr Pr.mv) [X.t 3], I.mk none (some 261) (Ef.call 20) [X.t 260, X.c (Value.int IntKind.i64 0), X.c (Value.int IntKind.i64 0)], I.mk none (some 259) (Ef.pr Pr.mv) [X.t 261], I.mk none (some 262) (Ef.pr (Pr.ext 0)) [X.t 259], I.mk none (some 263) (Ef.pr (Pr.ext 1)) [X.t 259], I.mk none (some 23) (Ef.pr Pr.mv) [X.t 262], I.mk none (some 24) (Ef.pr Pr.mv) [X.t 263]]) 
  (IC.seq 
  (IC.seq (IC.ops [I.mk none (some 264) (Ef.pr Pr.mv) [X.t 24], I.mk none (some 265) (Ef.pr (Pr.cm BinOp.neq)) [X.t 264, X.c (Value.int IntKind.i64 0)], I.mk none (some 266) (Ef.pr Pr.mv) [X.t 265], I.mk (some (266, false)) (some 267) (Ef.pr Pr.mv) [X.t 23], I.mk (some (266, false)) (some 268) (Ef.pr Pr.lenS) [X.t 267], I.mk (some (266, false)) (some 269) (Ef.pr Pr.mv) [X.t 0], I.mk (some (266, false)) (some 270) (Ef.pr (Pr.ar BinOp.add)) [X.t 269, X.c (Value.int IntKind.i64 1)], I.mk (some (266, false)) (some 271) (Ef.pr (Pr.cm BinOp.neq)) [X.t 268, X.t 270], I.mk none (some 272) (Ef.pr Pr.pick) [X.t 266, X.c (Value.bool true), X.t 271], I.mk none (some 273) (Ef.pr Pr.mv) [X.t 272], I.mk (some (273, false)) (some 274) (Ef.pr Pr.mv) [X.t 9], I.mk (some (273, false)) (some 275) (Ef.call 25) [X.t 274, X.c (Value.int IntKind.i64 300)], I.mk (some (273, false)) (some 276) (Ef.pr (Pr.un UnOp.not)) [X.t 275], I.mk none (some 277) (Ef.pr Pr.pick) [X.t 273, X.c (Value.bool true), X.t 276], I.mk none (some 278) (Ef.pr Pr.mv) [X.t 277], I.mk (some (278, false)) (some 279) (Ef.pr Pr.mv) [X.t 11], I.mk (some (278, false)) (some 280) (Ef.call 25) [X.t 279, X.c (Value.int IntKind.i64 400)], I.mk (some (278, false)) (some 281) (Ef.pr (Pr.un UnOp.not)) [X.t 280], I.mk none (some 282) (Ef.pr Pr.pick) [X.t 278, X.c (Value.bool true), X.t 281]]) 
  (IC.cond (X.t 282) 
  (IC.seq (IC.ops [I.mk none (some 2) (Ef.pr Pr.mv) [X.c (Value.bool false)]]) IC.ret) IC.skip)) 
  (IC.seq 
  (IC.seq (IC.ops [I.mk none (some 25) (Ef.pr Pr.mv) [X.c (Value.int IntKind.i64 0)]]) 
  (IC.block 8 
  (IC.loop 
  (IC.seq 
  (IC.seq (IC.ops [I.mk none (some 283) (Ef.pr Pr.mv) [X.t 25], I.mk none (some 284) (Ef.pr Pr.mv) [X.t 0], I.mk none (some 285) (Ef.pr (Pr.cm BinOp.leq)) [X.t 283, X.t 284]]) 
  (IC.cond (X.t 285) IC.skip (IC.exit 8))) 
  (IC.seq 
  (IC.block 9 
  (IC.seq (IC.ops [I.mk none (some 288) (Ef.pr Pr.mv) [X.t 20], I.mk none (some 289) (Ef.pr Pr.mv) [X.t 25], I.mk none (some 290) (Ef.pr (Pr.iaS 6)) [X.t 288, X.t 289], I.mk none (some 291) (Ef.pr (Pr.fa 1)) [X.t 290], I.mk none (some 292) (Ef.pr (Pr.ld 1 false)) [X.t 291], I.mk none (some 293) (Ef.pr Pr.mv) [X.t 25], I.mk none (some 294) (Ef.pr (Pr.cm BinOp.neq)) [X.t 292, X.t 293], I.mk none (some 295) (Ef.pr Pr.mv) [X.t 294], I.mk (some (295, false)) (some 296) (Ef.pr Pr.mv) [X.t 23], I.mk (some (295, false)) (some 297) (Ef.pr Pr.mv) [X.t 25], I.mk (some (295, false)) (some 298) (Ef.pr (Pr.iaS 6)) [X.t 296, X.t 297], I.mk (some (295, false)) (some 299) (Ef.pr (Pr.fa 1)) [X.t 298], I.mk (some (295, false)) (some 300) (Ef.pr (Pr.ld 1 false)) [X.t 299], I.mk (some (295, false)) (some 301) (Ef.pr Pr.mv) [X.t 25], I.mk (some (295, false)) (some 302) (Ef.pr (Pr.cm BinOp.neq)) [X.t 300, X.t 301], I.mk none (some 303) (Ef.pr Pr.pick) [X.t 295, X.c (Value.bool true), X.t 302]]) 
  (IC.cond (X.t 303) 
  (IC.seq (IC.ops [I.mk none (some 2) (Ef.pr Pr.mv) [X.c (Value.bool false)]]) IC.ret) IC.skip))) (IC.ops [I.mk none (some 286) (Ef.pr Pr.mv) [X.t 25], I.mk none (some 287) (Ef.pr (Pr.ar BinOp.add)) [X.t 286, X.c (Value.int IntKind.i64 1)], I.mk none (some 25) (Ef.pr Pr.mv) [X.t 287]])))))) 
  (IC.seq (IC.ops [I.mk none (some 304) (Ef.pr Pr.mv) [X.t 3], I.mk none (some 305) (Ef.pr Pr.mv) [X.t 23], I.mk none (some 306) (Ef.pr Pr.mv) [X.t 0], I.mk none (some 307) (Ef.call 26) [X.t 304, X.t 305, X.t 306], I.mk none (some 2) (Ef.pr Pr.mv) [X.t 307]]) IC.ret)))))))))))))))))))))))))))

theorem k7 : Go.Proofs.Tryd.f7.body.bind (comp Go.Proofs.Tryd.prog 308 [18] []) = some c7 := by kernel_rfl

theorem r7 : cRVs Go.Proofs.Tryd.prog Go.Proofs.Tryd.f7.results.toList = some [RV.t 2] := by kernel_rfl

theorem e7 {args : List Value} {h : Hp} {Q : Value → Hp → Prop} (hl : Nat.ble args.length 308 = true) (hk : codeK PR none c7 (retK Q [RV.t 2]) (fun _ _ _ _ => False) (retK Q [RV.t 2]) (argsE 0 args) [] h) : Ok PR 7 args h Q :=
  Ok.of mixed Go.Proofs.Tryd.func7 rfl k7 r7 hl hk

def c8 : IC := IC.seq (IC.ops [I.mk none (some 2) (Ef.pr Pr.mv) [X.c (Value.bool false)]]) 
  (IC.seq (IC.ops [I.mk none (some 24) (Ef.pr (Pr.bld [Value.int IntKind.i64 0, Value.int IntKind.i64 0, Value.int IntKind.i64 0, Value.int IntKind.i64 0] [(0, 1), (1, 1), (2, 1), (3, 1)])) [X.c (Value.int IntKind.i64 3), X.c (Value.int IntKind.i64 1), X.c (Value.int IntKind.i64 9), X.c (Value.int IntKind.i64 7)], I.mk none (some 25) (Ef.call 10) [X.t 24], I.mk none (some 3) (Ef.pr Pr.mv) [X.t 25]]) 
  (IC.seq 
  (IC.seq (IC.ops [I.mk none (some 26) (Ef.pr Pr.mv) [X.t 3], I.mk none (some 27) (Ef.pr (Pr.eq false (EqT.one EqS.p))) [X.t 26, X.c (Value.pointer none)]]) 
  (IC.cond (X.t 27) 
  (IC.seq (IC.ops [I.mk none (some 2) (Ef.pr Pr.mv) [X.c (Value.bool false)]]) IC.ret) IC.skip)) 
  (IC.seq 
  (IC.seq (IC.ops [I.mk none (some 4) (Ef.pr Pr.mv) [X.c (Value.int IntKind.i64 0)]]) 
  (IC.block 0 
  (IC.loop 
  (IC.seq 
  (IC.seq (IC.ops [I.mk none (some 28) (Ef.pr Pr.mv) [X.t 4], I.mk none (some 29) (Ef.pr Pr.mv) [X.t 0], I.mk none (some 30) (Ef.pr Pr.lenS) [X.t 29], I.mk none (some 31) (Ef.pr (Pr.cm BinOp.lss)) [X.t 28, X.t 30], I.mk none (some 32) (Ef.pr Pr.mv) [X.t 31], I.mk (some (32, true)) (some 33) (Ef.pr Pr.mv) [X.t 4], I.mk (some (32, true)) (some 34) (Ef.pr (Pr.cm BinOp.lss)) [X.t 33, X.c (Value.int IntKind.i64 1024)], I.mk none (some 35) (Ef.pr Pr.pick) [X.t 32, X.t 34, X.c (Value.bool false)]]) 
  (IC.cond (X.t 35) IC.skip (IC.exit 0))) 
  (IC.seq 
  (IC.block 1 (IC.ops [I.mk none (some 38) (Ef.pr Pr.mv) [X.t 3], I.mk none (some 39) (Ef.pr Pr.mv) [X.t 0], I.mk none (some 40) (Ef.pr Pr.mv) [X.t 4], I.mk none (some 41) (Ef.pr (Pr.iaS 12)) [X.t 39, X.t 40], I.mk none (some 42) (Ef.pr (Pr.ld 12 true)) [X.t 41], I.mk none (some 43) (Ef.call 17) [X.t 38, X.t 42]])) (IC.ops [I.mk none (some 36) (Ef.pr Pr.mv) [X.t 4], I.mk none (some 37) (Ef.pr (Pr.ar BinOp.add)) [X.t 36, X.c (Value.int IntKind.i64 1)], I.mk none (some 4) (Ef.pr Pr.mv) [X.t 37]])))))) 
  (IC.seq (IC.ops [I.mk none (some 44) (Ef.pr Pr.mv) [X.t 3], I.mk none (some 45) (Ef.call 15) [X.t 44], I.mk none (some 5) (Ef.pr Pr.mv) [X.t 45]]) 
  (IC.seq 
  (IC.seq (IC.ops [I.mk none (some 6) (Ef.pr Pr.mv) [X.c (Value.int IntKind.i64 0)]]) 
  (IC.block 2 
  (IC.loop 
  (IC.seq 
  (IC.seq (IC.ops [I.mk none (some 46) (Ef.pr Pr.mv) [X.t 6], I.mk none (some 47) (Ef.pr (Pr.cm BinOp.lss)) [X.t 46, X.c (Value.int IntKind.i64 16)]]) 
  (IC.cond (X.t 47) IC.skip (IC.exit 2))) 
  (IC.seq 
  (IC.block 3 
  (IC.seq (IC.ops [I.mk none (some 51) (Ef.pr Pr.mv) [X.t 3], I.mk none (some 52) (Ef.pr Pr.mv) [X.t 6], I.mk none (some 53) (Ef.call 23) [X.t 51, X.t 52], I.mk none (some 50) (Ef.pr Pr.mv) [X.t 53], I.mk none (some 54) (Ef.pr (Pr.ext 0)) [X.t 50], I.mk none (some 55) (Ef.pr (Pr.ext 1)) [X.t 50], I.mk none (some 7) (Ef.pr Pr.mv) [X.t 54], I.mk none (some 8) (Ef.pr Pr.mv) [X.t 55]]) 
  (IC.seq (IC.ops [I.mk none (some 9) (Ef.al [Value.int IntKind.i64 0, Value.int IntKind.i64 0, Value.int IntKind.i64 0, Value.int IntKind.i64 0]) []]) 
  (IC.seq 
  (IC.seq (IC.ops [I.mk none (some 10) (Ef.pr Pr.mv) [X.c (Value.int IntKind.i64 0)]]) 
  (IC.block 4 
  (IC.loop 
  (IC.seq 
  (IC.seq (IC.ops [I.mk none (some 56) (Ef.pr Pr.mv) [X.t 10], I.mk none (some 57) (Ef.pr Pr.mv) [X.t 7], I.mk none (some 58) (Ef.pr Pr.lenS) [X.t 57], I.mk none (some 59) (Ef.pr (Pr.cm BinOp.lss)) [X.t 56, X.t 58]]) 
  (IC.cond (X.t 59) IC.skip (IC.exit 4))) 
  (IC.seq 
  (IC.block 5 
  (IC.seq (IC.ops [I.mk none (some 62) (Ef.pr Pr.mv) [X.t 7], I.mk none (some 63) (Ef.pr Pr.mv) [X.t 10], I.mk none (some 64) (Ef.pr (Pr.iaS 6)) [X.t 62, X.t 63], I.mk none (some 65) (Ef.pr (Pr.ld 6 true)) [X.t 64], I.mk none (some 11) (Ef.al [Value.int IntKind.i64 0, Value.int IntKind.i64 0, Value.int IntKind.i64 0, Value.int IntKind.i64 0, Value.int IntKind.i64 0, Value.int IntKind.i64 0]) [], I.mk none none (Ef.st 6) [X.t 11, X.t 65]]) 
  (IC.seq (IC.ops [I.mk none (some 67) (Ef.pr Pr.mv) [X.t 3], I.mk none (some 68) (Ef.pr Pr.mv) [X.t 6], I.mk none (some 69) (Ef.pr (Pr.fa 1)) [X.t 11], I.mk none (some 70) (Ef.pr (Pr.ld 1 false)) [X.t 69], I.mk none (some 71) (Ef.call 19) [X.t 67, X.t 68, X.t 70], I.mk none (some 66) (Ef.pr Pr.mv) [X.t 71], I.mk none (some 72) (Ef.pr (Pr.ext 0)) [X.t 66], I.mk none (some 73) (Ef.pr (Pr.ext 1)) [X.t 66], I.mk none (some 12) (Ef.al [Value.int IntKind.i64 0, Value.int IntKind.i64 0, Value.int IntKind.i64 0, Value.int IntKind.i64 0]) [], I.mk none none (Ef.st 4) [X.t 12, X.t 72], I.mk none (some 13) (Ef.pr Pr.mv) [X.t 73]]) 
  (IC.seq 
  (IC.seq (IC.plan (Plan.q (I.mk none (some 74) (Ef.pr (Pr.ld 4 true)) [X.t 12]) (Plan.q (I.mk none (some 75) (Ef.pr (Pr.fa 2)) [X.t 11]) (Plan.q (I.mk none (some 76) (Ef.pr (Pr.ld 4 true)) [X.t 75]) (Plan.q (I.mk none (some 77) (Ef.pr (Pr.eq true (EqT.ag [(0, EqS.i), (1, EqS.i), (2, EqS.i), (3, EqS.i)]))) [X.t 74, X.t 76]) (Plan.q (I.mk none (some 78) (Ef.pr Pr.mv) [X.t 77]) (Plan.q (I.mk (some (78, false)) (some 79) (Ef.pr Pr.mv) [X.t 13]) (Plan.q (I.mk (some (78, false)) (some 80) (Ef.pr (Pr.cm BinOp.neq)) [X.t 79, X.c (Value.int IntKind.i64 0)]) (Plan.q (I.mk none (some 81) (Ef.pr Pr.pick) [X.t 78, X.c (Value.bool true), X.t 80]) (Plan.q (I.mk none (some 82) (Ef.pr Pr.mv) [X.t 81]) (Plan.q (I.mk (some (82, false)) (some 83) (Ef.pr (Pr.fa 0)) [X.t 11]) (Plan.q (I.mk (some (82, false)) (some 84) (Ef.pr (Pr.ld 1 false)) [X.t 83]) (Plan.q (I.mk (some (82, false)) (some 85) (Ef.pr Pr.mv) [X.t 6]) (Plan.q (I.mk (some (82, false)) (some 86) (Ef.pr (Pr.cm BinOp.neq)) [X.t 84, X.t 85]) (Plan.q (I.mk none (some 87) (Ef.pr Pr.pick) [X.t 82, X.c (Value.bool true), X.t 86]) (Plan.q (I.mk none (some 88) (Ef.pr Pr.mv) [X.t 87]) (Plan.q (I.mk (some (88, false)) (some 89) (Ef.pr (Pr.fa 0)) [X.t 12]) (Plan.q (I.mk (some (88, false)) (some 90) (Ef.pr (Pr.ld 1 false)) [X.t 89]) (Plan.q (I.mk (some (88, false)) (some 91) (Ef.pr (Pr.cm BinOp.lss)) [X.t 90, X.c (Value.int IntKind.i64 1)]) (Plan.q (I.mk none (some 92) (Ef.pr Pr.pick) [X.t 88, X.c (Value.bool true), X.t 91]) (Plan.q (I.mk none (some 93) (Ef.pr Pr.mv) [X.t 92]) (Plan.q (I.mk (some (93, false)) (some 94) (Ef.pr (Pr.fa 0)) [X.t 12]) (Plan.q (I.mk (some (93, false)) (some 95) (Ef.pr (Pr.ld 1 false)) [X.t 94]) (Plan.q (I.mk (some (93, false)) (some 96) (Ef.pr (Pr.cm BinOp.gtr)) [X.t 95, X.c (Value.int IntKind.i64 3)]) (Plan.q (I.mk none (some 97) (Ef.pr Pr.pick) [X.t 93, X.c (Value.bool true), X.t 96]) (Plan.q (I.mk none (some 98) (Ef.pr Pr.mv) [X.t 97]) (Plan.q (I.mk (some (98, false)) (some 99) (Ef.pr Pr.mv) [X.t 10]) (Plan.q (I.mk (some (98, false)) (some 100) (Ef.pr (Pr.cm BinOp.gtr)) [X.t 99, X.c (Value.int IntKind.i64 0)]) (Plan.q (I.mk (some (98, false)) (some 101) (Ef.pr Pr.mv) [X.t 100]) (Plan.q (I.mk (some (101, true)) (some 102) (Ef.pr Pr.mv) [X.t 7]) (Plan.q (I.mk (some (101, true)) (some 103) (Ef.pr Pr.mv) [X.t 10]) (Plan.q (I.mk (some (101, true)) (some 104) (Ef.pr (Pr.ar BinOp.sub)) [X.t 103, X.c (Value.int IntKind.i64 1)]) (Plan.q (I.mk (some (101, true)) (some 105) (Ef.pr (Pr.iaS 6)) [X.t 102, X.t 104]) (Plan.q (I.mk (some (101, true)) (some 106) (Ef.pr (Pr.fa 1)) [X.t 105]) (Plan.q (I.mk (some (101, true)) (some 107) (Ef.pr (Pr.ld 1 false)) [X.t 106]) (Plan.q (I.mk (some (101, true)) (some 108) (Ef.pr (Pr.fa 1)) [X.t 11]) (Plan.q (I.mk (some (101, true)) (some 109) (Ef.pr (Pr.ld 1 false)) [X.t 108]) (Plan.q (I.mk (some (101, true)) (some 110) (Ef.pr (Pr.cm BinOp.geq)) [X.t 107, X.t 109]) (Plan.q (I.mk (some (98, false)) (some 111) (Ef.pr Pr.pick) [X.t 101, X.t 110, X.c (Value.bool false)]) (Plan.q (I.mk none (some 112) (Ef.pr Pr.pick) [X.t 98, X.c (Value.bool true), X.t 111]) Plan.done)))))))))))))))))))))))))))))))))))))))) 
  (IC.cond (X.t 112) 
  (IC.seq (IC.ops [I.mk none (some 2) (Ef.pr Pr.mv) [X.c (Value.bool false)]]) IC.ret) IC.skip)) 
  (IC.seq (IC.ops [I.mk none (some 113) (Ef.pr (Pr.fa 0)) [X.t 12], I.mk none (some 114) (Ef.pr (Pr.ld 1 false)) [X.t 113], I.mk none (some 115) (Ef.pr (Pr.iaA 4 1)) [X.t 9, X.t 114], I.mk none (some 116) (Ef.pr (Pr.ld 1 false)) [X.t 115], I.mk none (some 117) (Ef.pr (Pr.ar BinOp.add)) [X.t 116, X.c (Value.int IntKind.i64 1)], I.mk none (some 118) (Ef.pr (Pr.iaA 4 1)) [X.t 9, X.t 114], I.mk none none (Ef.st 1) [X.t 118, X.t 117]]) 
  (IC.seq (IC.ops [I.mk none (some 119) (Ef.pr Pr.mv) [X.t 3], I.mk none (some 120) (Ef.pr Pr.mv) [X.t 6], I.mk none (some 121) (Ef.pr (Pr.fa 0)) [X.t 12], I.mk none (some 122) (Ef.pr (Pr.ld 1 false)) [X.t 121], I.mk none (some 123) (Ef.pr (Pr.fa 2)) [X.t 12], I.mk none (some 124) (Ef.pr (Pr.ld 1 false)) [X.t 123], I.mk none (some 125) (Ef.pr (Pr.fa 3)) [X.t 12], I.mk none (some 126) (Ef.pr (Pr.ld 1 false)) [X.t 125], I.mk none (some 127) (Ef.call 27) [X.t 119, X.t 120, X.t 122, X.t 124, X.t 126], I.mk none (some 14) (Ef.pr Pr.mv) [X.t 127]]) 
  (IC.seq (IC.ops [I.mk none (some 129) (Ef.pr Pr.mv) [X.t 7], I.mk none (some 130) (Ef.pr Pr.mv) [X.t 6], I.mk none (some 131) (Ef.pr Pr.mv) [X.t 14], I.mk none (some 132) (Ef.pr (Pr.bld [Value.int IntKind.i64 0, Value.int IntKind.i64 0] [(0, 1), (1, 1)])) [X.t 130, X.t 131], I.mk none (some 133) (Ef.call 22) [X.t 129, X.t 132], I.mk none (some 128) (Ef.pr Pr.mv) [X.t 133], I.mk none (some 134) (Ef.pr (Pr.ext 0)) [X.t 128], I.mk none (some 135) (Ef.pr (Pr.ext 1)) [X.t 128], I.mk none (some 15) (Ef.al [Value.int IntKind.i64 0, Value.int IntKind.i64 0, Value.int IntKind.i64 0, Value.int IntKind.i64 0, Value.int IntKind.i64 0, Value.int IntKind.i64 0]) [], I.mk none none (Ef.st 6) [X.t 15, X.t 134], I.mk none (some 16) (Ef.pr Pr.mv) [X.t 135]]) 
  (IC.seq (IC.ops [I.mk none (some 136) (Ef.pr Pr.mv) [X.t 16], I.mk none (some 137) (Ef.pr (Pr.un UnOp.not)) [X.t 136], I.mk none (some 138) (Ef.pr Pr.mv) [X.t 137], I.mk (some (138, false)) (some 139) (Ef.pr Pr.mv) [X.t 14], I.mk (some (138, false)) (some 140) (Ef.pr (Pr.fa 1)) [X.t 11], I.mk (some (138, false)) (some 141) (Ef.pr (Pr.ld 1 false)) [X.t 140], I.mk (some (138, false)) (some 142) (Ef.pr (Pr.cm BinOp.gtr)) [X.t 139, X.t 141], I.mk none (some 143) (Ef.pr Pr.pick) [X.t 138, X.c (Value.bool true), X.t 142], I.mk none (some 144) (Ef.pr Pr.mv) [X.t 143], I.mk (some (144, false)) (some 145) (Ef.pr (Pr.fa 2)) [X.t 15], I.mk (some (144, false)) (some 146) (Ef.pr (Pr.fa 0)) [X.t 145], I.mk (some (144, false)) (some 147) (Ef.pr (Pr.ld 1 false)) [X.t 146], I.mk (some (144, false)) (some 148) (Ef.pr (Pr.fa 0)) [X.t 12], I.mk (some (144, false)) (some 149) (Ef.pr (Pr.ld 1 false)) [X.t 148], I.mk (some (144, false)) (some 150) (Ef.pr (Pr.cm BinOp.neq)) [X.t 147, X.t 149], I.mk none (some 151) (Ef.pr Pr.pick) [X.t 144, X.c (Value.bool true), X.t 150], I.mk none (some 152) (Ef.pr Pr.mv) [X.t 151], I.mk (some (152, false)) (some 153) (Ef.pr (Pr.fa 2)) [X.t 15], I.mk (some (152, false)) (some 154) (Ef.pr (Pr.fa 2)) [X.t 153], I.mk (some (152, false)) (some 155) (Ef.pr (Pr.ld 1 false)) [X.t 154], I.mk (some (152, false)) (some 156) (Ef.pr (Pr.fa 2)) [X.t 12], I.mk (some (152, false)) (some 157) (Ef.pr (Pr.ld 1 false)) [X.t 156], I.mk (some (152, false)) (some 158) (Ef.pr (Pr.cm BinOp.neq)) [X.t 155, X.t 157], I.mk none (some 159) (Ef.pr Pr.pick) [X.t 152, X.c (Value.bool true), X.t 158], I.mk none (some 160) (Ef.pr Pr.mv) [X.t 159], I.mk (some (160, false)) (some 161) (Ef.pr (Pr.fa 2)) [X.t 15], I.mk (some (160, false)) (some 162) (Ef.pr (Pr.fa 3)) [X.t 161], I.mk (some (160, false)) (some 163) (Ef.pr (Pr.ld 1 false)) [X.t 162], I.mk (some (160, false)) (some 164) (Ef.pr (Pr.fa 3)) [X.t 12], I.mk (some (160, false)) (some 165) (Ef.pr (Pr.ld 1 false)) [X.t 164], I.mk (some (160, false)) (some 166) (Ef.pr (Pr.bt BinOp.and)) [X.t 163, X.t 165], I.mk (some (160, false)) (some 167) (Ef.pr (Pr.fa 3)) [X.t 12], I.mk (some (160, false)) (some 168) (Ef.pr (Pr.ld 1 false)) [X.t 167], I.mk (some (160, false)) (some 169) (Ef.pr (Pr.cm BinOp.neq)) [X.t 166, X.t 168], I.mk none (some 170) (Ef.pr Pr.pick) [X.t 160, X.c (Value.bool true), X.t 169]]) 
  (IC.cond (X.t 170) 
  (IC.seq (IC.ops [I.mk none (some 2) (Ef.pr Pr.mv) [X.c (Value.bool false)]]) IC.ret) IC.skip))))))))) (IC.ops [I.mk none (some 60) (Ef.pr Pr.mv) [X.t 10], I.mk none (some 61) (Ef.pr (Pr.ar BinOp.add)) [X.t 60, X.c (Value.int IntKind.i64 1)], I.mk none (some 10) (Ef.pr Pr.mv) [X.t 61]])))))) 
  (IC.seq (IC.plan (Plan.q (I.mk none (some 171) (Ef.pr Pr.mv) [X.t 8]) (Plan.q (I.mk none (some 172) (Ef.pr (Pr.cm BinOp.eql)) [X.t 171, X.c (Value.int IntKind.i64 0)]) (Plan.q (I.mk none (some 173) (Ef.pr Pr.mv) [X.t 172]) (Plan.q (I.mk (some (173, true)) (some 174) (Ef.pr Pr.mv) [X.t 3]) (Plan.q (I.mk (some (173, true)) (some 175) (Ef.pr Pr.mv) [X.t 6]) (Plan.q (I.mk (some (173, true)) (some 177) (Ef.pr Pr.mv) [X.t 7]) (Plan.q (I.mk (some (173, true)) (some 178) (Ef.pr Pr.lenS) [X.t 177]) (Plan.q (I.mk (some (173, true)) (some 179) (Ef.pr (Pr.ar BinOp.sub)) [X.c (Value.int IntKind.i64 48), X.t 178]) (Plan.br (PlanL.cons false true (I.mk (some (173, true)) (some 176) (Ef.call 28) [X.t 174, X.t 175]) (Plan.q (I.mk (some (173, true)) (some 180) (Ef.pr (Pr.cm BinOp.neq)) [X.t 176, X.t 179]) (Plan.q (I.mk none (some 181) (Ef.pr Pr.pick) [X.t 173, X.t 180, X.c (Value.bool false)]) (Plan.q (I.mk none (some 182) (Ef.pr Pr.mv) [X.t 181]) (Plan.q (I.mk (some (182, false)) (some 183) (Ef.pr Pr.mv) [X.t 3]) (Plan.q (I.mk (some (182, false)) (some 184) (Ef.pr Pr.mv) [X.t 6]) (Plan.q (I.mk (some (182, false)) (some 186) (Ef.pr (Pr.iaA 4 1)) [X.t 9, X.c (Value.int IntKind.i64 1)]) (Plan.q (I.mk (some (182, false)) (some 187) (Ef.pr (Pr.ld 1 false)) [X.t 186]) (Plan.br (PlanL.cons true true (I.mk (some (182, false)) (some 185) (Ef.call 29) [X.t 183, X.t 184, X.c (Value.int IntKind.i64 1)]) (Plan.q (I.mk (some (182, false)) (some 188) (Ef.pr (Pr.cm BinOp.neq)) [X.t 185, X.t 187]) (Plan.q (I.mk none (some 189) (Ef.pr Pr.pick) [X.t 182, X.c (Value.bool true), X.t 188]) (Plan.q (I.mk none (some 190) (Ef.pr Pr.mv) [X.t 189]) (Plan.q (I.mk (some (190, false)) (some 191) (Ef.pr Pr.mv) [X.t 3]) (Plan.q (I.mk (some (190, false)) (some 192) (Ef.pr Pr.mv) [X.t 6]) (Plan.q (I.mk (some (190, false)) (some 194) (Ef.pr (Pr.iaA 4 1)) [X.t 9, X.c (Value.int IntKind.i64 2)]) (Plan.q (I.mk (some (190, false)) (some 195) (Ef.pr (Pr.ld 1 false)) [X.t 194]) (Plan.br (PlanL.cons true true (I.mk (some (190, false)) (some 193) (Ef.call 29) [X.t 191, X.t 192, X.c (Value.int IntKind.i64 2)]) (Plan.q (I.mk (some (190, false)) (some 196) (Ef.pr (Pr.cm BinOp.neq)) [X.t 193, X.t 195]) (Plan.q (I.mk none (some 197) (Ef.pr Pr.pick) [X.t 190, X.c (Value.bool true), X.t 196]) (Plan.q (I.mk none (some 198) (Ef.pr Pr.mv) [X.t 197]) (Plan.q (I.mk (some (198, false)) (some 199) (Ef.pr Pr.mv) [X.t 3]) (Plan.q (I.mk (some (198, false)) (some 200) (Ef.pr Pr.mv) [X.t 6]) (Plan.q (I.mk (some (198, false)) (some 202) (Ef.pr (Pr.iaA 4 1)) [X.t 9, X.c (Value.int IntKind.i64 3)]) (Plan.q (I.mk (some (198, false)) (some 203) (Ef.pr (Pr.ld 1 false)) [X.t 202]) (Plan.br (PlanL.cons true false (I.mk (some (198, false)) (some 201) (Ef.call 29) [X.t 199, X.t 200, X.c (Value.int IntKind.i64 3)]) (Plan.q (I.mk (some (198, false)) (some 204) (Ef.pr (Pr.cm BinOp.neq)) [X.t 201, X.t 203]) (Plan.q (I.mk none (some 205) (Ef.pr Pr.pick) [X.t 198, X.c (Value.bool true), X.t 204]) Plan.done)) PlanL.nil))))))))) PlanL.nil))))))))) PlanL.nil))))))))) PlanL.nil))))))))))) 
  (IC.cond (X.t 205) 
  (IC.seq (IC.ops [I.mk none (some 2) (Ef.pr Pr.mv) [X.c (Value.bool false)]]) IC.ret) IC.skip)))))) (IC.ops [I.mk none (some 48) (Ef.pr Pr.mv) [X.t 6], I.mk none (some 49) (Ef.pr (Pr.ar BinOp.add)) [X.t 48, X.c (Value.int IntKind.i64 1)], I.mk none (some 6) (Ef.pr Pr.mv) [X.t 49]])))))) 
  (IC.seq 
  (IC.seq (IC.ops [I.mk none (some 17) (Ef.pr Pr.mv) [X.c (Value.int IntKind.i64 0)]]) 
  (IC.block 6 
  (IC.loop 
  (IC.seq 
  (IC.seq (IC.ops [I.mk none (some 206) (Ef.pr Pr.mv) [X.t 17], I.mk none (some 207) (Ef.pr Pr.mv) [X.t 5], I.mk none (some 208) (Ef.pr Pr.lenS) [X.t 207], I.mk none (some 209) (Ef.pr (Pr.cm BinOp.lss)) [X.t 206, X.t 208]]) 
  (IC.cond (X.t 209) IC.skip (IC.exit 6))) 
  (IC.seq 
  (IC.block 7 
  (IC.seq (IC.ops [I.mk none (some 18) (Ef.pr Pr.mv) [X.c (Value.int IntKind.i64 0)]]) 
  (IC.seq 
  (IC.seq (IC.ops [I.mk none (some 19) (Ef.pr Pr.mv) [X.c (Value.int IntKind.i64 0)]]) 
  (IC.block 8 
  (IC.loop 
  (IC.seq 
  (IC.seq (IC.ops [I.mk none (some 212) (Ef.pr Pr.mv) [X.t 19], I.mk none (some 213) (Ef.pr Pr.mv) [X.t 5], I.mk none (some 214) (Ef.pr Pr.lenS) [X.t 213], I.mk none (some 215) (Ef.pr (Pr.cm BinOp.lss)) [X.t 212, X.t 214]]) 
  (IC.cond (X.t 215) IC.skip (IC.exit 8))) 
  (IC.seq 
  (IC.block 9 
  (IC.seq (IC.plan (Plan.q (I.mk none (some 218) (Ef.pr Pr.mv) [X.t 5]) (Plan.q (I.mk none (some 219) (Ef.pr Pr.mv) [X.t 19]) (Plan.q (I.mk none (some 220) (Ef.pr (Pr.iaS 6)) [X.t 218, X.t 219]) (Plan.q (I.mk none (some 221) (Ef.pr (Pr.fa 2)) [X.t 220]) (Plan.q (I.mk none (some 222) (Ef.pr (Pr.fa 0)) [X.t 221]) (Plan.q (I.mk none (some 223) (Ef.pr (Pr.ld 1 false)) [X.t 222]) (Plan.q (I.mk none (some 224) (Ef.pr Pr.mv) [X.t 5]) (Plan.q (I.mk none (some 225) (Ef.pr Pr.mv) [X.t 17]) (Plan.q (I.mk none (some 226) (Ef.pr (Pr.iaS 6)) [X.t 224, X.t 225]) (Plan.q (I.mk none (some 227) (Ef.pr (Pr.fa 2)) [X.t 226]) (Plan.q (I.mk none (some 228) (Ef.pr (Pr.fa 0)) [X.t 227]) (Plan.q (I.mk none (some 229) (Ef.pr (Pr.ld 1 false)) [X.t 228]) (Plan.q (I.mk none (some 230) (Ef.pr (Pr.cm BinOp.eql)) [X.t 223, X.t 229]) (Plan.q (I.mk none (some 231) (Ef.pr Pr.mv) [X.t 230]) (Plan.q (I.mk (some (231, true)) (some 232) (Ef.pr Pr.mv) [X.t 5]) (Plan.q (I.mk (some (231, true)) (some 233) (Ef.pr Pr.mv) [X.t 19]) (Plan.q (I.mk (some (231, true)) (some 234) (Ef.pr (Pr.iaS 6)) [X.t 232, X.t 233]) (Plan.q (I.mk (some (231, true)) (some 235) (Ef.pr (Pr.fa 2)) [X.t 234]) (Plan.q (I.mk (some (231, true)) (some 236) (Ef.pr (Pr.fa 1)) [X.t 235]) (Plan.q (I.mk (some (231, true)) (some 237) (Ef.pr (Pr.ld 1 false)) [X.t 236]) (Plan.q (I.mk (some (231, true)) (some 238) (Ef.pr Pr.mv) [X.t 5]) (Plan.q (I.mk (some (231, true)) (some 239) (Ef.pr Pr.mv) [X.t 17]) (Plan.q (I.mk (some (231, true)) (some 240) (Ef.pr (Pr.iaS 6)) [X.t 238, X.t 239]) (Plan.q (I.mk (some (231, true)) (some 241) (Ef.pr (Pr.fa 2)) [X.t 240]) (Plan.q (I.mk (some (231, true)) (some 242) (Ef.pr (Pr.fa 1)) [X.t 241]) (Plan.q (I.mk (some (231, true)) (some 243) (Ef.pr (Pr.ld 1 false)) [X.t 242]) (Plan.q (I.mk (some (231, true)) (some 244) (Ef.pr (Pr.cm BinOp.eql)) [X.t 237, X.t 243]) (Plan.q (I.mk none (some 245) (Ef.pr Pr.pick) [X.t 231, X.t 244, X.c (Value.bool false)]) Plan.done))))))))))))))))))))))))))))) 
  (IC.cond (X.t 245) (IC.ops [I.mk none (some 246) (Ef.pr Pr.mv) [X.t 18], I.mk none (some 247) (Ef.pr (Pr.ar BinOp.add)) [X.t 246, X.c (Value.int IntKind.i64 1)], I.mk none (some 18) (Ef.pr Pr.mv) [X.t 247]]) IC.skip))) (IC.ops [I.mk none (some 216) (Ef.pr Pr.mv) [X.t 19], I.mk none (some 217) (Ef.pr (Pr.ar BinOp.add)) [X.t 216, X.c (Value.int IntKind.i64 1)], I.mk none (some 19) (Ef.pr Pr.mv) [X.t 217]])))))) 
  (IC.seq (IC.plan (Plan.q (I.mk none (some 248) (Ef.pr Pr.mv) [X.t 3]) (Plan.q (I.mk none (some 249) (Ef.pr Pr.mv) [X.t 5]) (Plan.q (I.mk none (some 250) (Ef.pr Pr.mv) [X.t 17]) (Plan.q (I.mk none (some 251) (Ef.pr (Pr.iaS 6)) [X.t 249, X.t 250]) (Plan.q (I.mk none (some 252) (Ef.pr (Pr.fa 2)) [X.t 251]) (Plan.q (I.mk none (some 253) (Ef.pr (Pr.fa 0)) [X.t 252]) (Plan.q (I.mk none (some 254) (Ef.pr (Pr.ld 1 false)) [X.t 253]) (Plan.q (I.mk none (some 255) (Ef.pr Pr.mv) [X.t 5]) (Plan.q (I.mk none (some 256) (Ef.pr Pr.mv) [X.t 17]) (Plan.q (I.mk none (some 257) (Ef.pr (Pr.iaS 6)) [X.t 255, X.t 256]) (Plan.q (I.mk none (some 258) (Ef.pr (Pr.fa 2)) [X.t 257]) (Plan.q (I.mk none (some 259) (Ef.pr (Pr.fa 1)) [X.t 258]) (Plan.q (I.mk none (some 260) (Ef.pr (Pr.ld 1 false)) [X.t 259]) (Plan.q (I.mk none (some 262) (Ef.pr Pr.mv) [X.t 18]) (Plan.br (PlanL.cons false false (I.mk none (some 261) (Ef.call 30) [X.t 248, X.t 254, X.t 260]) (Plan.q (I.mk none (some 263) (Ef.pr (Pr.cm BinOp.neq)) [X.t 261, X.t 262]) Plan.done) PlanL.nil))))))))))))))))) 
  (IC.cond (X.t 263) 
  (IC.seq (IC.ops [I.mk none (some 2) (Ef.pr Pr.mv) [X.c (Value.bool false)]]) IC.ret) IC.skip))))) (IC.ops [I.mk none (some 210) (Ef.pr Pr.mv) [X.t 17], I.mk none (some 211) (Ef.pr (Pr.ar BinOp.add)) [X.t 210, X.c (Value.int IntKind.i64 1)], I.mk none (some 17) (Ef.pr Pr.mv) [X.t 211]])))))) 
  (IC.seq (IC.ops [I.mk none (some 265) (Ef.pr Pr.mv) [X.t 3], I.mk none (some 266) (Ef.call 19) [X.t 265, X.c (Value.int IntKind.i64 0), X.c (Value.int IntKind.i64 0)], I.mk none (some 264) (Ef.pr Pr.mv) [X.t 266], I.mk none (some 267) (Ef.pr (Pr.ext 0)) [X.t 264], I.mk none (some 268) (Ef.pr (Pr.ext 1)) [X.t 264], I.mk none (some 20) (Ef.al [Value.int IntKind.i64 0, Value.int IntKind.i64 0, Value.int IntKind.i64 0, Value.int IntKind.i64 0]) [], I.mk none none (Ef.st 4) [X.t 20, X.t 267], I.mk none (some 21) (Ef.pr Pr.mv) [X.t 268]]) 
  (IC.seq (IC.ops [I.mk none (some 270) (Ef.pr Pr.mv) [X.t 5], I.mk none (some 271) (Ef.pr (Pr.bld [Value.int IntKind.i64 0, Value.int IntKind.i64 0] [(0, 1), (1, 1)])) [X.c (Value.int IntKind.i64 0), X.c (Value.int IntKind.i64 0)], I.mk none (some 272) (Ef.call 22) [X.t 270, X.t 271], I.mk none (some 269) (Ef.pr Pr.mv) [X.t 272], I.mk none (some 273) (Ef.pr (Pr.ext 0)) [X.t 269], I.mk none (some 274) (Ef.pr (Pr.ext 1)) [X.t 269], I.mk none (some 22) (Ef.al [Value.int IntKind.i64 0, Value.int IntKind.i64 0, Value.int IntKind.i64 0, Value.int IntKind.i64 0, Value.int IntKind.i64 0, Value.int IntKind.i64 0]) [], I.mk none none (Ef.st 6) [X.t 22, X.t 273], I.mk none (some 23) (Ef.pr Pr.mv) [X.t 274]]) 
  (IC.seq (IC.ops [I.mk none (some 275) (Ef.pr Pr.mv) [X.t 21], I.mk none (some 276) (Ef.pr (Pr.cm BinOp.eql)) [X.t 275, X.c (Value.int IntKind.i64 0)], I.mk none (some 277) (Ef.pr Pr.mv) [X.t 23], I.mk none (some 278) (Ef.pr (Pr.eq false (EqT.one EqS.b))) [X.t 276, X.t 277], I.mk none (some 279) (Ef.pr Pr.mv) [X.t 278], I.mk (some (279, true)) (some 280) (Ef.pr (Pr.ld 4 true)) [X.t 20], I.mk (some (279, true)) (some 281) (Ef.pr (Pr.bld [Value.int IntKind.i64 0, Value.int IntKind.i64 0, Value.int IntKind.i64 0, Value.int IntKind.i64 0] [])) [], I.mk (some (279, true)) (some 282) (Ef.pr (Pr.eq false (EqT.ag [(0, EqS.i), (1, EqS.i), (2, EqS.i), (3, EqS.i)]))) [X.t 280, X.t 281], I.mk (some (279, true)) (some 283) (Ef.pr Pr.mv) [X.t 21], I.mk (some (279, true)) (some 284) (Ef.pr (Pr.cm BinOp.neq)) [X.t 283, X.c (Value.int IntKind.i64 0)], I.mk (some (279, true)) (some 285) (Ef.pr (Pr.eq false (EqT.one EqS.b))) [X.t 282, X.t 284], I.mk none (some 286) (Ef.pr Pr.pick) [X.t 279, X.t 285, X.c (Value.bool false)], I.mk none (some 2) (Ef.pr Pr.mv) [X.t 286]]) IC.ret)))))))))

theorem k8 : Go.Proofs.Tryd.f8.body.bind (comp Go.Proofs.Tryd.prog 287 [9, 11, 12, 15, 20, 22] []) = some c8 := by kernel_rfl

theorem r8 : cRVs Go.Proofs.Tryd.prog Go.Proofs.Tryd.f8.results.toList = some [RV.t 2] := by kernel_rfl

theorem e8 {args : List Value} {h : Hp} {Q : Value → Hp → Prop} (hl : Nat.ble args.length 287 = true) (hk : codeK PR none c8 (retK Q [RV.t 2]) (fun _ _ _ _ => False) (retK Q [RV.t 2]) (argsE 0 args) [] h) : Ok PR 8 args h Q :=
  Ok.of mixed Go.Proofs.Tryd.func8 rfl k8 r8 hl hk

def c9 : IC := IC.seq (IC.ops [I.mk none (some 2) (Ef.pr Pr.mv) [X.c (Value.bool false)]]) 
  (IC.seq (IC.ops [I.mk none (some 9) (Ef.call 31) [], I.mk none (some 3) (Ef.pr Pr.mv) [X.t 9]]) 
  (IC.seq (IC.ops [I.mk none (some 10) (Ef.call 32) [], I.mk none (some 4) (Ef.pr Pr.mv) [X.t 10]]) 
  (IC.seq (IC.ops [I.mk none (some 11) (Ef.call 31) [], I.mk none (some 5) (Ef.pr Pr.mv) [X.t 11]]) 
  (IC.seq (IC.ops [I.mk none (some 12) (Ef.call 32) [], I.mk none (some 6) (Ef.pr Pr.mv) [X.t 12]]) 
  (IC.seq 
  (IC.seq (IC.ops [I.mk none (some 13) (Ef.pr Pr.mv) [X.t 3], I.mk none (some 14) (Ef.pr (Pr.eq false (EqT.one EqS.p))) [X.t 13, X.c (Value.pointer none)], I.mk none (some 15) (Ef.pr Pr.mv) [X.t 14], I.mk (some (15, false)) (some 16) (Ef.pr Pr.mv) [X.t 5], I.mk (some (15, false)) (some 17) (Ef.pr (Pr.eq false (EqT.one EqS.p))) [X.t 16, X.c (Value.pointer none)], I.mk none (some 18) (Ef.pr Pr.pick) [X.t 15, X.c (Value.bool true), X.t 17]]) 
  (IC.cond (X.t 18) 
  (IC.seq (IC.ops [I.mk none (some 2) (Ef.pr Pr.mv) [X.c (Value.bool false)]]) IC.ret) IC.skip)) 
  (IC.seq 
  (IC.seq (IC.ops [I.mk none (some 7) (Ef.pr Pr.mv) [X.c (Value.int IntKind.i64 0)]]) 
  (IC.block 0 
  (IC.loop 
  (IC.seq 
  (IC.seq (IC.ops [I.mk none (some 19) (Ef.pr Pr.mv) [X.t 7], I.mk none (some 20) (Ef.pr Pr.mv) [X.t 0], I.mk none (some 21) (Ef.pr Pr.lenS) [X.t 20], I.mk none (some 22) (Ef.pr (Pr.cm BinOp.lss)) [X.t 19, X.t 21]]) 
  (IC.cond (X.t 22) IC.skip (IC.exit 0))) 
  (IC.seq 
  (IC.block 1 
  (IC.seq (IC.ops [I.mk none (some 25) (Ef.pr Pr.mv) [X.t 0], I.mk none (some 26) (Ef.pr Pr.mv) [X.t 7], I.mk none (some 27) (Ef.pr (Pr.iaS 12)) [X.t 25, X.t 26], I.mk none (some 28) (Ef.pr (Pr.ld 12 true)) [X.t 27], I.mk none (some 8) (Ef.al [Value.bool false, Value.int IntKind.i64 0, Value.int IntKind.i64 0, Value.int IntKind.i64 0, Value.int IntKind.i64 0, Value.int IntKind.i64 0, Value.int IntKind.i64 0, Value.int IntKind.i64 0, Value.int IntKind.i64 0, Value.int IntKind.i64 0, Value.int IntKind.i64 0, Value.slice none 0 0]) [], I.mk none none (Ef.st 12) [X.t 8, X.t 28]]) 
  (IC.seq 
  (IC.seq (IC.ops [I.mk none (some 29) (Ef.pr (Pr.fa 0)) [X.t 8], I.mk none (some 30) (Ef.pr (Pr.ld 1 false)) [X.t 29], I.mk none (some 31) (Ef.pr Pr.mv) [X.t 30], I.mk (some (31, true)) (some 32) (Ef.pr Pr.mv) [X.t 5], I.mk (some (31, true)) (some 33) (Ef.pr Pr.mv) [X.t 6], I.mk (some (31, true)) (some 34) (Ef.pr (Pr.ld 12 true)) [X.t 8], I.mk (some (31, true)) (some 35) (Ef.call 33) [X.t 32, X.t 33, X.t 34], I.mk (some (31, true)) (some 36) (Ef.pr (Pr.un UnOp.not)) [X.t 35], I.mk none (some 37) (Ef.pr Pr.pick) [X.t 31, X.t 36, X.c (Value.bool false)]]) 
  (IC.cond (X.t 37) 
  (IC.seq (IC.ops [I.mk none (some 2) (Ef.pr Pr.mv) [X.c (Value.bool false)]]) IC.ret) IC.skip)) 
  (IC.seq (IC.ops [I.mk none (some 38) (Ef.pr (Pr.fa 0)) [X.t 8], I.mk none (some 39) (Ef.pr (Pr.ld 1 false)) [X.t 38], I.mk none (some 40) (Ef.pr (Pr.un UnOp.not)) [X.t 39], I.mk none (some 41) (Ef.pr Pr.mv) [X.t 40], I.mk (some (41, true)) (some 42) (Ef.pr Pr.mv) [X.t 3], I.mk (some (41, true)) (some 43) (Ef.pr Pr.mv) [X.t 4], I.mk (some (41, true)) (some 44) (Ef.pr (Pr.ld 12 true)) [X.t 8], I.mk (some (41, true)) (some 45) (Ef.call 33) [X.t 42, X.t 43, X.t 44], I.mk (some (41, true)) (some 46) (Ef.pr (Pr.un UnOp.not)) [X.t 45], I.mk none (some 47) (Ef.pr Pr.pick) [X.t 41, X.t 46, X.c (Value.bool false)]]) 
  (IC.cond (X.t 47) 
  (IC.seq (IC.ops [I.mk none (some 2) (Ef.pr Pr.mv) [X.c (Value.bool false)]]) IC.ret) IC.skip))))) (IC.ops [I.mk none (some 23) (Ef.pr Pr.mv) [X.t 7], I.mk none (some 24) (Ef.pr (Pr.ar BinOp.add)) [X.t 23, X.c (Value.int IntKind.i64 1)], I.mk none (some 7) (Ef.pr Pr.mv) [X.t 24]])))))) 
  (IC.seq (IC.ops [I.mk none (some 48) (Ef.pr Pr.mv) [X.t 3], I.mk none (some 49) (Ef.pr Pr.mv) [X.t 4], I.mk none (some 50) (Ef.call 34) [X.t 48, X.t 49], I.mk none (some 51) (Ef.pr Pr.mv) [X.t 50], I.mk (some (51, true)) (some 52) (Ef.pr Pr.mv) [X.t 5], I.mk (some (51, true)) (some 53) (Ef.pr Pr.mv) [X.t 6], I.mk (some (51, true)) (some 54) (Ef.call 34) [X.t 52, X.t 53], I.mk none (some 55) (Ef.pr Pr.pick) [X.t 51, X.t 54, X.c (Value.bool false)], I.mk none (some 2) (Ef.pr Pr.mv) [X.t 55]]) IC.ret)))))))

theorem k9 : Go.Proofs.Tryd.f9.body.bind (comp Go.Proofs.Tryd.prog 56 [8] []) = some c9 := by kernel_rfl

theorem r9 : cRVs Go.Proofs.Tryd.prog Go.Proofs.Tryd.f9.results.toList = some [RV.t 2] := by kernel_rfl

theorem e9 {args : List Value} {h : Hp} {Q : Value → Hp → Prop} (hl : Nat.ble args.length 56 = true) (hk : codeK PR none c9 (retK Q [RV.t 2]) (fun _ _ _ _ => False) (retK Q [RV.t 2]) (argsE 0 args) [] h) : Ok PR 9 args h Q :=
  Ok.of mixed Go.Proofs.Tryd.func9 rfl k9 r9 hl hk

end Go.Proofs.YthpkgkoojhgedaaDoor.V
