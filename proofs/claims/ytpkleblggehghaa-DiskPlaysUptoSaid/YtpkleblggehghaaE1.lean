/- The functions 12, 13, 14, 15, 16, 17, 18, 19, 20, 21, 22, 23, 24, 25, 26, 27, 28, 29, resolved. -/
import Derived.Test.YtpkleblggehghaaU1
namespace Go.Proofs.Ytpkleblggehghaa.V
set_option linter.unusedVariables false
set_option linter.unusedSimpArgs false
set_option linter.unusedSectionVars false
open Go
set_option maxRecDepth 100000

def c12 : IC := IC.seq (IC.ops [I.mk none (some 4) (Ef.pr Pr.mv) [X.c (Value.int IntKind.i64 0)]]) 
  (IC.seq 
  (IC.seq (IC.ops [I.mk none (some 5) (Ef.pr Pr.mv) [X.t 1], I.mk none (some 6) (Ef.pr (Pr.cm BinOp.lss)) [X.t 5, X.c (Value.int IntKind.i64 0)]]) 
  (IC.cond (X.t 6) 
  (IC.seq (IC.ops [I.mk none (some 4) (Ef.pr Pr.mv) [X.c (Value.int IntKind.i64 1)]]) IC.ret) IC.skip)) 
  (IC.seq 
  (IC.seq (IC.ops [I.mk none (some 7) (Ef.pr Pr.mv) [X.t 0], I.mk none (some 8) (Ef.pr Pr.nilc) [X.t 7], I.mk none (some 9) (Ef.pr (Pr.fa 131075)) [X.t 8], I.mk none (some 10) (Ef.pr (Pr.ld 1 false)) [X.t 9]]) 
  (IC.cond (X.t 10) 
  (IC.seq (IC.ops [I.mk none (some 4) (Ef.pr Pr.mv) [X.c (Value.int IntKind.i64 42)]]) IC.ret) IC.skip)) 
  (IC.seq (IC.ops [I.mk none (some 11) (Ef.pr Pr.mv) [X.t 0], I.mk none (some 12) (Ef.pr Pr.mv) [X.t 0], I.mk none (some 13) (Ef.pr Pr.mv) [X.t 1], I.mk none (some 14) (Ef.pr Pr.nilc) [X.t 11], I.mk none (some 15) (Ef.pr (Pr.fa 131073)) [X.t 14], I.mk none none (Ef.st 1) [X.t 15, X.c (Value.bool true)], I.mk none (some 16) (Ef.pr Pr.nilc) [X.t 12], I.mk none (some 17) (Ef.pr (Pr.fa 131074)) [X.t 16], I.mk none none (Ef.st 1) [X.t 17, X.t 13]]) 
  (IC.seq (IC.ops [I.mk none (some 4) (Ef.pr Pr.mv) [X.c (Value.int IntKind.i64 0)]]) IC.ret))))

theorem k12 : Go.Proofs.Try.f12.body.bind (comp Go.Proofs.Try.prog 18 [] []) = some c12 := by kernel_rfl

theorem r12 : cRVs Go.Proofs.Try.prog Go.Proofs.Try.f12.results.toList = some [RV.t 4] := by kernel_rfl

theorem e12 {args : List Value} {h : Hp} {Q : Value → Hp → Prop} (hl : Nat.ble args.length 18 = true) (hk : codeK PR none c12 (retK Q [RV.t 4]) (fun _ _ _ _ => False) (retK Q [RV.t 4]) (argsE 0 args) [] h) : Ok PR 12 args h Q :=
  Ok.of mixed Go.Proofs.Try.func12 rfl k12 r12 hl hk

def c13 : IC := IC.seq (IC.ops [I.mk none (some 2) (Ef.pr Pr.mv) [X.c (Value.int IntKind.i64 0)]]) 
  (IC.seq (IC.ops [I.mk none (some 3) (Ef.pr Pr.mv) [X.t 0], I.mk none (some 4) (Ef.pr Pr.nilc) [X.t 3], I.mk none (some 5) (Ef.pr (Pr.fa 131076)) [X.t 4], I.mk none (some 6) (Ef.pr (Pr.ld 1 false)) [X.t 5], I.mk none (some 2) (Ef.pr Pr.mv) [X.t 6]]) IC.ret)

theorem k13 : Go.Proofs.Try.f13.body.bind (comp Go.Proofs.Try.prog 7 [] []) = some c13 := by kernel_rfl

theorem r13 : cRVs Go.Proofs.Try.prog Go.Proofs.Try.f13.results.toList = some [RV.t 2] := by kernel_rfl

theorem e13 {args : List Value} {h : Hp} {Q : Value → Hp → Prop} (hl : Nat.ble args.length 7 = true) (hk : codeK PR none c13 (retK Q [RV.t 2]) (fun _ _ _ _ => False) (retK Q [RV.t 2]) (argsE 0 args) [] h) : Ok PR 13 args h Q :=
  Ok.of mixed Go.Proofs.Try.func13 rfl k13 r13 hl hk

def c14 : IC := IC.seq (IC.ops [I.mk none (some 2) (Ef.pr Pr.mv) [X.c (Value.int IntKind.i64 0)]]) 
  (IC.seq 
  (IC.seq (IC.ops [I.mk none (some 3) (Ef.pr Pr.mv) [X.t 0], I.mk none (some 4) (Ef.call 44) [X.t 3], I.mk none (some 5) (Ef.pr (Pr.un UnOp.not)) [X.t 4]]) 
  (IC.cond (X.t 5) 
  (IC.seq (IC.ops [I.mk none (some 2) (Ef.pr Pr.mv) [X.c (Value.int IntKind.i64 42)]]) IC.ret) IC.skip)) 
  (IC.seq (IC.ops [I.mk none (some 6) (Ef.pr Pr.mv) [X.t 0], I.mk none (some 7) (Ef.call 45) [X.t 6, X.c (Value.func (Fn.func 46) (Array.mk []) (Array.mk []))]]) 
  (IC.seq (IC.ops [I.mk none (some 2) (Ef.pr Pr.mv) [X.c (Value.int IntKind.i64 0)]]) IC.ret)))

theorem k14 : Go.Proofs.Try.f14.body.bind (comp Go.Proofs.Try.prog 8 [] []) = some c14 := by kernel_rfl

theorem r14 : cRVs Go.Proofs.Try.prog Go.Proofs.Try.f14.results.toList = some [RV.t 2] := by kernel_rfl

theorem e14 {args : List Value} {h : Hp} {Q : Value → Hp → Prop} (hl : Nat.ble args.length 8 = true) (hk : codeK PR none c14 (retK Q [RV.t 2]) (fun _ _ _ _ => False) (retK Q [RV.t 2]) (argsE 0 args) [] h) : Ok PR 14 args h Q :=
  Ok.of mixed Go.Proofs.Try.func14 rfl k14 r14 hl hk

def c15 : IC := IC.seq (IC.ops [I.mk none (some 6) (Ef.pr Pr.mv) [X.c (Value.int IntKind.i64 0)]]) 
  (IC.seq 
  (IC.seq (IC.ops [I.mk none (some 8) (Ef.pr Pr.mv) [X.t 1], I.mk none (some 9) (Ef.call 47) [X.t 8], I.mk none (some 10) (Ef.pr (Pr.un UnOp.not)) [X.t 9]]) 
  (IC.cond (X.t 10) 
  (IC.seq (IC.ops [I.mk none (some 6) (Ef.pr Pr.mv) [X.c (Value.int IntKind.i64 40)]]) IC.ret) IC.skip)) 
  (IC.seq 
  (IC.seq (IC.ops [I.mk none (some 11) (Ef.pr Pr.mv) [X.t 2], I.mk none (some 12) (Ef.pr Pr.lenS) [X.t 11], I.mk none (some 13) (Ef.pr (Pr.cm BinOp.neq)) [X.t 12, X.c (Value.int IntKind.i64 128)]]) 
  (IC.cond (X.t 13) 
  (IC.seq (IC.ops [I.mk none (some 6) (Ef.pr Pr.mv) [X.c (Value.int IntKind.i64 41)]]) IC.ret) IC.skip)) 
  (IC.seq 
  (IC.seq (IC.ops [I.mk none (some 14) (Ef.pr Pr.mv) [X.t 0], I.mk none (some 15) (Ef.call 44) [X.t 14], I.mk none (some 16) (Ef.pr (Pr.un UnOp.not)) [X.t 15]]) 
  (IC.cond (X.t 16) 
  (IC.seq (IC.ops [I.mk none (some 6) (Ef.pr Pr.mv) [X.c (Value.int IntKind.i64 42)]]) IC.ret) IC.skip)) 
  (IC.seq (IC.ops [I.mk none (some 17) (Ef.pr Pr.mv) [X.t 1], I.mk none (some 18) (Ef.pr (Pr.bld zQ [(0, 1)])) [X.t 17], I.mk none (some 7) (Ef.alh zQ 88) [], I.mk none none (Ef.st 129) [X.t 7, X.t 18]]) 
  (IC.seq (IC.ops [I.mk none (some 19) (Ef.pr (Pr.fa 1)) [X.t 7], I.mk none (some 20) (Ef.pr (Pr.slA 128 1 false false)) [X.t 19], I.mk none (some 21) (Ef.pr Pr.mv) [X.t 2], I.mk none (some 22) (Ef.cpy 1) [X.t 20, X.t 21]]) 
  (IC.seq (IC.plan (Plan.q (I.mk none (some 23) (Ef.pr Pr.mv) [X.t 0]) (Plan.q (I.mk none (some 24) (Ef.pr Pr.mv) [X.t 0]) (Plan.q (I.mk none (some 25) (Ef.pr Pr.nilc) [X.t 24]) (Plan.q (I.mk none (some 26) (Ef.pr (Pr.fa 131072)) [X.t 25]) (Plan.q (I.mk none (some 27) (Ef.pr (Pr.ld 1 false)) [X.t 26]) (Plan.q (I.mk none (some 28) (Ef.pr (Pr.ld 129 true)) [X.t 7]) (Plan.br (PlanL.cons true false (I.mk none (some 29) (Ef.bsl zQ 88 1 129 [0]) [X.t 28]) (Plan.br (PlanL.cons false false (I.mk none (some 30) (Ef.app zQ 88 136) [X.t 27, X.t 29]) (Plan.q (I.mk none (some 31) (Ef.pr Pr.nilc) [X.t 23]) (Plan.q (I.mk none (some 32) (Ef.pr (Pr.fa 131072)) [X.t 31]) (Plan.br (PlanL.cons false false (I.mk none none (Ef.st 1) [X.t 32, X.t 30]) Plan.done PlanL.nil)))) PlanL.nil)) PlanL.nil))))))))) 
  (IC.seq (IC.ops [I.mk none (some 6) (Ef.pr Pr.mv) [X.c (Value.int IntKind.i64 0)]]) IC.ret)))))))

theorem k15 : Go.Proofs.Try.f15.body.bind (comp Go.Proofs.Try.prog 33 [] []) = some c15 := by kernel_rfl

theorem r15 : cRVs Go.Proofs.Try.prog Go.Proofs.Try.f15.results.toList = some [RV.t 6] := by kernel_rfl

theorem e15 {args : List Value} {h : Hp} {Q : Value → Hp → Prop} (hl : Nat.ble args.length 33 = true) (hk : codeK PR none c15 (retK Q [RV.t 6]) (fun _ _ _ _ => False) (retK Q [RV.t 6]) (argsE 0 args) [] h) : Ok PR 15 args h Q :=
  Ok.of mixed Go.Proofs.Try.func15 rfl k15 r15 hl hk

def c16 : IC := IC.seq (IC.ops [I.mk none (some 2) (Ef.pr Pr.mv) [X.c (Value.int IntKind.i64 0)]]) 
  (IC.seq (IC.ops [I.mk none (some 3) (Ef.pr Pr.mv) [X.t 0], I.mk none (some 4) (Ef.pr (Pr.cv IntKind.u64)) [X.t 3], I.mk none (some 5) (Ef.pr (Pr.dv BinOp.rem)) [X.t 4, X.c (Value.int IntKind.u64 1024)], I.mk none (some 6) (Ef.pr (Pr.cv IntKind.i64)) [X.t 5], I.mk none (some 2) (Ef.pr Pr.mv) [X.t 6]]) IC.ret)

theorem k16 : Go.Proofs.Try.f16.body.bind (comp Go.Proofs.Try.prog 7 [] []) = some c16 := by kernel_rfl

theorem r16 : cRVs Go.Proofs.Try.prog Go.Proofs.Try.f16.results.toList = some [RV.t 2] := by kernel_rfl

theorem e16 {args : List Value} {h : Hp} {Q : Value → Hp → Prop} (hl : Nat.ble args.length 7 = true) (hk : codeK PR none c16 (retK Q [RV.t 2]) (fun _ _ _ _ => False) (retK Q [RV.t 2]) (argsE 0 args) [] h) : Ok PR 16 args h Q :=
  Ok.of mixed Go.Proofs.Try.func16 rfl k16 r16 hl hk

def c17 : IC := IC.seq (IC.ops [I.mk none (some 2) (Ef.pr Pr.mv) [X.c (Value.slice none 0 0)]]) 
  (IC.seq (IC.ops [I.mk none (some 3) (Ef.pr Pr.mv) [X.t 0], I.mk none (some 4) (Ef.bsl [Value.int IntKind.u8 0] 5 1 1 [0]) [X.t 3], I.mk none (some 5) (Ef.call 48) [X.t 4], I.mk none (some 2) (Ef.pr Pr.mv) [X.t 5]]) IC.ret)

theorem k17 : Go.Proofs.Try.f17.body.bind (comp Go.Proofs.Try.prog 6 [] []) = some c17 := by kernel_rfl

theorem r17 : cRVs Go.Proofs.Try.prog Go.Proofs.Try.f17.results.toList = some [RV.t 2] := by kernel_rfl

theorem e17 {args : List Value} {h : Hp} {Q : Value → Hp → Prop} (hl : Nat.ble args.length 6 = true) (hk : codeK PR none c17 (retK Q [RV.t 2]) (fun _ _ _ _ => False) (retK Q [RV.t 2]) (argsE 0 args) [] h) : Ok PR 17 args h Q :=
  Ok.of mixed Go.Proofs.Try.func17 rfl k17 r17 hl hk

def c18 : IC := IC.seq (IC.ops [I.mk none (some 2) (Ef.pr Pr.mv) [X.c (Value.bool false)]]) 
  (IC.seq (IC.ops [I.mk none (some 3) (Ef.pr Pr.mv) [X.t 0], I.mk none (some 4) (Ef.pr Pr.nilc) [X.t 3], I.mk none (some 5) (Ef.pr (Pr.fa 131075)) [X.t 4], I.mk none (some 6) (Ef.pr (Pr.ld 1 false)) [X.t 5], I.mk none (some 2) (Ef.pr Pr.mv) [X.t 6]]) IC.ret)

theorem k18 : Go.Proofs.Try.f18.body.bind (comp Go.Proofs.Try.prog 7 [] []) = some c18 := by kernel_rfl

theorem r18 : cRVs Go.Proofs.Try.prog Go.Proofs.Try.f18.results.toList = some [RV.t 2] := by kernel_rfl

theorem e18 {args : List Value} {h : Hp} {Q : Value → Hp → Prop} (hl : Nat.ble args.length 7 = true) (hk : codeK PR none c18 (retK Q [RV.t 2]) (fun _ _ _ _ => False) (retK Q [RV.t 2]) (argsE 0 args) [] h) : Ok PR 18 args h Q :=
  Ok.of mixed Go.Proofs.Try.func18 rfl k18 r18 hl hk

def c19 : IC := IC.seq (IC.ops [I.mk none (some 4) (Ef.pr Pr.mv) [X.c (Value.bool false)]]) 
  (IC.seq (IC.ops [I.mk none (some 10) (Ef.pr Pr.mv) [X.t 0], I.mk none (some 11) (Ef.pr Pr.mv) [X.t 1], I.mk none (some 12) (Ef.call 22) [X.t 10, X.t 11], I.mk none (some 9) (Ef.pr Pr.mv) [X.t 12], I.mk none (some 13) (Ef.pr (Pr.ext 0)) [X.t 9], I.mk none (some 14) (Ef.pr (Pr.ext 1)) [X.t 9], I.mk none (some 5) (Ef.pr Pr.mv) [X.t 13], I.mk none (some 6) (Ef.pr Pr.mv) [X.t 14]]) 
  (IC.seq 
  (IC.seq (IC.ops [I.mk none (some 15) (Ef.pr Pr.mv) [X.t 5], I.mk none (some 16) (Ef.pr Pr.lenS) [X.t 15], I.mk none (some 17) (Ef.pr (Pr.cm BinOp.neq)) [X.t 16, X.c (Value.int IntKind.i64 0)], I.mk none (some 18) (Ef.pr Pr.mv) [X.t 17], I.mk (some (18, false)) (some 19) (Ef.pr Pr.mv) [X.t 6], I.mk (some (18, false)) (some 20) (Ef.pr (Pr.cm BinOp.neq)) [X.t 19, X.c (Value.int IntKind.i64 42)], I.mk none (some 21) (Ef.pr Pr.pick) [X.t 18, X.c (Value.bool true), X.t 20], I.mk none (some 22) (Ef.pr Pr.mv) [X.t 21], I.mk (some (22, false)) (some 23) (Ef.pr Pr.mv) [X.t 0], I.mk (some (22, false)) (some 24) (Ef.call 18) [X.t 23], I.mk (some (22, false)) (some 25) (Ef.pr (Pr.un UnOp.not)) [X.t 24], I.mk none (some 26) (Ef.pr Pr.pick) [X.t 22, X.c (Value.bool true), X.t 25]]) 
  (IC.cond (X.t 26) 
  (IC.seq (IC.ops [I.mk none (some 4) (Ef.pr Pr.mv) [X.c (Value.bool false)]]) IC.ret) IC.skip)) 
  (IC.seq 
  (IC.seq (IC.ops [I.mk none (some 27) (Ef.pr Pr.mv) [X.t 0], I.mk none (some 28) (Ef.pr Pr.mv) [X.t 1], I.mk none (some 29) (Ef.call 17) [X.c (Value.int IntKind.u8 1)], I.mk none (some 30) (Ef.call 15) [X.t 27, X.t 28, X.t 29], I.mk none (some 31) (Ef.pr (Pr.cm BinOp.neq)) [X.t 30, X.c (Value.int IntKind.i64 42)], I.mk none (some 32) (Ef.pr Pr.mv) [X.t 31], I.mk (some (32, false)) (some 33) (Ef.pr Pr.mv) [X.t 0], I.mk (some (32, false)) (some 34) (Ef.call 14) [X.t 33], I.mk (some (32, false)) (some 35) (Ef.pr (Pr.cm BinOp.neq)) [X.t 34, X.c (Value.int IntKind.i64 42)], I.mk none (some 36) (Ef.pr Pr.pick) [X.t 32, X.c (Value.bool true), X.t 35], I.mk none (some 37) (Ef.pr Pr.mv) [X.t 36], I.mk (some (37, false)) (some 38) (Ef.pr Pr.mv) [X.t 0], I.mk (some (37, false)) (some 39) (Ef.call 12) [X.t 38, X.c (Value.int IntKind.i64 3)], I.mk (some (37, false)) (some 40) (Ef.pr (Pr.cm BinOp.neq)) [X.t 39, X.c (Value.int IntKind.i64 42)], I.mk none (some 41) (Ef.pr Pr.pick) [X.t 37, X.c (Value.bool true), X.t 40]]) 
  (IC.cond (X.t 41) 
  (IC.seq (IC.ops [I.mk none (some 4) (Ef.pr Pr.mv) [X.c (Value.bool false)]]) IC.ret) IC.skip)) 
  (IC.seq (IC.ops [I.mk none (some 43) (Ef.pr Pr.mv) [X.t 0], I.mk none (some 44) (Ef.pr Pr.mv) [X.t 1], I.mk none (some 45) (Ef.call 25) [X.t 43, X.t 44], I.mk none (some 42) (Ef.pr Pr.mv) [X.t 45], I.mk none (some 46) (Ef.pr (Pr.ext 0)) [X.t 42], I.mk none (some 47) (Ef.pr (Pr.ext 1)) [X.t 42], I.mk none (some 7) (Ef.pr Pr.mv) [X.t 46], I.mk none (some 8) (Ef.pr Pr.mv) [X.t 47]]) 
  (IC.seq (IC.ops [I.mk none (some 48) (Ef.pr Pr.mv) [X.t 8], I.mk none (some 49) (Ef.pr (Pr.cm BinOp.eql)) [X.t 48, X.c (Value.int IntKind.i64 0)], I.mk none (some 50) (Ef.pr Pr.mv) [X.t 49], I.mk (some (50, true)) (some 51) (Ef.pr Pr.mv) [X.t 7], I.mk (some (50, true)) (some 52) (Ef.pr Pr.lenS) [X.t 51], I.mk (some (50, true)) (some 53) (Ef.pr (Pr.cm BinOp.eql)) [X.t 52, X.c (Value.int IntKind.i64 128)], I.mk none (some 54) (Ef.pr Pr.pick) [X.t 50, X.t 53, X.c (Value.bool false)], I.mk none (some 55) (Ef.pr Pr.mv) [X.t 54], I.mk (some (55, true)) (some 56) (Ef.pr Pr.mv) [X.t 0], I.mk (some (55, true)) (some 57) (Ef.call 12) [X.t 56, X.c (Value.int IntKind.i64 (-1))], I.mk (some (55, true)) (some 58) (Ef.pr (Pr.cm BinOp.eql)) [X.t 57, X.c (Value.int IntKind.i64 1)], I.mk none (some 59) (Ef.pr Pr.pick) [X.t 55, X.t 58, X.c (Value.bool false)], I.mk none (some 60) (Ef.pr Pr.mv) [X.t 59], I.mk (some (60, true)) (some 61) (Ef.pr Pr.mv) [X.t 0], I.mk (some (60, true)) (some 62) (Ef.pr Pr.mv) [X.t 1], I.mk (some (60, true)) (some 63) (Ef.call 15) [X.t 61, X.t 62, X.c (Value.slice none 0 0)], I.mk (some (60, true)) (some 64) (Ef.pr (Pr.cm BinOp.eql)) [X.t 63, X.c (Value.int IntKind.i64 41)], I.mk none (some 65) (Ef.pr Pr.pick) [X.t 60, X.t 64, X.c (Value.bool false)], I.mk none (some 66) (Ef.pr Pr.mv) [X.t 65], I.mk (some (66, true)) (some 67) (Ef.pr Pr.mv) [X.t 0], I.mk (some (66, true)) (some 68) (Ef.call 15) [X.t 67, X.c (Value.int IntKind.i64 (-1)), X.c (Value.slice none 0 0)], I.mk (some (66, true)) (some 69) (Ef.pr (Pr.cm BinOp.eql)) [X.t 68, X.c (Value.int IntKind.i64 40)], I.mk none (some 70) (Ef.pr Pr.pick) [X.t 66, X.t 69, X.c (Value.bool false)], I.mk none (some 4) (Ef.pr Pr.mv) [X.t 70]]) IC.ret)))))

theorem k19 : Go.Proofs.Try.f19.body.bind (comp Go.Proofs.Try.prog 71 [] []) = some c19 := by kernel_rfl

theorem r19 : cRVs Go.Proofs.Try.prog Go.Proofs.Try.f19.results.toList = some [RV.t 4] := by kernel_rfl

theorem e19 {args : List Value} {h : Hp} {Q : Value → Hp → Prop} (hl : Nat.ble args.length 71 = true) (hk : codeK PR none c19 (retK Q [RV.t 4]) (fun _ _ _ _ => False) (retK Q [RV.t 4]) (argsE 0 args) [] h) : Ok PR 19 args h Q :=
  Ok.of mixed Go.Proofs.Try.func19 rfl k19 r19 hl hk

def c20 : IC := IC.seq (IC.ops [I.mk none (some 3) (Ef.bxh 41) [X.t 1], I.mk none (some 4) (Ef.pr Pr.mv) [X.c (Value.int IntKind.i64 0)]]) 
  (IC.seq (IC.ops [I.mk none (some 6) (Ef.pr Pr.mv) [X.t 0], I.mk none (some 7) (Ef.pr (Pr.mkf (Fn.func 49) 0)) [X.t 3], I.mk none (some 8) (Ef.call 45) [X.t 6, X.t 7], I.mk none (some 5) (Ef.pr Pr.mv) [X.t 8]]) 
  (IC.seq (IC.ops [I.mk none (some 9) (Ef.pr Pr.mv) [X.t 0], I.mk none (some 10) (Ef.pr Pr.mv) [X.t 0], I.mk none (some 11) (Ef.pr Pr.mv) [X.t 0], I.mk none (some 12) (Ef.pr Pr.nilc) [X.t 9], I.mk none (some 13) (Ef.pr (Pr.fa 131073)) [X.t 12], I.mk none none (Ef.st 1) [X.t 13, X.c (Value.bool false)], I.mk none (some 14) (Ef.pr Pr.nilc) [X.t 10], I.mk none (some 15) (Ef.pr (Pr.fa 131075)) [X.t 14], I.mk none none (Ef.st 1) [X.t 15, X.c (Value.bool false)], I.mk none (some 16) (Ef.pr Pr.nilc) [X.t 11], I.mk none (some 17) (Ef.pr (Pr.fa 131074)) [X.t 16], I.mk none none (Ef.st 1) [X.t 17, X.c (Value.int IntKind.i64 0)]]) 
  (IC.seq (IC.ops [I.mk none (some 18) (Ef.pr Pr.mv) [X.t 5], I.mk none (some 4) (Ef.pr Pr.mv) [X.t 18]]) IC.ret)))

theorem k20 : Go.Proofs.Try.f20.body.bind (comp Go.Proofs.Try.prog 19 [] []) = some c20 := by kernel_rfl

theorem r20 : cRVs Go.Proofs.Try.prog Go.Proofs.Try.f20.results.toList = some [RV.t 4] := by kernel_rfl

theorem e20 {args : List Value} {h : Hp} {Q : Value → Hp → Prop} (hl : Nat.ble args.length 19 = true) (hk : codeK PR none c20 (retK Q [RV.t 4]) (fun _ _ _ _ => False) (retK Q [RV.t 4]) (argsE 0 args) [] h) : Ok PR 20 args h Q :=
  Ok.of mixed Go.Proofs.Try.func20 rfl k20 r20 hl hk

def c21 : IC := IC.seq (IC.ops [I.mk none (some 4) (Ef.pr Pr.mv) [X.c (Value.bool false)]]) 
  (IC.seq 
  (IC.seq (IC.ops [I.mk none (some 5) (Ef.pr Pr.mv) [X.c (Value.int IntKind.i64 0)]]) 
  (IC.block 0 
  (IC.loop 
  (IC.seq 
  (IC.seq (IC.ops [I.mk none (some 6) (Ef.pr Pr.mv) [X.t 5], I.mk none (some 7) (Ef.pr Pr.mv) [X.t 1], I.mk none (some 8) (Ef.pr Pr.lenS) [X.t 7], I.mk none (some 9) (Ef.pr (Pr.cm BinOp.lss)) [X.t 6, X.t 8]]) 
  (IC.cond (X.t 9) IC.skip (IC.exit 0))) 
  (IC.seq 
  (IC.block 1 
  (IC.seq (IC.plan (Plan.q (I.mk none (some 12) (Ef.pr Pr.mv) [X.t 0]) (Plan.q (I.mk none (some 13) (Ef.pr Pr.mv) [X.t 1]) (Plan.q (I.mk none (some 14) (Ef.pr Pr.mv) [X.t 5]) (Plan.q (I.mk none (some 15) (Ef.pr (Pr.iaS 2)) [X.t 13, X.t 14]) (Plan.q (I.mk none (some 16) (Ef.pr (Pr.fa 0)) [X.t 15]) (Plan.q (I.mk none (some 17) (Ef.pr (Pr.ld 1 false)) [X.t 16]) (Plan.q (I.mk none (some 19) (Ef.pr Pr.mv) [X.t 1]) (Plan.q (I.mk none (some 20) (Ef.pr Pr.mv) [X.t 5]) (Plan.q (I.mk none (some 21) (Ef.pr (Pr.iaS 2)) [X.t 19, X.t 20]) (Plan.q (I.mk none (some 22) (Ef.pr (Pr.fa 1)) [X.t 21]) (Plan.q (I.mk none (some 23) (Ef.pr (Pr.ld 1 false)) [X.t 22]) (Plan.br (PlanL.cons true false (I.mk none (some 18) (Ef.call 16) [X.t 17]) (Plan.br (PlanL.cons false false (I.mk none (some 24) (Ef.call 17) [X.t 23]) (Plan.br (PlanL.cons false false (I.mk none (some 25) (Ef.call 15) [X.t 12, X.t 18, X.t 24]) (Plan.q (I.mk none (some 26) (Ef.pr (Pr.cm BinOp.neq)) [X.t 25, X.c (Value.int IntKind.i64 0)]) Plan.done) PlanL.nil)) PlanL.nil)) PlanL.nil)))))))))))))) 
  (IC.cond (X.t 26) 
  (IC.seq (IC.ops [I.mk none (some 4) (Ef.pr Pr.mv) [X.c (Value.bool false)]]) IC.ret) IC.skip))) (IC.ops [I.mk none (some 10) (Ef.pr Pr.mv) [X.t 5], I.mk none (some 11) (Ef.pr (Pr.ar BinOp.add)) [X.t 10, X.c (Value.int IntKind.i64 1)], I.mk none (some 5) (Ef.pr Pr.mv) [X.t 11]])))))) 
  (IC.seq (IC.ops [I.mk none (some 4) (Ef.pr Pr.mv) [X.c (Value.bool true)]]) IC.ret))

theorem k21 : Go.Proofs.Try.f21.body.bind (comp Go.Proofs.Try.prog 27 [] []) = some c21 := by kernel_rfl

theorem r21 : cRVs Go.Proofs.Try.prog Go.Proofs.Try.f21.results.toList = some [RV.t 4] := by kernel_rfl

theorem e21 {args : List Value} {h : Hp} {Q : Value → Hp → Prop} (hl : Nat.ble args.length 27 = true) (hk : codeK PR none c21 (retK Q [RV.t 4]) (fun _ _ _ _ => False) (retK Q [RV.t 4]) (argsE 0 args) [] h) : Ok PR 21 args h Q :=
  Ok.of mixed Go.Proofs.Try.func21 rfl k21 r21 hl hk

def c22 : IC := IC.seq (IC.ops [I.mk none (some 4) (Ef.pr Pr.mv) [X.c (Value.slice none 0 0)], I.mk none (some 5) (Ef.pr Pr.mv) [X.c (Value.int IntKind.i64 0)]]) 
  (IC.seq 
  (IC.seq (IC.ops [I.mk none (some 7) (Ef.pr Pr.mv) [X.t 1], I.mk none (some 8) (Ef.call 47) [X.t 7], I.mk none (some 9) (Ef.pr (Pr.un UnOp.not)) [X.t 8]]) 
  (IC.cond (X.t 9) 
  (IC.seq (IC.ops [I.mk none (some 4) (Ef.pr Pr.mv) [X.c (Value.slice none 0 0)], I.mk none (some 5) (Ef.pr Pr.mv) [X.c (Value.int IntKind.i64 40)]]) IC.ret) IC.skip)) 
  (IC.seq 
  (IC.seq (IC.ops [I.mk none (some 10) (Ef.pr Pr.mv) [X.t 0], I.mk none (some 11) (Ef.pr Pr.nilc) [X.t 10], I.mk none (some 12) (Ef.pr (Pr.fa 131075)) [X.t 11], I.mk none (some 13) (Ef.pr (Pr.ld 1 false)) [X.t 12]]) 
  (IC.cond (X.t 13) 
  (IC.seq (IC.ops [I.mk none (some 4) (Ef.pr Pr.mv) [X.c (Value.slice none 0 0)], I.mk none (some 5) (Ef.pr Pr.mv) [X.c (Value.int IntKind.i64 42)]]) IC.ret) IC.skip)) 
  (IC.seq 
  (IC.seq (IC.ops [I.mk none (some 14) (Ef.pr Pr.mv) [X.t 0], I.mk none (some 15) (Ef.pr Pr.nilc) [X.t 14], I.mk none (some 16) (Ef.pr (Pr.fa 131072)) [X.t 15], I.mk none (some 17) (Ef.pr (Pr.ld 1 false)) [X.t 16], I.mk none (some 18) (Ef.pr Pr.lenS) [X.t 17], I.mk none (some 19) (Ef.pr (Pr.ar BinOp.sub)) [X.t 18, X.c (Value.int IntKind.i64 1)], I.mk none (some 6) (Ef.pr Pr.mv) [X.t 19]]) 
  (IC.block 0 
  (IC.loop 
  (IC.seq 
  (IC.seq (IC.ops [I.mk none (some 20) (Ef.pr Pr.mv) [X.t 6], I.mk none (some 21) (Ef.pr (Pr.cm BinOp.geq)) [X.t 20, X.c (Value.int IntKind.i64 0)]]) 
  (IC.cond (X.t 21) IC.skip (IC.exit 0))) 
  (IC.seq 
  (IC.block 1 
  (IC.seq (IC.ops [I.mk none (some 24) (Ef.pr Pr.mv) [X.t 0], I.mk none (some 25) (Ef.pr Pr.nilc) [X.t 24], I.mk none (some 26) (Ef.pr (Pr.fa 131072)) [X.t 25], I.mk none (some 27) (Ef.pr (Pr.ld 1 false)) [X.t 26], I.mk none (some 28) (Ef.pr Pr.mv) [X.t 6], I.mk none (some 29) (Ef.pr (Pr.iaS 129)) [X.t 27, X.t 28], I.mk none (some 30) (Ef.pr (Pr.fa 0)) [X.t 29], I.mk none (some 31) (Ef.pr (Pr.ld 1 false)) [X.t 30], I.mk none (some 32) (Ef.pr Pr.mv) [X.t 1], I.mk none (some 33) (Ef.pr (Pr.cm BinOp.eql)) [X.t 31, X.t 32]]) 
  (IC.cond (X.t 33) 
  (IC.seq (IC.ops [I.mk none (some 34) (Ef.pr Pr.mv) [X.t 0], I.mk none (some 35) (Ef.pr Pr.nilc) [X.t 34], I.mk none (some 36) (Ef.pr (Pr.fa 131072)) [X.t 35], I.mk none (some 37) (Ef.pr (Pr.ld 1 false)) [X.t 36], I.mk none (some 38) (Ef.pr Pr.mv) [X.t 6], I.mk none (some 39) (Ef.pr (Pr.iaS 129)) [X.t 37, X.t 38], I.mk none (some 40) (Ef.pr (Pr.fa 1)) [X.t 39], I.mk none (some 41) (Ef.pr (Pr.slA 128 1 false false)) [X.t 40], I.mk none (some 42) (Ef.bsl [Value.slice none 0 0] 34 1 1 [0]) [X.t 41], I.mk none (some 43) (Ef.call 50) [X.t 42], I.mk none (some 4) (Ef.pr Pr.mv) [X.t 43], I.mk none (some 5) (Ef.pr Pr.mv) [X.c (Value.int IntKind.i64 0)]]) IC.ret) IC.skip))) (IC.ops [I.mk none (some 22) (Ef.pr Pr.mv) [X.t 6], I.mk none (some 23) (Ef.pr (Pr.ar BinOp.sub)) [X.t 22, X.c (Value.int IntKind.i64 1)], I.mk none (some 6) (Ef.pr Pr.mv) [X.t 23]])))))) 
  (IC.seq (IC.ops [I.mk none (some 44) (Ef.pr Pr.mv) [X.t 0], I.mk none (some 45) (Ef.pr Pr.mv) [X.t 1], I.mk none (some 46) (Ef.pr Pr.nilc) [X.t 44], I.mk none (some 47) (Ef.pr (Pr.fa 0)) [X.t 46], I.mk none (some 48) (Ef.pr (Pr.iaA 1024 128)) [X.t 47, X.t 45], I.mk none (some 49) (Ef.pr (Pr.slA 128 1 false false)) [X.t 48], I.mk none (some 50) (Ef.bsl [Value.slice none 0 0] 34 1 1 [0]) [X.t 49], I.mk none (some 51) (Ef.call 50) [X.t 50], I.mk none (some 4) (Ef.pr Pr.mv) [X.t 51], I.mk none (some 5) (Ef.pr Pr.mv) [X.c (Value.int IntKind.i64 0)]]) IC.ret))))

theorem k22 : Go.Proofs.Try.f22.body.bind (comp Go.Proofs.Try.prog 52 [] []) = some c22 := by kernel_rfl

theorem r22 : cRVs Go.Proofs.Try.prog Go.Proofs.Try.f22.results.toList = some [RV.t 4, RV.t 5] := by kernel_rfl

theorem e22 {args : List Value} {h : Hp} {Q : Value → Hp → Prop} (hl : Nat.ble args.length 52 = true) (hk : codeK PR none c22 (retK Q [RV.t 4, RV.t 5]) (fun _ _ _ _ => False) (retK Q [RV.t 4, RV.t 5]) (argsE 0 args) [] h) : Ok PR 22 args h Q :=
  Ok.of mixed Go.Proofs.Try.func22 rfl k22 r22 hl hk

def c23 : IC := IC.seq (IC.ops [I.mk none (some 2) (Ef.pr Pr.mv) [X.c (Value.slice none 0 0)]]) 
  (IC.seq (IC.ops [I.mk none (some 3) (Ef.pr Pr.mv) [X.c (Value.slice none 0 0)]]) 
  (IC.seq 
  (IC.seq (IC.ops [I.mk none (some 6) (Ef.pr Pr.mv) [X.t 0], I.mk none (some 7) (Ef.pr Pr.nilc) [X.t 6], I.mk none (some 8) (Ef.pr (Pr.fa 131072)) [X.t 7], I.mk none (some 9) (Ef.pr (Pr.ld 1 false)) [X.t 8], I.mk none (some 10) (Ef.pr Pr.lenS) [X.t 9], I.mk none (some 11) (Ef.pr Pr.mv) [X.c (Value.int IntKind.i64 0)]]) 
  (IC.block 0 
  (IC.loop 
  (IC.seq (IC.ops [I.mk none (some 12) (Ef.pr (Pr.cm BinOp.lss)) [X.t 11, X.t 10]]) 
  (IC.seq 
  (IC.cond (X.t 12) IC.skip (IC.exit 0)) 
  (IC.seq 
  (IC.block 1 
  (IC.seq (IC.ops [I.mk none (some 13) (Ef.pr (Pr.iaS 129)) [X.t 9, X.t 11], I.mk none (some 14) (Ef.pr (Pr.ld 129 true)) [X.t 13], I.mk none (some 5) (Ef.al [Value.int IntKind.i64 0, Value.int IntKind.u8 0, Value.int IntKind.u8 0, Value.int IntKind.u8 0, Value.int IntKind.u8 0, Value.int IntKind.u8 0, Value.int IntKind.u8 0, Value.int IntKind.u8 0, Value.int IntKind.u8 0, Value.int IntKind.u8 0, Value.int IntKind.u8 0, Value.int IntKind.u8 0, Value.int IntKind.u8 0, Value.int IntKind.u8 0, Value.int IntKind.u8 0, Value.int IntKind.u8 0, Value.int IntKind.u8 0, Value.int IntKind.u8 0, Value.int IntKind.u8 0, Value.int IntKind.u8 0, Value.int IntKind.u8 0, Value.int IntKind.u8 0, Value.int IntKind.u8 0, Value.int IntKind.u8 0, Value.int IntKind.u8 0, Value.int IntKind.u8 0, Value.int IntKind.u8 0, Value.int IntKind.u8 0, Value.int IntKind.u8 0, Value.int IntKind.u8 0, Value.int IntKind.u8 0, Value.int IntKind.u8 0, Value.int IntKind.u8 0, Value.int IntKind.u8 0, Value.int IntKind.u8 0, Value.int IntKind.u8 0, Value.int IntKind.u8 0, Value.int IntKind.u8 0, Value.int IntKind.u8 0, Value.int IntKind.u8 0, Value.int IntKind.u8 0, Value.int IntKind.u8 0, Value.int IntKind.u8 0, Value.int IntKind.u8 0, Value.int IntKind.u8 0, Value.int IntKind.u8 0, Value.int IntKind.u8 0, Value.int IntKind.u8 0, Value.int IntKind.u8 0, Value.int IntKind.u8 0, Value.int IntKind.u8 0, Value.int IntKind.u8 0, Value.int IntKind.u8 0, Value.int IntKind.u8 0, Value.int IntKind.u8 0, Value.int IntKind.u8 0, Value.int IntKind.u8 0, Value.int IntKind.u8 0, Value.int IntKind.u8 0, Value.int IntKind.u8 0, Value.int IntKind.u8 0, Value.int IntKind.u8 0, Value.int IntKind.u8 0, Value.int IntKind.u8 0, Value.int IntKind.u8 0, Value.int IntKind.u8 0, Value.int IntKind.u8 0, Value.int IntKind.u8 0, Value.int IntKind.u8 0, Value.int IntKind.u8 0, Value.int IntKind.u8 0, Value.int IntKind.u8 0, Value.int IntKind.u8 0, Value.int IntKind.u8 0, Value.int IntKind.u8 0, Value.int IntKind.u8 0, Value.int IntKind.u8 0, Value.int IntKind.u8 0, Value.int IntKind.u8 0, Value.int IntKind.u8 0, Value.int IntKind.u8 0, Value.int IntKind.u8 0, Value.int IntKind.u8 0, Value.int IntKind.u8 0, Value.int IntKind.u8 0, Value.int IntKind.u8 0, Value.int IntKind.u8 0, Value.int IntKind.u8 0, Value.int IntKind.u8 0, Value.int IntKind.u8 0, Value.int IntKind.u8 0, Value.int IntKind.u8 0, Value.int IntKind.u8 0, Value.int IntKind.u8 0, Value.int IntKind.u8 0, Value.int IntKind.u8 0, Value.int IntKind.u8 0, Value.int IntKind.u8 0, Value.int IntKind.u8 0, Value.int IntKind.u8 0, Value.int IntKind.u8 0, Value.int IntKind.u8 0, Value.int IntKind.u8 0, Value.int IntKind.u8 0, Value.int IntKind.u8 0, Value.int IntKind.u8 0, Value.int IntKind.u8 0, Value.int IntKind.u8 0, Value.int IntKind.u8 0, Value.int IntKind.u8 0, Value.int IntKind.u8 0, Value.int IntKind.u8 0, Value.int IntKind.u8 0, Value.int IntKind.u8 0, Value.int IntKind.u8 0, Value.int IntKind.u8 0, Value.int IntKind.u8 0, Value.int IntKind.u8 0, Value.int IntKind.u8 0, Value.int IntKind.u8 0, Value.int IntKind.u8 0, Value.int IntKind.u8 0, Value.int IntKind.u8 0, Value.int IntKind.u8 0, Value.int IntKind.u8 0, Value.int IntKind.u8 0, Value.int IntKind.u8 0, Value.int IntKind.u8 0, Value.int IntKind.u8 0]) [], I.mk none none (Ef.st 129) [X.t 5, X.t 14]]) (IC.ops [I.mk none (some 15) (Ef.pr Pr.mv) [X.t 3], I.mk none (some 16) (Ef.pr (Pr.fa 0)) [X.t 5], I.mk none (some 17) (Ef.pr (Pr.ld 1 false)) [X.t 16], I.mk none (some 18) (Ef.bsl [Value.int IntKind.i64 0] 3 1 1 [0]) [X.t 17], I.mk none (some 19) (Ef.app [Value.int IntKind.i64 0] 3 8) [X.t 15, X.t 18], I.mk none (some 3) (Ef.pr Pr.mv) [X.t 19]]))) (IC.ops [I.mk none (some 20) (Ef.pr (Pr.ar BinOp.add)) [X.t 11, X.c (Value.int IntKind.i64 1)], I.mk none (some 11) (Ef.pr Pr.mv) [X.t 20]]))))))) 
  (IC.seq (IC.ops [I.mk none (some 21) (Ef.pr Pr.mv) [X.t 3], I.mk none (some 2) (Ef.pr Pr.mv) [X.t 21]]) IC.ret)))

theorem k23 : Go.Proofs.Try.f23.body.bind (comp Go.Proofs.Try.prog 22 [5] []) = some c23 := by kernel_rfl

theorem r23 : cRVs Go.Proofs.Try.prog Go.Proofs.Try.f23.results.toList = some [RV.t 2] := by kernel_rfl

theorem e23 {args : List Value} {h : Hp} {Q : Value → Hp → Prop} (hl : Nat.ble args.length 22 = true) (hk : codeK PR none c23 (retK Q [RV.t 2]) (fun _ _ _ _ => False) (retK Q [RV.t 2]) (argsE 0 args) [] h) : Ok PR 23 args h Q :=
  Ok.of mixed Go.Proofs.Try.func23 rfl k23 r23 hl hk

def c24 : IC := IC.seq (IC.ops [I.mk none (some 2) (Ef.pr Pr.mv) [X.c (Value.slice none 0 0)]]) 
  (IC.seq (IC.ops [I.mk none (some 3) (Ef.pr Pr.mv) [X.c (Value.slice none 0 0)]]) 
  (IC.seq (IC.ops [I.mk none (some 4) (Ef.pr Pr.mv) [X.t 3], I.mk none (some 5) (Ef.pr Pr.mv) [X.t 0], I.mk none (some 6) (Ef.app [Value.bool false] 4 1) [X.t 4, X.t 5], I.mk none (some 3) (Ef.pr Pr.mv) [X.t 6]]) 
  (IC.seq (IC.ops [I.mk none (some 7) (Ef.pr Pr.mv) [X.t 3], I.mk none (some 2) (Ef.pr Pr.mv) [X.t 7]]) IC.ret)))

theorem k24 : Go.Proofs.Try.f24.body.bind (comp Go.Proofs.Try.prog 8 [] []) = some c24 := by kernel_rfl

theorem r24 : cRVs Go.Proofs.Try.prog Go.Proofs.Try.f24.results.toList = some [RV.t 2] := by kernel_rfl

theorem e24 {args : List Value} {h : Hp} {Q : Value → Hp → Prop} (hl : Nat.ble args.length 8 = true) (hk : codeK PR none c24 (retK Q [RV.t 2]) (fun _ _ _ _ => False) (retK Q [RV.t 2]) (argsE 0 args) [] h) : Ok PR 24 args h Q :=
  Ok.of mixed Go.Proofs.Try.func24 rfl k24 r24 hl hk

def c25 : IC := IC.seq (IC.ops [I.mk none (some 4) (Ef.pr Pr.mv) [X.c (Value.slice none 0 0)], I.mk none (some 5) (Ef.pr Pr.mv) [X.c (Value.int IntKind.i64 0)]]) 
  (IC.seq 
  (IC.seq (IC.ops [I.mk none (some 6) (Ef.pr Pr.mv) [X.t 1], I.mk none (some 7) (Ef.call 47) [X.t 6], I.mk none (some 8) (Ef.pr (Pr.un UnOp.not)) [X.t 7]]) 
  (IC.cond (X.t 8) 
  (IC.seq (IC.ops [I.mk none (some 4) (Ef.pr Pr.mv) [X.c (Value.slice none 0 0)], I.mk none (some 5) (Ef.pr Pr.mv) [X.c (Value.int IntKind.i64 40)]]) IC.ret) IC.skip)) 
  (IC.seq (IC.ops [I.mk none (some 9) (Ef.pr Pr.mv) [X.t 0], I.mk none (some 10) (Ef.pr Pr.mv) [X.t 1], I.mk none (some 11) (Ef.pr Pr.nilc) [X.t 9], I.mk none (some 12) (Ef.pr (Pr.fa 0)) [X.t 11], I.mk none (some 13) (Ef.pr (Pr.iaA 1024 128)) [X.t 12, X.t 10], I.mk none (some 14) (Ef.pr (Pr.slA 128 1 false false)) [X.t 13], I.mk none (some 15) (Ef.bsl [Value.slice none 0 0] 34 1 1 [0]) [X.t 14], I.mk none (some 16) (Ef.call 50) [X.t 15], I.mk none (some 4) (Ef.pr Pr.mv) [X.t 16], I.mk none (some 5) (Ef.pr Pr.mv) [X.c (Value.int IntKind.i64 0)]]) IC.ret))

theorem k25 : Go.Proofs.Try.f25.body.bind (comp Go.Proofs.Try.prog 17 [] []) = some c25 := by kernel_rfl

theorem r25 : cRVs Go.Proofs.Try.prog Go.Proofs.Try.f25.results.toList = some [RV.t 4, RV.t 5] := by kernel_rfl

theorem e25 {args : List Value} {h : Hp} {Q : Value → Hp → Prop} (hl : Nat.ble args.length 17 = true) (hk : codeK PR none c25 (retK Q [RV.t 4, RV.t 5]) (fun _ _ _ _ => False) (retK Q [RV.t 4, RV.t 5]) (argsE 0 args) [] h) : Ok PR 25 args h Q :=
  Ok.of mixed Go.Proofs.Try.func25 rfl k25 r25 hl hk

def c26 : IC := IC.seq (IC.ops [I.mk none (some 4) (Ef.pr Pr.mv) [X.c (Value.bool false)]]) 
  (IC.seq (IC.ops [I.mk none (some 5) (Ef.pr Pr.mv) [X.t 0], I.mk none (some 6) (Ef.pr Pr.b2s) [X.t 5], I.mk none (some 7) (Ef.pr Pr.mv) [X.t 1], I.mk none (some 8) (Ef.pr Pr.b2s) [X.t 7], I.mk none (some 9) (Ef.pr (Pr.sop BinOp.eql)) [X.t 6, X.t 8], I.mk none (some 4) (Ef.pr Pr.mv) [X.t 9]]) IC.ret)

theorem k26 : Go.Proofs.Try.f26.body.bind (comp Go.Proofs.Try.prog 10 [] []) = some c26 := by kernel_rfl

theorem r26 : cRVs Go.Proofs.Try.prog Go.Proofs.Try.f26.results.toList = some [RV.t 4] := by kernel_rfl

theorem e26 {args : List Value} {h : Hp} {Q : Value → Hp → Prop} (hl : Nat.ble args.length 10 = true) (hk : codeK PR none c26 (retK Q [RV.t 4]) (fun _ _ _ _ => False) (retK Q [RV.t 4]) (argsE 0 args) [] h) : Ok PR 26 args h Q :=
  Ok.of mixed Go.Proofs.Try.func26 rfl k26 r26 hl hk

def c27 : IC := IC.seq (IC.ops [I.mk none (some 2) (Ef.pr Pr.mv) [X.c (Value.slice none 0 0)]]) 
  (IC.seq (IC.ops [I.mk none (some 3) (Ef.pr Pr.mv) [X.c (Value.slice none 0 0)]]) 
  (IC.seq (IC.ops [I.mk none (some 4) (Ef.pr Pr.mv) [X.t 3], I.mk none (some 5) (Ef.pr Pr.mv) [X.t 0], I.mk none (some 6) (Ef.app [Value.int IntKind.u8 0] 5 1) [X.t 4, X.t 5], I.mk none (some 3) (Ef.pr Pr.mv) [X.t 6]]) 
  (IC.seq (IC.ops [I.mk none (some 7) (Ef.pr Pr.mv) [X.t 3], I.mk none (some 2) (Ef.pr Pr.mv) [X.t 7]]) IC.ret)))

theorem k27 : Go.Proofs.Try.f27.body.bind (comp Go.Proofs.Try.prog 8 [] []) = some c27 := by kernel_rfl

theorem r27 : cRVs Go.Proofs.Try.prog Go.Proofs.Try.f27.results.toList = some [RV.t 2] := by kernel_rfl

theorem e27 {args : List Value} {h : Hp} {Q : Value → Hp → Prop} (hl : Nat.ble args.length 8 = true) (hk : codeK PR none c27 (retK Q [RV.t 2]) (fun _ _ _ _ => False) (retK Q [RV.t 2]) (argsE 0 args) [] h) : Ok PR 27 args h Q :=
  Ok.of mixed Go.Proofs.Try.func27 rfl k27 r27 hl hk

def c28 : IC := IC.seq (IC.ops [I.mk none (some 8) (Ef.pr Pr.mv) [X.c (Value.int IntKind.i64 0)]]) 
  (IC.seq 
  (IC.seq (IC.ops [I.mk none (some 9) (Ef.pr Pr.mv) [X.t 1], I.mk none (some 10) (Ef.call 47) [X.t 9], I.mk none (some 11) (Ef.pr (Pr.un UnOp.not)) [X.t 10]]) 
  (IC.cond (X.t 11) 
  (IC.seq (IC.ops [I.mk none (some 8) (Ef.pr Pr.mv) [X.c (Value.int IntKind.i64 40)]]) IC.ret) IC.skip)) 
  (IC.seq 
  (IC.seq (IC.ops [I.mk none (some 12) (Ef.pr Pr.mv) [X.t 2], I.mk none (some 13) (Ef.pr (Pr.cm BinOp.lss)) [X.t 12, X.c (Value.int IntKind.i64 0)], I.mk none (some 14) (Ef.pr Pr.mv) [X.t 13], I.mk (some (14, false)) (some 15) (Ef.pr Pr.mv) [X.t 2], I.mk (some (14, false)) (some 16) (Ef.pr Pr.mv) [X.t 3], I.mk (some (14, false)) (some 17) (Ef.pr Pr.lenS) [X.t 16], I.mk (some (14, false)) (some 18) (Ef.pr (Pr.ar BinOp.sub)) [X.c (Value.int IntKind.i64 128), X.t 17], I.mk (some (14, false)) (some 19) (Ef.pr (Pr.cm BinOp.gtr)) [X.t 15, X.t 18], I.mk none (some 20) (Ef.pr Pr.pick) [X.t 14, X.c (Value.bool true), X.t 19]]) 
  (IC.cond (X.t 20) 
  (IC.seq (IC.ops [I.mk none (some 8) (Ef.pr Pr.mv) [X.c (Value.int IntKind.i64 1)]]) IC.ret) IC.skip)) 
  (IC.seq (IC.ops [I.mk none (some 21) (Ef.pr Pr.mv) [X.t 0], I.mk none (some 22) (Ef.pr Pr.mv) [X.t 1], I.mk none (some 23) (Ef.pr Pr.nilc) [X.t 21], I.mk none (some 24) (Ef.pr (Pr.fa 0)) [X.t 23], I.mk none (some 25) (Ef.pr (Pr.iaA 1024 128)) [X.t 24, X.t 22], I.mk none (some 26) (Ef.pr Pr.mv) [X.t 2], I.mk none (some 27) (Ef.pr (Pr.slA 128 1 true false)) [X.t 25, X.t 26], I.mk none (some 28) (Ef.pr Pr.mv) [X.t 3], I.mk none (some 29) (Ef.cpy 1) [X.t 27, X.t 28]]) 
  (IC.seq (IC.ops [I.mk none (some 8) (Ef.pr Pr.mv) [X.c (Value.int IntKind.i64 0)]]) IC.ret))))

theorem k28 : Go.Proofs.Try.f28.body.bind (comp Go.Proofs.Try.prog 30 [] []) = some c28 := by kernel_rfl

theorem r28 : cRVs Go.Proofs.Try.prog Go.Proofs.Try.f28.results.toList = some [RV.t 8] := by kernel_rfl

theorem e28 {args : List Value} {h : Hp} {Q : Value → Hp → Prop} (hl : Nat.ble args.length 30 = true) (hk : codeK PR none c28 (retK Q [RV.t 8]) (fun _ _ _ _ => False) (retK Q [RV.t 8]) (argsE 0 args) [] h) : Ok PR 28 args h Q :=
  Ok.of mixed Go.Proofs.Try.func28 rfl k28 r28 hl hk

def c29 : IC := IC.seq (IC.ops [I.mk none (some 6) (Ef.pr Pr.mv) [X.c (Value.bool false)]]) 
  (IC.seq (IC.ops [I.mk none (some 12) (Ef.pr Pr.mv) [X.t 0], I.mk none (some 13) (Ef.pr Pr.mv) [X.t 1], I.mk none (some 14) (Ef.call 25) [X.t 12, X.t 13], I.mk none (some 11) (Ef.pr Pr.mv) [X.t 14], I.mk none (some 15) (Ef.pr (Pr.ext 0)) [X.t 11], I.mk none (some 16) (Ef.pr (Pr.ext 1)) [X.t 11], I.mk none (some 7) (Ef.pr Pr.mv) [X.t 15], I.mk none (some 8) (Ef.pr Pr.mv) [X.t 16]]) 
  (IC.seq (IC.ops [I.mk none (some 18) (Ef.pr Pr.mv) [X.t 0], I.mk none (some 19) (Ef.pr Pr.mv) [X.t 1], I.mk none (some 20) (Ef.call 22) [X.t 18, X.t 19], I.mk none (some 17) (Ef.pr Pr.mv) [X.t 20], I.mk none (some 21) (Ef.pr (Pr.ext 0)) [X.t 17], I.mk none (some 22) (Ef.pr (Pr.ext 1)) [X.t 17], I.mk none (some 9) (Ef.pr Pr.mv) [X.t 21], I.mk none (some 10) (Ef.pr Pr.mv) [X.t 22]]) 
  (IC.seq (IC.ops [I.mk none (some 23) (Ef.pr Pr.mv) [X.t 8], I.mk none (some 24) (Ef.pr (Pr.cm BinOp.eql)) [X.t 23, X.c (Value.int IntKind.i64 0)], I.mk none (some 25) (Ef.pr Pr.mv) [X.t 24], I.mk (some (25, true)) (some 26) (Ef.pr Pr.mv) [X.t 10], I.mk (some (25, true)) (some 27) (Ef.pr (Pr.cm BinOp.eql)) [X.t 26, X.c (Value.int IntKind.i64 0)], I.mk none (some 28) (Ef.pr Pr.pick) [X.t 25, X.t 27, X.c (Value.bool false)], I.mk none (some 29) (Ef.pr Pr.mv) [X.t 28], I.mk (some (29, true)) (some 30) (Ef.pr Pr.mv) [X.t 7], I.mk (some (29, true)) (some 31) (Ef.pr Pr.mv) [X.t 2], I.mk (some (29, true)) (some 32) (Ef.call 26) [X.t 30, X.t 31], I.mk none (some 33) (Ef.pr Pr.pick) [X.t 29, X.t 32, X.c (Value.bool false)], I.mk none (some 34) (Ef.pr Pr.mv) [X.t 33], I.mk (some (34, true)) (some 35) (Ef.pr Pr.mv) [X.t 9], I.mk (some (34, true)) (some 36) (Ef.pr Pr.mv) [X.t 2], I.mk (some (34, true)) (some 37) (Ef.call 26) [X.t 35, X.t 36], I.mk none (some 38) (Ef.pr Pr.pick) [X.t 34, X.t 37, X.c (Value.bool false)], I.mk none (some 6) (Ef.pr Pr.mv) [X.t 38]]) IC.ret)))

theorem k29 : Go.Proofs.Try.f29.body.bind (comp Go.Proofs.Try.prog 39 [] []) = some c29 := by kernel_rfl

theorem r29 : cRVs Go.Proofs.Try.prog Go.Proofs.Try.f29.results.toList = some [RV.t 6] := by kernel_rfl

theorem e29 {args : List Value} {h : Hp} {Q : Value → Hp → Prop} (hl : Nat.ble args.length 39 = true) (hk : codeK PR none c29 (retK Q [RV.t 6]) (fun _ _ _ _ => False) (retK Q [RV.t 6]) (argsE 0 args) [] h) : Ok PR 29 args h Q :=
  Ok.of mixed Go.Proofs.Try.func29 rfl k29 r29 hl hk

end Go.Proofs.Ytpkleblggehghaa.V
