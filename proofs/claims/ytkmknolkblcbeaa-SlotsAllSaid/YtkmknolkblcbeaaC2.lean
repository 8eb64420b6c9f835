/- The functions 12, 20, 27, 28, 32, 34, 21, 31, 36, 78, 80, 85, 35, 29, resolved. -/
import Derived.Test.YtkmknolkblcbeaaVP
namespace Go.Proofs.Ytkmknolkblcbeaa.V
set_option linter.unusedSectionVars false
set_option linter.unusedVariables false
set_option linter.unusedSimpArgs false
open Go
set_option maxRecDepth 100000

def c12 : IC := IC.seq (IC.ops [I.mk none (some 0) (Ef.pr Pr.mv) [X.c (Value.bool false)]]) 
  (IC.seq (IC.ops [I.mk none (some 6) (Ef.call 20) [], I.mk none (some 1) (Ef.pr Pr.mv) [X.t 6]]) 
  (IC.seq 
  (IC.seq (IC.ops [I.mk none (some 7) (Ef.pr Pr.mv) [X.t 1], I.mk none (some 8) (Ef.pr (Pr.eq false (EqT.one EqS.p))) [X.t 7, X.c (Value.pointer none)]]) 
  (IC.cond (X.t 8) 
  (IC.seq (IC.ops [I.mk none (some 0) (Ef.pr Pr.mv) [X.c (Value.bool false)]]) IC.ret) IC.skip)) 
  (IC.seq (IC.ops [I.mk none (some 9) (Ef.pr Pr.mv) [X.t 1], I.mk none (some 10) (Ef.call 28) [X.c (Value.int IntKind.i64 2)], I.mk none (some 11) (Ef.call 27) [X.t 9, X.c (Value.int IntKind.i64 1), X.t 10], I.mk none (some 2) (Ef.pr Pr.mv) [X.t 11]]) 
  (IC.seq (IC.ops [I.mk none (some 12) (Ef.pr Pr.mv) [X.t 1], I.mk none (some 13) (Ef.call 28) [X.c (Value.int IntKind.i64 2)], I.mk none (some 14) (Ef.call 27) [X.t 12, X.c (Value.int IntKind.i64 3), X.t 13], I.mk none (some 3) (Ef.pr Pr.mv) [X.t 14]]) 
  (IC.seq (IC.ops [I.mk none (some 16) (Ef.pr Pr.mv) [X.t 1], I.mk none (some 17) (Ef.call 34) [X.t 16, X.c (Value.int IntKind.i64 1)], I.mk none (some 15) (Ef.pr Pr.mv) [X.t 17], I.mk none (some 18) (Ef.pr (Pr.ext 0)) [X.t 15], I.mk none (some 19) (Ef.pr (Pr.ext 1)) [X.t 15], I.mk none (some 4) (Ef.al [Value.string (ByteArray.mk (Array.mk [])), Value.int IntKind.i64 0, Value.int IntKind.i64 0]) [], I.mk none none (Ef.st 3) [X.t 4, X.t 18], I.mk none (some 5) (Ef.pr Pr.mv) [X.t 19]]) 
  (IC.seq (IC.plan (Plan.q (I.mk none (some 20) (Ef.pr Pr.mv) [X.t 2]) (Plan.q (I.mk none (some 21) (Ef.pr Pr.mv) [X.t 20]) (Plan.q (I.mk (some (21, true)) (some 22) (Ef.pr Pr.mv) [X.t 3]) (Plan.q (I.mk (some (21, true)) (some 23) (Ef.pr (Pr.un UnOp.not)) [X.t 22]) (Plan.q (I.mk none (some 24) (Ef.pr Pr.pick) [X.t 21, X.t 23, X.c (Value.bool false)]) (Plan.q (I.mk none (some 25) (Ef.pr Pr.mv) [X.t 24]) (Plan.q (I.mk (some (25, true)) (some 26) (Ef.pr Pr.mv) [X.t 5]) (Plan.q (I.mk none (some 27) (Ef.pr Pr.pick) [X.t 25, X.t 26, X.c (Value.bool false)]) (Plan.q (I.mk none (some 28) (Ef.pr Pr.mv) [X.t 27]) (Plan.q (I.mk (some (28, true)) (some 29) (Ef.pr (Pr.ld 3 true)) [X.t 4]) (Plan.br (PlanL.cons true false (I.mk (some (28, true)) (some 30) (Ef.call 28) [X.c (Value.int IntKind.i64 2)]) (Plan.q (I.mk (some (28, true)) (some 31) (Ef.pr (Pr.eq false (EqT.ag [(0, EqS.s), (1, EqS.i), (2, EqS.i)]))) [X.t 29, X.t 30]) (Plan.q (I.mk none (some 32) (Ef.pr Pr.pick) [X.t 28, X.t 31, X.c (Value.bool false)]) (Plan.q (I.mk none (some 33) (Ef.pr Pr.mv) [X.t 32]) (Plan.q (I.mk (some (33, true)) (some 34) (Ef.pr Pr.mv) [X.t 1]) (Plan.br (PlanL.cons false false (I.mk (some (33, true)) (some 35) (Ef.call 32) [X.t 34]) (Plan.q (I.mk (some (33, true)) (some 36) (Ef.pr (Pr.cm BinOp.eql)) [X.t 35, X.c (Value.int IntKind.i64 1)]) (Plan.q (I.mk none (some 37) (Ef.pr Pr.pick) [X.t 33, X.t 36, X.c (Value.bool false)]) (Plan.q (I.mk none (some 0) (Ef.pr Pr.mv) [X.t 37]) Plan.done))) PlanL.nil)))))) PlanL.nil))))))))))))) IC.ret))))))

theorem k12 : Go.Proofs.Try.f12.body.bind (comp Go.Proofs.Try.prog 38 [4] []) = some c12 := by kernel_rfl

theorem r12 : cRVs Go.Proofs.Try.prog Go.Proofs.Try.f12.results.toList = some [RV.t 0] := by kernel_rfl

theorem e12 {args : List Value} {h : Hp} {Q : Value → Hp → Prop} (hl : Nat.ble args.length 38 = true) (hk : codeK PR none c12 (retK Q [RV.t 0]) (fun _ _ _ _ => False) (retK Q [RV.t 0]) (argsE 0 args) [] h) : Ok PR 12 args h Q :=
  Ok.of mixed Go.Proofs.Try.func12 rfl k12 r12 hl hk

def c20 : IC := IC.seq (IC.ops [I.mk none (some 0) (Ef.pr Pr.mv) [X.c (Value.pointer none)]]) 
  (IC.seq (IC.ops [I.mk none (some 1) Ef.mkm [], I.mk none (some 2) Ef.mkm [], I.mk none (some 3) (Ef.pr (Pr.bld [Value.map none, Value.map none] [(0, 1), (1, 1)])) [X.t 1, X.t 2], I.mk none (some 4) (Ef.bxh 113) [X.t 3], I.mk none (some 0) (Ef.pr Pr.mv) [X.t 4]]) IC.ret)

theorem k20 : Go.Proofs.Try.f20.body.bind (comp Go.Proofs.Try.prog 5 [] []) = some c20 := by kernel_rfl

theorem r20 : cRVs Go.Proofs.Try.prog Go.Proofs.Try.f20.results.toList = some [RV.t 0] := by kernel_rfl

theorem e20 {args : List Value} {h : Hp} {Q : Value → Hp → Prop} (hl : Nat.ble args.length 5 = true) (hk : codeK PR none c20 (retK Q [RV.t 0]) (fun _ _ _ _ => False) (retK Q [RV.t 0]) (argsE 0 args) [] h) : Ok PR 20 args h Q :=
  Ok.of mixed Go.Proofs.Try.func20 rfl k20 r20 hl hk

def c27 : IC := IC.seq (IC.ops [I.mk none (some 5) Ef.bx [X.t 2], I.mk none (some 6) (Ef.pr Pr.mv) [X.c (Value.bool false)]]) 
  (IC.seq (IC.ops [I.mk none (some 12) (Ef.pr Pr.mv) [X.t 0], I.mk none (some 13) (Ef.pr Pr.nilc) [X.t 12], I.mk none (some 14) (Ef.pr (Pr.fa 0)) [X.t 13], I.mk none (some 15) (Ef.pr (Pr.ld 1 false)) [X.t 14], I.mk none (some 16) (Ef.pr Pr.mv) [X.t 1], I.mk none (some 17) (Ef.pr (Pr.look (EqT.one EqS.i) (Value.agg (Array.mk [Value.string (ByteArray.mk (Array.mk [])), Value.int IntKind.i64 0, Value.int IntKind.i64 0])) true)) [X.t 15, X.t 16], I.mk none (some 11) (Ef.pr Pr.mv) [X.t 17], I.mk none (some 18) (Ef.pr (Pr.ext 0)) [X.t 11], I.mk none (some 19) (Ef.pr (Pr.ext 1)) [X.t 11], I.mk none (some 7) (Ef.al [Value.string (ByteArray.mk (Array.mk [])), Value.int IntKind.i64 0, Value.int IntKind.i64 0]) [], I.mk none none (Ef.st 3) [X.t 7, X.t 18], I.mk none (some 8) (Ef.pr Pr.mv) [X.t 19]]) 
  (IC.seq (IC.plan (Plan.q (I.mk none (some 21) (Ef.pr Pr.mv) [X.t 0]) (Plan.q (I.mk none (some 22) (Ef.pr Pr.nilc) [X.t 21]) (Plan.q (I.mk none (some 23) (Ef.pr (Pr.fa 1)) [X.t 22]) (Plan.q (I.mk none (some 24) (Ef.pr (Pr.ld 1 false)) [X.t 23]) (Plan.q (I.mk none (some 25) (Ef.pr (Pr.ld 3 true)) [X.t 5]) (Plan.q (I.mk none (some 26) (Ef.pr (Pr.look (EqT.ag [(0, EqS.s), (1, EqS.i), (2, EqS.i)]) (Value.int IntKind.i64 0) true)) [X.t 24, X.t 25]) (Plan.q (I.mk none (some 20) (Ef.pr Pr.mv) [X.t 26]) (Plan.q (I.mk none (some 27) (Ef.pr (Pr.ext 0)) [X.t 20]) (Plan.q (I.mk none (some 28) (Ef.pr (Pr.ext 1)) [X.t 20]) (Plan.q (I.mk none (some 9) (Ef.pr Pr.mv) [X.t 27]) (Plan.q (I.mk none (some 10) (Ef.pr Pr.mv) [X.t 28]) Plan.done)))))))))))) 
  (IC.seq 
  (IC.seq (IC.ops [I.mk none (some 29) (Ef.pr Pr.mv) [X.t 8], I.mk none (some 30) (Ef.pr Pr.mv) [X.t 29], I.mk (some (30, false)) (some 31) (Ef.pr Pr.mv) [X.t 10], I.mk none (some 32) (Ef.pr Pr.pick) [X.t 30, X.c (Value.bool true), X.t 31]]) 
  (IC.cond (X.t 32) 
  (IC.seq (IC.ops [I.mk none (some 33) (Ef.pr Pr.mv) [X.t 8], I.mk none (some 34) (Ef.pr Pr.mv) [X.t 33], I.mk (some (34, true)) (some 35) (Ef.pr (Pr.ld 3 true)) [X.t 7], I.mk (some (34, true)) (some 36) (Ef.pr (Pr.ld 3 true)) [X.t 5], I.mk (some (34, true)) (some 37) (Ef.pr (Pr.eq false (EqT.ag [(0, EqS.s), (1, EqS.i), (2, EqS.i)]))) [X.t 35, X.t 36], I.mk none (some 38) (Ef.pr Pr.pick) [X.t 34, X.t 37, X.c (Value.bool false)], I.mk none (some 6) (Ef.pr Pr.mv) [X.t 38]]) IC.ret) IC.skip)) 
  (IC.seq (IC.plan (Plan.q (I.mk none (some 39) (Ef.pr Pr.mv) [X.t 0]) (Plan.q (I.mk none (some 40) (Ef.pr Pr.nilc) [X.t 39]) (Plan.q (I.mk none (some 41) (Ef.pr (Pr.fa 0)) [X.t 40]) (Plan.q (I.mk none (some 42) (Ef.pr (Pr.ld 1 false)) [X.t 41]) (Plan.q (I.mk none (some 43) (Ef.pr Pr.mv) [X.t 1]) (Plan.q (I.mk none (some 44) (Ef.pr (Pr.ld 3 true)) [X.t 5]) (Plan.br (PlanL.cons false false (I.mk none none (Ef.mup (EqT.one EqS.i)) [X.t 42, X.t 43, X.t 44]) Plan.done PlanL.nil))))))))) 
  (IC.seq (IC.plan (Plan.q (I.mk none (some 45) (Ef.pr Pr.mv) [X.t 0]) (Plan.q (I.mk none (some 46) (Ef.pr Pr.nilc) [X.t 45]) (Plan.q (I.mk none (some 47) (Ef.pr (Pr.fa 1)) [X.t 46]) (Plan.q (I.mk none (some 48) (Ef.pr (Pr.ld 1 false)) [X.t 47]) (Plan.q (I.mk none (some 49) (Ef.pr (Pr.ld 3 true)) [X.t 5]) (Plan.q (I.mk none (some 50) (Ef.pr Pr.mv) [X.t 1]) (Plan.br (PlanL.cons false false (I.mk none none (Ef.mup (EqT.ag [(0, EqS.s), (1, EqS.i), (2, EqS.i)])) [X.t 48, X.t 49, X.t 50]) Plan.done PlanL.nil))))))))) 
  (IC.seq (IC.ops [I.mk none (some 6) (Ef.pr Pr.mv) [X.c (Value.bool true)]]) IC.ret))))))

theorem k27 : Go.Proofs.Try.f27.body.bind (comp Go.Proofs.Try.prog 51 [5, 7] []) = some c27 := by kernel_rfl

theorem r27 : cRVs Go.Proofs.Try.prog Go.Proofs.Try.f27.results.toList = some [RV.t 6] := by kernel_rfl

theorem e27 {args : List Value} {h : Hp} {Q : Value → Hp → Prop} (hl : Nat.ble args.length 51 = true) (hk : codeK PR none c27 (retK Q [RV.t 6]) (fun _ _ _ _ => False) (retK Q [RV.t 6]) (argsE 0 args) [] h) : Ok PR 27 args h Q :=
  Ok.of mixed Go.Proofs.Try.func27 rfl k27 r27 hl hk

def c28 : IC := IC.seq (IC.ops [I.mk none (some 2) (Ef.al [Value.string (ByteArray.mk (Array.mk [])), Value.int IntKind.i64 0, Value.int IntKind.i64 0]) []]) 
  (IC.seq (IC.ops [I.mk none (some 3) (Ef.pr Pr.mv) [X.c (Value.string (ByteArray.mk (Array.mk [111, 100, 100])))]]) 
  (IC.seq 
  (IC.seq (IC.ops [I.mk none (some 4) (Ef.pr Pr.mv) [X.t 0], I.mk none (some 5) (Ef.pr (Pr.dv BinOp.rem)) [X.t 4, X.c (Value.int IntKind.i64 2)], I.mk none (some 6) (Ef.pr (Pr.cm BinOp.eql)) [X.t 5, X.c (Value.int IntKind.i64 0)]]) 
  (IC.cond (X.t 6) (IC.ops [I.mk none (some 3) (Ef.pr Pr.mv) [X.c (Value.string (ByteArray.mk (Array.mk [101, 118, 101, 110])))]]) IC.skip)) 
  (IC.seq (IC.ops [I.mk none (some 7) (Ef.pr Pr.mv) [X.t 3], I.mk none (some 8) (Ef.pr Pr.mv) [X.t 0], I.mk none (some 9) (Ef.pr Pr.mv) [X.t 0], I.mk none (some 10) (Ef.pr (Pr.bt BinOp.xor)) [X.t 9, X.c (Value.int IntKind.i64 5)], I.mk none (some 11) (Ef.pr (Pr.bld [Value.int IntKind.i64 0, Value.int IntKind.i64 0] [(0, 1), (1, 1)])) [X.t 8, X.t 10], I.mk none (some 12) (Ef.pr (Pr.bld [Value.string (ByteArray.mk (Array.mk [])), Value.int IntKind.i64 0, Value.int IntKind.i64 0] [(0, 1), (1, 2)])) [X.t 7, X.t 11], I.mk none none (Ef.st 3) [X.t 2, X.t 12]]) IC.ret)))

theorem k28 : Go.Proofs.Try.f28.body.bind (comp Go.Proofs.Try.prog 13 [2] []) = some c28 := by kernel_rfl

theorem r28 : cRVs Go.Proofs.Try.prog Go.Proofs.Try.f28.results.toList = some [RV.c 2 3 true] := by kernel_rfl

theorem e28 {args : List Value} {h : Hp} {Q : Value → Hp → Prop} (hl : Nat.ble args.length 13 = true) (hk : codeK PR none c28 (retK Q [RV.c 2 3 true]) (fun _ _ _ _ => False) (retK Q [RV.c 2 3 true]) (argsE 0 args) [] h) : Ok PR 28 args h Q :=
  Ok.of mixed Go.Proofs.Try.func28 rfl k28 r28 hl hk

def c32 : IC := IC.seq (IC.ops [I.mk none (some 2) (Ef.pr Pr.mv) [X.c (Value.int IntKind.i64 0)]]) 
  (IC.seq (IC.ops [I.mk none (some 3) (Ef.pr Pr.mv) [X.t 0], I.mk none (some 4) (Ef.pr Pr.nilc) [X.t 3], I.mk none (some 5) (Ef.pr (Pr.fa 0)) [X.t 4], I.mk none (some 6) (Ef.pr (Pr.ld 1 false)) [X.t 5], I.mk none (some 7) (Ef.pr Pr.lenM) [X.t 6], I.mk none (some 2) (Ef.pr Pr.mv) [X.t 7]]) IC.ret)

theorem k32 : Go.Proofs.Try.f32.body.bind (comp Go.Proofs.Try.prog 8 [] []) = some c32 := by kernel_rfl

theorem r32 : cRVs Go.Proofs.Try.prog Go.Proofs.Try.f32.results.toList = some [RV.t 2] := by kernel_rfl

theorem e32 {args : List Value} {h : Hp} {Q : Value → Hp → Prop} (hl : Nat.ble args.length 8 = true) (hk : codeK PR none c32 (retK Q [RV.t 2]) (fun _ _ _ _ => False) (retK Q [RV.t 2]) (argsE 0 args) [] h) : Ok PR 32 args h Q :=
  Ok.of mixed Go.Proofs.Try.func32 rfl k32 r32 hl hk

def c34 : IC := IC.seq (IC.ops [I.mk none (some 4) (Ef.al [Value.string (ByteArray.mk (Array.mk [])), Value.int IntKind.i64 0, Value.int IntKind.i64 0]) [], I.mk none (some 5) (Ef.pr Pr.mv) [X.c (Value.bool false)]]) 
  (IC.seq (IC.ops [I.mk none (some 9) (Ef.pr Pr.mv) [X.t 0], I.mk none (some 10) (Ef.pr Pr.nilc) [X.t 9], I.mk none (some 11) (Ef.pr (Pr.fa 0)) [X.t 10], I.mk none (some 12) (Ef.pr (Pr.ld 1 false)) [X.t 11], I.mk none (some 13) (Ef.pr Pr.mv) [X.t 1], I.mk none (some 14) (Ef.pr (Pr.look (EqT.one EqS.i) (Value.agg (Array.mk [Value.string (ByteArray.mk (Array.mk [])), Value.int IntKind.i64 0, Value.int IntKind.i64 0])) true)) [X.t 12, X.t 13], I.mk none (some 8) (Ef.pr Pr.mv) [X.t 14], I.mk none (some 15) (Ef.pr (Pr.ext 0)) [X.t 8], I.mk none (some 16) (Ef.pr (Pr.ext 1)) [X.t 8], I.mk none (some 6) (Ef.al [Value.string (ByteArray.mk (Array.mk [])), Value.int IntKind.i64 0, Value.int IntKind.i64 0]) [], I.mk none none (Ef.st 3) [X.t 6, X.t 15], I.mk none (some 7) (Ef.pr Pr.mv) [X.t 16]]) 
  (IC.seq (IC.ops [I.mk none (some 17) (Ef.pr (Pr.ld 3 true)) [X.t 6], I.mk none (some 18) (Ef.pr Pr.mv) [X.t 7], I.mk none none (Ef.st 3) [X.t 4, X.t 17], I.mk none (some 5) (Ef.pr Pr.mv) [X.t 18]]) IC.ret))

theorem k34 : Go.Proofs.Try.f34.body.bind (comp Go.Proofs.Try.prog 19 [4, 6] []) = some c34 := by kernel_rfl

theorem r34 : cRVs Go.Proofs.Try.prog Go.Proofs.Try.f34.results.toList = some [RV.c 4 3 true, RV.t 5] := by kernel_rfl

theorem e34 {args : List Value} {h : Hp} {Q : Value → Hp → Prop} (hl : Nat.ble args.length 19 = true) (hk : codeK PR none c34 (retK Q [RV.c 4 3 true, RV.t 5]) (fun _ _ _ _ => False) (retK Q [RV.c 4 3 true, RV.t 5]) (argsE 0 args) [] h) : Ok PR 34 args h Q :=
  Ok.of mixed Go.Proofs.Try.func34 rfl k34 r34 hl hk

def c21 : IC := IC.seq (IC.ops [I.mk none (some 0) (Ef.pr Pr.mv) [X.c (Value.pointer none)]]) 
  (IC.seq (IC.ops [I.mk none (some 1) Ef.mkm [], I.mk none (some 2) Ef.mkm [], I.mk none (some 3) (Ef.pr (Pr.bld [Value.map none, Value.map none] [(0, 1), (1, 1)])) [X.t 1, X.t 2], I.mk none (some 4) (Ef.bxh 115) [X.t 3], I.mk none (some 0) (Ef.pr Pr.mv) [X.t 4]]) IC.ret)

theorem k21 : Go.Proofs.Try.f21.body.bind (comp Go.Proofs.Try.prog 5 [] []) = some c21 := by kernel_rfl

theorem r21 : cRVs Go.Proofs.Try.prog Go.Proofs.Try.f21.results.toList = some [RV.t 0] := by kernel_rfl

theorem e21 {args : List Value} {h : Hp} {Q : Value → Hp → Prop} (hl : Nat.ble args.length 5 = true) (hk : codeK PR none c21 (retK Q [RV.t 0]) (fun _ _ _ _ => False) (retK Q [RV.t 0]) (argsE 0 args) [] h) : Ok PR 21 args h Q :=
  Ok.of mixed Go.Proofs.Try.func21 rfl k21 r21 hl hk

def c31 : IC := IC.seq (IC.ops [I.mk none (some 2) (Ef.pr Pr.mv) [X.c (Value.int IntKind.i64 0)]]) 
  (IC.seq (IC.ops [I.mk none (some 3) (Ef.pr Pr.mv) [X.t 0], I.mk none (some 4) (Ef.pr Pr.nilc) [X.t 3], I.mk none (some 5) (Ef.pr (Pr.fa 0)) [X.t 4], I.mk none (some 6) (Ef.pr (Pr.ld 1 false)) [X.t 5], I.mk none (some 7) (Ef.pr Pr.lenM) [X.t 6], I.mk none (some 2) (Ef.pr Pr.mv) [X.t 7]]) IC.ret)

theorem k31 : Go.Proofs.Try.f31.body.bind (comp Go.Proofs.Try.prog 8 [] []) = some c31 := by kernel_rfl

theorem r31 : cRVs Go.Proofs.Try.prog Go.Proofs.Try.f31.results.toList = some [RV.t 2] := by kernel_rfl

theorem e31 {args : List Value} {h : Hp} {Q : Value → Hp → Prop} (hl : Nat.ble args.length 8 = true) (hk : codeK PR none c31 (retK Q [RV.t 2]) (fun _ _ _ _ => False) (retK Q [RV.t 2]) (argsE 0 args) [] h) : Ok PR 31 args h Q :=
  Ok.of mixed Go.Proofs.Try.func31 rfl k31 r31 hl hk

def c36 : IC := IC.seq (IC.ops [I.mk none (some 4) (Ef.al [Value.string (ByteArray.mk (Array.mk [])), Value.int IntKind.i64 0, Value.int IntKind.i64 0]) [], I.mk none (some 5) (Ef.pr Pr.mv) [X.c (Value.bool false)]]) 
  (IC.seq (IC.ops [I.mk none (some 9) (Ef.pr Pr.mv) [X.t 0], I.mk none (some 10) (Ef.pr Pr.nilc) [X.t 9], I.mk none (some 11) (Ef.pr (Pr.fa 1)) [X.t 10], I.mk none (some 12) (Ef.pr (Pr.ld 1 false)) [X.t 11], I.mk none (some 13) (Ef.pr Pr.mv) [X.t 1], I.mk none (some 14) (Ef.pr (Pr.look (EqT.one EqS.i) (Value.agg (Array.mk [Value.string (ByteArray.mk (Array.mk [])), Value.int IntKind.i64 0, Value.int IntKind.i64 0])) true)) [X.t 12, X.t 13], I.mk none (some 8) (Ef.pr Pr.mv) [X.t 14], I.mk none (some 15) (Ef.pr (Pr.ext 0)) [X.t 8], I.mk none (some 16) (Ef.pr (Pr.ext 1)) [X.t 8], I.mk none (some 6) (Ef.al [Value.string (ByteArray.mk (Array.mk [])), Value.int IntKind.i64 0, Value.int IntKind.i64 0]) [], I.mk none none (Ef.st 3) [X.t 6, X.t 15], I.mk none (some 7) (Ef.pr Pr.mv) [X.t 16]]) 
  (IC.seq (IC.ops [I.mk none (some 17) (Ef.pr (Pr.ld 3 true)) [X.t 6], I.mk none (some 18) (Ef.pr Pr.mv) [X.t 7], I.mk none none (Ef.st 3) [X.t 4, X.t 17], I.mk none (some 5) (Ef.pr Pr.mv) [X.t 18]]) IC.ret))

theorem k36 : Go.Proofs.Try.f36.body.bind (comp Go.Proofs.Try.prog 19 [4, 6] []) = some c36 := by kernel_rfl

theorem r36 : cRVs Go.Proofs.Try.prog Go.Proofs.Try.f36.results.toList = some [RV.c 4 3 true, RV.t 5] := by kernel_rfl

theorem e36 {args : List Value} {h : Hp} {Q : Value → Hp → Prop} (hl : Nat.ble args.length 19 = true) (hk : codeK PR none c36 (retK Q [RV.c 4 3 true, RV.t 5]) (fun _ _ _ _ => False) (retK Q [RV.c 4 3 true, RV.t 5]) (argsE 0 args) [] h) : Ok PR 36 args h Q :=
  Ok.of mixed Go.Proofs.Try.func36 rfl k36 r36 hl hk

def c78 : IC := IC.seq (IC.ops [I.mk none (some 4) Ef.bx [X.t 1], I.mk none (some 6) (Ef.pr Pr.mv) [X.c (Value.bool false)]]) 
  (IC.seq (IC.plan (Plan.q (I.mk none (some 12) (Ef.pr Pr.mv) [X.t 0]) (Plan.q (I.mk none (some 13) (Ef.pr Pr.nilc) [X.t 12]) (Plan.q (I.mk none (some 14) (Ef.pr (Pr.fa 0)) [X.t 13]) (Plan.q (I.mk none (some 15) (Ef.pr (Pr.ld 1 false)) [X.t 14]) (Plan.q (I.mk none (some 16) (Ef.pr (Pr.ld 3 true)) [X.t 4]) (Plan.q (I.mk none (some 17) (Ef.pr (Pr.look (EqT.ag [(0, EqS.s), (1, EqS.i), (2, EqS.i)]) (Value.int IntKind.i64 0) true)) [X.t 15, X.t 16]) (Plan.q (I.mk none (some 11) (Ef.pr Pr.mv) [X.t 17]) (Plan.q (I.mk none (some 18) (Ef.pr (Pr.ext 0)) [X.t 11]) (Plan.q (I.mk none (some 19) (Ef.pr (Pr.ext 1)) [X.t 11]) (Plan.q (I.mk none (some 7) (Ef.pr Pr.mv) [X.t 18]) (Plan.q (I.mk none (some 8) (Ef.pr Pr.mv) [X.t 19]) Plan.done)))))))))))) 
  (IC.seq (IC.ops [I.mk none (some 21) (Ef.pr Pr.mv) [X.t 0], I.mk none (some 22) (Ef.pr Pr.nilc) [X.t 21], I.mk none (some 23) (Ef.pr (Pr.fa 1)) [X.t 22], I.mk none (some 24) (Ef.pr (Pr.ld 1 false)) [X.t 23], I.mk none (some 25) (Ef.pr Pr.mv) [X.t 2], I.mk none (some 26) (Ef.pr (Pr.look (EqT.one EqS.i) (Value.agg (Array.mk [Value.string (ByteArray.mk (Array.mk [])), Value.int IntKind.i64 0, Value.int IntKind.i64 0])) true)) [X.t 24, X.t 25], I.mk none (some 20) (Ef.pr Pr.mv) [X.t 26], I.mk none (some 27) (Ef.pr (Pr.ext 0)) [X.t 20], I.mk none (some 28) (Ef.pr (Pr.ext 1)) [X.t 20], I.mk none (some 9) (Ef.al [Value.string (ByteArray.mk (Array.mk [])), Value.int IntKind.i64 0, Value.int IntKind.i64 0]) [], I.mk none none (Ef.st 3) [X.t 9, X.t 27], I.mk none (some 10) (Ef.pr Pr.mv) [X.t 28]]) 
  (IC.seq 
  (IC.seq (IC.ops [I.mk none (some 29) (Ef.pr Pr.mv) [X.t 8], I.mk none (some 30) (Ef.pr Pr.mv) [X.t 29], I.mk (some (30, false)) (some 31) (Ef.pr Pr.mv) [X.t 10], I.mk none (some 32) (Ef.pr Pr.pick) [X.t 30, X.c (Value.bool true), X.t 31]]) 
  (IC.cond (X.t 32) 
  (IC.seq (IC.ops [I.mk none (some 33) (Ef.pr Pr.mv) [X.t 8], I.mk none (some 34) (Ef.pr Pr.mv) [X.t 33], I.mk (some (34, true)) (some 35) (Ef.pr Pr.mv) [X.t 7], I.mk (some (34, true)) (some 36) (Ef.pr Pr.mv) [X.t 2], I.mk (some (34, true)) (some 37) (Ef.pr (Pr.cm BinOp.eql)) [X.t 35, X.t 36], I.mk none (some 38) (Ef.pr Pr.pick) [X.t 34, X.t 37, X.c (Value.bool false)], I.mk none (some 6) (Ef.pr Pr.mv) [X.t 38]]) IC.ret) IC.skip)) 
  (IC.seq (IC.plan (Plan.q (I.mk none (some 39) (Ef.pr Pr.mv) [X.t 0]) (Plan.q (I.mk none (some 40) (Ef.pr Pr.nilc) [X.t 39]) (Plan.q (I.mk none (some 41) (Ef.pr (Pr.fa 0)) [X.t 40]) (Plan.q (I.mk none (some 42) (Ef.pr (Pr.ld 1 false)) [X.t 41]) (Plan.q (I.mk none (some 43) (Ef.pr (Pr.ld 3 true)) [X.t 4]) (Plan.q (I.mk none (some 44) (Ef.pr Pr.mv) [X.t 2]) (Plan.br (PlanL.cons false false (I.mk none none (Ef.mup (EqT.ag [(0, EqS.s), (1, EqS.i), (2, EqS.i)])) [X.t 42, X.t 43, X.t 44]) Plan.done PlanL.nil))))))))) 
  (IC.seq (IC.plan (Plan.q (I.mk none (some 45) (Ef.pr Pr.mv) [X.t 0]) (Plan.q (I.mk none (some 46) (Ef.pr Pr.nilc) [X.t 45]) (Plan.q (I.mk none (some 47) (Ef.pr (Pr.fa 1)) [X.t 46]) (Plan.q (I.mk none (some 48) (Ef.pr (Pr.ld 1 false)) [X.t 47]) (Plan.q (I.mk none (some 49) (Ef.pr Pr.mv) [X.t 2]) (Plan.q (I.mk none (some 50) (Ef.pr (Pr.ld 3 true)) [X.t 4]) (Plan.br (PlanL.cons false false (I.mk none none (Ef.mup (EqT.one EqS.i)) [X.t 48, X.t 49, X.t 50]) Plan.done PlanL.nil))))))))) 
  (IC.seq (IC.ops [I.mk none (some 6) (Ef.pr Pr.mv) [X.c (Value.bool true)]]) IC.ret))))))

theorem k78 : Go.Proofs.Try.f78.body.bind (comp Go.Proofs.Try.prog 51 [4, 9] []) = some c78 := by kernel_rfl

theorem r78 : cRVs Go.Proofs.Try.prog Go.Proofs.Try.f78.results.toList = some [RV.t 6] := by kernel_rfl

theorem e78 {args : List Value} {h : Hp} {Q : Value → Hp → Prop} (hl : Nat.ble args.length 51 = true) (hk : codeK PR none c78 (retK Q [RV.t 6]) (fun _ _ _ _ => False) (retK Q [RV.t 6]) (argsE 0 args) [] h) : Ok PR 78 args h Q :=
  Ok.of mixed Go.Proofs.Try.func78 rfl k78 r78 hl hk

def c80 : IC := IC.seq (IC.ops [I.mk none (some 3) Ef.bx [X.t 1], I.mk none (some 4) (Ef.pr Pr.mv) [X.c (Value.bool false)]]) 
  (IC.seq (IC.plan (Plan.q (I.mk none (some 8) (Ef.pr Pr.mv) [X.t 0]) (Plan.q (I.mk none (some 9) (Ef.pr Pr.nilc) [X.t 8]) (Plan.q (I.mk none (some 10) (Ef.pr (Pr.fa 0)) [X.t 9]) (Plan.q (I.mk none (some 11) (Ef.pr (Pr.ld 1 false)) [X.t 10]) (Plan.q (I.mk none (some 12) (Ef.pr (Pr.ld 3 true)) [X.t 3]) (Plan.q (I.mk none (some 13) (Ef.pr (Pr.look (EqT.ag [(0, EqS.s), (1, EqS.i), (2, EqS.i)]) (Value.int IntKind.i64 0) true)) [X.t 11, X.t 12]) (Plan.q (I.mk none (some 7) (Ef.pr Pr.mv) [X.t 13]) (Plan.q (I.mk none (some 14) (Ef.pr (Pr.ext 0)) [X.t 7]) (Plan.q (I.mk none (some 15) (Ef.pr (Pr.ext 1)) [X.t 7]) (Plan.q (I.mk none (some 5) (Ef.pr Pr.mv) [X.t 14]) (Plan.q (I.mk none (some 6) (Ef.pr Pr.mv) [X.t 15]) Plan.done)))))))))))) 
  (IC.seq 
  (IC.seq (IC.ops [I.mk none (some 16) (Ef.pr Pr.mv) [X.t 6]]) 
  (IC.cond (X.t 16) 
  (IC.seq (IC.plan (Plan.q (I.mk none (some 17) (Ef.pr Pr.mv) [X.t 0]) (Plan.q (I.mk none (some 18) (Ef.pr Pr.nilc) [X.t 17]) (Plan.q (I.mk none (some 19) (Ef.pr (Pr.fa 0)) [X.t 18]) (Plan.q (I.mk none (some 20) (Ef.pr (Pr.ld 1 false)) [X.t 19]) (Plan.q (I.mk none (some 21) (Ef.pr (Pr.ld 3 true)) [X.t 3]) (Plan.br (PlanL.cons false false (I.mk none none (Ef.mdel (EqT.ag [(0, EqS.s), (1, EqS.i), (2, EqS.i)])) [X.t 20, X.t 21]) Plan.done PlanL.nil)))))))) (IC.ops [I.mk none (some 22) (Ef.pr Pr.mv) [X.t 0], I.mk none (some 23) (Ef.pr Pr.nilc) [X.t 22], I.mk none (some 24) (Ef.pr (Pr.fa 1)) [X.t 23], I.mk none (some 25) (Ef.pr (Pr.ld 1 false)) [X.t 24], I.mk none (some 26) (Ef.pr Pr.mv) [X.t 5], I.mk none none (Ef.mdel (EqT.one EqS.i)) [X.t 25, X.t 26]])) IC.skip)) 
  (IC.seq (IC.ops [I.mk none (some 27) (Ef.pr Pr.mv) [X.t 6], I.mk none (some 4) (Ef.pr Pr.mv) [X.t 27]]) IC.ret)))

theorem k80 : Go.Proofs.Try.f80.body.bind (comp Go.Proofs.Try.prog 28 [3] []) = some c80 := by kernel_rfl

theorem r80 : cRVs Go.Proofs.Try.prog Go.Proofs.Try.f80.results.toList = some [RV.t 4] := by kernel_rfl

theorem e80 {args : List Value} {h : Hp} {Q : Value → Hp → Prop} (hl : Nat.ble args.length 28 = true) (hk : codeK PR none c80 (retK Q [RV.t 4]) (fun _ _ _ _ => False) (retK Q [RV.t 4]) (argsE 0 args) [] h) : Ok PR 80 args h Q :=
  Ok.of mixed Go.Proofs.Try.func80 rfl k80 r80 hl hk

def c85 : IC := IC.seq (IC.ops [I.mk none (some 3) Ef.bx [X.t 1], I.mk none (some 4) (Ef.pr Pr.mv) [X.c (Value.int IntKind.i64 0)], I.mk none (some 5) (Ef.pr Pr.mv) [X.c (Value.bool false)]]) 
  (IC.seq (IC.plan (Plan.q (I.mk none (some 9) (Ef.pr Pr.mv) [X.t 0]) (Plan.q (I.mk none (some 10) (Ef.pr Pr.nilc) [X.t 9]) (Plan.q (I.mk none (some 11) (Ef.pr (Pr.fa 1)) [X.t 10]) (Plan.q (I.mk none (some 12) (Ef.pr (Pr.ld 1 false)) [X.t 11]) (Plan.q (I.mk none (some 13) (Ef.pr (Pr.ld 3 true)) [X.t 3]) (Plan.q (I.mk none (some 14) (Ef.pr (Pr.look (EqT.ag [(0, EqS.s), (1, EqS.i), (2, EqS.i)]) (Value.int IntKind.i64 0) true)) [X.t 12, X.t 13]) (Plan.q (I.mk none (some 8) (Ef.pr Pr.mv) [X.t 14]) (Plan.q (I.mk none (some 15) (Ef.pr (Pr.ext 0)) [X.t 8]) (Plan.q (I.mk none (some 16) (Ef.pr (Pr.ext 1)) [X.t 8]) (Plan.q (I.mk none (some 6) (Ef.pr Pr.mv) [X.t 15]) (Plan.q (I.mk none (some 7) (Ef.pr Pr.mv) [X.t 16]) Plan.done)))))))))))) 
  (IC.seq (IC.ops [I.mk none (some 17) (Ef.pr Pr.mv) [X.t 6], I.mk none (some 18) (Ef.pr Pr.mv) [X.t 7], I.mk none (some 4) (Ef.pr Pr.mv) [X.t 17], I.mk none (some 5) (Ef.pr Pr.mv) [X.t 18]]) IC.ret))

theorem k85 : Go.Proofs.Try.f85.body.bind (comp Go.Proofs.Try.prog 19 [3] []) = some c85 := by kernel_rfl

theorem r85 : cRVs Go.Proofs.Try.prog Go.Proofs.Try.f85.results.toList = some [RV.t 4, RV.t 5] := by kernel_rfl

theorem e85 {args : List Value} {h : Hp} {Q : Value → Hp → Prop} (hl : Nat.ble args.length 19 = true) (hk : codeK PR none c85 (retK Q [RV.t 4, RV.t 5]) (fun _ _ _ _ => False) (retK Q [RV.t 4, RV.t 5]) (argsE 0 args) [] h) : Ok PR 85 args h Q :=
  Ok.of mixed Go.Proofs.Try.func85 rfl k85 r85 hl hk

def c35 : IC := IC.seq (IC.ops [I.mk none (some 3) Ef.bx [X.t 1], I.mk none (some 4) (Ef.pr Pr.mv) [X.c (Value.int IntKind.i64 0)], I.mk none (some 5) (Ef.pr Pr.mv) [X.c (Value.bool false)]]) 
  (IC.seq (IC.plan (Plan.q (I.mk none (some 9) (Ef.pr Pr.mv) [X.t 0]) (Plan.q (I.mk none (some 10) (Ef.pr Pr.nilc) [X.t 9]) (Plan.q (I.mk none (some 11) (Ef.pr (Pr.fa 0)) [X.t 10]) (Plan.q (I.mk none (some 12) (Ef.pr (Pr.ld 1 false)) [X.t 11]) (Plan.q (I.mk none (some 13) (Ef.pr (Pr.ld 3 true)) [X.t 3]) (Plan.q (I.mk none (some 14) (Ef.pr (Pr.look (EqT.ag [(0, EqS.s), (1, EqS.i), (2, EqS.i)]) (Value.int IntKind.i64 0) true)) [X.t 12, X.t 13]) (Plan.q (I.mk none (some 8) (Ef.pr Pr.mv) [X.t 14]) (Plan.q (I.mk none (some 15) (Ef.pr (Pr.ext 0)) [X.t 8]) (Plan.q (I.mk none (some 16) (Ef.pr (Pr.ext 1)) [X.t 8]) (Plan.q (I.mk none (some 6) (Ef.pr Pr.mv) [X.t 15]) (Plan.q (I.mk none (some 7) (Ef.pr Pr.mv) [X.t 16]) Plan.done)))))))))))) 
  (IC.seq (IC.ops [I.mk none (some 17) (Ef.pr Pr.mv) [X.t 6], I.mk none (some 18) (Ef.pr Pr.mv) [X.t 7], I.mk none (some 4) (Ef.pr Pr.mv) [X.t 17], I.mk none (some 5) (Ef.pr Pr.mv) [X.t 18]]) IC.ret))

theorem k35 : Go.Proofs.Try.f35.body.bind (comp Go.Proofs.Try.prog 19 [3] []) = some c35 := by kernel_rfl

theorem r35 : cRVs Go.Proofs.Try.prog Go.Proofs.Try.f35.results.toList = some [RV.t 4, RV.t 5] := by kernel_rfl

theorem e35 {args : List Value} {h : Hp} {Q : Value → Hp → Prop} (hl : Nat.ble args.length 19 = true) (hk : codeK PR none c35 (retK Q [RV.t 4, RV.t 5]) (fun _ _ _ _ => False) (retK Q [RV.t 4, RV.t 5]) (argsE 0 args) [] h) : Ok PR 35 args h Q :=
  Ok.of mixed Go.Proofs.Try.func35 rfl k35 r35 hl hk

def c29 : IC := IC.seq (IC.ops [I.mk none (some 4) (Ef.pr Pr.mv) [X.c (Value.bool false)]]) 
  (IC.seq (IC.ops [I.mk none (some 8) (Ef.pr Pr.mv) [X.t 0], I.mk none (some 9) (Ef.pr Pr.nilc) [X.t 8], I.mk none (some 10) (Ef.pr (Pr.fa 0)) [X.t 9], I.mk none (some 11) (Ef.pr (Pr.ld 1 false)) [X.t 10], I.mk none (some 12) (Ef.pr Pr.mv) [X.t 1], I.mk none (some 13) (Ef.pr (Pr.look (EqT.one EqS.i) (Value.agg (Array.mk [Value.string (ByteArray.mk (Array.mk [])), Value.int IntKind.i64 0, Value.int IntKind.i64 0])) true)) [X.t 11, X.t 12], I.mk none (some 7) (Ef.pr Pr.mv) [X.t 13], I.mk none (some 14) (Ef.pr (Pr.ext 0)) [X.t 7], I.mk none (some 15) (Ef.pr (Pr.ext 1)) [X.t 7], I.mk none (some 5) (Ef.al [Value.string (ByteArray.mk (Array.mk [])), Value.int IntKind.i64 0, Value.int IntKind.i64 0]) [], I.mk none none (Ef.st 3) [X.t 5, X.t 14], I.mk none (some 6) (Ef.pr Pr.mv) [X.t 15]]) 
  (IC.seq 
  (IC.seq (IC.ops [I.mk none (some 16) (Ef.pr Pr.mv) [X.t 6]]) 
  (IC.cond (X.t 16) 
  (IC.seq (IC.ops [I.mk none (some 17) (Ef.pr Pr.mv) [X.t 0], I.mk none (some 18) (Ef.pr Pr.nilc) [X.t 17], I.mk none (some 19) (Ef.pr (Pr.fa 0)) [X.t 18], I.mk none (some 20) (Ef.pr (Pr.ld 1 false)) [X.t 19], I.mk none (some 21) (Ef.pr Pr.mv) [X.t 1], I.mk none none (Ef.mdel (EqT.one EqS.i)) [X.t 20, X.t 21]]) (IC.plan (Plan.q (I.mk none (some 22) (Ef.pr Pr.mv) [X.t 0]) (Plan.q (I.mk none (some 23) (Ef.pr Pr.nilc) [X.t 22]) (Plan.q (I.mk none (some 24) (Ef.pr (Pr.fa 1)) [X.t 23]) (Plan.q (I.mk none (some 25) (Ef.pr (Pr.ld 1 false)) [X.t 24]) (Plan.q (I.mk none (some 26) (Ef.pr (Pr.ld 3 true)) [X.t 5]) (Plan.br (PlanL.cons false false (I.mk none none (Ef.mdel (EqT.ag [(0, EqS.s), (1, EqS.i), (2, EqS.i)])) [X.t 25, X.t 26]) Plan.done PlanL.nil))))))))) IC.skip)) 
  (IC.seq (IC.ops [I.mk none (some 27) (Ef.pr Pr.mv) [X.t 6], I.mk none (some 4) (Ef.pr Pr.mv) [X.t 27]]) IC.ret)))

theorem k29 : Go.Proofs.Try.f29.body.bind (comp Go.Proofs.Try.prog 28 [5] []) = some c29 := by kernel_rfl

theorem r29 : cRVs Go.Proofs.Try.prog Go.Proofs.Try.f29.results.toList = some [RV.t 4] := by kernel_rfl

theorem e29 {args : List Value} {h : Hp} {Q : Value → Hp → Prop} (hl : Nat.ble args.length 28 = true) (hk : codeK PR none c29 (retK Q [RV.t 4]) (fun _ _ _ _ => False) (retK Q [RV.t 4]) (argsE 0 args) [] h) : Ok PR 29 args h Q :=
  Ok.of mixed Go.Proofs.Try.func29 rfl k29 r29 hl hk

end Go.Proofs.Ytkmknolkblcbeaa.V
