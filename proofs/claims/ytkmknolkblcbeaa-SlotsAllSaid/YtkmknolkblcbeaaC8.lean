/- The functions 50, 62, 69, 74, 106, 107, 95, 112, resolved. -/
import Derived.Test.YtkmknolkblcbeaaVP
namespace Go.Proofs.Ytkmknolkblcbeaa.V
set_option linter.unusedVariables false
set_option linter.unusedSimpArgs false
set_option linter.unusedSectionVars false
open Go
set_option maxRecDepth 100000

def c50 : IC := IC.seq (IC.ops [I.mk none (some 1) (Ef.bxh 73) [X.t 0], I.mk none (some 2) (Ef.pr Pr.mv) [X.c Value.nilFunc]]) 
  (IC.seq (IC.ops [I.mk none (some 3) (Ef.pr (Pr.mkf (Fn.func 95) 0)) [X.t 1], I.mk none (some 2) (Ef.pr Pr.mv) [X.t 3]]) IC.ret)

theorem k50 : Go.Proofs.Try.f50.body.bind (comp Go.Proofs.Try.prog 4 [] []) = some c50 := by kernel_rfl

theorem r50 : cRVs Go.Proofs.Try.prog Go.Proofs.Try.f50.results.toList = some [RV.t 2] := by kernel_rfl

theorem e50 {args : List Value} {h : Hp} {Q : Value → Hp → Prop} (hl : Nat.ble args.length 4 = true) (hk : codeK PR none c50 (retK Q [RV.t 2]) (fun _ _ _ _ => False) (retK Q [RV.t 2]) (argsE 0 args) [] h) : Ok PR 50 args h Q :=
  Ok.of mixed Go.Proofs.Try.func50 rfl k50 r50 hl hk

def c62 : IC := IC.seq (IC.ops [I.mk none (some 2) (Ef.pr Pr.mv) [X.c (Value.pointer none)]]) 
  (IC.seq (IC.ops [I.mk none (some 6) (Ef.pr Pr.mv) [X.t 0], I.mk none (some 7) (Ef.call 63) [X.t 6], I.mk none (some 8) (Ef.call 56) [X.t 7], I.mk none (some 3) (Ef.alh [Value.pointer none] 73) [], I.mk none none (Ef.st 1) [X.t 3, X.t 8]]) 
  (IC.seq 
  (IC.seq (IC.ops [I.mk none (some 9) (Ef.pr Pr.mv) [X.t 0], I.mk none (some 10) (Ef.call 50) [X.t 9]]) 
  (IC.block 0 (IC.rf (X.t 10) [11, 12] 
  (IC.seq (IC.ops [I.mk none (some 4) (Ef.pr Pr.mv) [X.t 11]]) (IC.ops [I.mk none (some 5) (Ef.pr Pr.mv) [X.t 12]])) 
  (IC.block 1 (IC.ops [I.mk none (some 13) (Ef.pr (Pr.ld 1 false)) [X.t 3], I.mk none (some 14) (Ef.pr Pr.mv) [X.t 4], I.mk none (some 15) (Ef.pr Pr.mv) [X.t 5], I.mk none (some 16) (Ef.call 101) [X.t 13, X.t 14, X.t 15]]))))) 
  (IC.seq (IC.ops [I.mk none (some 17) (Ef.pr (Pr.ld 1 false)) [X.t 3], I.mk none (some 2) (Ef.pr Pr.mv) [X.t 17]]) IC.ret)))

theorem k62 : Go.Proofs.Try.f62.body.bind (comp Go.Proofs.Try.prog 18 [] []) = some c62 := by kernel_rfl

theorem r62 : cRVs Go.Proofs.Try.prog Go.Proofs.Try.f62.results.toList = some [RV.t 2] := by kernel_rfl

theorem e62 {args : List Value} {h : Hp} {Q : Value → Hp → Prop} (hl : Nat.ble args.length 18 = true) (hk : codeK PR none c62 (retK Q [RV.t 2]) (fun _ _ _ _ => False) (retK Q [RV.t 2]) (argsE 0 args) [] h) : Ok PR 62 args h Q :=
  Ok.of mixed Go.Proofs.Try.func62 rfl k62 r62 hl hk

def c69 : IC := IC.seq (IC.ops [I.mk none (some 3) (Ef.bxh 3) [X.t 1], I.mk none (some 4) (Ef.alh [Value.int IntKind.i64 0] 3) []]) 
  (IC.seq 
  (IC.seq (IC.ops [I.mk none (some 7) (Ef.pr Pr.mv) [X.t 0], I.mk none (some 8) (Ef.call 50) [X.t 7]]) 
  (IC.block 0 (IC.rf (X.t 8) [9, 10] 
  (IC.seq (IC.ops [I.mk none (some 5) (Ef.pr Pr.mv) [X.t 9]]) (IC.ops [I.mk none (some 6) (Ef.pr Pr.mv) [X.t 10]])) 
  (IC.block 1 
  (IC.seq (IC.ops [I.mk none (some 11) (Ef.pr Pr.mv) [X.t 6], I.mk none (some 12) (Ef.pr (Pr.ld 1 false)) [X.t 3], I.mk none (some 13) (Ef.pr (Pr.cm BinOp.eql)) [X.t 11, X.t 12]]) 
  (IC.cond (X.t 13) 
  (IC.seq (IC.ops [I.mk none (some 14) (Ef.pr Pr.mv) [X.t 5], I.mk none none (Ef.st 1) [X.t 4, X.t 14]]) IC.ret) IC.skip)))))) 
  (IC.seq (IC.ops [I.mk none none (Ef.st 1) [X.t 4, X.c (Value.int IntKind.i64 (-1))]]) IC.ret))

theorem k69 : Go.Proofs.Try.f69.body.bind (comp Go.Proofs.Try.prog 15 [] []) = some c69 := by kernel_rfl

theorem r69 : cRVs Go.Proofs.Try.prog Go.Proofs.Try.f69.results.toList = some [RV.c 4 1 false] := by kernel_rfl

theorem e69 {args : List Value} {h : Hp} {Q : Value → Hp → Prop} (hl : Nat.ble args.length 15 = true) (hk : codeK PR none c69 (retK Q [RV.c 4 1 false]) (fun _ _ _ _ => False) (retK Q [RV.c 4 1 false]) (argsE 0 args) [] h) : Ok PR 69 args h Q :=
  Ok.of mixed Go.Proofs.Try.func69 rfl k69 r69 hl hk

def c74 : IC := IC.seq (IC.ops [I.mk none (some 2) (Ef.pr Pr.mv) [X.c (Value.pointer none)]]) 
  (IC.seq (IC.ops [I.mk none (some 6) (Ef.pr Pr.mv) [X.t 0], I.mk none (some 7) (Ef.call 44) [X.t 6], I.mk none (some 8) (Ef.call 37) [X.t 7], I.mk none (some 3) (Ef.alh [Value.pointer none] 59) [], I.mk none none (Ef.st 1) [X.t 3, X.t 8]]) 
  (IC.seq 
  (IC.seq (IC.ops [I.mk none (some 9) (Ef.pr Pr.mv) [X.t 0], I.mk none (some 10) (Ef.call 107) [X.t 9]]) 
  (IC.block 0 (IC.rf (X.t 10) [11, 12] 
  (IC.seq (IC.ops [I.mk none (some 4) (Ef.pr Pr.mv) [X.t 11]]) (IC.ops [I.mk none (some 5) (Ef.alh [Value.string (ByteArray.mk (Array.mk [])), Value.int IntKind.i64 0, Value.int IntKind.i64 0] 39) [], I.mk none none (Ef.st 3) [X.t 5, X.t 12]])) 
  (IC.block 1 (IC.ops [I.mk none (some 13) (Ef.pr (Pr.ld 1 false)) [X.t 3], I.mk none (some 14) (Ef.pr Pr.mv) [X.t 4], I.mk none (some 15) (Ef.pr (Pr.ld 3 true)) [X.t 5], I.mk none (some 16) (Ef.call 87) [X.t 13, X.t 14, X.t 15]]))))) 
  (IC.seq (IC.ops [I.mk none (some 17) (Ef.pr (Pr.ld 1 false)) [X.t 3], I.mk none (some 2) (Ef.pr Pr.mv) [X.t 17]]) IC.ret)))

theorem k74 : Go.Proofs.Try.f74.body.bind (comp Go.Proofs.Try.prog 18 [] []) = some c74 := by kernel_rfl

theorem r74 : cRVs Go.Proofs.Try.prog Go.Proofs.Try.f74.results.toList = some [RV.t 2] := by kernel_rfl

theorem e74 {args : List Value} {h : Hp} {Q : Value → Hp → Prop} (hl : Nat.ble args.length 18 = true) (hk : codeK PR none c74 (retK Q [RV.t 2]) (fun _ _ _ _ => False) (retK Q [RV.t 2]) (argsE 0 args) [] h) : Ok PR 74 args h Q :=
  Ok.of mixed Go.Proofs.Try.func74 rfl k74 r74 hl hk

def c106 : IC := IC.seq (IC.ops [I.mk none (some 3) (Ef.bxh 39) [X.t 1], I.mk none (some 4) (Ef.alh [Value.int IntKind.i64 0] 3) []]) 
  (IC.seq 
  (IC.seq (IC.ops [I.mk none (some 7) (Ef.pr Pr.mv) [X.t 0], I.mk none (some 8) (Ef.call 107) [X.t 7]]) 
  (IC.block 0 (IC.rf (X.t 8) [9, 10] 
  (IC.seq (IC.ops [I.mk none (some 5) (Ef.pr Pr.mv) [X.t 9]]) (IC.ops [I.mk none (some 6) (Ef.alh [Value.string (ByteArray.mk (Array.mk [])), Value.int IntKind.i64 0, Value.int IntKind.i64 0] 39) [], I.mk none none (Ef.st 3) [X.t 6, X.t 10]])) 
  (IC.block 1 
  (IC.seq (IC.ops [I.mk none (some 11) (Ef.pr (Pr.ld 3 true)) [X.t 6], I.mk none (some 12) (Ef.pr (Pr.ld 3 true)) [X.t 3], I.mk none (some 13) (Ef.pr (Pr.eq false (EqT.ag [(0, EqS.s), (1, EqS.i), (2, EqS.i)]))) [X.t 11, X.t 12]]) 
  (IC.cond (X.t 13) 
  (IC.seq (IC.ops [I.mk none (some 14) (Ef.pr Pr.mv) [X.t 5], I.mk none none (Ef.st 1) [X.t 4, X.t 14]]) IC.ret) IC.skip)))))) 
  (IC.seq (IC.ops [I.mk none none (Ef.st 1) [X.t 4, X.c (Value.int IntKind.i64 (-1))]]) IC.ret))

theorem k106 : Go.Proofs.Try.f106.body.bind (comp Go.Proofs.Try.prog 15 [] []) = some c106 := by kernel_rfl

theorem r106 : cRVs Go.Proofs.Try.prog Go.Proofs.Try.f106.results.toList = some [RV.c 4 1 false] := by kernel_rfl

theorem e106 {args : List Value} {h : Hp} {Q : Value → Hp → Prop} (hl : Nat.ble args.length 15 = true) (hk : codeK PR none c106 (retK Q [RV.c 4 1 false]) (fun _ _ _ _ => False) (retK Q [RV.c 4 1 false]) (argsE 0 args) [] h) : Ok PR 106 args h Q :=
  Ok.of mixed Go.Proofs.Try.func106 rfl k106 r106 hl hk

def c107 : IC := IC.seq (IC.ops [I.mk none (some 1) (Ef.bxh 59) [X.t 0], I.mk none (some 2) (Ef.pr Pr.mv) [X.c Value.nilFunc]]) 
  (IC.seq (IC.ops [I.mk none (some 3) (Ef.pr (Pr.mkf (Fn.func 112) 0)) [X.t 1], I.mk none (some 2) (Ef.pr Pr.mv) [X.t 3]]) IC.ret)

theorem k107 : Go.Proofs.Try.f107.body.bind (comp Go.Proofs.Try.prog 4 [] []) = some c107 := by kernel_rfl

theorem r107 : cRVs Go.Proofs.Try.prog Go.Proofs.Try.f107.results.toList = some [RV.t 2] := by kernel_rfl

theorem e107 {args : List Value} {h : Hp} {Q : Value → Hp → Prop} (hl : Nat.ble args.length 4 = true) (hk : codeK PR none c107 (retK Q [RV.t 2]) (fun _ _ _ _ => False) (retK Q [RV.t 2]) (argsE 0 args) [] h) : Ok PR 107 args h Q :=
  Ok.of mixed Go.Proofs.Try.func107 rfl k107 r107 hl hk

def c95 : IC := IC.seq (IC.ops [I.mk none (some 4) (Ef.pr (Pr.ld 1 false)) [X.t 1], I.mk none (some 5) (Ef.call 59) [X.t 4, X.c (Value.int IntKind.i64 0)], I.mk none (some 3) (Ef.pr Pr.mv) [X.t 5]]) 
  (IC.block 0 
  (IC.loop 
  (IC.seq 
  (IC.seq (IC.ops [I.mk none (some 6) (Ef.pr Pr.mv) [X.t 3], I.mk none (some 7) (Ef.pr (Pr.cm BinOp.geq)) [X.t 6, X.c (Value.int IntKind.i64 0)]]) 
  (IC.cond (X.t 7) IC.skip (IC.exit 0))) 
  (IC.seq 
  (IC.block 1 
  (IC.seq (IC.ops [I.mk none (some 12) (Ef.pr Pr.mv) [X.t 0], I.mk none (some 13) (Ef.pr Pr.mv) [X.t 3], I.mk none (some 14) (Ef.pr (Pr.ld 1 false)) [X.t 1], I.mk none (some 15) (Ef.pr Pr.nilc) [X.t 14], I.mk none (some 16) (Ef.pr (Pr.fa 0)) [X.t 15], I.mk none (some 17) (Ef.pr (Pr.ld 1 false)) [X.t 16], I.mk none (some 18) (Ef.pr Pr.mv) [X.t 3], I.mk none (some 19) (Ef.pr (Pr.iaS 2)) [X.t 17, X.t 18], I.mk none (some 20) (Ef.pr (Pr.fa 1)) [X.t 19], I.mk none (some 21) (Ef.pr (Pr.ld 1 false)) [X.t 20], I.mk none (some 22) Ef.callv [X.t 12, X.t 13, X.t 21], I.mk none (some 23) (Ef.pr (Pr.un UnOp.not)) [X.t 22]]) 
  (IC.cond (X.t 23) IC.ret IC.skip))) (IC.ops [I.mk none (some 8) (Ef.pr (Pr.ld 1 false)) [X.t 1], I.mk none (some 9) (Ef.pr Pr.mv) [X.t 3], I.mk none (some 10) (Ef.pr (Pr.ar BinOp.add)) [X.t 9, X.c (Value.int IntKind.i64 1)], I.mk none (some 11) (Ef.call 59) [X.t 8, X.t 10], I.mk none (some 3) (Ef.pr Pr.mv) [X.t 11]])))))

theorem k95 : Go.Proofs.Try.f95.body.bind (comp Go.Proofs.Try.prog 24 [] []) = some c95 := by kernel_rfl

theorem r95 : cRVs Go.Proofs.Try.prog Go.Proofs.Try.f95.results.toList = some [] := by kernel_rfl

theorem e95 {args : List Value} {h : Hp} {Q : Value → Hp → Prop} (hl : Nat.ble args.length 24 = true) (hk : codeK PR none c95 (retK Q []) (fun _ _ _ _ => False) (retK Q []) (argsE 0 args) [] h) : Ok PR 95 args h Q :=
  Ok.of mixed Go.Proofs.Try.func95 rfl k95 r95 hl hk

def c112 : IC := IC.seq (IC.ops [I.mk none (some 4) (Ef.pr (Pr.ld 1 false)) [X.t 1], I.mk none (some 5) (Ef.call 43) [X.t 4, X.c (Value.int IntKind.i64 0)], I.mk none (some 3) (Ef.pr Pr.mv) [X.t 5]]) 
  (IC.block 0 
  (IC.loop 
  (IC.seq 
  (IC.seq (IC.ops [I.mk none (some 6) (Ef.pr Pr.mv) [X.t 3], I.mk none (some 7) (Ef.pr (Pr.cm BinOp.geq)) [X.t 6, X.c (Value.int IntKind.i64 0)]]) 
  (IC.cond (X.t 7) IC.skip (IC.exit 0))) 
  (IC.seq 
  (IC.block 1 
  (IC.seq (IC.ops [I.mk none (some 12) (Ef.pr Pr.mv) [X.t 0], I.mk none (some 13) (Ef.pr Pr.mv) [X.t 3], I.mk none (some 14) (Ef.pr (Pr.ld 1 false)) [X.t 1], I.mk none (some 15) (Ef.pr Pr.nilc) [X.t 14], I.mk none (some 16) (Ef.pr (Pr.fa 0)) [X.t 15], I.mk none (some 17) (Ef.pr (Pr.ld 1 false)) [X.t 16], I.mk none (some 18) (Ef.pr Pr.mv) [X.t 3], I.mk none (some 19) (Ef.pr (Pr.iaS 4)) [X.t 17, X.t 18], I.mk none (some 20) (Ef.pr (Pr.fa 1)) [X.t 19], I.mk none (some 21) (Ef.pr (Pr.ld 3 true)) [X.t 20], I.mk none (some 22) Ef.callv [X.t 12, X.t 13, X.t 21], I.mk none (some 23) (Ef.pr (Pr.un UnOp.not)) [X.t 22]]) 
  (IC.cond (X.t 23) IC.ret IC.skip))) (IC.ops [I.mk none (some 8) (Ef.pr (Pr.ld 1 false)) [X.t 1], I.mk none (some 9) (Ef.pr Pr.mv) [X.t 3], I.mk none (some 10) (Ef.pr (Pr.ar BinOp.add)) [X.t 9, X.c (Value.int IntKind.i64 1)], I.mk none (some 11) (Ef.call 43) [X.t 8, X.t 10], I.mk none (some 3) (Ef.pr Pr.mv) [X.t 11]])))))

theorem k112 : Go.Proofs.Try.f112.body.bind (comp Go.Proofs.Try.prog 24 [] []) = some c112 := by kernel_rfl

theorem r112 : cRVs Go.Proofs.Try.prog Go.Proofs.Try.f112.results.toList = some [] := by kernel_rfl

theorem e112 {args : List Value} {h : Hp} {Q : Value → Hp → Prop} (hl : Nat.ble args.length 24 = true) (hk : codeK PR none c112 (retK Q []) (fun _ _ _ _ => False) (retK Q []) (argsE 0 args) [] h) : Ok PR 112 args h Q :=
  Ok.of mixed Go.Proofs.Try.func112 rfl k112 r112 hl hk

end Go.Proofs.Ytkmknolkblcbeaa.V
