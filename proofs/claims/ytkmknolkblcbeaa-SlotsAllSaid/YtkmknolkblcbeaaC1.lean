/- The functions 13, 14, 15, 16, 17, 18, 19, 75, 76, 3, resolved. -/
import Derived.Test.YtkmknolkblcbeaaVP
namespace Go.Proofs.Ytkmknolkblcbeaa.V
set_option linter.unusedSectionVars false
set_option linter.unusedVariables false
set_option linter.unusedSimpArgs false
open Go
set_option maxRecDepth 100000

def c13 : IC := IC.seq (IC.ops [I.mk none (some 0) (Ef.pr Pr.mv) [X.c (Value.pointer none)]]) 
  (IC.seq (IC.ops [I.mk none (some 1) Ef.mkm [], I.mk none (some 2) Ef.mkm [], I.mk none (some 3) (Ef.pr (Pr.bld [Value.map none, Value.map none] [(0, 1), (1, 1)])) [X.t 1, X.t 2], I.mk none (some 4) (Ef.bxh 108) [X.t 3], I.mk none (some 0) (Ef.pr Pr.mv) [X.t 4]]) IC.ret)

theorem k13 : Go.Proofs.Try.f13.body.bind (comp Go.Proofs.Try.prog 5 [] []) = some c13 := by kernel_rfl

theorem r13 : cRVs Go.Proofs.Try.prog Go.Proofs.Try.f13.results.toList = some [RV.t 0] := by kernel_rfl

theorem e13 {args : List Value} {h : Hp} {Q : Value → Hp → Prop} (hl : Nat.ble args.length 5 = true) (hk : codeK PR none c13 (retK Q [RV.t 0]) (fun _ _ _ _ => False) (retK Q [RV.t 0]) (argsE 0 args) [] h) : Ok PR 13 args h Q :=
  Ok.of mixed Go.Proofs.Try.func13 rfl k13 r13 hl hk

def c14 : IC := IC.seq (IC.ops [I.mk none (some 2) (Ef.pr Pr.mv) [X.c (Value.int IntKind.i64 0)]]) 
  (IC.seq (IC.ops [I.mk none (some 3) (Ef.pr Pr.mv) [X.t 0], I.mk none (some 4) (Ef.pr Pr.nilc) [X.t 3], I.mk none (some 5) (Ef.pr (Pr.fa 0)) [X.t 4], I.mk none (some 6) (Ef.pr (Pr.ld 1 false)) [X.t 5], I.mk none (some 7) (Ef.pr Pr.lenM) [X.t 6], I.mk none (some 2) (Ef.pr Pr.mv) [X.t 7]]) IC.ret)

theorem k14 : Go.Proofs.Try.f14.body.bind (comp Go.Proofs.Try.prog 8 [] []) = some c14 := by kernel_rfl

theorem r14 : cRVs Go.Proofs.Try.prog Go.Proofs.Try.f14.results.toList = some [RV.t 2] := by kernel_rfl

theorem e14 {args : List Value} {h : Hp} {Q : Value → Hp → Prop} (hl : Nat.ble args.length 8 = true) (hk : codeK PR none c14 (retK Q [RV.t 2]) (fun _ _ _ _ => False) (retK Q [RV.t 2]) (argsE 0 args) [] h) : Ok PR 14 args h Q :=
  Ok.of mixed Go.Proofs.Try.func14 rfl k14 r14 hl hk

def c15 : IC := IC.seq (IC.ops [I.mk none (some 4) (Ef.pr Pr.mv) [X.c (Value.int IntKind.i64 0)], I.mk none (some 5) (Ef.pr Pr.mv) [X.c (Value.bool false)]]) 
  (IC.seq (IC.ops [I.mk none (some 9) (Ef.pr Pr.mv) [X.t 0], I.mk none (some 10) (Ef.pr Pr.nilc) [X.t 9], I.mk none (some 11) (Ef.pr (Pr.fa 0)) [X.t 10], I.mk none (some 12) (Ef.pr (Pr.ld 1 false)) [X.t 11], I.mk none (some 13) (Ef.pr Pr.mv) [X.t 1], I.mk none (some 14) (Ef.pr (Pr.look (EqT.one EqS.i) (Value.int IntKind.i64 0) true)) [X.t 12, X.t 13], I.mk none (some 8) (Ef.pr Pr.mv) [X.t 14], I.mk none (some 15) (Ef.pr (Pr.ext 0)) [X.t 8], I.mk none (some 16) (Ef.pr (Pr.ext 1)) [X.t 8], I.mk none (some 6) (Ef.pr Pr.mv) [X.t 15], I.mk none (some 7) (Ef.pr Pr.mv) [X.t 16]]) 
  (IC.seq (IC.ops [I.mk none (some 17) (Ef.pr Pr.mv) [X.t 6], I.mk none (some 18) (Ef.pr Pr.mv) [X.t 7], I.mk none (some 4) (Ef.pr Pr.mv) [X.t 17], I.mk none (some 5) (Ef.pr Pr.mv) [X.t 18]]) IC.ret))

theorem k15 : Go.Proofs.Try.f15.body.bind (comp Go.Proofs.Try.prog 19 [] []) = some c15 := by kernel_rfl

theorem r15 : cRVs Go.Proofs.Try.prog Go.Proofs.Try.f15.results.toList = some [RV.t 4, RV.t 5] := by kernel_rfl

theorem e15 {args : List Value} {h : Hp} {Q : Value → Hp → Prop} (hl : Nat.ble args.length 19 = true) (hk : codeK PR none c15 (retK Q [RV.t 4, RV.t 5]) (fun _ _ _ _ => False) (retK Q [RV.t 4, RV.t 5]) (argsE 0 args) [] h) : Ok PR 15 args h Q :=
  Ok.of mixed Go.Proofs.Try.func15 rfl k15 r15 hl hk

def c16 : IC := IC.seq (IC.ops [I.mk none (some 4) (Ef.pr Pr.mv) [X.c (Value.int IntKind.i64 0)], I.mk none (some 5) (Ef.pr Pr.mv) [X.c (Value.bool false)]]) 
  (IC.seq (IC.ops [I.mk none (some 9) (Ef.pr Pr.mv) [X.t 0], I.mk none (some 10) (Ef.pr Pr.nilc) [X.t 9], I.mk none (some 11) (Ef.pr (Pr.fa 1)) [X.t 10], I.mk none (some 12) (Ef.pr (Pr.ld 1 false)) [X.t 11], I.mk none (some 13) (Ef.pr Pr.mv) [X.t 1], I.mk none (some 14) (Ef.pr (Pr.look (EqT.one EqS.i) (Value.int IntKind.i64 0) true)) [X.t 12, X.t 13], I.mk none (some 8) (Ef.pr Pr.mv) [X.t 14], I.mk none (some 15) (Ef.pr (Pr.ext 0)) [X.t 8], I.mk none (some 16) (Ef.pr (Pr.ext 1)) [X.t 8], I.mk none (some 6) (Ef.pr Pr.mv) [X.t 15], I.mk none (some 7) (Ef.pr Pr.mv) [X.t 16]]) 
  (IC.seq (IC.ops [I.mk none (some 17) (Ef.pr Pr.mv) [X.t 6], I.mk none (some 18) (Ef.pr Pr.mv) [X.t 7], I.mk none (some 4) (Ef.pr Pr.mv) [X.t 17], I.mk none (some 5) (Ef.pr Pr.mv) [X.t 18]]) IC.ret))

theorem k16 : Go.Proofs.Try.f16.body.bind (comp Go.Proofs.Try.prog 19 [] []) = some c16 := by kernel_rfl

theorem r16 : cRVs Go.Proofs.Try.prog Go.Proofs.Try.f16.results.toList = some [RV.t 4, RV.t 5] := by kernel_rfl

theorem e16 {args : List Value} {h : Hp} {Q : Value → Hp → Prop} (hl : Nat.ble args.length 19 = true) (hk : codeK PR none c16 (retK Q [RV.t 4, RV.t 5]) (fun _ _ _ _ => False) (retK Q [RV.t 4, RV.t 5]) (argsE 0 args) [] h) : Ok PR 16 args h Q :=
  Ok.of mixed Go.Proofs.Try.func16 rfl k16 r16 hl hk

def c17 : IC := IC.seq (IC.ops [I.mk none (some 6) (Ef.pr Pr.mv) [X.c (Value.bool false)]]) 
  (IC.seq (IC.ops [I.mk none (some 12) (Ef.pr Pr.mv) [X.t 0], I.mk none (some 13) (Ef.pr Pr.nilc) [X.t 12], I.mk none (some 14) (Ef.pr (Pr.fa 0)) [X.t 13], I.mk none (some 15) (Ef.pr (Pr.ld 1 false)) [X.t 14], I.mk none (some 16) (Ef.pr Pr.mv) [X.t 1], I.mk none (some 17) (Ef.pr (Pr.look (EqT.one EqS.i) (Value.int IntKind.i64 0) true)) [X.t 15, X.t 16], I.mk none (some 11) (Ef.pr Pr.mv) [X.t 17], I.mk none (some 18) (Ef.pr (Pr.ext 0)) [X.t 11], I.mk none (some 19) (Ef.pr (Pr.ext 1)) [X.t 11], I.mk none (some 7) (Ef.pr Pr.mv) [X.t 18], I.mk none (some 8) (Ef.pr Pr.mv) [X.t 19]]) 
  (IC.seq (IC.ops [I.mk none (some 21) (Ef.pr Pr.mv) [X.t 0], I.mk none (some 22) (Ef.pr Pr.nilc) [X.t 21], I.mk none (some 23) (Ef.pr (Pr.fa 1)) [X.t 22], I.mk none (some 24) (Ef.pr (Pr.ld 1 false)) [X.t 23], I.mk none (some 25) (Ef.pr Pr.mv) [X.t 2], I.mk none (some 26) (Ef.pr (Pr.look (EqT.one EqS.i) (Value.int IntKind.i64 0) true)) [X.t 24, X.t 25], I.mk none (some 20) (Ef.pr Pr.mv) [X.t 26], I.mk none (some 27) (Ef.pr (Pr.ext 0)) [X.t 20], I.mk none (some 28) (Ef.pr (Pr.ext 1)) [X.t 20], I.mk none (some 9) (Ef.pr Pr.mv) [X.t 27], I.mk none (some 10) (Ef.pr Pr.mv) [X.t 28]]) 
  (IC.seq 
  (IC.seq (IC.ops [I.mk none (some 29) (Ef.pr Pr.mv) [X.t 8], I.mk none (some 30) (Ef.pr Pr.mv) [X.t 29], I.mk (some (30, false)) (some 31) (Ef.pr Pr.mv) [X.t 10], I.mk none (some 32) (Ef.pr Pr.pick) [X.t 30, X.c (Value.bool true), X.t 31]]) 
  (IC.cond (X.t 32) 
  (IC.seq (IC.ops [I.mk none (some 33) (Ef.pr Pr.mv) [X.t 8], I.mk none (some 34) (Ef.pr Pr.mv) [X.t 33], I.mk (some (34, true)) (some 35) (Ef.pr Pr.mv) [X.t 7], I.mk (some (34, true)) (some 36) (Ef.pr Pr.mv) [X.t 2], I.mk (some (34, true)) (some 37) (Ef.pr (Pr.cm BinOp.eql)) [X.t 35, X.t 36], I.mk none (some 38) (Ef.pr Pr.pick) [X.t 34, X.t 37, X.c (Value.bool false)], I.mk none (some 6) (Ef.pr Pr.mv) [X.t 38]]) IC.ret) IC.skip)) 
  (IC.seq (IC.ops [I.mk none (some 39) (Ef.pr Pr.mv) [X.t 0], I.mk none (some 40) (Ef.pr Pr.nilc) [X.t 39], I.mk none (some 41) (Ef.pr (Pr.fa 0)) [X.t 40], I.mk none (some 42) (Ef.pr (Pr.ld 1 false)) [X.t 41], I.mk none (some 43) (Ef.pr Pr.mv) [X.t 1], I.mk none (some 44) (Ef.pr Pr.mv) [X.t 2], I.mk none none (Ef.mup (EqT.one EqS.i)) [X.t 42, X.t 43, X.t 44]]) 
  (IC.seq (IC.ops [I.mk none (some 45) (Ef.pr Pr.mv) [X.t 0], I.mk none (some 46) (Ef.pr Pr.nilc) [X.t 45], I.mk none (some 47) (Ef.pr (Pr.fa 1)) [X.t 46], I.mk none (some 48) (Ef.pr (Pr.ld 1 false)) [X.t 47], I.mk none (some 49) (Ef.pr Pr.mv) [X.t 2], I.mk none (some 50) (Ef.pr Pr.mv) [X.t 1], I.mk none none (Ef.mup (EqT.one EqS.i)) [X.t 48, X.t 49, X.t 50]]) 
  (IC.seq (IC.ops [I.mk none (some 6) (Ef.pr Pr.mv) [X.c (Value.bool true)]]) IC.ret))))))

theorem k17 : Go.Proofs.Try.f17.body.bind (comp Go.Proofs.Try.prog 51 [] []) = some c17 := by kernel_rfl

theorem r17 : cRVs Go.Proofs.Try.prog Go.Proofs.Try.f17.results.toList = some [RV.t 6] := by kernel_rfl

theorem e17 {args : List Value} {h : Hp} {Q : Value → Hp → Prop} (hl : Nat.ble args.length 51 = true) (hk : codeK PR none c17 (retK Q [RV.t 6]) (fun _ _ _ _ => False) (retK Q [RV.t 6]) (argsE 0 args) [] h) : Ok PR 17 args h Q :=
  Ok.of mixed Go.Proofs.Try.func17 rfl k17 r17 hl hk

def c18 : IC := IC.seq (IC.ops [I.mk none (some 4) (Ef.pr Pr.mv) [X.c (Value.bool false)]]) 
  (IC.seq (IC.ops [I.mk none (some 8) (Ef.pr Pr.mv) [X.t 0], I.mk none (some 9) (Ef.pr Pr.nilc) [X.t 8], I.mk none (some 10) (Ef.pr (Pr.fa 0)) [X.t 9], I.mk none (some 11) (Ef.pr (Pr.ld 1 false)) [X.t 10], I.mk none (some 12) (Ef.pr Pr.mv) [X.t 1], I.mk none (some 13) (Ef.pr (Pr.look (EqT.one EqS.i) (Value.int IntKind.i64 0) true)) [X.t 11, X.t 12], I.mk none (some 7) (Ef.pr Pr.mv) [X.t 13], I.mk none (some 14) (Ef.pr (Pr.ext 0)) [X.t 7], I.mk none (some 15) (Ef.pr (Pr.ext 1)) [X.t 7], I.mk none (some 5) (Ef.pr Pr.mv) [X.t 14], I.mk none (some 6) (Ef.pr Pr.mv) [X.t 15]]) 
  (IC.seq 
  (IC.seq (IC.ops [I.mk none (some 16) (Ef.pr Pr.mv) [X.t 6]]) 
  (IC.cond (X.t 16) 
  (IC.seq (IC.ops [I.mk none (some 17) (Ef.pr Pr.mv) [X.t 0], I.mk none (some 18) (Ef.pr Pr.nilc) [X.t 17], I.mk none (some 19) (Ef.pr (Pr.fa 0)) [X.t 18], I.mk none (some 20) (Ef.pr (Pr.ld 1 false)) [X.t 19], I.mk none (some 21) (Ef.pr Pr.mv) [X.t 1], I.mk none none (Ef.mdel (EqT.one EqS.i)) [X.t 20, X.t 21]]) (IC.ops [I.mk none (some 22) (Ef.pr Pr.mv) [X.t 0], I.mk none (some 23) (Ef.pr Pr.nilc) [X.t 22], I.mk none (some 24) (Ef.pr (Pr.fa 1)) [X.t 23], I.mk none (some 25) (Ef.pr (Pr.ld 1 false)) [X.t 24], I.mk none (some 26) (Ef.pr Pr.mv) [X.t 5], I.mk none none (Ef.mdel (EqT.one EqS.i)) [X.t 25, X.t 26]])) IC.skip)) 
  (IC.seq (IC.ops [I.mk none (some 27) (Ef.pr Pr.mv) [X.t 6], I.mk none (some 4) (Ef.pr Pr.mv) [X.t 27]]) IC.ret)))

theorem k18 : Go.Proofs.Try.f18.body.bind (comp Go.Proofs.Try.prog 28 [] []) = some c18 := by kernel_rfl

theorem r18 : cRVs Go.Proofs.Try.prog Go.Proofs.Try.f18.results.toList = some [RV.t 4] := by kernel_rfl

theorem e18 {args : List Value} {h : Hp} {Q : Value → Hp → Prop} (hl : Nat.ble args.length 28 = true) (hk : codeK PR none c18 (retK Q [RV.t 4]) (fun _ _ _ _ => False) (retK Q [RV.t 4]) (argsE 0 args) [] h) : Ok PR 18 args h Q :=
  Ok.of mixed Go.Proofs.Try.func18 rfl k18 r18 hl hk

def c19 : IC := IC.seq (IC.ops [I.mk none (some 4) (Ef.pr Pr.mv) [X.c (Value.bool false)]]) 
  (IC.seq (IC.ops [I.mk none (some 5) (Ef.pr Pr.mv) [X.c (Value.int IntKind.i64 0)]]) 
  (IC.seq (IC.ops [I.mk none (some 6) (Ef.pr Pr.mv) [X.c (Value.int IntKind.i64 0)]]) 
  (IC.seq 
  (IC.seq (IC.ops [I.mk none (some 7) (Ef.pr Pr.mv) [X.c (Value.int IntKind.i64 0)]]) 
  (IC.block 0 
  (IC.loop 
  (IC.seq 
  (IC.seq (IC.ops [I.mk none (some 16) (Ef.pr Pr.mv) [X.t 7], I.mk none (some 17) (Ef.pr Pr.mv) [X.t 1], I.mk none (some 18) (Ef.pr Pr.lenS) [X.t 17], I.mk none (some 19) (Ef.pr (Pr.cm BinOp.lss)) [X.t 16, X.t 18]]) 
  (IC.cond (X.t 19) IC.skip (IC.exit 0))) 
  (IC.seq 
  (IC.block 1 
  (IC.seq (IC.ops [I.mk none (some 23) (Ef.pr Pr.mv) [X.t 0], I.mk none (some 24) (Ef.pr Pr.mv) [X.t 1], I.mk none (some 25) (Ef.pr Pr.mv) [X.t 7], I.mk none (some 26) (Ef.pr (Pr.iaS 4)) [X.t 24, X.t 25], I.mk none (some 27) (Ef.pr (Pr.fa 2)) [X.t 26], I.mk none (some 28) (Ef.pr (Pr.ld 1 false)) [X.t 27], I.mk none (some 29) (Ef.call 15) [X.t 23, X.t 28], I.mk none (some 22) (Ef.pr Pr.mv) [X.t 29], I.mk none (some 30) (Ef.pr (Pr.ext 0)) [X.t 22], I.mk none (some 31) (Ef.pr (Pr.ext 1)) [X.t 22], I.mk none (some 8) (Ef.pr Pr.mv) [X.t 30], I.mk none (some 9) (Ef.pr Pr.mv) [X.t 31]]) 
  (IC.cut 
  (IC.seq (IC.ops [I.mk none (some 32) (Ef.pr Pr.mv) [X.t 9]]) 
  (IC.cond (X.t 32) 
  (IC.seq (IC.ops [I.mk none (some 34) (Ef.pr Pr.mv) [X.t 0], I.mk none (some 35) (Ef.pr Pr.mv) [X.t 8], I.mk none (some 36) (Ef.call 16) [X.t 34, X.t 35], I.mk none (some 33) (Ef.pr Pr.mv) [X.t 36], I.mk none (some 37) (Ef.pr (Pr.ext 0)) [X.t 33], I.mk none (some 38) (Ef.pr (Pr.ext 1)) [X.t 33], I.mk none (some 10) (Ef.pr Pr.mv) [X.t 37], I.mk none (some 11) (Ef.pr Pr.mv) [X.t 38]]) 
  (IC.seq 
  (IC.seq (IC.ops [I.mk none (some 39) (Ef.pr Pr.mv) [X.t 11], I.mk none (some 40) (Ef.pr (Pr.un UnOp.not)) [X.t 39], I.mk none (some 41) (Ef.pr Pr.mv) [X.t 40], I.mk (some (41, false)) (some 42) (Ef.pr Pr.mv) [X.t 10], I.mk (some (41, false)) (some 43) (Ef.pr Pr.mv) [X.t 1], I.mk (some (41, false)) (some 44) (Ef.pr Pr.mv) [X.t 7], I.mk (some (41, false)) (some 45) (Ef.pr (Pr.iaS 4)) [X.t 43, X.t 44], I.mk (some (41, false)) (some 46) (Ef.pr (Pr.fa 2)) [X.t 45], I.mk (some (41, false)) (some 47) (Ef.pr (Pr.ld 1 false)) [X.t 46], I.mk (some (41, false)) (some 48) (Ef.pr (Pr.cm BinOp.neq)) [X.t 42, X.t 47], I.mk none (some 49) (Ef.pr Pr.pick) [X.t 41, X.c (Value.bool true), X.t 48]]) 
  (IC.cond (X.t 49) 
  (IC.seq (IC.ops [I.mk none (some 4) (Ef.pr Pr.mv) [X.c (Value.bool false)]]) IC.ret) IC.skip)) 
  (IC.seq (IC.ops [I.mk none (some 50) (Ef.pr Pr.mv) [X.t 1], I.mk none (some 51) (Ef.pr Pr.mv) [X.t 7], I.mk none (some 52) (Ef.call 75) [X.t 50, X.t 51]]) 
  (IC.cond (X.t 52) (IC.ops [I.mk none (some 53) (Ef.pr Pr.mv) [X.t 5], I.mk none (some 54) (Ef.pr (Pr.ar BinOp.add)) [X.t 53, X.c (Value.int IntKind.i64 1)], I.mk none (some 5) (Ef.pr Pr.mv) [X.t 54]]) IC.skip)))) IC.skip)) 
  (IC.seq (IC.ops [I.mk none (some 56) (Ef.pr Pr.mv) [X.t 0], I.mk none (some 57) (Ef.pr Pr.mv) [X.t 1], I.mk none (some 58) (Ef.pr Pr.mv) [X.t 7], I.mk none (some 59) (Ef.pr (Pr.iaS 4)) [X.t 57, X.t 58], I.mk none (some 60) (Ef.pr (Pr.fa 3)) [X.t 59], I.mk none (some 61) (Ef.pr (Pr.ld 1 false)) [X.t 60], I.mk none (some 62) (Ef.call 16) [X.t 56, X.t 61], I.mk none (some 55) (Ef.pr Pr.mv) [X.t 62], I.mk none (some 63) (Ef.pr (Pr.ext 0)) [X.t 55], I.mk none (some 64) (Ef.pr (Pr.ext 1)) [X.t 55], I.mk none (some 12) (Ef.pr Pr.mv) [X.t 63], I.mk none (some 13) (Ef.pr Pr.mv) [X.t 64]]) 
  (IC.seq (IC.ops [I.mk none (some 65) (Ef.pr Pr.mv) [X.t 13]]) 
  (IC.cond (X.t 65) 
  (IC.seq (IC.ops [I.mk none (some 67) (Ef.pr Pr.mv) [X.t 0], I.mk none (some 68) (Ef.pr Pr.mv) [X.t 12], I.mk none (some 69) (Ef.call 15) [X.t 67, X.t 68], I.mk none (some 66) (Ef.pr Pr.mv) [X.t 69], I.mk none (some 70) (Ef.pr (Pr.ext 0)) [X.t 66], I.mk none (some 71) (Ef.pr (Pr.ext 1)) [X.t 66], I.mk none (some 14) (Ef.pr Pr.mv) [X.t 70], I.mk none (some 15) (Ef.pr Pr.mv) [X.t 71]]) 
  (IC.seq 
  (IC.seq (IC.ops [I.mk none (some 72) (Ef.pr Pr.mv) [X.t 15], I.mk none (some 73) (Ef.pr (Pr.un UnOp.not)) [X.t 72], I.mk none (some 74) (Ef.pr Pr.mv) [X.t 73], I.mk (some (74, false)) (some 75) (Ef.pr Pr.mv) [X.t 14], I.mk (some (74, false)) (some 76) (Ef.pr Pr.mv) [X.t 1], I.mk (some (74, false)) (some 77) (Ef.pr Pr.mv) [X.t 7], I.mk (some (74, false)) (some 78) (Ef.pr (Pr.iaS 4)) [X.t 76, X.t 77], I.mk (some (74, false)) (some 79) (Ef.pr (Pr.fa 3)) [X.t 78], I.mk (some (74, false)) (some 80) (Ef.pr (Pr.ld 1 false)) [X.t 79], I.mk (some (74, false)) (some 81) (Ef.pr (Pr.cm BinOp.neq)) [X.t 75, X.t 80], I.mk none (some 82) (Ef.pr Pr.pick) [X.t 74, X.c (Value.bool true), X.t 81]]) 
  (IC.cond (X.t 82) 
  (IC.seq (IC.ops [I.mk none (some 4) (Ef.pr Pr.mv) [X.c (Value.bool false)]]) IC.ret) IC.skip)) 
  (IC.seq (IC.ops [I.mk none (some 83) (Ef.pr Pr.mv) [X.t 1], I.mk none (some 84) (Ef.pr Pr.mv) [X.t 7], I.mk none (some 85) (Ef.call 76) [X.t 83, X.t 84]]) 
  (IC.cond (X.t 85) (IC.ops [I.mk none (some 86) (Ef.pr Pr.mv) [X.t 6], I.mk none (some 87) (Ef.pr (Pr.ar BinOp.add)) [X.t 86, X.c (Value.int IntKind.i64 1)], I.mk none (some 6) (Ef.pr Pr.mv) [X.t 87]]) IC.skip)))) IC.skip)))))) (IC.ops [I.mk none (some 20) (Ef.pr Pr.mv) [X.t 7], I.mk none (some 21) (Ef.pr (Pr.ar BinOp.add)) [X.t 20, X.c (Value.int IntKind.i64 1)], I.mk none (some 7) (Ef.pr Pr.mv) [X.t 21]])))))) 
  (IC.seq (IC.ops [I.mk none (some 88) (Ef.pr Pr.mv) [X.t 5], I.mk none (some 89) (Ef.pr Pr.mv) [X.t 0], I.mk none (some 90) (Ef.call 14) [X.t 89], I.mk none (some 91) (Ef.pr (Pr.cm BinOp.eql)) [X.t 88, X.t 90], I.mk none (some 92) (Ef.pr Pr.mv) [X.t 91], I.mk (some (92, true)) (some 93) (Ef.pr Pr.mv) [X.t 6], I.mk (some (92, true)) (some 94) (Ef.pr Pr.mv) [X.t 5], I.mk (some (92, true)) (some 95) (Ef.pr (Pr.cm BinOp.eql)) [X.t 93, X.t 94], I.mk none (some 96) (Ef.pr Pr.pick) [X.t 92, X.t 95, X.c (Value.bool false)], I.mk none (some 4) (Ef.pr Pr.mv) [X.t 96]]) IC.ret))))

theorem k19 : Go.Proofs.Try.f19.body.bind (comp Go.Proofs.Try.prog 97 [] [13]) = some c19 := by kernel_rfl

theorem r19 : cRVs Go.Proofs.Try.prog Go.Proofs.Try.f19.results.toList = some [RV.t 4] := by kernel_rfl

theorem e19 {args : List Value} {h : Hp} {Q : Value → Hp → Prop} (hl : Nat.ble args.length 97 = true) (hk : codeK PR none c19 (retK Q [RV.t 4]) (fun _ _ _ _ => False) (retK Q [RV.t 4]) (argsE 0 args) [] h) : Ok PR 19 args h Q :=
  Ok.of mixed Go.Proofs.Try.func19 rfl k19 r19 hl hk

def c75 : IC := IC.seq (IC.ops [I.mk none (some 4) (Ef.pr Pr.mv) [X.c (Value.bool false)]]) 
  (IC.seq 
  (IC.seq (IC.ops [I.mk none (some 5) (Ef.pr Pr.mv) [X.c (Value.int IntKind.i64 0)]]) 
  (IC.block 0 
  (IC.loop 
  (IC.seq 
  (IC.seq (IC.ops [I.mk none (some 6) (Ef.pr Pr.mv) [X.t 5], I.mk none (some 7) (Ef.pr Pr.mv) [X.t 1], I.mk none (some 8) (Ef.pr (Pr.cm BinOp.lss)) [X.t 6, X.t 7]]) 
  (IC.cond (X.t 8) IC.skip (IC.exit 0))) 
  (IC.seq 
  (IC.block 1 
  (IC.seq (IC.plan (Plan.q (I.mk none (some 11) (Ef.pr Pr.mv) [X.t 0]) (Plan.q (I.mk none (some 12) (Ef.pr Pr.mv) [X.t 5]) (Plan.q (I.mk none (some 13) (Ef.pr (Pr.iaS 4)) [X.t 11, X.t 12]) (Plan.q (I.mk none (some 14) (Ef.pr (Pr.fa 2)) [X.t 13]) (Plan.q (I.mk none (some 15) (Ef.pr (Pr.ld 1 false)) [X.t 14]) (Plan.q (I.mk none (some 16) (Ef.pr Pr.mv) [X.t 0]) (Plan.q (I.mk none (some 17) (Ef.pr Pr.mv) [X.t 1]) (Plan.q (I.mk none (some 18) (Ef.pr (Pr.iaS 4)) [X.t 16, X.t 17]) (Plan.q (I.mk none (some 19) (Ef.pr (Pr.fa 2)) [X.t 18]) (Plan.q (I.mk none (some 20) (Ef.pr (Pr.ld 1 false)) [X.t 19]) (Plan.q (I.mk none (some 21) (Ef.pr (Pr.cm BinOp.eql)) [X.t 15, X.t 20]) Plan.done)))))))))))) 
  (IC.cond (X.t 21) 
  (IC.seq (IC.ops [I.mk none (some 4) (Ef.pr Pr.mv) [X.c (Value.bool false)]]) IC.ret) IC.skip))) (IC.ops [I.mk none (some 9) (Ef.pr Pr.mv) [X.t 5], I.mk none (some 10) (Ef.pr (Pr.ar BinOp.add)) [X.t 9, X.c (Value.int IntKind.i64 1)], I.mk none (some 5) (Ef.pr Pr.mv) [X.t 10]])))))) 
  (IC.seq (IC.ops [I.mk none (some 4) (Ef.pr Pr.mv) [X.c (Value.bool true)]]) IC.ret))

theorem k75 : Go.Proofs.Try.f75.body.bind (comp Go.Proofs.Try.prog 22 [] []) = some c75 := by kernel_rfl

theorem r75 : cRVs Go.Proofs.Try.prog Go.Proofs.Try.f75.results.toList = some [RV.t 4] := by kernel_rfl

theorem e75 {args : List Value} {h : Hp} {Q : Value → Hp → Prop} (hl : Nat.ble args.length 22 = true) (hk : codeK PR none c75 (retK Q [RV.t 4]) (fun _ _ _ _ => False) (retK Q [RV.t 4]) (argsE 0 args) [] h) : Ok PR 75 args h Q :=
  Ok.of mixed Go.Proofs.Try.func75 rfl k75 r75 hl hk

def c76 : IC := IC.seq (IC.ops [I.mk none (some 4) (Ef.pr Pr.mv) [X.c (Value.bool false)]]) 
  (IC.seq 
  (IC.seq (IC.ops [I.mk none (some 5) (Ef.pr Pr.mv) [X.c (Value.int IntKind.i64 0)]]) 
  (IC.block 0 
  (IC.loop 
  (IC.seq 
  (IC.seq (IC.ops [I.mk none (some 6) (Ef.pr Pr.mv) [X.t 5], I.mk none (some 7) (Ef.pr Pr.mv) [X.t 1], I.mk none (some 8) (Ef.pr (Pr.cm BinOp.lss)) [X.t 6, X.t 7]]) 
  (IC.cond (X.t 8) IC.skip (IC.exit 0))) 
  (IC.seq 
  (IC.block 1 
  (IC.seq (IC.plan (Plan.q (I.mk none (some 11) (Ef.pr Pr.mv) [X.t 0]) (Plan.q (I.mk none (some 12) (Ef.pr Pr.mv) [X.t 5]) (Plan.q (I.mk none (some 13) (Ef.pr (Pr.iaS 4)) [X.t 11, X.t 12]) (Plan.q (I.mk none (some 14) (Ef.pr (Pr.fa 3)) [X.t 13]) (Plan.q (I.mk none (some 15) (Ef.pr (Pr.ld 1 false)) [X.t 14]) (Plan.q (I.mk none (some 16) (Ef.pr Pr.mv) [X.t 0]) (Plan.q (I.mk none (some 17) (Ef.pr Pr.mv) [X.t 1]) (Plan.q (I.mk none (some 18) (Ef.pr (Pr.iaS 4)) [X.t 16, X.t 17]) (Plan.q (I.mk none (some 19) (Ef.pr (Pr.fa 3)) [X.t 18]) (Plan.q (I.mk none (some 20) (Ef.pr (Pr.ld 1 false)) [X.t 19]) (Plan.q (I.mk none (some 21) (Ef.pr (Pr.cm BinOp.eql)) [X.t 15, X.t 20]) Plan.done)))))))))))) 
  (IC.cond (X.t 21) 
  (IC.seq (IC.ops [I.mk none (some 4) (Ef.pr Pr.mv) [X.c (Value.bool false)]]) IC.ret) IC.skip))) (IC.ops [I.mk none (some 9) (Ef.pr Pr.mv) [X.t 5], I.mk none (some 10) (Ef.pr (Pr.ar BinOp.add)) [X.t 9, X.c (Value.int IntKind.i64 1)], I.mk none (some 5) (Ef.pr Pr.mv) [X.t 10]])))))) 
  (IC.seq (IC.ops [I.mk none (some 4) (Ef.pr Pr.mv) [X.c (Value.bool true)]]) IC.ret))

theorem k76 : Go.Proofs.Try.f76.body.bind (comp Go.Proofs.Try.prog 22 [] []) = some c76 := by kernel_rfl

theorem r76 : cRVs Go.Proofs.Try.prog Go.Proofs.Try.f76.results.toList = some [RV.t 4] := by kernel_rfl

theorem e76 {args : List Value} {h : Hp} {Q : Value → Hp → Prop} (hl : Nat.ble args.length 22 = true) (hk : codeK PR none c76 (retK Q [RV.t 4]) (fun _ _ _ _ => False) (retK Q [RV.t 4]) (argsE 0 args) [] h) : Ok PR 76 args h Q :=
  Ok.of mixed Go.Proofs.Try.func76 rfl k76 r76 hl hk

def c3 : IC := IC.seq (IC.ops [I.mk none (some 2) (Ef.pr Pr.mv) [X.c (Value.bool false)]]) 
  (IC.seq 
  (IC.seq (IC.ops [I.mk none (some 20) (Ef.call 12) [], I.mk none (some 21) (Ef.pr (Pr.un UnOp.not)) [X.t 20]]) 
  (IC.cond (X.t 21) 
  (IC.seq (IC.ops [I.mk none (some 2) (Ef.pr Pr.mv) [X.c (Value.bool false)]]) IC.ret) IC.skip)) 
  (IC.seq (IC.ops [I.mk none (some 22) (Ef.call 13) [], I.mk none (some 3) (Ef.pr Pr.mv) [X.t 22]]) 
  (IC.seq 
  (IC.seq (IC.ops [I.mk none (some 23) (Ef.pr Pr.mv) [X.t 3], I.mk none (some 24) (Ef.pr (Pr.eq false (EqT.one EqS.p))) [X.t 23, X.c (Value.pointer none)]]) 
  (IC.cond (X.t 24) 
  (IC.seq (IC.ops [I.mk none (some 2) (Ef.pr Pr.mv) [X.c (Value.bool false)]]) IC.ret) IC.skip)) 
  (IC.seq 
  (IC.seq (IC.ops [I.mk none (some 4) (Ef.pr Pr.mv) [X.c (Value.int IntKind.i64 0)]]) 
  (IC.block 0 
  (IC.loop 
  (IC.seq 
  (IC.seq (IC.ops [I.mk none (some 25) (Ef.pr Pr.mv) [X.t 4], I.mk none (some 26) (Ef.pr Pr.mv) [X.t 0], I.mk none (some 27) (Ef.pr Pr.lenS) [X.t 26], I.mk none (some 28) (Ef.pr (Pr.cm BinOp.lss)) [X.t 25, X.t 27]]) 
  (IC.cond (X.t 28) IC.skip (IC.exit 0))) 
  (IC.seq 
  (IC.block 1 
  (IC.seq (IC.ops [I.mk none (some 31) (Ef.pr Pr.mv) [X.t 0], I.mk none (some 32) (Ef.pr Pr.mv) [X.t 4], I.mk none (some 33) (Ef.pr (Pr.iaS 4)) [X.t 31, X.t 32], I.mk none (some 34) (Ef.pr (Pr.ld 4 true)) [X.t 33], I.mk none (some 5) (Ef.al [Value.int IntKind.i64 0, Value.int IntKind.i64 0, Value.int IntKind.i64 0, Value.int IntKind.i64 0]) [], I.mk none none (Ef.st 4) [X.t 5, X.t 34]]) 
  (IC.seq (IC.ops [I.mk none (some 35) (Ef.pr Pr.mv) [X.t 3], I.mk none (some 36) (Ef.call 14) [X.t 35], I.mk none (some 6) (Ef.pr Pr.mv) [X.t 36]]) 
  (IC.seq (IC.ops [I.mk none (some 38) (Ef.pr Pr.mv) [X.t 3], I.mk none (some 39) (Ef.pr (Pr.fa 2)) [X.t 5], I.mk none (some 40) (Ef.pr (Pr.ld 1 false)) [X.t 39], I.mk none (some 41) (Ef.call 15) [X.t 38, X.t 40], I.mk none (some 37) (Ef.pr Pr.mv) [X.t 41], I.mk none (some 42) (Ef.pr (Pr.ext 0)) [X.t 37], I.mk none (some 43) (Ef.pr (Pr.ext 1)) [X.t 37], I.mk none (some 7) (Ef.pr Pr.mv) [X.t 42], I.mk none (some 8) (Ef.pr Pr.mv) [X.t 43]]) 
  (IC.seq (IC.ops [I.mk none (some 45) (Ef.pr Pr.mv) [X.t 3], I.mk none (some 46) (Ef.pr (Pr.fa 3)) [X.t 5], I.mk none (some 47) (Ef.pr (Pr.ld 1 false)) [X.t 46], I.mk none (some 48) (Ef.call 16) [X.t 45, X.t 47], I.mk none (some 44) (Ef.pr Pr.mv) [X.t 48], I.mk none (some 49) (Ef.pr (Pr.ext 0)) [X.t 44], I.mk none (some 50) (Ef.pr (Pr.ext 1)) [X.t 44], I.mk none (some 9) (Ef.pr Pr.mv) [X.t 49], I.mk none (some 10) (Ef.pr Pr.mv) [X.t 50]]) 
  (IC.cut 
  (IC.seq (IC.ops [I.mk none (some 51) (Ef.pr (Pr.fa 0)) [X.t 5], I.mk none (some 52) (Ef.pr (Pr.ld 1 false)) [X.t 51]]) 
  (IC.block 2 
  (IC.seq (IC.ops [I.mk none (some 54) (Ef.pr (Pr.cm BinOp.eql)) [X.t 52, X.c (Value.int IntKind.i64 1)], I.mk none (some 53) (Ef.pr Pr.mv) [X.t 54]]) 
  (IC.cond (X.t 53) 
  (IC.seq (IC.ops [I.mk none (some 55) (Ef.pr Pr.mv) [X.t 3], I.mk none (some 56) (Ef.pr (Pr.fa 2)) [X.t 5], I.mk none (some 57) (Ef.pr (Pr.ld 1 false)) [X.t 56], I.mk none (some 58) (Ef.pr (Pr.fa 3)) [X.t 5], I.mk none (some 59) (Ef.pr (Pr.ld 1 false)) [X.t 58], I.mk none (some 60) (Ef.call 17) [X.t 55, X.t 57, X.t 59], I.mk none (some 11) (Ef.pr Pr.mv) [X.t 60]]) 
  (IC.seq (IC.ops [I.mk none (some 62) (Ef.pr Pr.mv) [X.t 3], I.mk none (some 63) (Ef.pr (Pr.fa 2)) [X.t 5], I.mk none (some 64) (Ef.pr (Pr.ld 1 false)) [X.t 63], I.mk none (some 65) (Ef.call 15) [X.t 62, X.t 64], I.mk none (some 61) (Ef.pr Pr.mv) [X.t 65], I.mk none (some 66) (Ef.pr (Pr.ext 0)) [X.t 61], I.mk none (some 67) (Ef.pr (Pr.ext 1)) [X.t 61], I.mk none (some 12) (Ef.pr Pr.mv) [X.t 66], I.mk none (some 13) (Ef.pr Pr.mv) [X.t 67]]) 
  (IC.seq (IC.ops [I.mk none (some 69) (Ef.pr Pr.mv) [X.t 3], I.mk none (some 70) (Ef.pr (Pr.fa 3)) [X.t 5], I.mk none (some 71) (Ef.pr (Pr.ld 1 false)) [X.t 70], I.mk none (some 72) (Ef.call 16) [X.t 69, X.t 71], I.mk none (some 68) (Ef.pr Pr.mv) [X.t 72], I.mk none (some 73) (Ef.pr (Pr.ext 0)) [X.t 68], I.mk none (some 74) (Ef.pr (Pr.ext 1)) [X.t 68], I.mk none (some 14) (Ef.pr Pr.mv) [X.t 73], I.mk none (some 15) (Ef.pr Pr.mv) [X.t 74]]) 
  (IC.seq (IC.ops [I.mk none (some 75) (Ef.pr Pr.mv) [X.t 13], I.mk none (some 76) (Ef.pr Pr.mv) [X.t 75], I.mk (some (76, true)) (some 77) (Ef.pr Pr.mv) [X.t 15], I.mk none (some 78) (Ef.pr Pr.pick) [X.t 76, X.t 77, X.c (Value.bool false)], I.mk none (some 79) (Ef.pr Pr.mv) [X.t 78], I.mk (some (79, true)) (some 80) (Ef.pr Pr.mv) [X.t 12], I.mk (some (79, true)) (some 81) (Ef.pr (Pr.fa 3)) [X.t 5], I.mk (some (79, true)) (some 82) (Ef.pr (Pr.ld 1 false)) [X.t 81], I.mk (some (79, true)) (some 83) (Ef.pr (Pr.cm BinOp.eql)) [X.t 80, X.t 82], I.mk none (some 84) (Ef.pr Pr.pick) [X.t 79, X.t 83, X.c (Value.bool false)], I.mk none (some 85) (Ef.pr Pr.mv) [X.t 84], I.mk (some (85, true)) (some 86) (Ef.pr Pr.mv) [X.t 14], I.mk (some (85, true)) (some 87) (Ef.pr (Pr.fa 2)) [X.t 5], I.mk (some (85, true)) (some 88) (Ef.pr (Pr.ld 1 false)) [X.t 87], I.mk (some (85, true)) (some 89) (Ef.pr (Pr.cm BinOp.eql)) [X.t 86, X.t 88], I.mk none (some 90) (Ef.pr Pr.pick) [X.t 85, X.t 89, X.c (Value.bool false)], I.mk none (some 16) (Ef.pr Pr.mv) [X.t 90]]) 
  (IC.seq (IC.ops [I.mk none (some 91) (Ef.pr Pr.mv) [X.t 11], I.mk none (some 92) (Ef.pr Pr.mv) [X.t 16], I.mk none (some 93) (Ef.pr (Pr.eq true (EqT.one EqS.b))) [X.t 91, X.t 92], I.mk none (some 94) (Ef.pr Pr.mv) [X.t 93], I.mk (some (94, false)) (some 95) (Ef.pr Pr.mv) [X.t 8], I.mk (some (94, false)) (some 96) (Ef.pr (Pr.un UnOp.not)) [X.t 95], I.mk (some (94, false)) (some 97) (Ef.pr Pr.mv) [X.t 96], I.mk (some (97, true)) (some 98) (Ef.pr Pr.mv) [X.t 10], I.mk (some (97, true)) (some 99) (Ef.pr (Pr.un UnOp.not)) [X.t 98], I.mk (some (94, false)) (some 100) (Ef.pr Pr.pick) [X.t 97, X.t 99, X.c (Value.bool false)], I.mk (some (94, false)) (some 101) (Ef.pr Pr.mv) [X.t 3], I.mk (some (94, false)) (some 102) (Ef.call 14) [X.t 101], I.mk (some (94, false)) (some 103) (Ef.pr Pr.mv) [X.t 6], I.mk (some (94, false)) (some 104) (Ef.pr (Pr.ar BinOp.add)) [X.t 103, X.c (Value.int IntKind.i64 1)], I.mk (some (94, false)) (some 105) (Ef.pr (Pr.cm BinOp.eql)) [X.t 102, X.t 104], I.mk (some (94, false)) (some 106) (Ef.pr (Pr.eq true (EqT.one EqS.b))) [X.t 100, X.t 105], I.mk none (some 107) (Ef.pr Pr.pick) [X.t 94, X.c (Value.bool true), X.t 106]]) 
  (IC.cond (X.t 107) 
  (IC.seq (IC.ops [I.mk none (some 2) (Ef.pr Pr.mv) [X.c (Value.bool false)]]) IC.ret) IC.skip)))))) 
  (IC.seq (IC.ops [I.mk none (some 109) (Ef.pr (Pr.cm BinOp.eql)) [X.t 52, X.c (Value.int IntKind.i64 4)], I.mk none (some 108) (Ef.pr Pr.mv) [X.t 109]]) 
  (IC.cond (X.t 108) 
  (IC.seq (IC.ops [I.mk none (some 110) (Ef.pr Pr.mv) [X.t 3], I.mk none (some 111) (Ef.pr (Pr.fa 2)) [X.t 5], I.mk none (some 112) (Ef.pr (Pr.ld 1 false)) [X.t 111], I.mk none (some 113) (Ef.call 18) [X.t 110, X.t 112], I.mk none (some 17) (Ef.pr Pr.mv) [X.t 113]]) 
  (IC.seq (IC.ops [I.mk none (some 115) (Ef.pr Pr.mv) [X.t 3], I.mk none (some 116) (Ef.pr (Pr.fa 2)) [X.t 5], I.mk none (some 117) (Ef.pr (Pr.ld 1 false)) [X.t 116], I.mk none (some 118) (Ef.call 15) [X.t 115, X.t 117], I.mk none (some 114) (Ef.pr Pr.mv) [X.t 118], I.mk none (some 119) (Ef.pr (Pr.ext 0)) [X.t 114], I.mk none (some 120) (Ef.pr (Pr.ext 1)) [X.t 114], I.mk none (some 18) (Ef.pr Pr.mv) [X.t 119], I.mk none (some 19) (Ef.pr Pr.mv) [X.t 120]]) 
  (IC.seq (IC.ops [I.mk none (some 121) (Ef.pr Pr.mv) [X.t 17], I.mk none (some 122) (Ef.pr Pr.mv) [X.t 8], I.mk none (some 123) (Ef.pr (Pr.eq true (EqT.one EqS.b))) [X.t 121, X.t 122], I.mk none (some 124) (Ef.pr Pr.mv) [X.t 123], I.mk (some (124, false)) (some 125) (Ef.pr Pr.mv) [X.t 19], I.mk none (some 126) (Ef.pr Pr.pick) [X.t 124, X.c (Value.bool true), X.t 125], I.mk none (some 127) (Ef.pr Pr.mv) [X.t 126], I.mk (some (127, false)) (some 128) (Ef.pr Pr.mv) [X.t 17], I.mk (some (127, false)) (some 129) (Ef.pr Pr.mv) [X.t 3], I.mk (some (127, false)) (some 130) (Ef.call 14) [X.t 129], I.mk (some (127, false)) (some 131) (Ef.pr Pr.mv) [X.t 6], I.mk (some (127, false)) (some 132) (Ef.pr (Pr.ar BinOp.sub)) [X.t 131, X.c (Value.int IntKind.i64 1)], I.mk (some (127, false)) (some 133) (Ef.pr (Pr.cm BinOp.eql)) [X.t 130, X.t 132], I.mk (some (127, false)) (some 134) (Ef.pr (Pr.eq true (EqT.one EqS.b))) [X.t 128, X.t 133], I.mk none (some 135) (Ef.pr Pr.pick) [X.t 127, X.c (Value.bool true), X.t 134]]) 
  (IC.cond (X.t 135) 
  (IC.seq (IC.ops [I.mk none (some 2) (Ef.pr Pr.mv) [X.c (Value.bool false)]]) IC.ret) IC.skip)))) IC.skip)))))) 
  (IC.seq (IC.ops [I.mk none (some 136) (Ef.pr Pr.mv) [X.t 3], I.mk none (some 137) (Ef.pr Pr.mv) [X.t 0], I.mk none (some 138) (Ef.call 19) [X.t 136, X.t 137], I.mk none (some 139) (Ef.pr (Pr.un UnOp.not)) [X.t 138]]) 
  (IC.cond (X.t 139) 
  (IC.seq (IC.ops [I.mk none (some 2) (Ef.pr Pr.mv) [X.c (Value.bool false)]]) IC.ret) IC.skip)))))))) (IC.ops [I.mk none (some 29) (Ef.pr Pr.mv) [X.t 4], I.mk none (some 30) (Ef.pr (Pr.ar BinOp.add)) [X.t 29, X.c (Value.int IntKind.i64 1)], I.mk none (some 4) (Ef.pr Pr.mv) [X.t 30]])))))) 
  (IC.seq (IC.ops [I.mk none (some 2) (Ef.pr Pr.mv) [X.c (Value.bool true)]]) IC.ret)))))

theorem k3 : Go.Proofs.Try.f3.body.bind (comp Go.Proofs.Try.prog 140 [5] [26]) = some c3 := by kernel_rfl

theorem r3 : cRVs Go.Proofs.Try.prog Go.Proofs.Try.f3.results.toList = some [RV.t 2] := by kernel_rfl

theorem e3 {args : List Value} {h : Hp} {Q : Value → Hp → Prop} (hl : Nat.ble args.length 140 = true) (hk : codeK PR none c3 (retK Q [RV.t 2]) (fun _ _ _ _ => False) (retK Q [RV.t 2]) (argsE 0 args) [] h) : Ok PR 3 args h Q :=
  Ok.of mixed Go.Proofs.Try.func3 rfl k3 r3 hl hk

end Go.Proofs.Ytkmknolkblcbeaa.V
