/- The functions 7, resolved. -/
import Derived.Test.YtljenppmdhldbaaVP
namespace Go.Proofs.Ytljenppmdhldbaa.V
set_option linter.unusedVariables false
set_option linter.unusedSimpArgs false
set_option linter.unusedSectionVars false
open Go
set_option maxRecDepth 100000

def c7 : IC := IC.seq (IC.ops [I.mk none (some 2) (Ef.pr Pr.mv) [X.c (Value.bool false)]]) 
  (IC.seq (IC.ops [I.mk none (some 9) (Ef.call 13) [], I.mk none (some 8) (Ef.pr Pr.mv) [X.t 9], I.mk none (some 10) (Ef.pr (Pr.ext 0)) [X.t 8], I.mk none (some 11) (Ef.pr (Pr.ext 1)) [X.t 8], I.mk none (some 3) (Ef.pr Pr.mv) [X.t 10], I.mk none (some 4) (Ef.pr Pr.mv) [X.t 11]]) 
  (IC.seq 
  (IC.seq (IC.ops [I.mk none (some 12) (Ef.pr Pr.mv) [X.t 3], I.mk none (some 13) (Ef.pr (Pr.eq false (EqT.one EqS.p))) [X.t 12, X.c (Value.pointer none)]]) 
  (IC.cond (X.t 13) 
  (IC.seq (IC.ops [I.mk none (some 2) (Ef.pr Pr.mv) [X.c (Value.bool false)]]) IC.ret) IC.skip)) 
  (IC.seq 
  (IC.seq (IC.ops [I.mk none (some 5) (Ef.pr Pr.mv) [X.c (Value.int IntKind.i64 0)]]) 
  (IC.block 0 
  (IC.loop 
  (IC.seq 
  (IC.seq (IC.ops [I.mk none (some 14) (Ef.pr Pr.mv) [X.t 5], I.mk none (some 15) (Ef.pr Pr.mv) [X.t 0], I.mk none (some 16) (Ef.pr Pr.lenS) [X.t 15], I.mk none (some 17) (Ef.pr (Pr.cm BinOp.lss)) [X.t 14, X.t 16]]) 
  (IC.cond (X.t 17) IC.skip (IC.exit 0))) 
  (IC.seq 
  (IC.block 1 
  (IC.seq (IC.ops [I.mk none (some 20) (Ef.pr Pr.mv) [X.t 4], I.mk none (some 21) (Ef.pr Pr.mv) [X.t 3], I.mk none (some 22) (Ef.pr Pr.mv) [X.t 0], I.mk none (some 23) (Ef.pr Pr.mv) [X.t 5], I.mk none (some 24) (Ef.pr (Pr.iaS 18)) [X.t 22, X.t 23], I.mk none (some 25) (Ef.pr (Pr.ld 18 true)) [X.t 24], I.mk none (some 26) (Ef.call 20) [X.t 20, X.t 21, X.t 25], I.mk none (some 6) (Ef.pr Pr.mv) [X.t 26]]) 
  (IC.seq 
  (IC.seq (IC.ops [I.mk none (some 27) (Ef.pr Pr.mv) [X.t 6], I.mk none (some 28) (Ef.pr (Pr.un UnOp.not)) [X.t 27]]) 
  (IC.cond (X.t 28) 
  (IC.seq (IC.ops [I.mk none (some 2) (Ef.pr Pr.mv) [X.c (Value.bool false)]]) IC.ret) IC.skip)) 
  (IC.seq (IC.ops [I.mk none (some 7) (Ef.pr Pr.mv) [X.c (Value.int IntKind.i64 0)]]) 
  (IC.block 2 
  (IC.loop 
  (IC.seq 
  (IC.seq (IC.ops [I.mk none (some 29) (Ef.pr Pr.mv) [X.t 7], I.mk none (some 30) (Ef.pr (Pr.cm BinOp.lss)) [X.t 29, X.c (Value.int IntKind.i64 16)]]) 
  (IC.cond (X.t 30) IC.skip (IC.exit 2))) 
  (IC.seq 
  (IC.block 3 
  (IC.seq 
  (IC.seq (IC.ops [I.mk none (some 33) (Ef.pr Pr.mv) [X.t 4], I.mk none (some 34) (Ef.pr Pr.mv) [X.t 7], I.mk none (some 35) (Ef.pr Pr.nilc) [X.t 33], I.mk none (some 36) (Ef.pr (Pr.fa 0)) [X.t 35], I.mk none (some 37) (Ef.pr (Pr.iaA 16 1)) [X.t 36, X.t 34], I.mk none (some 38) (Ef.pr (Pr.ld 1 false)) [X.t 37], I.mk none (some 39) (Ef.pr (Pr.un UnOp.not)) [X.t 38]]) 
  (IC.cond (X.t 39) (IC.exit 3) IC.skip)) 
  (IC.seq (IC.ops [I.mk none (some 40) (Ef.pr Pr.mv) [X.t 4], I.mk none (some 41) (Ef.pr Pr.mv) [X.t 3], I.mk none (some 42) (Ef.pr Pr.mv) [X.t 7], I.mk none (some 43) (Ef.call 31) [X.t 40, X.t 41, X.t 42], I.mk none (some 6) (Ef.pr Pr.mv) [X.t 43]]) 
  (IC.seq (IC.ops [I.mk none (some 44) (Ef.pr Pr.mv) [X.t 6], I.mk none (some 45) (Ef.pr (Pr.un UnOp.not)) [X.t 44]]) 
  (IC.cond (X.t 45) 
  (IC.seq (IC.ops [I.mk none (some 2) (Ef.pr Pr.mv) [X.c (Value.bool false)]]) IC.ret) IC.skip))))) (IC.ops [I.mk none (some 31) (Ef.pr Pr.mv) [X.t 7], I.mk none (some 32) (Ef.pr (Pr.ar BinOp.add)) [X.t 31, X.c (Value.int IntKind.i64 1)], I.mk none (some 7) (Ef.pr Pr.mv) [X.t 32]]))))))))) (IC.ops [I.mk none (some 18) (Ef.pr Pr.mv) [X.t 5], I.mk none (some 19) (Ef.pr (Pr.ar BinOp.add)) [X.t 18, X.c (Value.int IntKind.i64 1)], I.mk none (some 5) (Ef.pr Pr.mv) [X.t 19]])))))) 
  (IC.seq (IC.ops [I.mk none (some 2) (Ef.pr Pr.mv) [X.c (Value.bool true)]]) IC.ret))))

theorem k7 : Go.Proofs.Try.f7.body.bind (comp Go.Proofs.Try.prog 46 [] []) = some c7 := by kernel_rfl

theorem r7 : cRVs Go.Proofs.Try.prog Go.Proofs.Try.f7.results.toList = some [RV.t 2] := by kernel_rfl

theorem e7 {args : List Value} {h : Hp} {Q : Value → Hp → Prop} (hl : Nat.ble args.length 46 = true) (hk : codeK PR none c7 (retK Q [RV.t 2]) (fun _ _ _ _ => False) (retK Q [RV.t 2]) (argsE 0 args) [] h) : Ok PR 7 args h Q :=
  Ok.of mixed Go.Proofs.Try.func7 rfl k7 r7 hl hk

end Go.Proofs.Ytljenppmdhldbaa.V
