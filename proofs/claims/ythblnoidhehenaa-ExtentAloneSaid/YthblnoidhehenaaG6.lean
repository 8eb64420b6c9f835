/- Seat 10: a new disk, a new table of extents. -/
import Derived.Test.YthblnoidhehenaaG5
namespace Go.Proofs.Ythblnoidhehenaa.V
set_option linter.unusedVariables false
set_option linter.unusedSimpArgs false
set_option linter.unusedSectionVars false
set_option linter.unusedSectionVars false
open Go

def u0 : Value := .int .u8 0
def tl5 : List Value := [.slice none 0 0, .bool false, .int .i64 0, .bool false, .int .i64 0]

theorem zr_app (m n : Nat) (x : Value) : List.append (List.replicate m x) (List.replicate n x) = List.replicate (m + n) x := by
  show List.replicate m x ++ List.replicate n x = _
  simp
theorem zr_app2 (m n : Nat) (x : Value) (r : List Value) : List.append (List.replicate m x) (List.append (List.replicate n x) r) = List.append (List.replicate (m + n) x) r := by
  show List.replicate m x ++ (List.replicate n x ++ r) = _ ++ r
  rw [← List.append_assoc]; simp
theorem zr_cons (n : Nat) : List.cons (Value.int .u8 0) (List.replicate n (Value.int .u8 0)) = List.replicate (n + 1) (Value.int .u8 0) := rfl
theorem zr_one : [Value.int .u8 0] = List.replicate 1 (Value.int .u8 0) := rfl
theorem zr_tl : List.cons (Value.int .u8 0) [.slice none 0 0, .bool false, .int .i64 0, .bool false, .int .i64 0] = List.append (List.replicate 1 (Value.int .u8 0)) tl5 := rfl
theorem zr_tl2 (n : Nat) : List.cons (Value.int .u8 0) (List.append (List.replicate n (Value.int .u8 0)) tl5) = List.append (List.replicate (n + 1) (Value.int .u8 0)) tl5 := rfl

theorem zero46 : zeroCells PR 46 = some (List.append (List.replicate 131072 (Value.int .u8 0)) tl5) := by
  unfold zeroCells
  rw [show PR.info? 46 = some Try.t46 from Try.type46]
  simp only [Try.t46, Value.cells, zr_cons, zr_one, zr_tl, zr_tl2, zr_app, zr_app2, Nat.reduceAdd]

noncomputable def z46 : List Value := (zeroCells PR 46).getD []
theorem z46_eq : z46 = List.append (List.replicate 131072 (Value.int .u8 0)) tl5 := by unfold z46; rw [zero46]; rfl

noncomputable def c4 : IC := IC.seq (IC.ops [I.mk none (some 0) (Ef.pr Pr.mv) [X.c (Value.pointer none)]]) (IC.seq (IC.ops [I.mk none (some 1) (Ef.pr (Pr.bld z46 [])) [], I.mk none (some 2) (Ef.bxh 46) [X.t 1], I.mk none (some 0) (Ef.pr Pr.mv) [X.t 2]]) IC.ret)

theorem k4 : Go.Proofs.Try.f4.body.bind (comp Go.Proofs.Try.prog 3 [] []) = some c4 := by kernel_rfl

theorem r4 : cRVs Go.Proofs.Try.prog Go.Proofs.Try.f4.results.toList = some [RV.t 0] := by kernel_rfl

theorem e4 {args : List Value} {h : Hp} {Q : Value → Hp → Prop} (hl : Nat.ble args.length 3 = true) (hk : codeK PR none c4 (retK Q [RV.t 0]) (fun _ _ _ _ => False) (retK Q [RV.t 0]) (argsE 0 args) [] h) : Ok PR 4 args h Q :=
  Ok.of mixed Go.Proofs.Try.func4 rfl k4 r4 hl hk

section
variable {h : Hp} {Q : Value → Hp → Prop} {L : List As}

theorem new4 (hh : Has L h) (hq : ∀ q h', Has L h' → Q (ptr q) h') : Ok PR 4 [] h Q := by
  refine e4 rfl ?_
  refine seq_step fun K hK => ?_
  conv => whnf
  refine hK _ _ _ (seq_step fun K1 hK1 => ?_)
  generalize hz : z46 = z
  conv => whnf
  refine fresh_has hh fun b h1 hb1 _ hs1 hh1 => ?_
  conv => whnf
  refine hK1 _ _ _ ?_
  conv => whnf
  exact hq _ _ hh1.tail

theorem new10S (a : Int) : Sp PR 10 [iv a] (fun _ => True) (X := Nat) (fun p => ptr p) (fun p => TabP rowE p (List.replicate (min (max a 0) 4096).toNat none)) := fun h _ =>
  new10 a fun p d h' hT _ _ _ => ⟨p, rfl, d, hT⟩

theorem tb0 : TbOk (List.replicate 32 none) (List.replicate 32 0) := by
  refine ⟨List.length_replicate .., List.length_replicate .., fun n x hx => ?_⟩
  rw [List.getElem?_replicate] at hx ⊢
  split at hx
  · cases hx
    rw [if_pos (by assumption)]
    exact ⟨Int.le_refl _, rfl⟩
  · cases hx

theorem new5 {p : Nat} (hh : Has L h) (hq : ∀ t h', Has (ExtP t (List.replicate 32 0) :: L) h' → Q (ptr t) h') : Ok PR 5 [ptr p] h Q := by
  refine e5 rfl ?_
  refine seq_step fun K hK => ?_
  conv => whnf
  refine hK _ _ _ (seq_step fun K1 hK1 => ?_)
  refine seq_step fun K2 hK2 => ?_
  conv => whnf
  refine hK2 _ _ _ ?_
  conv => whnf
  refine hK1 _ _ _ (seq_step fun K3 hK3 => ?_)
  conv => whnf
  refine Has.make hh (new10S 32) fun b h1 hh1 => ?_
  conv => whnf
  refine fresh_has hh1 fun t h2 ht _ _ hh2 => ?_
  conv => whnf
  refine hK3 _ _ _ ?_
  conv => whnf
  exact hq t _ (ExtP.cls (b := b) (l := List.replicate 32 none) tb0 hh2)

end
end Go.Proofs.Ythblnoidhehenaa.V
