/- Seat 04: New; full sectors. -/
import Derived.Test.YtpkleblggehghaaD11
namespace Go.Proofs.Ytpkleblggehghaa.V
set_option linter.unusedVariables false
set_option linter.unusedSimpArgs false
set_option linter.unusedSectionVars false
set_option linter.unusedSectionVars false
open Go

theorem r37 : cRVs Go.Proofs.Try.prog Go.Proofs.Try.f37.results.toList = some [RV.t 0] := by kernel_rfl

theorem e37 {args : List Value} {h : Hp} {Q : Value → Hp → Prop} (hl : Nat.ble args.length 3 = true) (hk : codeK PR none c37 (retK Q [RV.t 0]) (fun _ _ _ _ => False) (retK Q [RV.t 0]) (argsE 0 args) [] h) : Ok PR 37 args h Q :=
  Ok.of mixed Go.Proofs.Try.func37 rfl k37 r37 hl hk

def dk0 : Dk := ⟨List.replicate 1024 zsec, [], false, 0, false, 0⟩

theorem rowS_z : rowS zsec = List.replicate 128 (Value.int .u8 0) := by simp [rowS, zsec, by8]

theorem flat_z : ∀ n, (List.replicate n zsec).flatMap rowS = List.replicate (n * 128) (Value.int .u8 0)
  | 0 => by simp
  | n + 1 => by
    rw [List.replicate_succ, List.flatMap_cons, flat_z n, rowS_z, List.replicate_append_replicate]
    congr 1; omega

theorem dk0_cells : z84 = dkC dk0 (.slice none 0 0) := by
  rw [z84_eq]
  unfold dkC
  show _ = (List.replicate 1024 zsec).flatMap rowS ++ _
  rw [flat_z]
  rfl

section
variable {h : Hp} {Q : Value → Hp → Prop} {L : List As} {p : Nat} {d : Dk}

theorem new37 (hh : Has L h) (hq : ∀ q h', Has (DkP q dk0 :: L) h' → Q (ptr q) h') : Ok PR 37 [] h Q := by
  refine e37 rfl ?_
  refine seq_step fun K hK => ?_
  conv => whnf
  refine hK _ _ _ (seq_step fun K1 hK1 => ?_)
  generalize hz : z84 = z
  conv => whnf
  refine fresh_has hh fun b h1 hb1 _ hs1 hh1 => ?_
  conv => whnf
  refine hK1 _ _ _ ?_
  conv => whnf
  have e1 : z = dkC dk0 (.slice none 0 0) := hz.symm.trans dk0_cells
  replace hh1 : Has (Pt b (.cells z.toArray 84 (0, 0)) :: L) h1 := hh1
  rw [e1] at hh1
  obtain ⟨h3, h4, e, ap, hA, hL⟩ := hh1
  exact hq _ _ (DkP.cls (s := .slice none 0 0) ⟨List.length_replicate .., (fun x hx => absurd hx (List.not_mem_nil)), Int.le_refl _, (by show (0 : Int) < 2 ^ 63; decide), (by show -2 ^ 63 ≤ (0 : Int) ∧ (0 : Int) < 2 ^ 63; decide)⟩ ⟨h3, h4, e, ap, hA, hL.nilW 129⟩)

/-- A sector of one byte. -/
def one1S (n : Int) : Sec := ⟨List.replicate 128 n, by simp⟩

theorem fill_one (n : Int) : fillB [n] = (one1S n).val := by
  unfold fillB one1S
  show ((n :: []) ++ List.replicate 128 n).take 128 = List.replicate 128 n
  rw [show (n :: []) ++ List.replicate 128 n = List.replicate 129 n from rfl, List.take_replicate]
  rfl

theorem full17 (n : Int) (hh : Has L h) (hq : ∀ s h', Has (WnP 1 s 128 (rowS (one1S n)) :: L) h' → Q s h') : Ok PR 17 [by8 n] h Q := by
  refine e17 rfl ?_
  refine seq_step fun K hK => ?_
  conv => whnf
  refine hK _ _ _ ?_
  conv => whnf
  refine fresh_has hh fun b h1 hb1 _ hs1 hh1 => ?_
  conv => whnf
  have hv : Vw 1 h1 (.slice (some ⟨b, 0, none⟩) 1 1) 1 ([n].map by8) := (pt_wn (e := 1) (n := 1) (cap := 1) (cs := [by8 n]) rfl (Nat.le_refl _) rfl hb1).vw
  refine filled48 (Has.tail hh1) hv (by omega) fun s h2 hh2 => ?_
  rw [fill_one] at hh2
  conv => whnf
  exact hq _ _ hh2

end
end Go.Proofs.Ytpkleblggehghaa.V
