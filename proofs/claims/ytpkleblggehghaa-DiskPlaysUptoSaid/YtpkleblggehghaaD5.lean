/- Seat 04: sectors read. -/
import Derived.Test.YtpkleblggehghaaD4
namespace Go.Proofs.Ytpkleblggehghaa.V
set_option linter.unusedVariables false
set_option linter.unusedSimpArgs false
set_option linter.unusedSectionVars false
set_option linter.unusedSectionVars false
open Go

section
variable {h : Hp} {Q : Value → Hp → Prop} {L : List As} {p : Nat} {d : Dk}

theorem DkP.opn (hh : Has (DkP p d :: L) h) : Dok d ∧ ∃ s, Has (Pt p (.cells (dkC d s).toArray 84 (0, 0)) :: WnP 129 s d.cache.length (d.cache.flatMap rowQ) :: L) h := by
  obtain ⟨h1, h2, e, ap, ⟨hok, s, hd⟩, hL⟩ := hh
  exact ⟨hok, s, Has.flat (L1 := [_, _]) ⟨h1, h2, e, ap, hd, hL⟩⟩

theorem DkP.cls {s : Value} (hok : Dok d) (hh : Has (Pt p (.cells (dkC d s).toArray 84 (0, 0)) :: WnP 129 s d.cache.length (d.cache.flatMap rowQ) :: L) h) : Has (DkP p d :: L) h := by
  obtain ⟨h1, h2, e, ap, hd, hL⟩ := Has.group (L1 := [_, _]) hh
  exact ⟨h1, h2, e, ap, ⟨hok, s, hd⟩, hL⟩

theorem dk_vw {s : Value} {n : Nat} {x : Sec} (hok : Dok d) (hp : h p = some (.cells (dkC d s).toArray 84 (0, 0))) (hx : d.med[n]? = some x) : Vw 1 h (.slice (some ⟨p, n * 128, none⟩) 128 128) 128 (rowS x) := by
  have hn : n < 1024 := by rw [← hok.med]; exact (List.getElem?_eq_some_iff.1 hx).1
  refine ⟨by rw [rowS_len], _, 128, rfl, Nat.le_refl _, .inr ⟨p, _, _, 84, _, rfl, hp, ?_, fun j v hj => ?_⟩⟩
  · rw [dk_size hok.med]; omega
  · have hj2 : j < 128 := by rw [← rowS_len x]; exact (List.getElem?_eq_some_iff.1 hj).1
    rw [List.getElem?_toArray, dkC, List.getElem?_append_left (by rw [dk_len hok.med]; omega), flat_get rowS_len _ _ _ _ hx hj2]
    exact hj

theorem raw25o (n : Int) (hn : ¬ (0 ≤ n ∧ n < 1024)) (hq : Q (.tuple #[.slice none 0 0, iv 40]) h) : Ok PR 25 [ptr p, iv n] h Q := by
  refine e25 rfl ?_
  refine seq_step fun K hK => ?_
  conv => whnf
  refine hK _ _ _ (seq_step fun K1 hK1 => ?_)
  conv => whnf
  refine there47 n ?_
  rw [show decide (0 ≤ n ∧ n < 1024) = false from decide_eq_false hn]
  conv => whnf
  exact hq

set_option maxRecDepth 20000 in
theorem raw25 (n : Nat) {x : Sec} (hh : Has (DkP p d :: L) h) (hx : d.med[n]? = some x) (hq : ∀ s h', Has (WnP 1 s 128 (rowS x) :: DkP p d :: L) h' → Q (.tuple #[s, iv 0]) h') : Ok PR 25 [ptr p, iv n] h Q := by
  obtain ⟨hok, s, hh⟩ := DkP.opn hh
  have hn : n < 1024 := by rw [← hok.med]; exact (List.getElem?_eq_some_iff.1 hx).1
  refine e25 rfl ?_
  refine seq_step fun K hK => ?_
  conv => whnf
  refine hK _ _ _ (seq_step fun K1 hK1 => ?_)
  conv => whnf
  refine there47 (n : Int) ?_
  rw [show decide (0 ≤ (n : Int) ∧ (n : Int) < 1024) = true from decide_eq_true ⟨by omega, by omega⟩]
  conv => whnf
  refine hK1 _ _ _ (seq_step fun K2 hK2 => ?_)
  conv => whnf
  refine opt_if ⟨by omega, by omega⟩ ?_
  conv => whnf
  refine fresh_has hh fun b1 h1 hb1 _ hs1 hh1 => ?_
  conv => whnf
  have e1 : (if (128 : Nat) = 0 then 0 + 0 + ((n : Int)).toNat * 128 else 0 + 0 + ((n : Int)).toNat * 128 + 0 * 1) = n * 128 := by rw [if_neg (by decide)]; omega
  rw [e1] at hb1 hh1
  have hv : Vw 1 h1 (.slice (some ⟨p, n * 128, none⟩) 128 128) 128 (rowS x) := dk_vw hok (hh1.pt 1 rfl) hx
  have ha : Vw 1 h1 (.slice (some ⟨b1, 0, none⟩) 1 1) 1 [.slice (some ⟨p, n * 128, none⟩) 128 128] := (pt_wn (e := 1) (n := 1) (cap := 1) (cs := [.slice (some ⟨p, n * 128, none⟩) 128 128]) rfl (Nat.le_refl _) rfl hb1).vw
  refine join50 (bs := [x.val]) (Has.tail hh1) ha rfl (fun i q l hq1 hq2 => ?_) (by omega) (by simp [x.len]) fun s2 h2 hh2 => ?_
  · rcases i with _ | i
    · cases hq1; cases hq2
      rw [x.len]; exact hv
    · simp at hq1
  have e2 : [x.val].flatten = x.val := by simp
  rw [e2, x.len] at hh2
  replace hh2 : Has (Pt p (.cells (dkC d s).toArray 84 (0, 0)) :: WnP 129 s d.cache.length (d.cache.flatMap rowQ) :: WnP 1 s2 128 (rowS x) :: L) h2 := hh2.perm (by
    refine List.Perm.trans (List.Perm.swap _ _ _) (List.Perm.cons _ (List.Perm.swap _ _ _)))
  conv => whnf
  refine hK2 _ _ _ ?_
  conv => whnf
  exact hq _ _ (DkP.cls hok hh2).swap

end
end Go.Proofs.Ytpkleblggehghaa.V
