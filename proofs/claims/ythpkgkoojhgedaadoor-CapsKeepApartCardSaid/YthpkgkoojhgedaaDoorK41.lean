/- Seat 08: CapsKeepApart: List and Up by counts; two fields written. -/
import Derived.Test.YthpkgkoojhgedaaDoorK40
namespace Go.Proofs.YthpkgkoojhgedaaDoor.V
set_option linter.unusedVariables false
set_option linter.unusedSimpArgs false
set_option linter.unusedSectionVars false
set_option linter.unusedSectionVars false
open Go

/-- The first ones written: slot and rights. -/
def w2 (i : Nat) (x : Hd) : Hd := { x with slot := 100 + i, cap := { x.cap with rights := 8 } }
def mk2 (l : List Hd) (i : Nat) : List Hd := l.mapIdx fun j x => if j < i then w2 j x else x
theorem mk2_len (l : List Hd) (i : Nat) : (mk2 l i).length = l.length := by unfold mk2; rw [List.length_mapIdx]
theorem mk2_zero (l : List Hd) : mk2 l 0 = l := by
  apply List.ext_getElem?
  intro j
  unfold mk2
  rw [List.getElem?_mapIdx]
  cases l[j]? <;> simp
theorem mk2_succ (l : List Hd) (i : Nat) : ((mk2 l i).modify i (fun x => { x with slot := 100 + i })).modify i (fun x => { x with cap := { x.cap with rights := 8 } }) = mk2 l (i + 1) := by
  apply List.ext_getElem?
  intro j
  unfold mk2
  rw [List.getElem?_modify, List.getElem?_modify, List.getElem?_mapIdx, List.getElem?_mapIdx]
  cases l[j]? with
  | none => rfl
  | some x =>
    simp only [Option.map_some, Option.map_eq_map]
    by_cases h : i = j
    · subst h
      simp [w2]
    · by_cases h2 : j < i
      · simp [h, h2, show j < i + 1 by omega]
      · simp [h, h2, show ¬ j < i + 1 by omega]
theorem mk2_at (l : List Hd) (i j : Nat) (hj : j < (mk2 l i).length) (h : j < i) : (mk2 l i)[j].slot = 100 + j := by
  simp [mk2, h, w2]

theorem hd_rights {g : Hp} {s : Value} {l : List Hd} (hv : Vw 6 g s l.length (l.flatMap hdC)) {i : Nat} (hi : i < l.length) {bb o cap : Nat} (hs : s = .slice (some ⟨bb, o, none⟩) l.length cap) {c : Array Value} {ty : TypeId} {z : Nat × Nat} (hb : g bb = some (.cells c ty z)) : c[o + i * 6 + 2 + 3]? = some (iv l[i].cap.rights) := by
  obtain ⟨b3, o3, c3, t3, z3, cap3, f1, f2, f3, f4⟩ := hv.at (i := i) hi
  rw [hs] at f1
  injection f1 with e1 e2 e3
  injection e1 with e1
  injection e1 with e1 e4 e5
  subst e1 e4
  rw [hb] at f2
  cases f2
  exact f4 5 _ (by rw [flat_get hdC_len l i 5 _ (List.getElem?_eq_getElem hi) (by decide)]; rfl)

/-- A list appended to, and the list as it was. -/
def LgP (sg sl : Value) (l : List Hd) (x : Hd) : As := fun g => WnP 6 sg (l ++ [x]).length ((l ++ [x]).flatMap hdC) g ∧ Vw 6 g sl l.length (l.flatMap hdC)
theorem LgP.sub {sg sl : Value} {l : List Hd} {x : Hd} : ∀ g g', LgP sg sl l x g → SubH g g' → LgP sg sl l x g' := fun g g' h hs => ⟨h.1.sub hs, h.2.sub hs⟩
theorem LgP.of {sg sl : Value} {l : List Hd} {x : Hd} {g : Hp} (h : WnP 6 sg (l.length + 1) (l.flatMap hdC ++ hdC x) g ∧ Vw 6 g sl l.length (l.flatMap hdC)) : LgP sg sl l x g := by
  refine ⟨?_, h.2⟩
  rw [List.length_append, List.flatMap_append]
  simpa using h.1

section
variable {h : Hp} {Q : Value → Hp → Prop} {L : List As} {b : Nat} {S : Bs} {ser : Int} {op : List Nat} {kk : Nat → Nat}

theorem listE (hc : Cn S ser op kk) {n : Nat} (hn : n ∈ op) (hh : Has (CapsA b S :: L) h) (hq : ∀ s h', Has (HsP s (rowH ser n (kk n)) :: CapsA b S :: L) h' → Q (.tuple #[s, iv 0]) h') : Ok PR 23 [ptr b, iv n] h Q := by
  refine list23 hc.wf hh n (fun hno => ?_) fun n' he ho s h' hh' => ?_
  · have := hc.op n hn
    unfold isOpen at this
    rw [hno] at this; cases this
  · obtain rfl : n = n' := by omega
    rw [hc.list n] at hh'
    exact hq _ _ hh'

theorem upE {k : Nat} (hc : Cn S ser op (kkF 1 k 0 0)) (hkin : Kin S) (hk1 : 1 ≤ k) (hr : CapsR b S h) (hn : NoneR h) {si : Value} (hv : Vw 1 h si 4 [iv 5, iv 0, iv 0, iv 99]) (hq : Q (.tuple #[.agg #[iv 0, iv 0], iv 0]) h) : Ok PR 14 [ptr b, iv 1, iv 0, si] h Q := by
  have hw := hc.wf
  refine up14 hw hr hn 1 0 (ins := [5, 0, 0, 99]) (show 4 < 1099511627776 by decide) hv (fun k' hk' => ?_) fun c hcm r he hs hu => ?_
  · obtain ⟨d, hd, hd0, hds⟩ := hc.has 1 0 (by rw [kkF_1]; omega)
    have hlk := mLook_of hw hd
    rw [hd0, hds] at hlk
    have hlk : mLook S.tb 1 0 = .inr d.a := hlk
    rw [hlk] at hk'; cases hk'
  obtain ⟨q, hqm, hq0, hqp⟩ := (hkin c hcm).2 (by omega)
  have hqs : q.slot = 0 := by
    have := (hc.fit q hqm).1
    rw [hq0, kkF_0] at this; omega
  obtain ⟨x, hx⟩ : ∃ x, x = c.par := ⟨_, rfl⟩
  rw [← hx] at hu
  rw [hqp] at hx
  cases hu with
  | none => cases hx
  | hit hp hi =>
    injection hx with hx
    have := one_a hw.nda hp hqm hx
    subst this
    show Q (.tuple #[.agg #[iv _, iv _], iv 0]) h
    rw [hq0, hqs]
    exact hq
  | miss hp hi hu =>
    injection hx with hx
    have := one_a hw.nda hp hqm hx
    subst this
    exact absurd (by rw [hq0]; decide) hi
end
end Go.Proofs.YthpkgkoojhgedaaDoor.V
