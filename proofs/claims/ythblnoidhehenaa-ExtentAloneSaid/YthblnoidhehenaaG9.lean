/- Seat 10: rows of arrays that come in. -/
import Derived.Test.YthblnoidhehenaaU1
import Derived.Deep.Slices
import Derived.OpenShut
namespace Go.Proofs.Ythblnoidhehenaa.V
set_option linter.unusedVariables false
set_option linter.unusedSimpArgs false
set_option linter.unusedSectionVars false
set_option linter.unusedSectionVars false
open Go

section
variable {H : Type} {enc : TypeId × Value → H} {P : Program} {w : World} {base : Nat} {spare : Nat → Bool} {held : Bool}

theorem arr_ints {e el n : Nat} {fuel : Nat} {cs : List Value} {x : DataW H × List MemPlace} (he : P.underlying e = some (.array n el)) (hel : P.underlying el = some (.int .i64)) (hc : P.cellsOf el = 1)
    (h : DataW.trod enc P w base spare held fuel e cs = some x) (j : Nat) (hj : j < n) : ∃ m, cs[j]? = some (iv m) := by
  obtain ⟨xs, m, _, _, _, hl, hall⟩ := DataW.trod_array he h
  have h1 := hall j hj
  rw [hc, Nat.mul_one, List.getElem?_eq_getElem (by omega)] at h1
  obtain ⟨q, h2, _⟩ := DataW.trod_int hel h1
  refine ⟨q, ?_⟩
  have h3 : ((cs.drop j).take 1)[0]? = some (iv q) := by rw [h2]; rfl
  rw [List.getElem?_take, if_pos (by omega), List.getElem?_drop, Nat.add_zero] at h3
  exact h3

theorem rowsA_open {t e el n : Nat} {fuel : Nat} {a : Option Addr} {len cap : Nat} {x : DataW H × List MemPlace} (ht : P.underlying t = some (.slice e)) (he : P.underlying e = some (.array n el)) (hie : P.underlying el = some (.int .i64)) (hce : P.cellsOf el = 1) (hc : P.cellsOf e = n) (hn : 0 < n)
    (h : DataW.trod enc P w base spare held fuel t [.slice a len cap] = some x) : ∃ f, RowsN n (allH w) a len f ∧ len ≤ maxLen := by
  rcases Go.Deep.open_slice ht h with ⟨he, _⟩ | ⟨a', len', cap', m, k, D, Pl, hee, hb, hl, hm, hmm, _, hel⟩
  · cases he
    exact ⟨fun _ _ => 0, fun i hi => absurd hi (Nat.not_lt_zero _), Nat.zero_le _⟩
  · cases hee
    refine ⟨fun i j => match w.cell? ((a'.add (i * n)).add j) with | some (.int _ q) => q | _ => 0, fun i hi => ?_, Nat.le_trans hl hm⟩
    have him : i < m := by rw [hmm]; split <;> omega
    obtain ⟨cs', h1, h2⟩ := hel i him
    rw [hc] at h1
    obtain ⟨_, hlen, hcell⟩ := World.cells?_some h1
    obtain ⟨b, off, spot⟩ := a'
    have hsp : spot = none := by
      obtain ⟨cs0, g1, g2⟩ := hel 0 (by omega)
      rw [hc, Nat.zero_mul] at g1
      obtain ⟨_, _, gcell⟩ := World.cells?_some g1
      obtain ⟨m0, h0⟩ := arr_ints he hie hce g2 0 hn
      have hz := gcell 0 hn
      rw [h0] at hz
      simpa [Addr.add] using World.cell?_spot hz
    subst hsp
    obtain ⟨m0, h0⟩ := arr_ints he hie hce h2 0 hn
    have hz := hcell 0 hn
    rw [h0] at hz
    rw [add_mk, add_mk] at hz
    obtain ⟨c, ty, z, hbw, _⟩ := cell_cells hz
    refine ⟨b, off, c, ty, z, rfl, hbw, fun j hj => ?_⟩
    obtain ⟨mj, hmj⟩ := arr_ints he hie hce h2 j hj
    have hcj := hcell j hj
    rw [hmj, add_mk, add_mk] at hcj
    show _ = some (iv (match w.cell? ((Addr.add ⟨b, off, none⟩ (i * n)).add j) with | some (.int _ q) => q | _ => 0))
    rw [add_mk, add_mk]
    rw [hcj]
    have : w.cell? ⟨b, off + i * n + j, none⟩ = c[off + i * n + j]? := cell_of hbw
    rw [← this, hcj]
    rfl

end
end Go.Proofs.Ythblnoidhehenaa.V
