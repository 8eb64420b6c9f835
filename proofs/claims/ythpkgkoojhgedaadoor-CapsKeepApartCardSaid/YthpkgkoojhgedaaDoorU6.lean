/- Parts of heaps: what every seat from 10 on needs beside U1. -/
import Derived.Test.YthpkgkoojhgedaaDoorU1
namespace Go.Proofs.YthpkgkoojhgedaaDoor.V
set_option linter.unusedVariables false
set_option linter.unusedSimpArgs false
set_option linter.unusedSectionVars false
set_option linter.unusedSectionVars false
open Go

theorem Has.nilW {L : List As} {h : Hp} (hh : Has L h) (e : Nat) : Has (WnP e (.slice none 0 0) 0 [] :: L) h :=
  ⟨fun _ => none, h, by funext b; simp [join], fun _ _ h => (by cases h), WnP.nil _ _, hh⟩

theorem vw_nil (e : Nat) (h : Hp) : Vw e h (.slice none 0 0) 0 [] := ⟨by simp, none, 0, rfl, Nat.le_refl _, .inl rfl⟩

theorem Has.wn {L : List As} {h : Hp} (hh : Has L h) (i : Nat) {e n : Nat} {s : Value} {vs : List Value} (hi : L[i]? = some (WnP e s n vs)) : Vw e h s n vs := (Has.get hh i hi fun _ _ => WnP.sub).vw

theorem Has.erase : ∀ {L : List As} {h : Hp}, Has L h → ∀ i, Has (L.eraseIdx i) h
  | [], _, hh, i => by cases i <;> exact hh
  | A :: L, h, hh, 0 => hh.tail
  | A :: L, h, hh, i + 1 => hh.map_tail fun g hg => Has.erase hg i

theorem Has.slv {L : List As} {h : Hp} (hh : Has L h) (i : Nat) {e n : Nat} {s : Value} {vs : List Value} (hi : L[i]? = some (WnP e s n vs)) : ∃ base cap, s = .slice base n cap :=
  let ⟨_, base, cap, h, _⟩ := hh.wn i hi; ⟨base, cap, h⟩

theorem Has.rdw {L : List As} {h : Hp} (hh : Has L h) (i : Nat) {n k : Nat} {s v : Value} {vs : List Value} (hi : L[i]? = some (WnP 1 s n vs)) (hk : k < n) (hv : vs[k]? = some v) :
    ∃ b o cap c ty z, s = .slice (some ⟨b, o, none⟩) n cap ∧ h b = some (.cells c ty z) ∧ c[o + k]? = some v := by
  obtain ⟨b, o, c, ty, z, cap, e1, e2, e3, e4⟩ := (hh.wn i hi).at (i := k) hk
  refine ⟨b, o, cap, c, ty, z, e1, e2, ?_⟩
  have := e4 0 v (by rw [Nat.mul_one, Nat.add_zero]; exact hv)
  rwa [Nat.mul_one, Nat.add_zero] at this

theorem agg_rd {c : Array Value} {o n : Nat} {row : List Value} (hl : row.length = n) (hsz : o + n ≤ c.size) (hc : ∀ j v, row[j]? = some v → c[o + j]? = some v) : rd c o n true = some (.agg row.toArray) := by
  unfold rd
  rw [if_pos rfl, if_pos hsz]
  congr 2
  unfold sub
  congr 1
  apply List.ext_getElem?
  intro j
  rw [List.getElem?_take, List.getElem?_drop]
  by_cases hj : j < n
  · have hv : row[j]? = some row[j] := List.getElem?_eq_getElem (by omega)
    rw [if_pos hj, Array.getElem?_toList, hc j _ hv, hv]
  · rw [if_neg (by omega), List.getElem?_eq_none (by omega)]

theorem wrap_wrap (a b : Int) : IntKind.i64.wrap (IntKind.i64.wrap a + b) = IntKind.i64.wrap (a + b) := by
  have e64 : (2 : Int) ^ IntKind.i64.bits = 18446744073709551616 := by decide
  have e63 : (2 : Int) ^ (IntKind.i64.bits - 1) = 9223372036854775808 := by decide
  have hw : ∀ n : Int, ∃ k : Int, IntKind.i64.wrap n = n + k * 18446744073709551616 := fun n => by
    unfold IntKind.wrap
    simp only [e64, e63]
    split
    · exact ⟨-(n / 18446744073709551616) - 1, by omega⟩
    · exact ⟨-(n / 18446744073709551616), by omega⟩
  obtain ⟨k, hk⟩ := hw a
  rw [hk]
  unfold IntKind.wrap
  simp only [e64]
  rw [show (a + k * 18446744073709551616 + b) % 18446744073709551616 = (a + b) % 18446744073709551616 by omega]

theorem wrap_lim (n : Int) : -2 ^ 63 ≤ IntKind.i64.wrap n ∧ IntKind.i64.wrap n < 2 ^ 63 := by
  have e64 : (2 : Int) ^ IntKind.i64.bits = 18446744073709551616 := by decide
  have e63 : (2 : Int) ^ (IntKind.i64.bits - 1) = 9223372036854775808 := by decide
  have h1 : 0 ≤ n % 18446744073709551616 := Int.emod_nonneg _ (by decide)
  have h2 : n % 18446744073709551616 < 18446744073709551616 := Int.emod_lt_of_pos _ (by decide)
  unfold IntKind.wrap
  simp only [e64, e63]
  split
  · rename_i hc
    simp only [Bool.and_eq_true, decide_eq_true_eq] at hc
    omega
  · rename_i hc
    have : ¬ (n % 18446744073709551616 ≥ 9223372036854775808) := fun h => hc (by simp only [Bool.and_eq_true, decide_eq_true_eq]; exact ⟨rfl, h⟩)
    omega

theorem rem_lt (n m : Int) (h0 : 0 < m) (h1 : m < 2 ^ 62) : 0 ≤ IntKind.i64.wrap ((IntKind.u64.wrap n).tmod m) ∧ IntKind.i64.wrap ((IntKind.u64.wrap n).tmod m) ≤ m - 1 := by
  have e64 : (2 : Int) ^ IntKind.u64.bits = 18446744073709551616 := by decide
  have h1' : 0 ≤ n % 18446744073709551616 := Int.emod_nonneg _ (by decide)
  have hu : IntKind.u64.wrap n = n % 18446744073709551616 := by
    unfold IntKind.wrap
    simp only [e64]
    rw [if_neg]
    simp [IntKind.signed]
  have g1 := Int.emod_nonneg (n % 18446744073709551616) (show m ≠ 0 by omega)
  have g2 := Int.emod_lt_of_pos (n % 18446744073709551616) h0
  rw [hu, Int.tmod_eq_emod_of_nonneg h1', wrap_i64 (by omega) (by omega)]
  omega

theorem u64_nat {n : Nat} (h : n < 2 ^ 62) : IntKind.u64.wrap (n : Int) = (n : Int) := by
  have e64 : (2 : Int) ^ IntKind.u64.bits = 18446744073709551616 := by decide
  unfold IntKind.wrap
  simp only [e64]
  rw [if_neg]
  · omega
  · simp [IntKind.signed]

theorem pdv_rem {g : Hp} {β : Bx} {x : Int} {n : Nat} (h : 0 < n) : prv g β (Pr.dv BinOp.rem) [.v (.int .u64 x), .v (.int .u64 n)] = some (.v (.int .u64 (x.tmod n))) := by
  show (if _ ∧ _ then _ else _) = _
  rw [if_pos ⟨rfl, by omega⟩]

end Go.Proofs.YthpkgkoojhgedaaDoor.V
