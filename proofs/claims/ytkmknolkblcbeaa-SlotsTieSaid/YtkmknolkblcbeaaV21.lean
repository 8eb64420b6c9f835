/- Slices of numbers that came in. -/
import Derived.Test.YtkmknolkblcbeaaV20
namespace Go.Proofs.Ytkmknolkblcbeaa.V
set_option linter.unusedSectionVars false
set_option linter.unusedVariables false
set_option linter.unusedSimpArgs false
open Go Go.ChangeShapes Go.WideShapes Go.ChangeAt Go.RowKit

/-- A row of numbers of one kind. -/
def IntsAt (k : IntKind) (h : Hp) (a : Option Addr) (len : Nat) (f : Nat → Int) : Prop :=
  ∀ i, i < len → ∃ b off c ty z, a = some ⟨b, off, none⟩ ∧ h b = some (.cells c ty z) ∧ c[off + i * 1]? = some (.int k (f i)) ∧ (Lit.int k (f i)).wf = true

theorem IntsAt.sub {k : IntKind} {h h' : Hp} {a : Option Addr} {len : Nat} {f : Nat → Int} (hR : IntsAt k h a len f) (hs : ∀ b o, h b = some o → h' b = some o) : IntsAt k h' a len f := fun i hi =>
  let ⟨b, off, c, ty, z, h1, h2, h3⟩ := hR i hi; ⟨b, off, c, ty, z, h1, hs b _ h2, h3⟩

section
variable {H : Type} {enc : TypeId × Value → H} {P : Program} {w : World} {base : Nat} {spare : Nat → Bool} {held : Bool}

theorem ints_open {t e : TypeId} {k : IntKind} {fuel : Nat} {a : Option Addr} {len cap : Nat} {x : DataW H × List MemPlace} (ht : P.underlying t = some (.slice e)) (he : P.underlying e = some (.int k)) (hc : P.cellsOf e = 1)
    (h : DataW.trod enc P w base spare held fuel t [.slice a len cap] = some x) : ∃ f, IntsAt k (allH w) a len f ∧ len ≤ maxLen := by
  rcases Go.Deep.open_slice ht h with ⟨hn, _⟩ | ⟨a', len', cap', m, fu, D, Pl, hn, hb, hl, hm, hmm, _, hel⟩
  · cases hn
    exact ⟨fun _ => 0, fun i hi => absurd hi (Nat.not_lt_zero _), Nat.zero_le _⟩
  · cases hn
    have hlm : len ≤ m := by rw [hmm]; split <;> omega
    have key : ∀ i, i < m → ∃ q, w.cell? (a'.add (i * 1)) = some (.int k q) ∧ (Lit.int k q).wf = true := fun i hi => by
      obtain ⟨cs', h1, h2⟩ := hel i hi
      rw [hc] at h1
      obtain ⟨_, hlen, hcell⟩ := World.cells?_some h1
      obtain ⟨q, h3, _, h4⟩ := DataW.trod_int he h2
      refine ⟨q, ?_, h4⟩
      have := hcell 0 (by omega)
      rw [h3] at this
      simpa [Addr.add] using this
    refine ⟨fun i => match w.cell? (a'.add (i * 1)) with | some (.int _ q) => q | _ => 0, fun i hi => ?_, Nat.le_trans hl hm⟩
    obtain ⟨b, off, spot⟩ := a'
    have hsp : spot = none := by
      obtain ⟨q, h0, _⟩ := key 0 (by omega)
      simpa [Addr.add] using World.cell?_spot h0
    subst hsp
    obtain ⟨q, h1, h2⟩ := key i (by omega)
    rw [add_mk] at h1
    obtain ⟨c, ty, z, hbw, hci⟩ := cell_cells h1
    refine ⟨b, off, c, ty, z, rfl, hbw, ?_⟩
    have : (match w.cell? (Addr.add ⟨b, off, none⟩ (i * 1)) with | some (.int _ q) => q | _ => 0) = q := by rw [add_mk, h1]
    simp only [this]
    exact ⟨hci, h2⟩

theorem weights_cons {t : TypeId} {ts : List TypeId} {d : DataW H} {r : List (DataW H)} (h : (DataW.weightsEach P (t :: ts) (d :: r)).all (· ≤ reachBytes) = true) :
    (d.weights P t).all (· ≤ reachBytes) = true ∧ (DataW.weightsEach P ts r).all (· ≤ reachBytes) = true := by
  simpa [DataW.weightsEach, List.all_append] using h

/-- A slice that came in has so many bytes at most. -/
theorem slice_reach {t e : TypeId} {fuel : Nat} {a : Option Addr} {len cap : Nat} {d : DataW H} {pl : List MemPlace} (ht : P.underlying t = some (.slice e))
    (h : DataW.trod enc P w base spare held fuel t [.slice a len cap] = some (d, pl)) (hz : (d.weights P t).all (· ≤ reachBytes) = true) : len * P.bytesOf e ≤ reachBytes := by
  rcases Go.Deep.open_slice ht h with ⟨hn, _⟩ | ⟨a', len', cap', m, fu, D, Pl, hn, hb, hl, hm, hmm, hx, hel⟩
  · cases hn; simp
  · cases hn
    simp only [Prod.mk.injEq] at hx
    obtain ⟨rfl, _⟩ := hx
    simp only [DataW.weights, ht, List.all_cons, Bool.and_eq_true, decide_eq_true_eq, List.length_map, List.length_range] at hz
    refine Nat.le_trans (Nat.mul_le_mul_right _ ?_) hz.1
    omega

end
end Go.Proofs.Ytkmknolkblcbeaa.V
