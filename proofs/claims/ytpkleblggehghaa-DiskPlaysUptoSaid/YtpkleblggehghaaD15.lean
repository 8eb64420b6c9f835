/- Seat 04: many writes. -/
import Derived.Test.YtpkleblggehghaaD14
namespace Go.Proofs.Ytpkleblggehghaa.V
set_option linter.unusedVariables false
set_option linter.unusedSimpArgs false
set_option linter.unusedSectionVars false
set_option linter.unusedSectionVars false
open Go

theorem SlR.vwn {α : Type} {n : Nat} {R : Hp → List Value → α → Prop} {f : α → List Value} (hf : ∀ a, (f a).length = n) (hR : ∀ h cs a, R h cs a → cs = f a) {h : Hp} {v : Value} {l : List α} (hs : SlR n R h [v] l) : Vw n h v l.length (l.flatMap f) := by
  obtain ⟨a, cap, h1, h2, h3, h4⟩ := hs
  cases h1
  refine ⟨flat_len hf _, a, cap, rfl, h2, ?_⟩
  by_cases h0 : l.length = 0
  · exact .inl h0
  · obtain ⟨b, off, c, ty, z, vs, rfl, g2, _, _, g5, _⟩ := h4 0 l[0] (List.getElem?_eq_getElem (by omega))
    refine .inr ⟨b, off, c, ty, z, rfl, g2, g5, fun j v hj => ?_⟩
    have hjl := (List.getElem?_eq_some_iff.1 hj).1
    rw [flat_len hf] at hjl
    by_cases hn : n = 0
    · subst hn; omega
    have hdm : j / n < l.length := Nat.div_lt_of_lt_mul (by rw [Nat.mul_comm]; exact hjl)
    have hmod : j % n < n := Nat.mod_lt _ (by omega)
    obtain ⟨b', off', c', ty', z', vs', e1, k2, k3, k4, k5, k6⟩ := h4 (j / n) l[j / n] (List.getElem?_eq_getElem hdm)
    cases e1
    rw [g2] at k2; cases k2
    have := hR _ _ _ k3
    subst this
    have e2 : j / n * n + j % n = j := by rw [Nat.mul_comm]; exact Nat.div_add_mod j n
    have hv := flat_get hf l (j / n) (j % n) l[j / n] (List.getElem?_eq_getElem hdm) hmod
    rw [e2, hj] at hv
    have := k6 (j % n) v hv.symm
    rwa [show off + j / n * n + j % n = off + j by omega] at this

def putV (o : PutD) : List Value := [iv o.sector, by8 o.byte]
theorem putV_len (o : PutD) : (putV o).length = 2 := rfl

theorem PutR.cells {h : Hp} {cs : List Value} {o : PutD} (hr : PutR h cs o) : cs = putV o := by
  obtain ⟨hl, h1, e0, e1⟩ := hr
  match cs, hl with
  | [x0, x1], _ => cases e0; cases e1; rfl

theorem SlR.puts {h : Hp} {v : Value} {l : List PutD} (hs : SlR 2 PutR h [v] l) : Vw 2 h v l.length (l.flatMap putV) := hs.vwn putV_len fun _ _ _ hr => hr.cells

def putQ (o : PutD) : Int × Sec := (plc o.sector, one1S o.byte)

theorem wrap_wrap (a b : Int) : IntKind.i64.wrap (IntKind.i64.wrap a + b) = IntKind.i64.wrap (a + b) := by
  have e64 : (2 : Int) ^ IntKind.i64.bits = 18446744073709551616 := by decide
  have e63 : (2 : Int) ^ (IntKind.i64.bits - 1) = 9223372036854775808 := by decide
  have hw : ∀ n : Int, ∃ k : Int, IntKind.i64.wrap n = n + k * 18446744073709551616 := fun n => by
    unfold IntKind.wrap
    simp only [e64, e63]
    split
    · exact ⟨-(n / 18446744073709551616) - 1, by omega⟩
    · exact ⟨-(n / 18446744073709551616), by omega⟩
  obtain ⟨k, hk⟩ := hw a
  rw [hk]
  unfold IntKind.wrap
  simp only [e64]
  rw [show (a + k * 18446744073709551616 + b) % 18446744073709551616 = (a + b) % 18446744073709551616 by omega]

/-- Taken: up, and not armed. -/
theorem up_act {d : Dk} (h1 : d.down = false) (h2 : d.armed = false) : d.act = (true, { d with acts := IntKind.i64.wrap (d.acts + 1) }) := by
  unfold Dk.act
  rw [if_neg (by rw [h1]; decide), if_neg (by rw [h2]; decide)]

theorem up_write {d : Dk} (h1 : d.down = false) (h2 : d.armed = false) (n : Int) (x : Sec) : d.write n x = (0, { d with acts := IntKind.i64.wrap (d.acts + 1), cache := d.cache ++ [(n, x)] }) := by
  unfold Dk.write
  rw [up_act h1 h2]; rfl

/-- So many writes more. -/
def Dk.lay (d : Dk) (l : List PutD) : Dk := { d with cache := d.cache ++ l.map putQ, acts := IntKind.i64.wrap (d.acts + l.length) }

theorem lay_step (d : Dk) (l : List PutD) (y : PutD) : d.lay (l ++ [y]) = { d.lay l with acts := IntKind.i64.wrap ((d.lay l).acts + 1), cache := (d.lay l).cache ++ [(plc y.sector, one1S y.byte)] } := by
  unfold Dk.lay
  simp only [List.map_append, List.map_cons, List.map_nil, List.append_assoc, wrap_wrap, List.length_append, List.length_cons, List.length_nil, putQ]
  congr 2
  omega

section
variable {h : Hp} {Q : Value → Hp → Prop} {L : List As} {p : Nat} {d : Dk}

theorem laid21 {a : Value} {l : List PutD} (hh : Has (DkP p d :: L) h) (h1 : d.down = false) (h2 : d.armed = false) (hv : ∀ g, Has L g → Vw 2 g a l.length (l.flatMap putV)) (hl : d.cache.length + l.length ≤ 2 ^ 38)
    (hq : ∀ h', Has (DkP p (d.lay l) :: L) h' → Q (.bool true) h') : Ok PR 21 [ptr p, a] h Q := by
  obtain ⟨base, cap, hs⟩ : ∃ base cap, a = .slice base l.length cap := let ⟨_, x, y, z, _⟩ := hv h (Has.tail hh); ⟨x, y, z⟩
  subst hs
  refine e21 rfl ?_
  refine seq_step fun K hK => ?_
  conv => whnf
  refine hK _ _ _ (seq_step fun K1 hK1 => ?_)
  refine seq_step fun K2 hK2 => ?_
  conv => whnf
  refine hK2 _ _ _ ?_
  have hok := (DkP.opn hh).1
  have hd0 : d.lay (l.take 0) = d := by
    unfold Dk.lay
    simp only [List.take_zero, List.map_nil, List.append_nil, List.length_nil]
    have := hok.acts
    rw [show d.acts + ((0 : Nat) : Int) = d.acts by omega, wrap_i64 this.1 this.2]
  refine loop_intro (σ := Nat × Hp) (fun x => [(5, .v (iv x.1)), (0, .v (ptr p)), (1, .v (.slice base l.length cap))]) (fun _ => []) (fun x => x.2)
    (fun x => x.1 ≤ l.length ∧ Has (DkP p (d.lay (l.take x.1)) :: L) x.2) (fun x => l.length - x.1) (0, h) ⟨Nat.zero_le _, by rw [hd0]; exact hh⟩
    ⟨rfl, rfl, rfl, trivial⟩ subB_nil rfl ?_
  rintro ⟨k, g⟩ ⟨hkl, hg⟩
  dsimp only at hkl hg ⊢
  refine seq_step fun K6 hK6 => ?_
  refine seq_step fun K7 hK7 => ?_
  conv => whnf
  refine hK7 _ _ _ ?_
  conv => whnf
  refine cond_dec (fun hlt => ?_) (fun hlt => ?_)
  · obtain ⟨b, off, c, ty, z, cap', hs, hb, hsz, hcc⟩ := (hv g hg.tail).at (i := k) (by omega)
    cases hs
    have hml : l[k]? = some l[k] := List.getElem?_eq_getElem (by omega)
    have htk : l.take (k + 1) = l.take k ++ [l[k]] := List.take_succ_eq_append_getElem (by omega)
    generalize l[k] = y at hml htk
    have hcell : ∀ j v, (putV y)[j]? = some v → c[off + k * 2 + j]? = some v := fun j v hv => by
      have hj : j < 2 := (List.getElem?_eq_some_iff.1 hv).1
      exact hcc j v (by rw [flat_get putV_len _ _ _ _ hml hj]; exact hv)
    conv => whnf
    refine hK6 _ _ _ (seq_step fun K8 hK8 => ?_)
    refine seq_step fun K9 hK9 => ?_
    conv => whnf
    refine ⟨_, _, SubH.refl _, SubB.refl _, ?_⟩
    conv => whnf
    refine opt_if ⟨by omega, by omega⟩ ?_
    conv => whnf
    refine opt_ld hb (v := iv y.sector) (hcell 0 _ rfl) ?_
    conv => whnf
    refine opt_if ⟨by omega, by omega⟩ ?_
    conv => whnf
    refine opt_ld hb (v := by8 y.byte) (hcell 1 _ rfl) ?_
    conv => whnf
    refine place16 _ ?_
    conv => whnf
    refine ⟨⟨SubH.refl _, SubB.refl _⟩, ?_⟩
    conv => whnf
    refine full17 _ hg fun s g1 hg1 => ?_
    conv => whnf
    refine write15 _ (x := one1S y.byte) (plc_lt _) hg1.swap (by have := List.length_take_le k l; simp only [Dk.lay, List.length_append, List.length_map]; omega) (fun g' hg' => hg'.wn 0 rfl) fun g2 hg2 => ?_
    rw [up_write (d := d.lay (l.take k)) h1 h2] at hg2 ⊢
    conv => whnf
    refine hK9 _ _ _ ?_
    conv => whnf
    refine hK8 _ _ _ ?_
    conv => whnf
    refine ⟨(k + 1, g2), ⟨(show k + 1 ≤ l.length by omega), ?_⟩, (by show l.length - (k + 1) < l.length - k; omega), ⟨int_eq (wrap_nat (by omega)) rfl, rfl, rfl, trivial⟩, subB_nil, rfl⟩
    rw [htk, lay_step]
    exact hg2.erase 1
  · have hkl : k = l.length := by omega
    subst hkl
    rw [List.take_length] at hg
    conv => whnf
    refine hK1 _ _ _ ?_
    conv => whnf
    exact hq _ hg

end
end Go.Proofs.Ytpkleblggehghaa.V
