/- A copy and its table know nothing of one another: the helpers. -/
import Derived.Test.YtkmknolkblcbeaaB23
namespace Go.Proofs.Ytkmknolkblcbeaa.V
set_option linter.unusedVariables false
set_option linter.unusedSimpArgs false
set_option linter.unusedSectionVars false
open Go

def rowZ (x : Int) : List Value := [iv x]
def zZ : List Value := [.int .i64 0]
theorem rowZ_len (x : Int) : (rowZ x).length = zZ.length := rfl
theorem rowZ_one (x : Int) : (rowZ x).all one = true := rfl

section
variable {h : Hp} {Q : Value → Hp → Prop} {a : Option Addr} {len cap : Nat} {f : Nat → Nat → Int}

theorem play58 {h0 : Hp} {p : Nat} {l : Tb} (hR : RowsN 4 h0 a len f) (hlen : len < 2 ^ 62) : Sp PR 58 [ptr p, .slice a len cap] (Has [TabP rowI p l, Is h0]) (X := Tb) (fun _ => .tuple #[]) (fun l' h => l'.length = l.length ∧ Has [TabP rowI p l', Is h0] h) := by
  intro h hh
  refine e58 rfl ?_
  conv => whnf
  refine loop_intro (σ := Nat × Tb × Hp) (fun s => [(4, .v (iv s.1)), (0, .v (ptr p)), (1, .v (.slice a len cap))]) (fun _ => []) (fun s => s.2.2)
    (fun s => s.1 ≤ len ∧ s.2.1.length = l.length ∧ Has [TabP rowI p s.2.1, Is h0] s.2.2) (fun s => len - s.1) (0, l, h) ⟨Nat.zero_le _, rfl, hh⟩
    (by repeat (first | exact trivial | refine ⟨rfl, ?_⟩ | refine ⟨int_eq (wrap_nat (by omega)) rfl, ?_⟩)) subB_nil rfl ?_
  clear hh
  rintro ⟨i, l1, g⟩ ⟨hi, hl, hh⟩
  dsimp only at hi hh hl ⊢
  have hsub : SubH h0 g := hh.is 1 rfl
  conv => whnf
  refine cond_dec (fun hc => ?_) (fun hc => ?_)
  · have hki : i < len := by omega
    obtain ⟨bb, off, c, ty, z, rfl, hb', hcc⟩ := (hR.sub hsub) i hki
    conv => whnf
    refine opt_if ⟨by omega, by omega⟩ ?_
    conv => whnf
    refine opt_ld hb' (v := .agg #[iv (f i 0), iv (f i 1), iv (f i 2), iv (f i 3)]) (rd_list [iv (f i 0), iv (f i 1), iv (f i 2), iv (f i 3)] rfl (by simp) fun j v hj => ?_) ?_
    · rcases j with _ | _ | _ | _ | j <;> cases hj <;> exact hcc _ (by omega)
    conv => whnf
    refine cond_beq (fun k1 => ?_) (fun k1 => ?_)
    · conv => whnf
      refine hh.call 0 rfl (put57S (f i 3)) fun _ g1 hh1 => ?_
      conv => whnf
      exact ⟨(i + 1, _, g1), ⟨hki, by rw [putR_len]; exact hl, hh1⟩, by simp only; omega, (by repeat (first | exact trivial | refine ⟨rfl, ?_⟩ | refine ⟨int_eq (wrap_nat (by omega)) rfl, ?_⟩)), subB_nil, rfl⟩
    · conv => whnf
      refine cond_beq (fun k2 => ?_) (fun k2 => ?_)
      · conv => whnf
        refine hh.call 0 rfl (putat67S (f i 2) (f i 3)) fun _ g1 hh1 => ?_
        conv => whnf
        exact ⟨(i + 1, _, g1), ⟨hki, by rw [putAtR_len]; exact hl, hh1⟩, by simp only; omega, (by repeat (first | exact trivial | refine ⟨rfl, ?_⟩ | refine ⟨int_eq (wrap_nat (by omega)) rfl, ?_⟩)), subB_nil, rfl⟩
      · conv => whnf
        refine cond_beq (fun k3 => ?_) (fun k3 => ?_)
        · conv => whnf
          refine hh.call 0 rfl (set64S (f i 2) (f i 3)) fun _ g1 hh1 => ?_
          conv => whnf
          exact ⟨(i + 1, _, g1), ⟨hki, by rw [setR_len]; exact hl, hh1⟩, by simp only; omega, (by repeat (first | exact trivial | refine ⟨rfl, ?_⟩ | refine ⟨int_eq (wrap_nat (by omega)) rfl, ?_⟩)), subB_nil, rfl⟩
        · conv => whnf
          refine cond_beq (fun k4 => ?_) (fun k4 => ?_)
          · conv => whnf
            refine hh.call 0 rfl (drop68S (f i 2)) fun _ g1 hh1 => ?_
            conv => whnf
            exact ⟨(i + 1, _, g1), ⟨hki, by rw [dropR_len]; exact hl, hh1⟩, by simp only; omega, (by repeat (first | exact trivial | refine ⟨rfl, ?_⟩ | refine ⟨int_eq (wrap_nat (by omega)) rfl, ?_⟩)), subB_nil, rfl⟩
          · conv => whnf
            refine cond_beq (fun k5 => ?_) (fun k5 => ?_)
            · conv => whnf
              refine hh.call 0 rfl clear65S fun _ g1 hh1 => ?_
              conv => whnf
              exact ⟨(i + 1, clearR l1, g1), ⟨hki, by rw [clearR_len]; exact hl, hh1⟩, by simp only; omega, (by repeat (first | exact trivial | refine ⟨rfl, ?_⟩ | refine ⟨int_eq (wrap_nat (by omega)) rfl, ?_⟩)), subB_nil, rfl⟩
            · conv => whnf
              exact ⟨(i + 1, _, g), ⟨hki, hl, hh⟩, by simp only; omega, (by repeat (first | exact trivial | refine ⟨rfl, ?_⟩ | refine ⟨int_eq (wrap_nat (by omega)) rfl, ?_⟩)), subB_nil, rfl⟩
  · conv => whnf
    exact ⟨l1, rfl, hl, hh⟩

/-- tells: what lies there is what the lists say. -/
theorem tells66 {p : Nat} {l : Tb} {xs : List (Int × Int)} {s1 s2 : Value} (hT : TabP rowI p l h) (h1 : SlP rowZ zZ s1 (xs.map (·.1)) h) (h2 : SlP rowZ zZ s2 (xs.map (·.2)) h) (hlen : xs.length = cnt l) (hm : ∀ x ∈ xs, got l x.1 = some x.2) (hx : xs.length < 2 ^ 62) (hq : Q (.bool true) h) :
    Ok PR 66 [ptr p, s1, s2] h Q := by
  obtain ⟨base1, cap1, rfl, hel1⟩ := h1.look rowZ_len
  obtain ⟨base2, cap2, rfl, hel2⟩ := h2.look rowZ_len
  refine e66 rfl ?_
  conv => whnf
  refine len61Q hT ?_
  have hl1 : (xs.map (·.1)).length = xs.length := by simp
  rw [← hlen]
  conv => whnf
  rw [show ((xs.length : Int) != ((xs.map (·.1)).length : Int)) = false from by rw [hl1]; simp]
  conv => whnf
  refine loop_intro (σ := Nat) (fun i => [(7, .v (iv i)), (0, .v (ptr p)), (1, .v (.slice base1 (xs.map (·.1)).length cap1)), (2, .v (.slice base2 (xs.map (·.2)).length cap2))]) (fun _ => []) (fun _ => h)
    (fun i => i ≤ xs.length) (fun i => xs.length - i) 0 (Nat.zero_le _) (by repeat (first | exact trivial | refine ⟨rfl, ?_⟩ | refine ⟨int_eq (wrap_nat (by omega)) rfl, ?_⟩)) subB_nil rfl ?_
  intro i hi
  conv => whnf
  refine cond_dec (fun hc => ?_) (fun hc => ?_)
  · rw [hl1] at hc
    have hix : i < xs.length := by omega
    have hxi : xs[i]? = some xs[i] := List.getElem?_eq_getElem hix
    obtain ⟨d1, c1, ty1, rfl, hd1, hc1⟩ := hel1 i xs[i].1 (by simp [hxi])
    obtain ⟨d2, c2, ty2, rfl, hd2, hc2⟩ := hel2 i xs[i].2 (by simp [hxi])
    have f1 := hc1 0 _ rfl
    have f2 := hc2 0 _ rfl
    have hgot := hm xs[i] (List.mem_of_getElem? hxi)
    conv => whnf
    refine opt_if ⟨by omega, by rw [hl1]; omega⟩ ?_
    conv => whnf
    refine opt_ld hd1 f1 ?_
    conv => whnf
    refine get60Q hT _ ?_
    rw [hgot]
    conv => whnf
    refine opt_if ⟨by omega, by simp; omega⟩ ?_
    conv => whnf
    refine opt_ld hd2 f2 ?_
    conv => whnf
    rw [show (xs[i].2 != xs[i].2) = false from by simp]
    conv => whnf
    exact ⟨i + 1, hix, by omega, (by repeat (first | exact trivial | refine ⟨rfl, ?_⟩ | refine ⟨int_eq (wrap_nat (by omega)) rfl, ?_⟩)), subB_nil, rfl⟩
  · conv => whnf
    exact hq

end
/-- Two empty lists in front. -/
theorem Has.nils {l : Tb} {L : List As} {h : Hp} (hh : Has L h) : Has (SlP rowZ zZ (.slice none 0 0) ((tk l 0).map (·.1)) :: SlP rowZ zZ (.slice none 0 0) ((tk l 0).map (·.2)) :: L) h :=
  ⟨fun _ => none, h, by funext b; simp [join], fun _ _ h => (by cases h), SlP.nil _ _ _, fun _ => none, h, by funext b; simp [join], fun _ _ h => (by cases h), SlP.nil _ _ _, hh⟩

end Go.Proofs.Ytkmknolkblcbeaa.V
