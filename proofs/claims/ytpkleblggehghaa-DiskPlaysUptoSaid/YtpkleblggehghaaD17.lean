/- Seat 04: lists of sectors that were told. -/
import Derived.Test.YtpkleblggehghaaD15
namespace Go.Proofs.Ytpkleblggehghaa.V
set_option linter.unusedVariables false
set_option linter.unusedSimpArgs false
set_option linter.unusedSectionVars false
set_option linter.unusedSectionVars false
open Go

/-- Windows that may be read. -/
def VwsP (vs : List (Value × Sec)) : As := fun g => ∀ x ∈ vs, Vw 1 g x.1 128 (rowS x.2)

/-- A list of sectors' bytes. -/
def RdP (s : Value) (xs : List Sec) : As := fun h => ∃ vs : List (Value × Sec), vs.map (·.2) = xs ∧ Has [WnP 1 s vs.length (vs.map (·.1)), VwsP vs] h

section
variable {h : Hp} {Q : Value → Hp → Prop} {L : List As} {p : Nat} {d : Dk}

theorem RdP.nil (hh : Has L h) : Has (RdP (.slice none 0 0) [] :: L) h :=
  ⟨fun _ => none, h, by funext b; simp [join], fun _ _ h => (by cases h), ⟨[], rfl, ⟨fun _ => none, fun _ => none, by funext b; simp [join], fun _ _ h => (by cases h), WnP.nil _ _, Has.one (fun x hx => absurd hx (List.not_mem_nil))⟩⟩, hh⟩

theorem RdP.opn {s : Value} {xs : List Sec} (hh : Has (RdP s xs :: L) h) : ∃ vs : List (Value × Sec), vs.map (·.2) = xs ∧ Has (WnP 1 s vs.length (vs.map (·.1)) :: VwsP vs :: L) h := by
  obtain ⟨h1, h2, e, ap, ⟨vs, hvs, hd⟩, hL⟩ := hh
  exact ⟨vs, hvs, Has.flat (L1 := [_, _]) ⟨h1, h2, e, ap, hd, hL⟩⟩

theorem RdP.cls {s : Value} {vs : List (Value × Sec)} (hh : Has (WnP 1 s vs.length (vs.map (·.1)) :: VwsP vs :: L) h) : Has (RdP s (vs.map (·.2)) :: L) h := by
  obtain ⟨h1, h2, e, ap, hd, hL⟩ := Has.group (L1 := [_, _]) hh
  exact ⟨h1, h2, e, ap, ⟨vs, rfl, hd⟩, hL⟩

theorem VwsP.add {vs : List (Value × Sec)} {s : Value} {x : Sec} (hh : Has (WnP 1 s 128 (rowS x) :: VwsP vs :: L) h) : Has (VwsP (vs ++ [(s, x)]) :: L) h := by
  obtain ⟨h1, h2, e, ap, hd, hL⟩ := Has.group (L1 := [_, _]) hh
  refine ⟨h1, h2, e, ap, fun y hy => ?_, hL⟩
  rcases List.mem_append.1 hy with hy | hy
  · exact (Has.get (A := VwsP vs) hd 1 rfl fun g g' hg hs => fun y hy => (hg y hy).sub hs) y hy
  · obtain rfl := List.mem_singleton.1 hy
    exact hd.wn 0 rfl

/-- One more. -/
theorem RdP.app {s sv : Value} {xs : List Sec} {x : Sec} {b1 : Nat} {t ty : TypeId} {K : Ent → Hp → Prop} (hh : Has (Pt b1 (.cells #[sv] t (0, 0)) :: WnP 1 sv 128 (rowS x) :: RdP s xs :: L) h) {bytes : Nat} (hb : 2 * (xs.length + 1) * bytes ≤ 2 ^ 48)
    (hK : ∀ s' h', Has (RdP s' (xs ++ [x]) :: L) h' → K (.v s') h') : appK [.slice none 0 0] ty bytes h (.v s) (.v (.slice (some ⟨b1, 0, none⟩) 1 1)) K := by
  obtain ⟨base, cap, hsv⟩ := hh.slv 1 rfl
  have h2 : Has (RdP s xs :: Pt b1 (.cells #[sv] t (0, 0)) :: WnP 1 sv 128 (rowS x) :: L) h := hh.pull 2 rfl
  obtain ⟨vs, rfl, h3⟩ := RdP.opn h2
  have hv : Vw 1 h (.slice (some ⟨b1, 0, none⟩) 1 1) 1 [sv] := (pt_wn (e := 1) (n := 1) (cap := 1) (cs := [sv]) rfl (Nat.le_refl _) rfl (hh.pt 0 rfl)).vw
  rw [List.length_map] at hb
  refine app_hasW (z := [.slice none 0 0]) h3 0 rfl hv (by subst hsv; rfl) hb fun s' h' hh' => hK s' h' ?_
  replace hh' : Has (WnP 1 s' (vs.length + 1) (vs.map (·.1) ++ [sv]) :: VwsP vs :: Pt b1 (.cells #[sv] t (0, 0)) :: WnP 1 sv 128 (rowS x) :: L) h' := hh'
  have h4 : Has (WnP 1 sv 128 (rowS x) :: VwsP vs :: WnP 1 s' (vs.length + 1) (vs.map (·.1) ++ [sv]) :: L) h' := by
    have := (((hh'.erase 2).pull 1 rfl).pull 2 rfl)
    exact this
  have h5 := (VwsP.add h4).swap
  have h6 : Has (WnP 1 s' (vs ++ [(sv, x)]).length ((vs ++ [(sv, x)]).map (·.1)) :: VwsP (vs ++ [(sv, x)]) :: L) h' := by
    rw [List.length_append, List.map_append]; exact h5
  have h7 := RdP.cls h6
  rw [List.map_append] at h7
  exact h7

/-- One of them. -/
theorem RdP.at {s : Value} {xs : List Sec} (hh : Has L h) (j : Nat) (hj : L[j]? = some (RdP s xs)) {i : Nat} {x : Sec} (hx : xs[i]? = some x) :
    ∃ b o c ty z cap v, s = .slice (some ⟨b, o, none⟩) xs.length cap ∧ h b = some (.cells c ty z) ∧ c[o + i]? = some v ∧ i < xs.length ∧ Vw 1 h v 128 (rowS x) := by
  obtain ⟨g, ⟨vs, rfl, hd⟩, hs⟩ := hh.at j hj
  have hi : i < vs.length := by have := (List.getElem?_eq_some_iff.1 hx).1; simpa using this
  obtain ⟨b, o, c, ty, z, cap, e1, e2, e3, e4⟩ := (hd.wn 0 rfl).at (i := i) hi
  have hvs : vs[i]? = some vs[i] := List.getElem?_eq_getElem hi
  rw [List.getElem?_map, hvs] at hx
  refine ⟨b, o, c, ty, z, cap, vs[i].1, by rw [List.length_map]; exact e1, hs _ _ e2, ?_, by rw [List.length_map]; exact hi, ?_⟩
  · have := e4 0 vs[i].1 (by rw [Nat.mul_one, Nat.add_zero, List.getElem?_map, hvs]; rfl)
    rwa [Nat.mul_one, Nat.add_zero] at this
  · have := (Has.get (A := VwsP vs) hd 1 rfl fun g g' hg hs => fun y hy => (hg y hy).sub hs) vs[i] (List.getElem_mem hi)
    have e : vs[i].2 = x := by simpa using hx
    rw [e] at this
    exact this.sub hs

theorem puts_at {a : Value} {l : List PutD} (hv : Vw 2 h a l.length (l.flatMap putV)) {i : Nat} (hi : i < l.length) :
    ∃ b off c ty z cap y, a = .slice (some ⟨b, off, none⟩) l.length cap ∧ l[i]? = some y ∧ h b = some (.cells c ty z) ∧ c[off + i * 2 + 0]? = some (iv y.sector) ∧ c[off + i * 2 + 1]? = some (by8 y.byte) := by
  obtain ⟨b, off, c, ty, z, cap', hs, hb, hsz, hcc⟩ := hv.at (i := i) hi
  have hml : l[i]? = some l[i] := List.getElem?_eq_getElem (by omega)
  refine ⟨b, off, c, ty, z, cap', l[i], hs, hml, hb, hcc 0 _ (by rw [flat_get putV_len _ _ _ _ hml (by omega)]; rfl), hcc 1 _ (by rw [flat_get putV_len _ _ _ _ hml (by omega)]; rfl)⟩

/-- What the medium has at the writes' sectors. -/
def Dk.raws (d : Dk) (l : List PutD) : List Sec := l.map fun o => d.med.getD (plc o.sector).toNat zsec

theorem Dok.get (hok : Dok d) (n : Int) : d.med[(plc n).toNat]? = some (d.med.getD (plc n).toNat zsec) := by
  have := plc_lt n
  rw [List.getD_eq_getElem?_getD, List.getElem?_eq_getElem (by rw [hok.med]; omega)]; rfl

theorem plc_nat (n : Int) : (((plc n).toNat : Nat) : Int) = plc n := by have := plc_lt n; omega

theorem raw25p (n : Int) (hh : Has (DkP p d :: L) h) (hq : ∀ s h', Has (WnP 1 s 128 (rowS (d.med.getD (plc n).toNat zsec)) :: DkP p d :: L) h' → Q (.tuple #[s, iv 0]) h') : Ok PR 25 [ptr p, iv (plc n)] h Q := by
  have := raw25 (Q := Q) (plc n).toNat hh ((DkP.opn hh).1.get n) hq
  rwa [plc_nat] at this

theorem raws30 {a : Value} {l : List PutD} (hh : Has (DkP p d :: L) h) (hv : ∀ g, Has L g → Vw 2 g a l.length (l.flatMap putV)) (hl : l.length ≤ 2 ^ 30) (hq : ∀ s h', Has (RdP s (d.raws l) :: DkP p d :: L) h' → Q s h') : Ok PR 30 [ptr p, a] h Q := by
  obtain ⟨base, cap, hs⟩ : ∃ base cap, a = .slice base l.length cap := let ⟨_, x, y, z, _⟩ := hv h hh.tail; ⟨x, y, z⟩
  subst hs
  refine e30 rfl ?_
  refine seq_step fun K hK => ?_
  conv => whnf
  refine hK _ _ _ (seq_step fun K1 hK1 => ?_)
  conv => whnf
  refine hK1 _ _ _ (seq_step fun K2 hK2 => ?_)
  refine seq_step fun K3 hK3 => ?_
  conv => whnf
  refine hK3 _ _ _ ?_
  refine loop_intro (σ := Nat × Value × Hp) (fun x => [(6, .v (iv x.1)), (5, .v x.2.1), (0, .v (ptr p)), (1, .v (.slice base l.length cap))]) (fun _ => []) (fun x => x.2.2)
    (fun x => x.1 ≤ l.length ∧ Has (RdP x.2.1 (d.raws (l.take x.1)) :: DkP p d :: L) x.2.2) (fun x => l.length - x.1) (0, .slice none 0 0, h) ⟨Nat.zero_le _, RdP.nil hh⟩
    ⟨rfl, rfl, rfl, rfl, trivial⟩ subB_nil rfl ?_
  rintro ⟨k, s, g⟩ ⟨hkl, hg⟩
  dsimp only at hkl hg ⊢
  refine seq_step fun K6 hK6 => ?_
  refine seq_step fun K7 hK7 => ?_
  conv => whnf
  refine hK7 _ _ _ ?_
  conv => whnf
  refine cond_dec (fun hlt => ?_) (fun hlt => ?_)
  · obtain ⟨b, off, c, ty, z, cap', y, hs, hy, hb, hc0, hc1⟩ := puts_at (hv g hg.tail.tail) (i := k) (by omega)
    cases hs
    conv => whnf
    refine hK6 _ _ _ (seq_step fun K8 hK8 => ?_)
    refine seq_step fun K9 hK9 => ?_
    conv => whnf
    refine opt_if ⟨by omega, by omega⟩ ?_
    conv => whnf
    refine opt_ld hb (v := iv y.sector) hc0 ?_
    conv => whnf
    refine place16 _ ?_
    conv => whnf
    refine raw25p _ (hg.pull 1 rfl) fun s1 g1 hg1 => ?_
    obtain ⟨bs1, cp1, hs1⟩ := hg1.slv 0 rfl
    subst hs1
    conv => whnf
    refine hK9 _ _ _ ?_
    conv => whnf
    refine fresh_has hg1 fun b1 g2 hb1 _ _ hg2 => ?_
    conv => whnf
    have hg3 : Has (Pt b1 (.cells #[.slice bs1 128 cp1] 34 (0, 0)) :: WnP 1 (.slice bs1 128 cp1) 128 (rowS (d.med.getD (plc y.sector).toNat zsec)) :: RdP s (d.raws (l.take k)) :: DkP p d :: L) g2 := (((hg2.pull 3 rfl).pull 2 rfl).pull 2 rfl)
    have hrl : (d.raws (l.take k)).length = k := by rw [Dk.raws, List.length_map, List.length_take]; omega
    refine RdP.app hg3 (by rw [hrl]; omega) fun s' g4 hg4 => ?_
    conv => whnf
    refine hK8 _ _ _ ?_
    conv => whnf
    refine ⟨(k + 1, s', g4), ⟨(show k + 1 ≤ l.length by omega), ?_⟩, (by show l.length - (k + 1) < l.length - k; omega), ⟨int_eq (wrap_nat (by omega)) rfl, rfl, rfl, rfl, trivial⟩, subB_nil, rfl⟩
    have htk : l.take (k + 1) = l.take k ++ [y] := by
      rw [List.take_succ_eq_append_getElem (by omega)]
      have := (List.getElem?_eq_some_iff.1 hy).2
      rw [this]
    have e1 : d.raws (l.take (k + 1)) = d.raws (l.take k) ++ [d.med.getD (plc y.sector).toNat zsec] := by
      rw [htk, Dk.raws, Dk.raws, List.map_append]; rfl
    rw [e1]
    exact hg4
  · have hkl : k = l.length := by omega
    subst hkl
    rw [List.take_length] at hg
    conv => whnf
    refine hK2 _ _ _ ?_
    conv => whnf
    exact hq _ _ hg

end
end Go.Proofs.Ytpkleblggehghaa.V
