/- Seat 09: tables that are made; an environment that is made. -/
import Derived.Test.YtljenppmdhldbaaH12
namespace Go.Proofs.Ytljenppmdhldbaa.V
set_option linter.unusedVariables false
set_option linter.unusedSimpArgs false
set_option linter.unusedSectionVars false
set_option linter.unusedSectionVars false
open Go

section
variable {p : Nat} {l : List (Option Nat)}

theorem put63S {k : Nat} (v : Nat) (h1 : ∀ j, j < k → l[j]? ≠ some none) (h2 : l[k]? = some none) : Sp PR 63 [ptr p, ptr v] (TabP rowP p l) (X := Unit) (fun _ => .tuple #[iv k, iv 0]) (fun _ => TabP rowP p (l.set k (some v))) := by
  rintro h ⟨d, hT⟩
  refine put63 hT v (fun k' h3 h4 h' hT' _ => ?_) (fun h3 h' hT' _ => ?_)
  · have : k' = k := by
      rcases Nat.lt_trichotomy k' k with hl | hl | hl
      · exact absurd h4 (h1 _ hl)
      · exact hl
      · exact absurd h2 (h3 _ hl)
    subst this
    exact ⟨(), rfl, d, hT'⟩
  · exact absurd h2 (h3 k (List.getElem?_eq_some_iff.1 h2).1)

theorem put63F (v : Nat) (h1 : ∀ j, j < l.length → l[j]? ≠ some none) : Sp PR 63 [ptr p, ptr v] (TabP rowP p l) (X := Unit) (fun _ => .tuple #[iv (-1), iv 2]) (fun _ => TabP rowP p l) := by
  rintro h ⟨d, hT⟩
  refine put63 hT v (fun k' h3 h4 h' hT' _ => ?_) (fun h3 h' hT' _ => ?_)
  · exact absurd h4 (h1 _ (List.getElem?_eq_some_iff.1 h4).1)
  · exact ⟨(), rfl, d, hT'⟩

theorem drop67S {k w : Nat} (h2 : l[k]? = some (some w)) : Sp PR 67 [ptr p, iv k] (TabP rowP p l) (X := Unit) (fun _ => .tuple #[ptr w, .bool true]) (fun _ => TabP rowP p (l.set k none)) := by
  rintro h ⟨d, hT⟩
  refine drop67 hT k (fun k' v hk hl h' hT' _ => ?_) (fun hg => ?_)
  · have : k' = k := by omega
    subst this
    rw [h2] at hl; cases hl
    exact ⟨(), rfl, d, hT'⟩
  · rw [got_nat, h2] at hg; cases hg

theorem new90S : Sp PR 90 [iv 16] (fun _ => True) (X := Nat) (fun p => ptr p) (fun p => TabP rowP p (List.replicate 16 none)) := by
  rintro h -
  exact new90 16 fun p d h' hT _ _ _ => ⟨p, rfl, d, hT⟩
end

/-- The lowest free number. -/
def free (A : Rs) : Option Nat := (List.range 16).find? fun n : Nat => (fnd A (n : Int)).isNone
def mkRow (n : Nat) (serial parent : Int) (q : Q3) : Row := ⟨n, serial, parent, 0, 0, 0, false, [0, 0, 0, 0, 0, 0, 0, 0], 0, q, qz⟩
def mCreate (A : Rs) (last parent serial : Int) (q : Q3) : (Int × Int) × Rs × Int := match fnd A parent with
  | none => ((-1, 90), A, last)
  | some p => if qgood q ∧ last < serial ∧ serial ≤ 4611686018427387903 then
      (if qle (qchild q) (left A p) then (match free A with
        | none => ((-1, 2), A, last)
        | some n => ((n, 0), A ++ [mkRow n serial parent q], serial)) else ((-1, 2), A, last))
    else ((-1, 1), A, last)

def clampQ (n : Int) : Int := min (max n 0) 4611686018427387903
def mNew (serial : Int) (q : Q3) : Rs := [mkRow 0 serial (-1) (clampQ q.1, clampQ q.2.1, clampQ q.2.2)]

theorem clampQ_in (n : Int) : 0 ≤ clampQ n ∧ clampQ n ≤ 4611686018427387903 := by unfold clampQ; omega

theorem WF.mNew (serial : Int) (q : Q3) : WF (mNew serial q) serial := by
  have h0 := clampQ_in q.1; have h1 := clampQ_in q.2.1; have h2 := clampQ_in q.2.2
  have e : ∀ r ∈ V.mNew serial q, r = mkRow 0 serial (-1) (clampQ q.1, clampQ q.2.1, clampQ q.2.2) := fun r hr => by simpa [V.mNew] using hr
  have hk : ∀ n : Int, n ≠ -1 → carve (V.mNew serial q) n = qz := fun n hn => by
    have : kidsR (V.mNew serial q) n = [] := by
      unfold kidsR; rw [List.filter_eq_nil_iff]; intro r hr; rw [e r hr]; simp [mkRow, Ne.symm hn]
    unfold carve; rw [this]; rfl
  refine ⟨by simp [V.mNew], ?_, by simp [V.mNew], ?_, ⟨_, List.mem_singleton.2 rfl, rfl⟩, ?_, ?_, ?_, ?_, ?_, ?_⟩ <;> intro r hr <;> rw [e r hr]
  · exact (by decide : (0 : Nat) < 16)
  · exact Int.le_refl _
  · exact .inl ⟨rfl, rfl⟩
  · exact ⟨⟨h0.1, h1.1, h2.1⟩, h0.2, h1.2, h2.2⟩
  · exact ⟨Int.le_refl _, Int.le_refl _, Int.le_refl _⟩
  · unfold left; rw [show ((mkRow 0 serial (-1) (clampQ q.1, clampQ q.2.1, clampQ q.2.2)).num : Int) = 0 from rfl, hk 0 (by decide)]
    simp only [qsub, mkRow, qz, qge]; omega
  · exact ⟨Int.le_refl _, show (0 : Int) ≤ 4294967295 by decide⟩
  · rfl

section
variable {h : Hp} {Q : Value → Hp → Prop} {L : List As} {t : Nat} {A : Rs} {last : Int}

theorem set_none {α : Type} {xs : List (Option α)} {n : Nat} (hx : xs[n]? = some none) : xs.set n none = xs := by
  apply List.ext_getElem?
  intro i
  rw [List.getElem?_set]
  by_cases hi : n = i
  · subst hi
    rw [if_pos rfl, if_pos (List.getElem?_eq_some_iff.1 hx).1, hx]
  · rw [if_neg hi]

/-- A record laid at a free place. -/
theorem RecsP.add {xs : Xs} {n b : Nat} {r : Rec} {s : Value} (hx : xs[n]? = some none) (hh : Has (Pt b (.cells (recC r s).toArray 103 (0, 0)) :: WnP 1 s r.kids.length (r.kids.map iv) :: RecsP xs :: L) h) : Has (RecsP (xs.set n (some (b, r, s))) :: L) h := by
  rw [← set_none hx] at hh
  exact RecsP.unfocus (x := some (b, r, s)) (List.getElem?_eq_some_iff.1 hx).1 hh

theorem RecsP.none (n : Nat) (hh : Has L h) : Has (RecsP (List.replicate n none) :: L) h := by
  refine ⟨fun _ => .none, h, by funext b; simp [join], fun _ _ hx => (by cases hx), ?_, hh⟩
  have : (List.replicate n (Option.none : Option (Nat × Rec × Value))).flatMap recA = [] := by
    rw [List.flatMap_eq_nil_iff]; intro x hx; rw [(List.mem_replicate.1 hx).2]; rfl
  unfold RecsP
  rw [this]
  trivial

theorem within91 (n : Int) (hq : Q (iv (clampQ n)) h) : Ok PR 91 [iv n] h Q := by
  refine e91 rfl (seq_step fun K hK => ?_)
  repeat (first | ((with_reducible refine hK _ _ _ ?_); clear hK) | (with_reducible refine seq_step fun K hK => ?_) | ((with_reducible refine code_id ?_); conv => whnf) | (clear hK; (with_reducible refine hK _ _ _ ?_); clear hK) | (clear hK; clear hK; (with_reducible refine hK _ _ _ ?_); clear hK) | (clear hK; clear hK; clear hK; (with_reducible refine hK _ _ _ ?_); clear hK))
  have : (if (4611686018427387903 : Int) < (if n < 0 then 0 else n) then 4611686018427387903 else (if n < 0 then 0 else n)) = clampQ n := by unfold clampQ; omega
  show Q (iv _) h
  rw [this]
  exact hq

theorem new55A (serial : Int) (q : Q3) (hh : Has L h) (hq : ∀ t h', Has (EnvA t (mNew serial q) serial :: L) h' → Q (ptr t) h') : Ok PR 55 [iv serial, aq q] h Q := by
  refine e55 rfl (seq_step fun K hK => ?_)
  repeat (first | ((with_reducible refine hK _ _ _ ?_); clear hK) | (with_reducible refine seq_step fun K hK => ?_) | ((with_reducible refine code_id ?_); conv => whnf) | (clear hK; (with_reducible refine hK _ _ _ ?_); clear hK) | (clear hK; clear hK; (with_reducible refine hK _ _ _ ?_); clear hK) | (clear hK; clear hK; clear hK; (with_reducible refine hK _ _ _ ?_); clear hK))
  refine hh.make new90S fun tb h1 hh1 => ?_
  conv => whnf
  refine fresh_has hh1 fun t h2 _ _ _ hh2 => ?_
  have hh2 : Has (Pt t (.cells #[ptr tb, iv serial] 98 (0, 0)) :: TabP rowP tb (List.replicate 16 none) :: L) h2 := hh2
  conv => whnf
  repeat (first | ((with_reducible refine hK _ _ _ ?_); clear hK) | (with_reducible refine seq_step fun K hK => ?_) | ((with_reducible refine code_id ?_); conv => whnf) | (clear hK; (with_reducible refine hK _ _ _ ?_); clear hK) | (clear hK; clear hK; (with_reducible refine hK _ _ _ ?_); clear hK) | (clear hK; clear hK; clear hK; (with_reducible refine hK _ _ _ ?_); clear hK))
  refine ⟨_, _, SubH.refl _, SubB.refl _, ?_⟩
  conv => whnf
  refine within91 q.1 ?_
  conv => whnf
  refine ⟨_, _, ⟨SubH.refl _, SubB.refl _⟩, SubH.refl _, SubB.refl _, ?_⟩
  conv => whnf
  refine within91 q.2.1 ?_
  conv => whnf
  refine ⟨⟨SubH.refl _, SubB.refl _⟩, ?_⟩
  conv => whnf
  refine within91 q.2.2 ?_
  conv => whnf
  repeat (first | ((with_reducible refine hK _ _ _ ?_); clear hK) | (with_reducible refine seq_step fun K hK => ?_) | ((with_reducible refine code_id ?_); conv => whnf) | (clear hK; (with_reducible refine hK _ _ _ ?_); clear hK) | (clear hK; clear hK; (with_reducible refine hK _ _ _ ?_); clear hK) | (clear hK; clear hK; clear hK; (with_reducible refine hK _ _ _ ?_); clear hK))
  refine ⟨_, _, SubH.refl _, SubB.refl _, ?_⟩
  conv => whnf
  refine opt_ld (hh2.pt 0 rfl) (v := ptr tb) rfl ?_
  conv => whnf
  refine fresh_has hh2 fun b h3 _ _ hs hh3 => ?_
  have hh3 : Has (Pt b (.cells (recC (rcOf (mNew serial q) (mkRow 0 serial (-1) (clampQ q.1, clampQ q.2.1, clampQ q.2.2))) (.slice none 0 0)).toArray 103 (0, 0)) :: Pt t (.cells #[ptr tb, iv serial] 98 (0, 0)) :: TabP rowP tb (List.replicate 16 none) :: L) h3 := hh3
  conv => whnf
  refine ⟨⟨hs, SubB.refl _⟩, ?_⟩
  conv => whnf
  refine hh3.call 2 rfl (put63S (k := 0) b (fun j hj => by omega) rfl) fun _ h4 hh4 => ?_
  conv => whnf
  repeat (first | ((with_reducible refine hK _ _ _ ?_); clear hK) | (with_reducible refine seq_step fun K hK => ?_) | ((with_reducible refine code_id ?_); conv => whnf) | (clear hK; (with_reducible refine hK _ _ _ ?_); clear hK) | (clear hK; clear hK; (with_reducible refine hK _ _ _ ?_); clear hK) | (clear hK; clear hK; clear hK; (with_reducible refine hK _ _ _ ?_); clear hK))
  refine hq t _ ?_
  have h5 : Has (Pt b _ :: WnP 1 (.slice none 0 0) 0 [] :: RecsP (List.replicate 16 none) :: Pt t _ :: TabP rowP tb _ :: L) h4 := ((RecsP.none 16 (Has.nilW hh4 1)).pull 2 rfl).perm (List.Perm.cons _ (List.Perm.swap ..))
  have h6 := RecsP.add (n := 0) (r := rcOf (mNew serial q) (mkRow 0 serial (-1) (clampQ q.1, clampQ q.2.1, clampQ q.2.2))) rfl h5
  exact EnvP.cls (xs := (List.replicate 16 none).set 0 (some (b, rcOf (mNew serial q) (mkRow 0 serial (-1) (clampQ q.1, clampQ q.2.1, clampQ q.2.2)), .slice none 0 0))) rfl rfl ((h6.pull 1 rfl).perm (List.Perm.cons _ (List.Perm.swap ..)))

end
end Go.Proofs.Ytljenppmdhldbaa.V
