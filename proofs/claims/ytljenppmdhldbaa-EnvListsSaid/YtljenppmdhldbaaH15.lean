/- Seat 09: Create. -/
import Derived.Test.YtljenppmdhldbaaH14
namespace Go.Proofs.Ytljenppmdhldbaa.V
set_option linter.unusedVariables false
set_option linter.unusedSimpArgs false
set_option linter.unusedSectionVars false
set_option linter.unusedSectionVars false
open Go

section
variable {h : Hp} {Q : Value → Hp → Prop} {L : List As} {t : Nat} {A : Rs} {last : Int}

theorem recC_kids {r : Rec} {s s' : Value} (hr : r.regs.length = 8) (l : List Int) : (recC r s).set 30 s' = recC { r with kids := l } s' := by
  obtain ⟨_, _, _, _, _, _, regs, _, _, _, _, _⟩ := r
  match regs, hr with
  | [_, _, _, _, _, _, _, _], _ => rfl

theorem create22A (hw : WF A last) (e serial : Int) (q : Q3) (hh : Has (EnvA t A last :: L) h)
    (hq : ∀ h', Has (EnvA t (mCreate A last e serial q).2.1 (mCreate A last e serial q).2.2 :: L) h' → Q (.tuple #[iv (mCreate A last e serial q).1.1, iv (mCreate A last e serial q).1.2]) h') : Ok PR 22 [ptr t, iv e, iv serial, aq q] h Q := by
  obtain ⟨tb, xs, a1, a2, hh, ⟨hr, hb⟩ | ⟨n, b, r, s, rfl, hm, hr, hb, hx⟩⟩ := EnvA.look hw e hh
  · rw [show mCreate A last e serial q = ((-1, 90), A, last) by unfold mCreate; rw [hr]] at hq
    refine e22 rfl (seq_step fun K hK => ?_)
    repeat (first | ((with_reducible refine hK _ _ _ ?_); clear hK) | (with_reducible refine seq_step fun K hK => ?_) | ((with_reducible refine code_id ?_); conv => whnf) | (clear hK; (with_reducible refine hK _ _ _ ?_); clear hK) | (clear hK; clear hK; (with_reducible refine hK _ _ _ ?_); clear hK) | (clear hK; clear hK; clear hK; (with_reducible refine hK _ _ _ ?_); clear hK))
    refine opt_ld (hh.pt 0 rfl) (v := .agg #[ptr tb]) rfl ?_
    conv => whnf
    refine at56 (Has.get hh 1 rfl fun _ _ => TabP.sub) _ ?_
    rw [hb]
    conv => whnf
    repeat (first | ((with_reducible refine hK _ _ _ ?_); clear hK) | (with_reducible refine seq_step fun K hK => ?_) | ((with_reducible refine code_id ?_); conv => whnf) | (clear hK; (with_reducible refine hK _ _ _ ?_); clear hK) | (clear hK; clear hK; (with_reducible refine hK _ _ _ ?_); clear hK) | (clear hK; clear hK; clear hK; (with_reducible refine hK _ _ _ ?_); clear hK))
    exact hq _ (EnvP.cls a1 a2 hh)
  · have hbk := hw.bk (fnd_mem hr).1
    refine e22 rfl (seq_step fun K hK => ?_)
    repeat (first | ((with_reducible refine hK _ _ _ ?_); clear hK) | (with_reducible refine seq_step fun K hK => ?_) | ((with_reducible refine code_id ?_); conv => whnf) | (clear hK; (with_reducible refine hK _ _ _ ?_); clear hK) | (clear hK; clear hK; (with_reducible refine hK _ _ _ ?_); clear hK) | (clear hK; clear hK; clear hK; (with_reducible refine hK _ _ _ ?_); clear hK))
    refine opt_ld (hh.pt 0 rfl) (v := .agg #[ptr tb]) rfl ?_
    conv => whnf
    refine at56 (Has.get hh 1 rfl fun _ _ => TabP.sub) _ ?_
    rw [hb]
    conv => whnf
    have hv := EnvP.see hx hh
    repeat (first | ((with_reducible refine hK _ _ _ ?_); clear hK) | (with_reducible refine seq_step fun K hK => ?_) | ((with_reducible refine code_id ?_); conv => whnf) | (clear hK; (with_reducible refine hK _ _ _ ?_); clear hK) | (clear hK; clear hK; (with_reducible refine hK _ _ _ ?_); clear hK) | (clear hK; clear hK; clear hK; (with_reducible refine hK _ _ _ ?_); clear hK))
    refine good60 q ?_
    by_cases g1 : ¬ qgood q
    · rw [decide_eq_false g1]
      conv => whnf
      repeat (first | ((with_reducible refine hK _ _ _ ?_); clear hK) | (with_reducible refine seq_step fun K hK => ?_) | ((with_reducible refine code_id ?_); conv => whnf) | (clear hK; (with_reducible refine hK _ _ _ ?_); clear hK) | (clear hK; clear hK; (with_reducible refine hK _ _ _ ?_); clear hK) | (clear hK; clear hK; clear hK; (with_reducible refine hK _ _ _ ?_); clear hK))
      rw [show mCreate A last n serial q = ((-1, 1), A, last) by unfold mCreate; rw [hr]; simp only; rw [if_neg fun x => g1 x.1]] at hq
      exact hq _ (EnvP.cls a1 a2 hh)
    have g1 := Decidable.not_not.1 g1
    rw [decide_eq_true g1]
    conv => whnf
    refine opt_ld (hh.pt 0 rfl) (v := iv last) rfl ?_
    conv => whnf
    by_cases g2 : serial ≤ last
    · rw [decide_eq_true g2]
      conv => whnf
      repeat (first | ((with_reducible refine hK _ _ _ ?_); clear hK) | (with_reducible refine seq_step fun K hK => ?_) | ((with_reducible refine code_id ?_); conv => whnf) | (clear hK; (with_reducible refine hK _ _ _ ?_); clear hK) | (clear hK; clear hK; (with_reducible refine hK _ _ _ ?_); clear hK) | (clear hK; clear hK; clear hK; (with_reducible refine hK _ _ _ ?_); clear hK))
      rw [show mCreate A last n serial q = ((-1, 1), A, last) by unfold mCreate; rw [hr]; simp only; rw [if_neg fun x => by have := x.2.1; omega]] at hq
      exact hq _ (EnvP.cls a1 a2 hh)
    rw [decide_eq_false g2]
    conv => whnf
    by_cases g3 : serial > 4611686018427387903
    · rw [decide_eq_true g3]
      conv => whnf
      repeat (first | ((with_reducible refine hK _ _ _ ?_); clear hK) | (with_reducible refine seq_step fun K hK => ?_) | ((with_reducible refine code_id ?_); conv => whnf) | (clear hK; (with_reducible refine hK _ _ _ ?_); clear hK) | (clear hK; clear hK; (with_reducible refine hK _ _ _ ?_); clear hK) | (clear hK; clear hK; clear hK; (with_reducible refine hK _ _ _ ?_); clear hK))
      rw [show mCreate A last n serial q = ((-1, 1), A, last) by unfold mCreate; rw [hr]; simp only; rw [if_neg fun x => by have := x.2.2; omega]] at hq
      exact hq _ (EnvP.cls a1 a2 hh)
    rw [decide_eq_false g3]
    conv => whnf
    repeat (first | ((with_reducible refine hK _ _ _ ?_); clear hK) | (with_reducible refine seq_step fun K hK => ?_) | ((with_reducible refine code_id ?_); conv => whnf) | (clear hK; (with_reducible refine hK _ _ _ ?_); clear hK) | (clear hK; clear hK; (with_reducible refine hK _ _ _ ?_); clear hK) | (clear hK; clear hK; clear hK; (with_reducible refine hK _ _ _ ?_); clear hK))
    have g4 : qgood q ∧ last < serial ∧ serial ≤ 4611686018427387903 := ⟨g1, by omega, by omega⟩
    refine child62 q ⟨by have := g1.1.2.1; omega, by have := g1.2.2.1; omega⟩ ?_
    conv => whnf
    repeat (first | ((with_reducible refine hK _ _ _ ?_); clear hK) | (with_reducible refine seq_step fun K hK => ?_) | ((with_reducible refine code_id ?_); conv => whnf) | (clear hK; (with_reducible refine hK _ _ _ ?_); clear hK) | (clear hK; clear hK; (with_reducible refine hK _ _ _ ?_); clear hK) | (clear hK; clear hK; clear hK; (with_reducible refine hK _ _ _ ?_); clear hK) | (refine ⟨_, _, SubH.refl _, SubB.refl _, ?_⟩; conv => whnf) | (refine ⟨⟨SubH.refl _, SubB.refl _⟩, ?_⟩; conv => whnf) | (refine ⟨_, _, ⟨SubH.refl _, SubB.refl _⟩, SubH.refl _, SubB.refl _, ?_⟩; conv => whnf))
    refine left58 hbk (hv.pt 0 rfl) ?_
    conv => whnf
    repeat (first | ((with_reducible refine hK _ _ _ ?_); clear hK) | (with_reducible refine seq_step fun K hK => ?_) | ((with_reducible refine code_id ?_); conv => whnf) | (clear hK; (with_reducible refine hK _ _ _ ?_); clear hK) | (clear hK; clear hK; (with_reducible refine hK _ _ _ ?_); clear hK) | (clear hK; clear hK; clear hK; (with_reducible refine hK _ _ _ ?_); clear hK) | (refine ⟨_, _, SubH.refl _, SubB.refl _, ?_⟩; conv => whnf) | (refine ⟨⟨SubH.refl _, SubB.refl _⟩, ?_⟩; conv => whnf) | (refine ⟨_, _, ⟨SubH.refl _, SubB.refl _⟩, SubH.refl _, SubB.refl _, ?_⟩; conv => whnf))
    refine fits61 _ _ ?_
    by_cases g5 : ¬ qle (qchild q) (rcOf A r).lft
    · rw [decide_eq_false g5]
      conv => whnf
      repeat (first | ((with_reducible refine hK _ _ _ ?_); clear hK) | (with_reducible refine seq_step fun K hK => ?_) | ((with_reducible refine code_id ?_); conv => whnf) | (clear hK; (with_reducible refine hK _ _ _ ?_); clear hK) | (clear hK; clear hK; (with_reducible refine hK _ _ _ ?_); clear hK) | (clear hK; clear hK; clear hK; (with_reducible refine hK _ _ _ ?_); clear hK) | (refine ⟨_, _, SubH.refl _, SubB.refl _, ?_⟩; conv => whnf) | (refine ⟨⟨SubH.refl _, SubB.refl _⟩, ?_⟩; conv => whnf) | (refine ⟨_, _, ⟨SubH.refl _, SubB.refl _⟩, SubH.refl _, SubB.refl _, ?_⟩; conv => whnf))
      rw [show mCreate A last n serial q = ((-1, 2), A, last) by unfold mCreate; rw [hr]; simp only; rw [if_pos g4, if_neg (show ¬ qle (qchild q) (left A r) from g5)]] at hq
      exact hq _ (EnvP.cls a1 a2 hh)
    have g5 := Decidable.not_not.1 g5
    rw [decide_eq_true g5]
    conv => whnf
    repeat (first | ((with_reducible refine hK _ _ _ ?_); clear hK) | (with_reducible refine seq_step fun K hK => ?_) | ((with_reducible refine code_id ?_); conv => whnf) | (clear hK; (with_reducible refine hK _ _ _ ?_); clear hK) | (clear hK; clear hK; (with_reducible refine hK _ _ _ ?_); clear hK) | (clear hK; clear hK; clear hK; (with_reducible refine hK _ _ _ ?_); clear hK) | (refine ⟨_, _, SubH.refl _, SubB.refl _, ?_⟩; conv => whnf) | (refine ⟨⟨SubH.refl _, SubB.refl _⟩, ?_⟩; conv => whnf) | (refine ⟨_, _, ⟨SubH.refl _, SubB.refl _⟩, SubH.refl _, SubB.refl _, ?_⟩; conv => whnf))
    refine opt_ld (hh.pt 0 rfl) (v := ptr tb) rfl ?_
    conv => whnf
    refine fresh_has hh fun b' h3 _ _ hs hh3 => ?_
    have hh3 : Has (Pt b' (.cells (recC (rcOf [] (mkRow 0 serial n q)) (.slice none 0 0)).toArray 103 (0, 0)) :: Pt t (.cells #[ptr tb, iv last] 98 (0, 0)) :: TabP rowP tb (blk xs) :: RecsP xs :: L) h3 := hh3
    conv => whnf
    refine ⟨⟨hs, SubB.refl _⟩, ?_⟩
    conv => whnf
    cases hf : free A with
    | none =>
      refine hh3.call 2 rfl (put63F b' fun j hj hn => ?_) fun _ h4 hh4 => ?_
      · have hj : j < 16 := by rw [← a1]; simpa [blk] using hj
        exact free_none hf j hj ((xfree a1 a2 hj).1 (blk_none.1 hn))
      · conv => whnf
        repeat (first | ((with_reducible refine hK _ _ _ ?_); clear hK) | (with_reducible refine seq_step fun K hK => ?_) | ((with_reducible refine code_id ?_); conv => whnf) | (clear hK; (with_reducible refine hK _ _ _ ?_); clear hK) | (clear hK; clear hK; (with_reducible refine hK _ _ _ ?_); clear hK) | (clear hK; clear hK; clear hK; (with_reducible refine hK _ _ _ ?_); clear hK) | (refine ⟨_, _, SubH.refl _, SubB.refl _, ?_⟩; conv => whnf) | (refine ⟨⟨SubH.refl _, SubB.refl _⟩, ?_⟩; conv => whnf) | (refine ⟨_, _, ⟨SubH.refl _, SubB.refl _⟩, SubH.refl _, SubB.refl _, ?_⟩; conv => whnf))
        rw [show mCreate A last n serial q = ((-1, 2), A, last) by unfold mCreate; rw [hr]; simp only; rw [if_pos g4, if_pos (show qle (qchild q) (left A r) from g5), hf]] at hq
        exact hq _ (EnvP.cls a1 a2 hh4.tail)
    | some k =>
      obtain ⟨hk, hk1, hk2⟩ := free_some hf
      have hxk := (xfree a1 a2 hk).2 hk1
      refine hh3.call 2 rfl (put63S (k := k) b' (fun j hj hn => ?_) (blk_none.2 hxk)) fun _ h4 hh4 => ?_
      · exact hk2 j hj ((xfree a1 a2 (by omega)).1 (blk_none.1 hn))
      · conv => whnf
        repeat (first | ((with_reducible refine hK _ _ _ ?_); clear hK) | (with_reducible refine seq_step fun K hK => ?_) | ((with_reducible refine code_id ?_); conv => whnf) | (clear hK; (with_reducible refine hK _ _ _ ?_); clear hK) | (clear hK; clear hK; (with_reducible refine hK _ _ _ ?_); clear hK) | (clear hK; clear hK; clear hK; (with_reducible refine hK _ _ _ ?_); clear hK) | (refine ⟨_, _, SubH.refl _, SubB.refl _, ?_⟩; conv => whnf) | (refine ⟨⟨SubH.refl _, SubB.refl _⟩, ?_⟩; conv => whnf) | (refine ⟨_, _, ⟨SubH.refl _, SubB.refl _⟩, SubH.refl _, SubB.refl _, ?_⟩; conv => whnf))
        rw [show mCreate A last n serial q = (((k : Int), 0), A ++ [mkRow k serial n q], serial) by unfold mCreate; rw [hr]; simp only; rw [if_pos g4, if_pos (show qle (qchild q) (left A r) from g5), hf]] at hq
        have hkn : k ≠ n := fun e => by rw [e, hr] at hk1; cases hk1
        have hh5 : Has (RecsP (xs.set k (some (b', rcOf [] (mkRow k serial n q), .slice none 0 0))) :: Pt t (.cells #[ptr tb, iv last] 98 (0, 0)) :: TabP rowP tb ((blk xs).set k (some b')) :: L) h4 :=
          RecsP.add (xs := xs) (n := k) (r := rcOf [] (mkRow k serial n q)) hxk ((((Has.nilW hh4 1).pull 4 rfl).pull 1 rfl).pull 2 rfl)
        have hx' : (xs.set k (some (b', rcOf [] (mkRow k serial n q), .slice none 0 0)))[n]? = some (some (b, rcOf A r, s)) := by rw [List.getElem?_set_ne hkn]; exact hx
        have hh6 := RecsP.focus hh5 hx'
        refine carve64 q hbk.rg ⟨by have := g1.1.2.1; omega, by have := g1.2.2.1; omega⟩ ?_ hh6 fun h5 hh7 => ?_
        · obtain ⟨_, ⟨⟨w1, w2, w3⟩, w4, w5, w6⟩, ⟨p1, p2, p3⟩, ⟨c1, c2, c3⟩, ⟨l1, l2, l3⟩⟩ := hbk
          obtain ⟨⟨q1, q2, q3⟩, q4, q5, q6⟩ := g1
          obtain ⟨k1, k2, k3⟩ := g5
          simp only [Rec.lft, qsub, qchild] at *
          refine ⟨⟨?_, ?_⟩, ⟨?_, ?_⟩, ⟨?_, ?_⟩⟩ <;> simp only [qadd, qchild] <;> omega
        conv => whnf
        repeat (first | ((with_reducible refine hK _ _ _ ?_); clear hK) | (with_reducible refine seq_step fun K hK => ?_) | ((with_reducible refine code_id ?_); conv => whnf) | (clear hK; (with_reducible refine hK _ _ _ ?_); clear hK) | (clear hK; clear hK; (with_reducible refine hK _ _ _ ?_); clear hK) | (clear hK; clear hK; clear hK; (with_reducible refine hK _ _ _ ?_); clear hK) | (refine ⟨_, _, SubH.refl _, SubB.refl _, ?_⟩; conv => whnf) | (refine ⟨⟨SubH.refl _, SubB.refl _⟩, ?_⟩; conv => whnf) | (refine ⟨_, _, ⟨SubH.refl _, SubB.refl _⟩, SubH.refl _, SubB.refl _, ?_⟩; conv => whnf))
        refine opt_ld (hh7.pt 0 rfl) (rd_kids (r := { rcOf A r with carved := qadd (rcOf A r).carved (qchild q) }) hbk.rg) ?_
        conv => whnf
        refine fresh_has hh7 fun b2 h6 _ _ _ hh8 => ?_
        have hh8 : Has (Pt b2 (.cells #[iv k] 3 (0, 0)) :: Pt b (.cells (recC { rcOf A r with carved := qadd (rcOf A r).carved (qchild q) } s).toArray 103 (0, 0)) :: IntsP s (kids A r.num) :: RecsP ((xs.set k (some (b', rcOf [] (mkRow k serial n q), .slice none 0 0))).set n none) :: Pt t (.cells #[ptr tb, iv last] 98 (0, 0)) :: TabP rowP tb ((blk xs).set k (some b')) :: L) h6 := hh8
        conv => whnf
        refine app1 (hh8.perm (List.Perm.cons _ (List.Perm.swap ..))) ?_ fun s7 h7 hh9 => ?_
        · have := hw.len
          have : (kids A r.num).length ≤ A.length := by unfold kids kidsR; rw [List.length_map]; exact List.length_filter_le _ _
          omega
        obtain ⟨bs, cp, es⟩ := hh9.slv 0 rfl
        conv => whnf
        refine rc_st (hh9.pull 1 rfl) 30 s7 rfl (by rw [recC_len (r := { rcOf A r with carved := qadd (rcOf A r).carved (qchild q) }) hbk.rg]; omega) { rcOf A r with carved := qadd (carve A r.num) (qchild q), kids := kids A r.num ++ [(k : Int)] } s7 (recC_kids (r := { rcOf A r with carved := qadd (rcOf A r).carved (qchild q) }) hbk.rg _) (by rw [es]; rfl) (by rw [es]; rfl) fun h8 hh10 => ?_
        conv => whnf
        repeat (first | ((with_reducible refine hK _ _ _ ?_); clear hK) | (with_reducible refine seq_step fun K hK => ?_) | ((with_reducible refine code_id ?_); conv => whnf) | (clear hK; (with_reducible refine hK _ _ _ ?_); clear hK) | (clear hK; clear hK; (with_reducible refine hK _ _ _ ?_); clear hK) | (clear hK; clear hK; clear hK; (with_reducible refine hK _ _ _ ?_); clear hK) | (refine ⟨_, _, SubH.refl _, SubB.refl _, ?_⟩; conv => whnf) | (refine ⟨⟨SubH.refl _, SubB.refl _⟩, ?_⟩; conv => whnf) | (refine ⟨_, _, ⟨SubH.refl _, SubB.refl _⟩, SubH.refl _, SubB.refl _, ?_⟩; conv => whnf))
        have hh11 := hh10.pull 3 rfl
        refine st_has (c := #[ptr tb, iv last]) (x := iv serial) hh11 0 rfl rfl (by simp) rfl fun h9 _ _ hh12 => ?_
        conv => whnf
        repeat (first | ((with_reducible refine hK _ _ _ ?_); clear hK) | (with_reducible refine seq_step fun K hK => ?_) | ((with_reducible refine code_id ?_); conv => whnf) | (clear hK; (with_reducible refine hK _ _ _ ?_); clear hK) | (clear hK; clear hK; (with_reducible refine hK _ _ _ ?_); clear hK) | (clear hK; clear hK; clear hK; (with_reducible refine hK _ _ _ ?_); clear hK) | (refine ⟨_, _, SubH.refl _, SubB.refl _, ?_⟩; conv => whnf) | (refine ⟨⟨SubH.refl _, SubB.refl _⟩, ?_⟩; conv => whnf) | (refine ⟨_, _, ⟨SubH.refl _, SubB.refl _⟩, SubH.refl _, SubB.refl _, ?_⟩; conv => whnf))
        refine hq _ ?_
        have hh13 : Has (Pt b (.cells (recC { rcOf A r with carved := qadd (carve A r.num) (qchild q), kids := kids A r.num ++ [(k : Int)] } s7).toArray 103 (0, 0)) :: WnP 1 s7 (kids A r.num ++ [(k : Int)]).length ((kids A r.num ++ [(k : Int)]).map iv) :: RecsP ((xs.set k (some (b', rcOf [] (mkRow k serial n q), .slice none 0 0))).set n none) :: Pt t (.cells #[ptr tb, iv serial] 98 (0, 0)) :: TabP rowP tb ((blk xs).set k (some b')) :: L) h9 :=
          (((hh12.pull 0 rfl).pull 3 rfl).pull 3 rfl).pull 3 rfl
        have hh14 := RecsP.unfocus (x := some (b, { rcOf A r with carved := qadd (carve A r.num) (qchild q), kids := kids A r.num ++ [(k : Int)] }, s7)) (by rw [List.length_set]; exact (List.getElem?_eq_some_iff.1 hx).1) hh13
        have e1 : blk ((xs.set k (some (b', rcOf [] (mkRow k serial n q), .slice none 0 0))).set n (some (b, { rcOf A r with carved := qadd (carve A r.num) (qchild q), kids := kids A r.num ++ [(k : Int)] }, s7))) = (blk xs).set k (some b') := by
          rw [blk_set hx']; unfold blk; rw [List.map_set]; rfl
        rw [← e1] at hh14
        refine EnvP.cls (by rw [List.length_set, List.length_set]; exact a1) ?_ ((hh14.pull 2 rfl).pull 2 rfl)
        rw [rcs_set, rcs_set, a2]
        exact tab_create hw hr hk1 hk

end
end Go.Proofs.Ytljenppmdhldbaa.V
