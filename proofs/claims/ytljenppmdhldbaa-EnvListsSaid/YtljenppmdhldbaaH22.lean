/- Seat 09: Destroy. -/
import Derived.Test.YtljenppmdhldbaaH21
namespace Go.Proofs.Ytljenppmdhldbaa.V
set_option linter.unusedVariables false
set_option linter.unusedSimpArgs false
set_option linter.unusedSectionVars false
set_option linter.unusedSectionVars false
open Go

theorem Has.toIs {A : As} {L : List As} {h : Hp} (hh : Has (A :: L) h) : ∃ g, A g ∧ Has (Is g :: L) h := by
  obtain ⟨g, h2, e, ap, hA, hL⟩ := hh
  exact ⟨g, hA, g, h2, e, ap, rfl, hL⟩

theorem Has.ofIs {A : As} {L : List As} {g h : Hp} (hA : A g) (hh : Has (Is g :: L) h) : Has (A :: L) h := hh.mono1 fun _ e => by rw [show _ = g from e]; exact hA

def dropX (xs : Xs) (l : List Int) : Xs := l.foldl (fun xs k => xs.set k.toNat none) xs

theorem dropX_get : ∀ (l : List Int) (xs : Xs) (i : Nat), i < xs.length → (∀ k ∈ l, 0 ≤ k) → (dropX xs l)[i]? = if (i : Int) ∈ l then some none else xs[i]?
  | [], xs, i, _, _ => by simp [dropX]
  | k :: l, xs, i, hi, hp => by
    have hk := hp k (List.mem_cons_self ..)
    have ih := dropX_get l (xs.set k.toNat none) i (by rw [List.length_set]; exact hi) fun x hx => hp x (List.mem_cons_of_mem _ hx)
    show (dropX (xs.set k.toNat none) l)[i]? = _
    rw [ih]
    by_cases h1 : (i : Int) ∈ l
    · rw [if_pos h1, if_pos (List.mem_cons_of_mem _ h1)]
    · rw [if_neg h1, List.getElem?_set]
      by_cases h2 : k.toNat = i
      · rw [if_pos h2, if_pos (by omega), if_pos (by rw [show (i : Int) = k by omega]; exact List.mem_cons_self ..)]
      · rw [if_neg h2, if_neg]
        rw [List.mem_cons]
        rintro (h | h)
        · omega
        · exact h1 h

theorem dropX_len : ∀ (l : List Int) (xs : Xs), (dropX xs l).length = xs.length
  | [], xs => rfl
  | k :: l, xs => by show (dropX (xs.set k.toNat none) l).length = _; rw [dropX_len l, List.length_set]

theorem dropX_snoc (xs : Xs) (l : List Int) (k : Int) : dropX xs (l ++ [k]) = (dropX xs l).set k.toNat none := by unfold dropX; rw [List.foldl_append]; rfl

theorem RecsP.drop {xs : Xs} {n : Nat} {x : Option (Nat × Rec × Value)} {L : List As} {h : Hp} (hx : xs[n]? = some x) (hh : Has (RecsP xs :: L) h) : Has (RecsP (xs.set n Option.none) :: L) h := by
  have h1 := RecsP.focus hh hx
  cases x with
  | none => exact h1
  | some y => exact h1.tail.tail

section
variable {A : Rs} {last : Int}

theorem qsub_qadd (a q : Q3) : qsub (qadd a q) q = a :=
  Prod.ext (show a.1 + q.1 - q.1 = a.1 by omega) (Prod.ext (show a.2.1 + q.2.1 - q.2.1 = a.2.1 by omega) (show a.2.2 + q.2.2 - q.2.2 = a.2.2 by omega))

theorem tab_cut (hw : WF A last) {e : Int} {r p : Row} {pn : Nat} (hr : fnd A e = some r) (h0 : e ≠ 0) (hp : fnd A r.parent = some p) (hpn : r.parent = pn) {i : Nat} (hi : i < 16) :
    (tab (cut A e))[i]? = if (i : Int) ∈ walk A e then some none else ((tab A).set pn (some { rcOf A p with carved := qsub (carve A p.num) (qchild r.whole), kids := (kids A p.num).filter (fun k => k != e) }))[i]? := by
  obtain ⟨p', hp', hnw⟩ := hw.par_of hr h0
  rw [hp] at hp'; cases hp'
  have hpm := fnd_mem hp
  rw [tab_get _ hi, fnd_cut A hw.nd]
  by_cases h1 : (i : Int) ∈ walk A e
  · rw [if_pos h1, if_pos h1]; rfl
  · rw [if_neg h1, if_neg h1, List.getElem?_set, tab_len]
    by_cases h2 : pn = i
    · subst h2
      rw [if_pos rfl, if_pos hi, ← hpn, hp]
      simp only [Option.map_some]
      congr 2
      have e1 := kids_par hw hr hnw
      have e2 := carve_par hw hr hnw
      have e3 : qsub (carve A r.parent) (qchild r.whole) = carve (cut A e) r.parent := by rw [← e2, qsub_qadd]
      unfold rcOf
      rw [hpm.2, e1, e3]
    · rw [if_neg h2, tab_get _ hi]
      cases hf : fnd A (i : Int) with
      | none => rfl
      | some x =>
        simp only [Option.map_some]
        congr 2
        have hx := fnd_mem hf
        unfold rcOf carve kids
        rw [kidsR_same hw hr (by rw [hx.2]; exact h1) (by rw [hx.2, hpn]; omega)]

end

section
variable {h : Hp} {Q : Value → Hp → Prop} {L : List As} {t : Nat} {A : Rs} {last : Int}

theorem destroy23A (hw : WF A last) (e : Int) (hh : Has (EnvA t A last :: L) h)
    (hq : ∀ s h', Has (IntsP s (mDestroy A e).1.1 :: EnvA t (mDestroy A e).2 last :: L) h' → Q (.tuple #[s, iv (mDestroy A e).1.2]) h') : Ok PR 23 [ptr t, iv e] h Q := by
  obtain ⟨tb, xs, a1, a2, hh, ⟨hr, hb⟩ | ⟨n, b, r, s, rfl, hm, hr, hb, hx⟩⟩ := EnvA.look hw e hh
  · rw [show mDestroy A e = (([], 90), A) by unfold mDestroy; rw [hr]] at hq
    refine e23 rfl (seq_step fun K hK => ?_)
    repeat (first | ((with_reducible refine hK _ _ _ ?_); clear hK) | (with_reducible refine seq_step fun K hK => ?_) | ((with_reducible refine code_id ?_); conv => whnf) | (clear hK; (with_reducible refine hK _ _ _ ?_); clear hK) | (clear hK; clear hK; (with_reducible refine hK _ _ _ ?_); clear hK) | (clear hK; clear hK; clear hK; (with_reducible refine hK _ _ _ ?_); clear hK))
    refine opt_ld (hh.pt 0 rfl) (v := .agg #[ptr tb]) rfl ?_
    conv => whnf
    refine at56 (Has.get hh 1 rfl fun _ _ => TabP.sub) _ ?_
    rw [hb]
    conv => whnf
    repeat (first | ((with_reducible refine hK _ _ _ ?_); clear hK) | (with_reducible refine seq_step fun K hK => ?_) | ((with_reducible refine code_id ?_); conv => whnf) | (clear hK; (with_reducible refine hK _ _ _ ?_); clear hK) | (clear hK; clear hK; (with_reducible refine hK _ _ _ ?_); clear hK) | (clear hK; clear hK; clear hK; (with_reducible refine hK _ _ _ ?_); clear hK))
    exact hq _ _ (Has.nilW (EnvP.cls a1 a2 hh) 1)
  · refine e23 rfl (seq_step fun K hK => ?_)
    repeat (first | ((with_reducible refine hK _ _ _ ?_); clear hK) | (with_reducible refine seq_step fun K hK => ?_) | ((with_reducible refine code_id ?_); conv => whnf) | (clear hK; (with_reducible refine hK _ _ _ ?_); clear hK) | (clear hK; clear hK; (with_reducible refine hK _ _ _ ?_); clear hK) | (clear hK; clear hK; clear hK; (with_reducible refine hK _ _ _ ?_); clear hK))
    refine opt_ld (hh.pt 0 rfl) (v := .agg #[ptr tb]) rfl ?_
    conv => whnf
    refine at56 (Has.get hh 1 rfl fun _ _ => TabP.sub) _ ?_
    rw [hb]
    conv => whnf
    repeat (first | ((with_reducible refine hK _ _ _ ?_); clear hK) | (with_reducible refine seq_step fun K hK => ?_) | ((with_reducible refine code_id ?_); conv => whnf) | (clear hK; (with_reducible refine hK _ _ _ ?_); clear hK) | (clear hK; clear hK; (with_reducible refine hK _ _ _ ?_); clear hK) | (clear hK; clear hK; clear hK; (with_reducible refine hK _ _ _ ?_); clear hK))
    refine cond_beq (fun h0 => ?_) (fun h0 => ?_)
    · repeat (first | ((with_reducible refine hK _ _ _ ?_); clear hK) | (with_reducible refine seq_step fun K hK => ?_) | ((with_reducible refine code_id ?_); conv => whnf) | (clear hK; (with_reducible refine hK _ _ _ ?_); clear hK) | (clear hK; clear hK; (with_reducible refine hK _ _ _ ?_); clear hK) | (clear hK; clear hK; clear hK; (with_reducible refine hK _ _ _ ?_); clear hK))
      rw [show mDestroy A n = (([], 92), A) by unfold mDestroy; rw [hr]; exact if_pos h0] at hq
      exact hq _ _ (Has.nilW (EnvP.cls a1 a2 hh) 1)
    rw [show mDestroy A n = ((walk A n, 0), cut A n) by unfold mDestroy; rw [hr]; exact if_neg h0] at hq
    obtain ⟨p, hp, hnw⟩ := hw.par_of hr h0
    have hbk := hw.bk (fnd_mem hr).1
    have hbp := hw.bk (fnd_mem hp).1
    obtain ⟨pn, bp, p', sp, hpn, hpm, hp2, hbb, hxp⟩ : ∃ (n b : Nat) (r' : Row) (sk : Value), r.parent = n ∧ n < 16 ∧ fnd A r.parent = some r' ∧ got (blk xs) r.parent = some b ∧ xs[n]? = some (some (b, rcOf A r', sk)) := by
      rcases xlook hw a2 r.parent with ⟨h1, _⟩ | h1
      · rw [hp] at h1; cases h1
      · exact h1
    rw [hp] at hp2; cases hp2
    obtain ⟨g, hg, hh2⟩ := Has.toIs (Has.group (L1 := EnvX t tb xs last) hh)
    repeat (first | ((with_reducible refine hK _ _ _ ?_); clear hK) | (with_reducible refine seq_step fun K hK => ?_) | ((with_reducible refine code_id ?_); conv => whnf) | (clear hK; (with_reducible refine hK _ _ _ ?_); clear hK) | (clear hK; clear hK; (with_reducible refine hK _ _ _ ?_); clear hK) | (clear hK; clear hK; clear hK; (with_reducible refine hK _ _ _ ?_); clear hK))
    refine walk65A hw a2 hg n r hr [] _ _ _ (by have := walk_len hw hr; simp only [List.length_nil]; omega) (Has.nilW hh2 1) fun sl h2 hh3 => ?_
    have hh4 : Has (Pt t (.cells #[ptr tb, iv last] 98 (0, 0)) :: TabP rowP tb (blk xs) :: RecsP xs :: IntsP sl (walk A n) :: L) h2 := Has.flat (L1 := EnvX t tb xs last) (Has.ofIs hg hh3.swap)
    obtain ⟨hrp, _⟩ := EnvA.rec hh4 hx
    conv => whnf
    repeat (first | ((with_reducible refine hK _ _ _ ?_); clear hK) | (with_reducible refine seq_step fun K hK => ?_) | ((with_reducible refine code_id ?_); conv => whnf) | (clear hK; (with_reducible refine hK _ _ _ ?_); clear hK) | (clear hK; clear hK; (with_reducible refine hK _ _ _ ?_); clear hK) | (clear hK; clear hK; clear hK; (with_reducible refine hK _ _ _ ?_); clear hK) | (refine ⟨_, _, SubH.refl _, SubB.refl _, ?_⟩; conv => whnf) | (refine ⟨⟨SubH.refl _, SubB.refl _⟩, ?_⟩; conv => whnf) | (refine ⟨_, _, ⟨SubH.refl _, SubB.refl _⟩, SubH.refl _, SubB.refl _, ?_⟩; conv => whnf))
    refine opt_ld (hh4.pt 0 rfl) (v := .agg #[ptr tb]) rfl ?_
    conv => whnf
    refine opt_ld hrp (v := iv r.parent) rfl ?_
    conv => whnf
    refine at56 (Has.get hh4 1 rfl fun _ _ => TabP.sub) _ ?_
    rw [hbb]
    have hv := EnvP.see hxp hh4
    conv => whnf
    repeat (first | ((with_reducible refine hK _ _ _ ?_); clear hK) | (with_reducible refine seq_step fun K hK => ?_) | ((with_reducible refine code_id ?_); conv => whnf) | (clear hK; (with_reducible refine hK _ _ _ ?_); clear hK) | (clear hK; clear hK; (with_reducible refine hK _ _ _ ?_); clear hK) | (clear hK; clear hK; clear hK; (with_reducible refine hK _ _ _ ?_); clear hK) | (refine ⟨_, _, SubH.refl _, SubB.refl _, ?_⟩; conv => whnf) | (refine ⟨⟨SubH.refl _, SubB.refl _⟩, ?_⟩; conv => whnf) | (refine ⟨_, _, ⟨SubH.refl _, SubB.refl _⟩, SubH.refl _, SubB.refl _, ?_⟩; conv => whnf))
    refine opt_ld hrp (rd_whole hbk.rg) ?_
    conv => whnf
    have hinq : in64 ((rcOf A r).whole.2.1 + 1) := ⟨by have := hbk.w.1.2.1; omega, by have := hbk.w.2.2.1; omega⟩
    have hcar := carve_par hw hr hnw
    have hin2 : qin (qsub (rcOf A p).carved (qchild (rcOf A r).whole)) := by
      show qin (qsub (carve A p.num) (qchild r.whole))
      have hcut := hw.cut hr h0
      have hc0 : qge (carve (cut A n) r.parent) := qsum_ge fun q hq => by
        obtain ⟨x, hx, rfl⟩ := List.mem_map.1 hq
        exact (hcut.qw x (List.mem_filter.1 hx).1).1
      obtain ⟨_, ⟨⟨w1, w2, w3⟩, w4, w5, w6⟩, ⟨p1, p2, p3⟩, ⟨c1, c2, c3⟩, ⟨l1, l2, l3⟩⟩ := hbp
      rw [(fnd_mem hp).2, ← hcar]
      have e1 : (rcOf A p).carved = qadd (carve (cut A n) r.parent) (qchild r.whole) := by show carve A p.num = _; rw [(fnd_mem hp).2, hcar]
      simp only [Rec.lft] at l1 l2 l3
      rw [e1] at l1 l2 l3
      obtain ⟨d1, d2, d3⟩ := hc0
      obtain ⟨f1, f2, f3⟩ := (hw.qw r (fnd_mem hr).1).1
      simp only [qsub, qadd, qchild] at *
      refine ⟨⟨?_, ?_⟩, ⟨?_, ?_⟩, ⟨?_, ?_⟩⟩ <;> simp only [] <;> omega
    refine uncarve66 _ hbp.rg hinq hin2 hv fun h3 hh5 => ?_
    conv => whnf
    repeat (first | ((with_reducible refine hK _ _ _ ?_); clear hK) | (with_reducible refine seq_step fun K hK => ?_) | ((with_reducible refine code_id ?_); conv => whnf) | (clear hK; (with_reducible refine hK _ _ _ ?_); clear hK) | (clear hK; clear hK; (with_reducible refine hK _ _ _ ?_); clear hK) | (clear hK; clear hK; clear hK; (with_reducible refine hK _ _ _ ?_); clear hK) | (refine ⟨_, _, SubH.refl _, SubB.refl _, ?_⟩; conv => whnf) | (refine ⟨⟨SubH.refl _, SubB.refl _⟩, ?_⟩; conv => whnf) | (refine ⟨_, _, ⟨SubH.refl _, SubB.refl _⟩, SubH.refl _, SubB.refl _, ?_⟩; conv => whnf))
    have hkp : (rcOf A p).kids = kids A r.parent := by show kids A p.num = _; rw [(fnd_mem hp).2]
    obtain ⟨base, cap, hsp⟩ := hh5.slv 1 rfl
    refine opt_ld (hh5.pt 0 rfl) (v := sp) (rd_kids (r := { rcOf A p with carved := qsub (rcOf A p).carved (qchild (rcOf A r).whole) }) hbp.rg) ?_
    subst hsp
    rw [hkp] at hh5 ⊢
    have hkl : (kids A r.parent).length ≤ 16 := by
      have := hw.len
      have : (kids A r.parent).length ≤ A.length := by unfold kids kidsR; rw [List.length_map]; exact List.length_filter_le _ _
      omega
    generalize hks : kids A r.parent = ks at hh5 hkl
    conv => whnf
    repeat (first | ((with_reducible refine hK _ _ _ ?_); clear hK) | (with_reducible refine seq_step fun K hK => ?_) | ((with_reducible refine code_id ?_); conv => whnf) | (clear hK; (with_reducible refine hK _ _ _ ?_); clear hK) | (clear hK; clear hK; (with_reducible refine hK _ _ _ ?_); clear hK) | (clear hK; clear hK; clear hK; (with_reducible refine hK _ _ _ ?_); clear hK) | (refine ⟨_, _, SubH.refl _, SubB.refl _, ?_⟩; conv => whnf) | (refine ⟨⟨SubH.refl _, SubB.refl _⟩, ?_⟩; conv => whnf) | (refine ⟨_, _, ⟨SubH.refl _, SubB.refl _⟩, SubH.refl _, SubB.refl _, ?_⟩; conv => whnf))
    refine loop_intro (σ := Nat × Value × Hp) (fun s => [(0, .v (ptr t)), (1, .v (iv n)), (7, .v sl), (8, .v (ptr bp)), (9, .v s.2.1), (49, .v (.slice base ks.length cap)), (50, .v (iv ks.length)), (51, .v (iv s.1))]) (fun _ => []) (fun s => s.2.2)
      (fun s => s.1 ≤ ks.length ∧ Has (IntsP s.2.1 ((ks.take s.1).filter (fun k => k != (n : Int))) :: Pt bp (.cells (recC { rcOf A p with carved := qsub (rcOf A p).carved (qchild (rcOf A r).whole) } (.slice base ks.length cap)).toArray 103 (0, 0)) :: IntsP (.slice base ks.length cap) ks :: RecsP (xs.set pn none) :: Pt t (.cells #[ptr tb, iv last] 98 (0, 0)) :: TabP rowP tb (blk xs) :: IntsP sl (walk A n) :: L) s.2.2)
      (fun s => ks.length - s.1) (0, .slice none 0 0, h3) ⟨Nat.zero_le _, Has.nilW hh5 1⟩
      (subE_cons rfl (subE_cons rfl (subE_cons rfl (subE_cons rfl (subE_cons rfl (subE_cons rfl (subE_cons rfl (subE_cons rfl subE_nil)))))))) subB_nil rfl ?_
    rintro ⟨i, s2, g2⟩ ⟨hi, hg2⟩
    dsimp only at hi hg2 ⊢
    repeat (first | ((with_reducible refine hK _ _ _ ?_); clear hK) | (with_reducible refine seq_step fun K hK => ?_) | ((with_reducible refine code_id ?_); conv => whnf) | (clear hK; (with_reducible refine hK _ _ _ ?_); clear hK) | (clear hK; clear hK; (with_reducible refine hK _ _ _ ?_); clear hK) | (clear hK; clear hK; clear hK; (with_reducible refine hK _ _ _ ?_); clear hK))
    refine cond_dec (fun hlt => ?_) (fun hge => ?_)
    · have hil : i < ks.length := by omega
      obtain ⟨bb, o, cap', c, ty, z, he, hbb2, hc⟩ := hg2.rdw 2 rfl (k := i) (v := iv ks[i]) (by omega) (by simp [hil])
      cases he
      repeat (first | ((with_reducible refine hK _ _ _ ?_); clear hK) | (with_reducible refine seq_step fun K hK => ?_) | ((with_reducible refine code_id ?_); conv => whnf) | (clear hK; (with_reducible refine hK _ _ _ ?_); clear hK) | (clear hK; clear hK; (with_reducible refine hK _ _ _ ?_); clear hK) | (clear hK; clear hK; clear hK; (with_reducible refine hK _ _ _ ?_); clear hK))
      refine opt_if ⟨by omega, by omega⟩ ?_
      conv => whnf
      refine opt_ld hbb2 (v := iv ks[i]) (by rw [Int.toNat_natCast, Nat.mul_one]; exact hc) ?_
      conv => whnf
      repeat (first | ((with_reducible refine hK _ _ _ ?_); clear hK) | (with_reducible refine seq_step fun K hK => ?_) | ((with_reducible refine code_id ?_); conv => whnf) | (clear hK; (with_reducible refine hK _ _ _ ?_); clear hK) | (clear hK; clear hK; (with_reducible refine hK _ _ _ ?_); clear hK) | (clear hK; clear hK; clear hK; (with_reducible refine hK _ _ _ ?_); clear hK))
      have htk : ks.take (i + 1) = ks.take i ++ [ks[i]] := (List.take_append_getElem hil).symm
      refine cond_bne (fun hne => ?_) (fun heq => ?_)
      · repeat (first | ((with_reducible refine hK _ _ _ ?_); clear hK) | (with_reducible refine seq_step fun K hK => ?_) | ((with_reducible refine code_id ?_); conv => whnf) | (clear hK; (with_reducible refine hK _ _ _ ?_); clear hK) | (clear hK; clear hK; (with_reducible refine hK _ _ _ ?_); clear hK) | (clear hK; clear hK; clear hK; (with_reducible refine hK _ _ _ ?_); clear hK))
        refine fresh_has hg2 fun b6 g3 _ _ _ hg3 => ?_
        conv => whnf
        refine app1 (x := ks[i]) hg3 (by have := List.length_filter_le (fun k => k != (n : Int)) (ks.take i); rw [List.length_take] at this; omega) fun s4 g4 hg4 => ?_
        conv => whnf
        repeat (first | ((with_reducible refine hK _ _ _ ?_); clear hK) | (with_reducible refine seq_step fun K hK => ?_) | ((with_reducible refine code_id ?_); conv => whnf) | (clear hK; (with_reducible refine hK _ _ _ ?_); clear hK) | (clear hK; clear hK; (with_reducible refine hK _ _ _ ?_); clear hK) | (clear hK; clear hK; clear hK; (with_reducible refine hK _ _ _ ?_); clear hK))
        refine ⟨(i + 1, s4, g4), ⟨show i + 1 ≤ ks.length by omega, ?_⟩, show ks.length - (i + 1) < ks.length - i by omega, (subE_cons rfl (subE_cons rfl (subE_cons rfl (subE_cons rfl (subE_cons rfl (subE_cons rfl (subE_cons rfl (subE_cons (int_eq (wrap_nat (by omega)) rfl) subE_nil)))))))), subB_nil, rfl⟩
        rw [show (ks.take (i + 1)).filter (fun k => k != (n : Int)) = (ks.take i).filter (fun k => k != (n : Int)) ++ [ks[i]] by rw [htk, List.filter_append, List.filter_cons_of_pos (by simpa using hne)]; rfl]
        exact hg4
      · repeat (first | ((with_reducible refine hK _ _ _ ?_); clear hK) | (with_reducible refine seq_step fun K hK => ?_) | ((with_reducible refine code_id ?_); conv => whnf) | (clear hK; (with_reducible refine hK _ _ _ ?_); clear hK) | (clear hK; clear hK; (with_reducible refine hK _ _ _ ?_); clear hK) | (clear hK; clear hK; clear hK; (with_reducible refine hK _ _ _ ?_); clear hK))
        refine ⟨(i + 1, s2, g2), ⟨show i + 1 ≤ ks.length by omega, ?_⟩, show ks.length - (i + 1) < ks.length - i by omega, (subE_cons rfl (subE_cons rfl (subE_cons rfl (subE_cons rfl (subE_cons rfl (subE_cons rfl (subE_cons rfl (subE_cons (int_eq (wrap_nat (by omega)) rfl) subE_nil)))))))), subB_nil, rfl⟩
        rw [show (ks.take (i + 1)).filter (fun k => k != (n : Int)) = (ks.take i).filter (fun k => k != (n : Int)) by rw [htk, List.filter_append, List.filter_cons_of_neg (by simpa using heq)]; simp]
        exact hg2
    · have hie : i = ks.length := by omega
      rw [hie, List.take_length] at hg2
      obtain ⟨base2, cap2, hs2⟩ := hg2.slv 0 rfl
      have hpl : pn < xs.length := (List.getElem?_eq_some_iff.1 hxp).1
      repeat (first | ((with_reducible refine hK _ _ _ ?_); clear hK) | (with_reducible refine seq_step fun K hK => ?_) | ((with_reducible refine code_id ?_); conv => whnf) | (clear hK; (with_reducible refine hK _ _ _ ?_); clear hK) | (clear hK; clear hK; (with_reducible refine hK _ _ _ ?_); clear hK) | (clear hK; clear hK; clear hK; (with_reducible refine hK _ _ _ ?_); clear hK))
      refine rc_st (hg2.pull 1 rfl) 30 s2 rfl (by rw [recC_len (r := { rcOf A p with carved := qsub (rcOf A p).carved (qchild (rcOf A r).whole) }) hbp.rg]; omega) { rcOf A p with carved := qsub (carve A p.num) (qchild r.whole), kids := ks.filter (fun k => k != (n : Int)) } s2 (recC_kids (r := { rcOf A p with carved := qsub (rcOf A p).carved (qchild (rcOf A r).whole) }) hbp.rg _) (by rw [hs2]; rfl) (by rw [hs2]; rfl) fun g3 hg3 => ?_
      have hg4 : Has (Pt bp (.cells (recC { rcOf A p with carved := qsub (carve A p.num) (qchild r.whole), kids := ks.filter (fun k => k != (n : Int)) } s2).toArray 103 (0, 0)) :: WnP 1 s2 (ks.filter (fun k => k != (n : Int))).length ((ks.filter (fun k => k != (n : Int))).map iv) :: RecsP (xs.set pn none) :: Pt t (.cells #[ptr tb, iv last] 98 (0, 0)) :: TabP rowP tb (blk xs) :: IntsP sl (walk A n) :: L) g3 := hg3.erase 2
      have hg5 := RecsP.unfocus (x := some (bp, { rcOf A p with carved := qsub (carve A p.num) (qchild r.whole), kids := ks.filter (fun k => k != (n : Int)) }, s2)) hpl hg4
      rw [← blk_set (s' := s2) (r' := { rcOf A p with carved := qsub (carve A p.num) (qchild r.whole), kids := ks.filter (fun k => k != (n : Int)) }) hxp] at hg5
      have hrx : rcs (xs.set pn (some (bp, { rcOf A p with carved := qsub (carve A p.num) (qchild r.whole), kids := ks.filter (fun k => k != (n : Int)) }, s2))) = (tab A).set pn (some { rcOf A p with carved := qsub (carve A p.num) (qchild r.whole), kids := (kids A p.num).filter (fun k => k != (n : Int)) }) := by
        rw [rcs_set, a2, (fnd_mem hp).2, hks]
      have hlx : (xs.set pn (some (bp, { rcOf A p with carved := qsub (carve A p.num) (qchild r.whole), kids := ks.filter (fun k => k != (n : Int)) }, s2))).length = 16 := by rw [List.length_set]; exact a1
      generalize (xs.set pn (some (bp, { rcOf A p with carved := qsub (carve A p.num) (qchild r.whole), kids := ks.filter (fun k => k != (n : Int)) }, s2))) = xs1 at hg5 hrx hlx
      obtain ⟨base3, cap3, hsl⟩ := hg5.slv 3 rfl
      subst hsl
      have hnd := walk_nodup hw hr
      have hwl := walk_len hw hr
      have hwm : ∀ k ∈ walk A (n : Int), ∃ x, fnd A k = some x := fun k hk => let ⟨x, hx, _⟩ := mem_walk hw hr k hk; ⟨x, hx⟩
      have hw0 : ∀ k ∈ walk A (n : Int), 0 ≤ k ∧ k < 16 := fun k hk => by
        obtain ⟨x, hx⟩ := hwm k hk
        have h1 := fnd_mem hx
        have := hw.lt x h1.1
        omega
      have hne : r.parent ∉ walk A (n : Int) := hnw
      generalize hwks : walk A (n : Int) = ws at *
      conv => whnf
      repeat (first | ((with_reducible refine hK _ _ _ ?_); clear hK) | (with_reducible refine seq_step fun K hK => ?_) | ((with_reducible refine code_id ?_); conv => whnf) | (clear hK; (with_reducible refine hK _ _ _ ?_); clear hK) | (clear hK; clear hK; (with_reducible refine hK _ _ _ ?_); clear hK) | (clear hK; clear hK; clear hK; (with_reducible refine hK _ _ _ ?_); clear hK) | (refine ⟨_, _, SubH.refl _, SubB.refl _, ?_⟩; conv => whnf) | (refine ⟨⟨SubH.refl _, SubB.refl _⟩, ?_⟩; conv => whnf) | (refine ⟨_, _, ⟨SubH.refl _, SubB.refl _⟩, SubH.refl _, SubB.refl _, ?_⟩; conv => whnf))
      refine loop_intro (σ := Nat × Hp) (fun s => [(0, .v (ptr t)), (7, .v (.slice base3 ws.length cap3)), (67, .v (.slice base3 ws.length cap3)), (68, .v (iv ws.length)), (69, .v (iv s.1))]) (fun _ => []) (fun s => s.2)
        (fun s => s.1 ≤ ws.length ∧ Has (RecsP (dropX xs1 (ws.take s.1)) :: Pt t (.cells #[ptr tb, iv last] 98 (0, 0)) :: TabP rowP tb (blk (dropX xs1 (ws.take s.1))) :: IntsP (.slice base3 ws.length cap3) ws :: L) s.2)
        (fun s => ws.length - s.1) (0, g3) ⟨Nat.zero_le _, hg5⟩
        (subE_cons rfl (subE_cons rfl (subE_cons rfl (subE_cons rfl (subE_cons rfl subE_nil))))) subB_nil rfl ?_
      rintro ⟨j, g6⟩ ⟨hj, hg6⟩
      dsimp only at hj hg6 ⊢
      repeat (first | ((with_reducible refine hK _ _ _ ?_); clear hK) | (with_reducible refine seq_step fun K hK => ?_) | ((with_reducible refine code_id ?_); conv => whnf) | (clear hK; (with_reducible refine hK _ _ _ ?_); clear hK) | (clear hK; clear hK; (with_reducible refine hK _ _ _ ?_); clear hK) | (clear hK; clear hK; clear hK; (with_reducible refine hK _ _ _ ?_); clear hK))
      refine cond_dec (fun hlt => ?_) (fun hge => ?_)
      · have hjl : j < ws.length := by omega
        obtain ⟨bb, o, cap', c, ty, z, he, hbb2, hc⟩ := hg6.rdw 3 rfl (k := j) (v := iv ws[j]) (by omega) (by simp [hjl])
        cases he
        have htk : ws.take (j + 1) = ws.take j ++ [ws[j]] := (List.take_append_getElem hjl).symm
        have hk := hw0 ws[j] (List.getElem_mem hjl)
        obtain ⟨k, hkk⟩ := Int.eq_ofNat_of_zero_le hk.1
        obtain ⟨x, hxk⟩ := hwm ws[j] (List.getElem_mem hjl)
        have hout : ws[j] ∉ ws.take j := fun hm => by
          obtain ⟨i', hi', he⟩ := List.getElem_of_mem hm
          rw [List.getElem_take] at he
          rw [List.length_take] at hi'
          exact (List.pairwise_iff_getElem.1 hnd i' j (by omega) hjl (by omega)) he
        have hkp : k ≠ pn := fun e => hne (by rw [hpn, ← e, ← hkk]; exact List.getElem_mem hjl)
        have hx1 : ∃ y, xs1[k]? = some (some y) := by
          have h1 : (rcs xs1)[k]? = some (some (rcOf A x)) := by
            rw [hrx, List.getElem?_set_ne (Ne.symm hkp), tab_get _ (by omega), ← hkk, hxk]; rfl
          unfold rcs at h1
          rw [List.getElem?_map] at h1
          cases hxx : xs1[k]? with
          | none => rw [hxx] at h1; cases h1
          | some o =>
            cases o with
            | none => rw [hxx] at h1; cases h1
            | some y => exact ⟨y, rfl⟩
        obtain ⟨y, hy⟩ := hx1
        have hy2 : (dropX xs1 (ws.take j))[k]? = some (some y) := by
          rw [dropX_get _ _ _ (by omega) fun q hq => (hw0 q (List.mem_of_mem_take hq)).1, if_neg (by rw [← hkk]; exact hout), hy]
        have hbl : (blk (dropX xs1 (ws.take j)))[k]? = some (some y.1) := by unfold blk; rw [List.getElem?_map, hy2]; rfl
        repeat (first | ((with_reducible refine hK _ _ _ ?_); clear hK) | (with_reducible refine seq_step fun K hK => ?_) | ((with_reducible refine code_id ?_); conv => whnf) | (clear hK; (with_reducible refine hK _ _ _ ?_); clear hK) | (clear hK; clear hK; (with_reducible refine hK _ _ _ ?_); clear hK) | (clear hK; clear hK; clear hK; (with_reducible refine hK _ _ _ ?_); clear hK))
        refine opt_if ⟨by omega, by omega⟩ ?_
        conv => whnf
        refine opt_ld hbb2 (v := iv ws[j]) (by rw [Int.toNat_natCast, Nat.mul_one]; exact hc) ?_
        conv => whnf
        repeat (first | ((with_reducible refine hK _ _ _ ?_); clear hK) | (with_reducible refine seq_step fun K hK => ?_) | ((with_reducible refine code_id ?_); conv => whnf) | (clear hK; (with_reducible refine hK _ _ _ ?_); clear hK) | (clear hK; clear hK; (with_reducible refine hK _ _ _ ?_); clear hK) | (clear hK; clear hK; clear hK; (with_reducible refine hK _ _ _ ?_); clear hK))
        refine opt_ld (hg6.pt 1 rfl) (v := ptr tb) rfl ?_
        rw [hkk]
        conv => whnf
        refine hg6.call 2 rfl (drop67S hbl) fun _ g7 hg7 => ?_
        conv => whnf
        repeat (first | ((with_reducible refine hK _ _ _ ?_); clear hK) | (with_reducible refine seq_step fun K hK => ?_) | ((with_reducible refine code_id ?_); conv => whnf) | (clear hK; (with_reducible refine hK _ _ _ ?_); clear hK) | (clear hK; clear hK; (with_reducible refine hK _ _ _ ?_); clear hK) | (clear hK; clear hK; clear hK; (with_reducible refine hK _ _ _ ?_); clear hK))
        refine ⟨(j + 1, g7), ⟨show j + 1 ≤ ws.length by omega, ?_⟩, show ws.length - (j + 1) < ws.length - j by omega, (subE_cons rfl (subE_cons rfl (subE_cons rfl (subE_cons rfl (subE_cons (int_eq (wrap_nat (by omega)) rfl) subE_nil))))), subB_nil, rfl⟩
        have hdx : dropX xs1 (ws.take (j + 1)) = (dropX xs1 (ws.take j)).set k none := by rw [htk, dropX_snoc, hkk]; rfl
        rw [hdx, show blk ((dropX xs1 (ws.take j)).set k none) = (blk (dropX xs1 (ws.take j))).set k none by unfold blk; rw [List.map_set]; rfl]
        exact RecsP.drop hy2 hg7
      · have hje : j = ws.length := by omega
        rw [hje, List.take_length] at hg6
        repeat (first | ((with_reducible refine hK _ _ _ ?_); clear hK) | (with_reducible refine seq_step fun K hK => ?_) | ((with_reducible refine code_id ?_); conv => whnf) | (clear hK; (with_reducible refine hK _ _ _ ?_); clear hK) | (clear hK; clear hK; (with_reducible refine hK _ _ _ ?_); clear hK) | (clear hK; clear hK; clear hK; (with_reducible refine hK _ _ _ ?_); clear hK))
        refine hq _ _ ((EnvP.cls (rs := tab (cut A n)) (by rw [dropX_len]; exact hlx) ?_ ((hg6.pull 2 rfl).pull 2 rfl)).swap)
        apply List.ext_getElem?
        intro i
        by_cases hi16 : i < 16
        · rw [tab_cut hw hr h0 hp hpn hi16, hwks]
          unfold rcs
          rw [List.getElem?_map, dropX_get _ _ _ (by omega) fun q hq => (hw0 q hq).1, ← hrx]
          by_cases hm : (i : Int) ∈ ws
          · rw [if_pos hm, if_pos hm]; rfl
          · rw [if_neg hm, if_neg hm]; unfold rcs; rw [List.getElem?_map]
        · rw [List.getElem?_eq_none (by rw [rcs, List.length_map, dropX_len]; omega), List.getElem?_eq_none (by rw [tab_len]; omega)]

end
end Go.Proofs.Ytljenppmdhldbaa.V
