/- The law on tables. -/
import Derived.Test.YtkmknolkblcbeaaB27
namespace Go.Proofs.Ytkmknolkblcbeaa.V
set_option linter.unusedVariables false
open Go

def SsP (ss : List (S3 × Tb)) : List As := ss.map fun x => S3P x.1 x.2

structure Tabs (h0 : Hp) (s : Value) (ss : List (S3 × Tb)) (h : Hp) : Prop where
  has : Has (Is h0 :: SlP s3v zS s (ss.map (·.1)) :: SsP ss) h
  lo : 2 ≤ ss.length
  hi : ss.length ≤ 6

theorem SsP_set (ss : List (S3 × Tb)) (k : Nat) (x : S3 × Tb) : (SsP ss).set k (S3P x.1 x.2) = SsP (ss.set k x) := by simp [SsP, List.map_set]

theorem SsP_get {ss : List (S3 × Tb)} {k : Nat} {x : S3 × Tb} (h : ss[k]? = some x) : (SsP ss)[k]? = some (S3P x.1 x.2) := by simp [SsP, h]

theorem fst_set' {α β : Type} {ss : List (α × β)} {k : Nat} {x : α × β} (h : ss[k]? = some x) (l : β) : (ss.set k (x.1, l)).map (·.1) = ss.map (·.1) := by
  rw [List.map_set]
  apply List.ext_getElem?
  intro j
  rw [List.getElem?_set]
  split
  · rename_i e
    subst e
    simp [h]
    exact (List.getElem?_eq_some_iff.1 h).1
  · rfl

theorem Tabs.set {h0 : Hp} {s : Value} {ss : List (S3 × Tb)} {k : Nat} {x : S3 × Tb} {h h' : Hp} (hT : Tabs h0 s ss h) (hk : ss[k]? = some x) (l : Tb)
    (hh : Has ((Is h0 :: SlP s3v zS s (ss.map (·.1)) :: SsP ss).set (k + 2) (S3P x.1 l)) h') : Tabs h0 s (ss.set k (x.1, l)) h' := by
  refine ⟨?_, by simpa using hT.lo, by simpa using hT.hi⟩
  rw [fst_set' hk, ← SsP_set]; exact hh

section
variable {h : Hp} {Q : Value → Hp → Prop} {a : Option Addr} {len cap : Nat} {f : Nat → Nat → Int}

theorem S3P.sub {s : S3} {l : Tb} {h h' : Hp} (hh : S3P s l h) (hs : SubH h h') : S3P s l h' := Has.sub hh hs

theorem law11 (n1 n2 : Int) (hR : RowsN 4 h a len f) (hlen : len < 2 ^ 62) (hq : ∀ h', SubH h h' → Q (.bool true) h') : Ok PR 11 [iv n1, iv n2, .slice a len cap] h Q := by
  refine e11 rfl ?_
  conv => whnf
  refine fixed39 fun h1 hs1 => ?_
  conv => whnf
  have hh : Has [Is h] h1 := (Has.start h).sub hs1
  refine hh.make (made70S n1) fun s1 h2 hh2 => ?_
  conv => whnf
  refine hh2.make (made70S n2) fun s2 h3 hh3 => ?_
  generalize (List.replicate (min (max n1 0) 4096).toNat (none : Option Int)) = l1 at hh2 hh3
  generalize (List.replicate (min (max n2 0) 4096).toNat (none : Option Int)) = l2 at hh3
  conv => whnf
  refine fresh_has hh3 fun b h4 hb _ _ hh4 => ?_
  have t1 : S3P s1 l1 h4 := hh4.get 2 rfl fun _ _ => S3P.sub
  have t2 : S3P s2 l2 h4 := hh4.get 1 rfl fun _ _ => S3P.sub
  conv => whnf
  repeat (first | (refine opt_if ⟨by omega, by omega⟩ ?_; conv => whnf) | (refine opt_ld (by assumption) (by first | rfl | assumption) ?_; conv => whnf))
  refine whole71 s1 t1 ?_
  conv => whnf
  repeat (first | (refine opt_if ⟨by omega, by omega⟩ ?_; conv => whnf) | (refine opt_ld (by assumption) (by first | rfl | assumption) ?_; conv => whnf))
  refine whole71 s2 t2 ?_
  conv => whnf
  repeat (first | (refine opt_if ⟨by omega, by omega⟩ ?_; conv => whnf) | (refine opt_ld (by assumption) (by first | rfl | assumption) ?_; conv => whnf))
  have hT : Tabs h (.slice (some ⟨b, 0, none⟩) 2 2) [(s1, l1), (s2, l2)] h4 := by
    refine ⟨?_, by simp, by simp⟩
    have g1 := hh4.turn 0 rfl (B := SlP s3v zS (.slice (some ⟨b, 0, none⟩) 2 2) [s1, s2]) fun g hg => ⟨some b, .inr ⟨b, 2, 100, rfl, rfl, by simp, hg⟩⟩
    exact g1.sel [3, 0, 2, 1] rfl
  refine loop_intro (σ := Nat × Value × List (S3 × Tb) × Hp) (fun s => [(8, .v (iv s.1)), (7, .v s.2.1), (2, .v (.slice a len cap))]) (fun _ => []) (fun s => s.2.2.2)
    (fun s => s.1 ≤ len ∧ Tabs h s.2.1 s.2.2.1 s.2.2.2) (fun s => len - s.1) (0, _, _, h4) ⟨Nat.zero_le _, hT⟩
    (by repeat (first | exact trivial | refine ⟨rfl, ?_⟩ | refine ⟨int_eq (wrap_nat (by omega)) rfl, ?_⟩)) subB_nil rfl ?_
  clear hT hb hh hh2 hh3 hh4 hs1 t1 t2
  rintro ⟨i, s, ss, g⟩ ⟨hi, hT⟩
  dsimp only at hi hT ⊢
  have hsub : SubH h g := hT.has.is 0 rfl
  have hlo := hT.lo
  have hhi := hT.hi
  have hn : (ss.map (·.1)).length = ss.length := by simp
  conv => whnf
  refine cond_dec (fun hc => ?_) (fun hc => ?_)
  · have hki : i < len := by omega
    obtain ⟨bb, off, c, ty, z, rfl, hb', hcc⟩ := (hR.sub hsub) i hki
    conv => whnf
    refine opt_if ⟨by omega, by omega⟩ ?_
    conv => whnf
    refine opt_ld hb' (v := .agg #[iv (f i 0), iv (f i 1), iv (f i 2), iv (f i 3)]) (rd_list [iv (f i 0), iv (f i 1), iv (f i 2), iv (f i 3)] rfl (by simp) fun j v hj => ?_) ?_
    · rcases j with _ | _ | _ | _ | j <;> cases hj <;> exact hcc _ (by omega)
    obtain ⟨base, scap, rfl, hel⟩ := SlP.look s3v_len (hT.has.get 1 rfl fun _ _ => SlP.sub)
    conv => whnf
    refine rest23 (f i 1) _ (by rw [hn]; omega) (by rw [hn]; omega) ?_
    have hm1 := Int.emod_nonneg (f i 1) (show ((ss.map (·.1)).length : Int) ≠ 0 by rw [hn]; omega)
    have hm2 := Int.emod_lt_of_pos (f i 1) (show (0 : Int) < ((ss.map (·.1)).length : Int) by rw [hn]; omega)
    obtain ⟨k, hk⟩ := Int.eq_ofNat_of_zero_le hm1
    rw [hk]
    have hks : k < ss.length := by rw [hk, hn] at hm2; omega
    obtain ⟨⟨kn, l⟩, hx⟩ : ∃ x, ss[k]? = some x := ⟨_, List.getElem?_eq_getElem hks⟩
    obtain ⟨d, c2, ty3, rfl, hd, hcc2⟩ := hel k kn (by simp [hx])
    conv => whnf
    refine opt_if ⟨by omega, by rw [hn]; omega⟩ ?_
    conv => whnf
    refine opt_ld hd (v := .agg (s3v kn).toArray) (rd_list (s3v kn) rfl (by simp [s3v]) fun j v hj => hcc2 j v hj) ?_
    have hix : (Is h :: SlP s3v zS (.slice (some ⟨d, 0, none⟩) (ss.map (·.1)).length scap) (ss.map (·.1)) :: SsP ss)[k + 2]? = some (S3P kn l) := by simpa using SsP_get hx
    have tk' : S3P kn l g := hT.has.get (k + 2) hix fun _ _ => S3P.sub
    have lays : ∀ {Q : Value → Hp → Prop}, (∀ h', Tabs h (.slice (some ⟨d, 0, none⟩) (ss.map (·.1)).length scap) (ss.set k (kn, opL (f i 0) l (f i 2) (f i 3))) h' → Q (.bool true) h') → Ok PR 72 [.agg (s3v kn).toArray, .agg #[iv (f i 0), iv (f i 1), iv (f i 2), iv (f i 3)]] g Q := fun {Q} hq =>
      hT.has.call (k + 2) hix (lays72 kn (f i 0) (f i 1) (f i 2) (f i 3)) fun _ h' hh' => hq h' (hT.set hx _ hh')
    have asks : ∀ {Q : Value → Hp → Prop}, (∀ h', Tabs h (.slice (some ⟨d, 0, none⟩) (ss.map (·.1)).length scap) (ss.set k (kn, askL (f i 0) l (f i 2))) h' → Q (.bool true) h') → Ok PR 73 [.agg (s3v kn).toArray, .agg #[iv (f i 0), iv (f i 1), iv (f i 2), iv (f i 3)]] g Q := fun {Q} hq =>
      hT.has.call (k + 2) hix (asks73 kn (f i 0) (f i 1) (f i 2) (f i 3)) fun _ h' hh' => hq h' (hT.set hx _ hh')
    conv => whnf
    have regroup : ∀ (a' b' r' : Nat) (h4 : Hp), Has (RtP r' l :: TabP rowC b' l :: TabP rowI a' l :: TabP rowI kn.a l :: TabP rowC kn.b l :: RtP kn.r l :: (Is h :: SlP s3v zS (.slice (some ⟨d, 0, none⟩) (ss.map (·.1)).length scap) (ss.map (·.1)) :: SsP ss).eraseIdx (k + 2)) h4 →
        Has (S3P ⟨a', b', r'⟩ l :: (Is h :: SlP s3v zS (.slice (some ⟨d, 0, none⟩) (ss.map (·.1)).length scap) (ss.map (·.1)) :: SsP ss).set (k + 2) (S3P kn l)) h4 := fun a' b' r' h4 hh => by
      have e1 := (Has.group (L1 := [RtP r' l, TabP rowC b' l, TabP rowI a' l, TabP rowI kn.a l, TabP rowC kn.b l, RtP kn.r l]) hh).mono1 (A' := Has [S3P ⟨a', b', r'⟩ l, S3P kn l]) fun g hg => by
        have f1 : Has [TabP rowI a' l, TabP rowC b' l, RtP r' l, TabP rowI kn.a l, TabP rowC kn.b l, RtP kn.r l] g := hg.sel [2, 1, 0, 3, 4, 5] rfl
        have f2 : Has [TabP rowI kn.a l, TabP rowC kn.b l, RtP kn.r l, S3P ⟨a', b', r'⟩ l] g := (Has.group (L1 := [_, _, _]) f1).sel [1, 2, 3, 0] rfl
        exact (Has.group (L1 := [_, _, _]) f2).swap
      exact e1.flat.perm ((perm_set hix).cons _)
    have close : ∀ (a' b' r' : Nat) (s' : Value) (h6 : Hp), Has (S3P ⟨a', b', r'⟩ l :: Is h :: SlP s3v zS s' (ss.map (·.1) ++ [⟨a', b', r'⟩]) :: (SsP ss).set k (S3P kn l)) h6 → (ss.map (·.1)).length < 6 → Tabs h s' (ss.set k (kn, l) ++ [(⟨a', b', r'⟩, l)]) h6 := fun a' b' r' s' h6 hh hsz => by
      refine ⟨?_, by simp; omega, by simp at hsz ⊢; omega⟩
      have e1 : (ss.set k (kn, l) ++ [((⟨a', b', r'⟩ : S3), l)]).map (·.1) = ss.map (·.1) ++ [⟨a', b', r'⟩] := by rw [List.map_append, fst_set' (x := (kn, l)) hx]; rfl
      have e2 : SsP (ss.set k (kn, l) ++ [(⟨a', b', r'⟩, l)]) = (SsP ss).set k (S3P kn l) ++ [S3P ⟨a', b', r'⟩ l] := by simp [SsP, List.map_set]
      rw [e1, e2]
      exact hh.perm ((List.perm_append_singleton (S3P ⟨a', b', r'⟩ l) (Is h :: SlP s3v zS s' (ss.map (·.1) ++ [⟨a', b', r'⟩]) :: (SsP ss).set k (S3P kn l))).symm.trans (List.Perm.refl _))
    refine cut_intro (σ := Value × List (S3 × Tb) × Hp) (fun s => [(11, .v (.bool true)), (8, .v (iv i)), (7, .v s.1), (2, .v (.slice (some ⟨bb, off, none⟩) len cap))]) (fun _ => []) (fun s => s.2.2)
      (fun s => Tabs h s.1 s.2.1 s.2.2) ?_ ?_
    · have fin : ∀ {ρ : Env} {β : Bx} (s' : Value) (ss' : List (S3 × Tb)) (h' : Hp), Tabs h s' ss' h' → look ρ 11 = some (.v (.bool true)) → look ρ 8 = some (.v (iv i)) → look ρ 7 = some (.v s') → look ρ 2 = some (.v (.slice (some ⟨bb, off, none⟩) len cap)) →
          ∃ s : Value × List (S3 × Tb) × Hp, Tabs h s.1 s.2.1 s.2.2 ∧ subE [(11, .v (.bool true)), (8, .v (iv i)), (7, .v s.1), (2, .v (.slice (some ⟨bb, off, none⟩) len cap))] ρ ∧ subB [] β ∧ h' = s.2.2 :=
        fun {ρ β} s' ss' h' hT' e1 e2 e3 e4 => ⟨(s', ss', h'), hT', ⟨e1, e2, e3, e4, trivial⟩, subB_nil, rfl⟩
      refine cond_beq (fun k1t => ?_) (fun k1t => ?_)
      · conv => whnf
        refine cond_beq (fun _ => ?_) (fun e => absurd k1t e)
        conv => whnf
        refine lays fun h' hT' => ?_
        conv => whnf
        exact fin _ _ _ hT' rfl rfl rfl rfl
      · conv => whnf
        refine cond_beq (fun k2t => ?_) (fun k2t => ?_)
        · conv => whnf
          refine cond_beq (fun _ => ?_) (fun e => absurd k2t e)
          conv => whnf
          refine lays fun h' hT' => ?_
          conv => whnf
          exact fin _ _ _ hT' rfl rfl rfl rfl
        · conv => whnf
          refine cond_beq (fun k3 => ?_) (fun k3 => ?_)
          · conv => whnf
            refine lays fun h' hT' => ?_
            conv => whnf
            exact fin _ _ _ hT' rfl rfl rfl rfl
          · conv => whnf
            refine cond_beq (fun a1t => ?_) (fun a1t => ?_)
            · conv => whnf
              refine cond_beq (fun _ => ?_) (fun e => absurd a1t e)
              conv => whnf
              refine asks fun h' hT' => ?_
              conv => whnf
              exact fin _ _ _ hT' rfl rfl rfl rfl
            · conv => whnf
              refine cond_beq (fun a2t => ?_) (fun a2t => ?_)
              · conv => whnf
                refine cond_beq (fun _ => ?_) (fun e => absurd a2t e)
                conv => whnf
                refine asks fun h' hT' => ?_
                conv => whnf
                exact fin _ _ _ hT' rfl rfl rfl rfl
              · conv => whnf
                refine cond_beq (fun a3t => ?_) (fun a3t => ?_)
                · conv => whnf
                  refine cond_beq (fun _ => ?_) (fun e => absurd a3t e)
                  conv => whnf
                  refine asks fun h' hT' => ?_
                  conv => whnf
                  exact fin _ _ _ hT' rfl rfl rfl rfl
                · conv => whnf
                  refine cond_beq (fun a4t => ?_) (fun a4t => ?_)
                  · conv => whnf
                    refine cond_beq (fun _ => ?_) (fun e => absurd a4t e)
                    conv => whnf
                    refine asks fun h' hT' => ?_
                    conv => whnf
                    exact fin _ _ _ hT' rfl rfl rfl rfl
                  · conv => whnf
                    refine cond_beq (fun a5 => ?_) (fun a5 => ?_)
                    · conv => whnf
                      refine asks fun h' hT' => ?_
                      conv => whnf
                      exact fin _ _ _ hT' rfl rfl rfl rfl
                    · conv => whnf
                      refine cond_beq (fun w1 => ?_) (fun w1 => ?_)
                      · conv => whnf
                        refine whole71 kn tk' ?_
                        conv => whnf
                        exact fin _ _ _ hT rfl rfl rfl rfl
                      · conv => whnf
                        refine cond_beq (fun c1 => ?_) (fun c1 => ?_)
                        · conv => whnf
                          refine cond_dec (fun hsz => ?_) (fun hsz => ?_)
                          · conv => whnf
                            refine ⟨fun _ => none, _, (fun _ _ h => by cases h), SubB.refl _, ?_⟩
                            conv => whnf
                            have g0 : Has (TabP rowI kn.a l :: TabP rowC kn.b l :: RtP kn.r l :: (Is h :: SlP s3v zS (.slice (some ⟨d, 0, none⟩) (ss.map (·.1)).length scap) (ss.map (·.1)) :: SsP ss).eraseIdx (k + 2)) g := (hT.has.pull (k + 2) hix).flat
                            refine ⟨?_, ?_⟩
                            · refine g0.call 0 rfl copy62S fun a' h2 hh => ?_
                              have g1 := Has.spread (i := 0) rfl hh
                              conv => whnf
                              refine ⟨fun _ => none, _, ⟨SubH.refl _, SubB.refl _⟩, (fun _ _ h => by cases h), SubB.refl _, ?_⟩
                              conv => whnf
                              refine ⟨?_, ?_⟩
                              · refine g1.call 2 rfl copy74S fun b' h3 hh => ?_
                                have g2 := Has.spread (i := 2) rfl hh
                                conv => whnf
                                refine ⟨fun _ => none, _, ⟨SubH.refl _, SubB.refl _⟩, (fun _ _ h => by cases h), SubB.refl _, ?_⟩
                                conv => whnf
                                refine ⟨?_, ?_⟩
                                · refine g2.call 4 rfl copy52S fun r' h4 hh => ?_
                                  have g3 := Has.spread (i := 4) rfl hh
                                  conv => whnf
                                  refine ⟨fun _ => none, _, (fun _ _ h => by cases h), SubB.refl _, ?_⟩
                                  conv => whnf
                                  refine ⟨rfl, ?_⟩
                                  conv => whnf
                                  refine ⟨⟨(fun _ _ h => by cases h), SubB.new rfl⟩, ?_⟩
                                  conv => whnf
                                  have g4 := regroup a' b' r' _ g3
                                  refine whole71 ⟨a', b', r'⟩ (g4.get 0 rfl fun _ _ => S3P.sub) ?_
                                  conv => whnf
                                  refine fresh_has g4 fun b1 h5 hb1 _ _ hh5 => ?_
                                  conv => whnf
                                  refine app_has (x := ⟨a', b', r'⟩) s3v_len s3v_one hh5 3 rfl hb1 (by simp; omega) fun s' h6 hh6 => ?_
                                  conv => whnf
                                  exact fin s' _ h6 (close a' b' r' s' h6 hh6.tail (by omega)) rfl rfl rfl rfl
                                · conv => whnf
                                  refine ⟨rfl, ?_⟩
                                  conv => whnf
                                  refine ⟨⟨(fun _ _ h => by cases h), SubB.new rfl⟩, ?_⟩
                                  conv => whnf
                                  refine g2.call 4 rfl copy52S fun r' h4 hh => ?_
                                  have g3 := Has.spread (i := 4) rfl hh
                                  conv => whnf
                                  have g4 := regroup a' b' r' _ g3
                                  refine whole71 ⟨a', b', r'⟩ (g4.get 0 rfl fun _ _ => S3P.sub) ?_
                                  conv => whnf
                                  refine fresh_has g4 fun b1 h5 hb1 _ _ hh5 => ?_
                                  conv => whnf
                                  refine app_has (x := ⟨a', b', r'⟩) s3v_len s3v_one hh5 3 rfl hb1 (by simp; omega) fun s' h6 hh6 => ?_
                                  conv => whnf
                                  exact fin s' _ h6 (close a' b' r' s' h6 hh6.tail (by omega)) rfl rfl rfl rfl
                              · conv => whnf
                                refine ⟨rfl, ?_⟩
                                conv => whnf
                                refine ⟨fun _ => none, _, ⟨SubH.refl _, SubB.refl _⟩, (fun _ _ h => by cases h), SubB.new rfl, ?_⟩
                                conv => whnf
                                refine g1.call 2 rfl copy74S fun b' h3 hh => ?_
                                have g2 := Has.spread (i := 2) rfl hh
                                conv => whnf
                                refine ⟨⟨(fun _ _ h => by cases h), SubB.new rfl⟩, ?_⟩
                                conv => whnf
                                refine g2.call 4 rfl copy52S fun r' h4 hh => ?_
                                have g3 := Has.spread (i := 4) rfl hh
                                conv => whnf
                                have g4 := regroup a' b' r' _ g3
                                refine whole71 ⟨a', b', r'⟩ (g4.get 0 rfl fun _ _ => S3P.sub) ?_
                                conv => whnf
                                refine fresh_has g4 fun b1 h5 hb1 _ _ hh5 => ?_
                                conv => whnf
                                refine app_has (x := ⟨a', b', r'⟩) s3v_len s3v_one hh5 3 rfl hb1 (by simp; omega) fun s' h6 hh6 => ?_
                                conv => whnf
                                exact fin s' _ h6 (close a' b' r' s' h6 hh6.tail (by omega)) rfl rfl rfl rfl
                            · conv => whnf
                              refine ⟨rfl, ?_⟩
                              conv => whnf
                              refine ⟨fun _ => none, _, ⟨SubH.refl _, SubB.refl _⟩, (fun _ _ h => by cases h), SubB.new rfl, ?_⟩
                              conv => whnf
                              refine g0.call 0 rfl copy62S fun a' h2 hh => ?_
                              have g1 := Has.spread (i := 0) rfl hh
                              conv => whnf
                              refine ⟨fun _ => none, _, ⟨SubH.refl _, SubB.refl _⟩, (fun _ _ h => by cases h), SubB.new rfl, ?_⟩
                              conv => whnf
                              refine g1.call 2 rfl copy74S fun b' h3 hh => ?_
                              have g2 := Has.spread (i := 2) rfl hh
                              conv => whnf
                              refine ⟨⟨(fun _ _ h => by cases h), SubB.new rfl⟩, ?_⟩
                              conv => whnf
                              refine g2.call 4 rfl copy52S fun r' h4 hh => ?_
                              have g3 := Has.spread (i := 4) rfl hh
                              conv => whnf
                              have g4 := regroup a' b' r' _ g3
                              refine whole71 ⟨a', b', r'⟩ (g4.get 0 rfl fun _ _ => S3P.sub) ?_
                              conv => whnf
                              refine fresh_has g4 fun b1 h5 hb1 _ _ hh5 => ?_
                              conv => whnf
                              refine app_has (x := ⟨a', b', r'⟩) s3v_len s3v_one hh5 3 rfl hb1 (by simp; omega) fun s' h6 hh6 => ?_
                              conv => whnf
                              exact fin s' _ h6 (close a' b' r' s' h6 hh6.tail (by omega)) rfl rfl rfl rfl
                          · conv => whnf
                            exact fin _ _ _ hT rfl rfl rfl rfl
                        · conv => whnf
                          exact fin _ _ _ hT rfl rfl rfl rfl
    · rintro ⟨s', ss', g'⟩ hT'
      dsimp only at hT' ⊢
      conv => whnf
      exact ⟨(i + 1, s', ss', g'), ⟨hki, hT'⟩, by simp only; omega, (by repeat (first | exact trivial | refine ⟨rfl, ?_⟩ | refine ⟨int_eq (wrap_nat (by omega)) rfl, ?_⟩)), subB_nil, rfl⟩
  · conv => whnf
    obtain ⟨base, scap, rfl, hel⟩ := SlP.look s3v_len (hT.has.get 1 rfl fun _ _ => SlP.sub)
    refine loop_intro (σ := Nat) (fun j => [(13, .v (iv j)), (7, .v (.slice base (ss.map (·.1)).length scap))]) (fun _ => []) (fun _ => g) (fun j => j ≤ ss.length) (fun j => ss.length - j) 0 (Nat.zero_le _)
      (by repeat (first | exact trivial | refine ⟨rfl, ?_⟩ | refine ⟨int_eq (wrap_nat (by omega)) rfl, ?_⟩)) subB_nil rfl ?_
    intro j hj
    conv => whnf
    refine cond_dec (fun hjc => ?_) (fun hjc => ?_)
    · have hjs : j < ss.length := by rw [hn] at hjc; omega
      obtain ⟨⟨kn, l⟩, hx⟩ : ∃ x, ss[j]? = some x := ⟨_, List.getElem?_eq_getElem hjs⟩
      obtain ⟨d, c2, ty3, rfl, hd, hcc2⟩ := hel j kn (by simp [hx])
      have hix : (Is h :: SlP s3v zS (.slice (some ⟨d, 0, none⟩) (ss.map (·.1)).length scap) (ss.map (·.1)) :: SsP ss)[j + 2]? = some (S3P kn l) := by simpa using SsP_get hx
      have tk' : S3P kn l g := hT.has.get (j + 2) hix fun _ _ => S3P.sub
      conv => whnf
      refine opt_if ⟨by omega, by rw [hn]; omega⟩ ?_
      conv => whnf
      refine opt_ld hd (v := .agg (s3v kn).toArray) (rd_list (s3v kn) rfl (by simp [s3v]) fun j v hj => hcc2 j v hj) ?_
      conv => whnf
      refine whole71 kn tk' ?_
      conv => whnf
      exact ⟨j + 1, hjs, by omega, (by repeat (first | exact trivial | refine ⟨rfl, ?_⟩ | refine ⟨int_eq (wrap_nat (by omega)) rfl, ?_⟩)), subB_nil, rfl⟩
    · conv => whnf
      exact hq _ hsub

end
end Go.Proofs.Ytkmknolkblcbeaa.V
