/- The law on copies. -/
import Derived.Test.YtkmknolkblcbeaaB24
namespace Go.Proofs.Ytkmknolkblcbeaa.V
set_option linter.unusedVariables false
set_option linter.unusedSimpArgs false
set_option linter.unusedSectionVars false
open Go

theorem Has.pure {φ : Prop} {A : As} {L : List As} {h : Hp} (hh : Has ((fun h => φ ∧ A h) :: L) h) : φ ∧ Has (A :: L) h := by
  obtain ⟨h1, h2, e, ha, ⟨hp, hA⟩, hL⟩ := hh
  exact ⟨hp, h1, h2, e, ha, hA, hL⟩

section
variable {h : Hp} {Q : Value → Hp → Prop} {a1 a2 : Option Addr} {len1 cap1 len2 cap2 : Nat} {f1 f2 : Nat → Nat → Int}

theorem apart9 (n : Int) (hR1 : RowsN 4 h a1 len1 f1) (hlen1 : len1 < 2 ^ 62) (hR2 : RowsN 4 h a2 len2 f2) (hlen2 : len2 < 2 ^ 62) (hq : ∀ h', SubH h h' → Q (.bool true) h') : Ok PR 9 [iv n, .slice a1 len1 cap1, .slice a2 len2 cap2] h Q := by
  refine e9 rfl ?_
  conv => whnf
  refine (Has.start h).make (new56S n) fun p h1 hh1 => ?_
  conv => whnf
  refine fixed39 fun h2 hs2 => ?_
  have hh2 := hh1.sub hs2
  generalize hB : (min (max n 0) 4096).toNat = B at *
  have hBn : (min (max n 0) 4096) = B := by omega
  conv => whnf
  refine hh2.call 0 rfl (put57S 77) fun _ h3 hh3 => ?_
  conv => whnf
  refine (Has.group (L1 := [_, _]) (L2 := []) hh3).call1 (play58 hR1 hlen1) fun l h4 hh4 => ?_
  obtain ⟨hl, hh4⟩ := hh4.pure
  have hlB : l.length = B := by rw [hl, putR_len]; simp
  replace hh4 : Has [TabP rowI p l, Is h] h4 := hh4.flat
  obtain ⟨gt0, hgt0, hgts0⟩ := hh4.at 0 rfl
  conv => whnf
  refine next59Q (TabP.sub hgt0 hgts0) 0 ?_
  have hi1 : Has (SlP rowZ zZ (.slice none 0 0) ((tk l 0).map (·.1)) :: SlP rowZ zZ (.slice none 0 0) ((tk l 0).map (·.2)) :: [TabP rowI p l, Is h]) h4 := hh4.nils
  clear hh1 hh2 hh3 hh4 hgt0 hgts0
  conv => whnf
  refine loop_intro (σ := Nat × Value × Value × Hp) (fun s => [(10, .v (iv (nextR l s.1))), (8, .v s.2.1), (9, .v s.2.2.1), (7, .v (ptr p)), (0, .v (iv n)), (2, .v (.slice a2 len2 cap2))]) (fun _ => []) (fun s => s.2.2.2)
    (fun s => s.1 ≤ l.length ∧ Has (SlP rowZ zZ s.2.1 ((tk l s.1).map (·.1)) :: SlP rowZ zZ s.2.2.1 ((tk l s.1).map (·.2)) :: [TabP rowI p l, Is h]) s.2.2.2) (fun s => l.length + 1 - s.1) (0, .slice none 0 0, .slice none 0 0, _) ⟨Nat.zero_le _, hi1⟩
    (by repeat (first | exact trivial | refine ⟨rfl, ?_⟩ | refine ⟨int_eq (wrap_nat (by omega)) rfl, ?_⟩)) subB_nil rfl ?_
  clear hi1
  rintro ⟨c, s1, s2, g⟩ ⟨hc, hh⟩
  dsimp only at hc hh ⊢
  obtain ⟨gt, hgt, hgts⟩ := hh.at 2 rfl
  have hT : TabP rowI p l g := TabP.sub hgt hgts
  have hbd := hT.bound
  obtain ⟨ga, hga, hgas⟩ := hh.at 0 rfl
  obtain ⟨base1, cap1, rfl, _⟩ := (SlP.sub hga hgas).look rowZ_len
  have hl1 : ((tk l c).map (·.1)).length = (tk l c).length := by simp
  have hl2 : (tk l c).length ≤ 4096 := by rw [tk_len l c hc]; have := cnt_le (l.take c); simp at this; omega
  rcases nextR_spec l c with ⟨hn, hfree⟩ | ⟨k, v, hn, hck, hfree, hk⟩
  rotate_left
  · rw [hn]
    have hkl : k < l.length := (List.getElem?_eq_some_iff.1 hk).1
    have hskip : tk l k = tk l c := tk_skip (by omega) fun j h1 h2 => hfree j (by omega) h2
    have hstep : tk l (k + 1) = tk l c ++ [((k : Int), v)] := by rw [tk_step hk, hskip]
    conv => whnf
    rw [show decide ((((tk l c).map (·.1)).length : Int) ≤ 4096) = true from decide_eq_true (by rw [hl1]; omega)]
    conv => whnf
    refine get60Q hT k ?_
    rw [got_nat, hk]
    conv => whnf
    refine fresh_has hh fun b1 g1 hb1 _ _ hh1 => ?_
    conv => whnf
    refine app_has (x := (k : Int)) rowZ_len rowZ_one hh1 1 rfl hb1 (by simp; omega) fun s1' g2 hh2 => ?_
    conv => whnf
    refine fresh_has hh2 fun b2 g3 hb2 _ _ hh3 => ?_
    conv => whnf
    refine app_has (x := v) rowZ_len rowZ_one hh3 3 rfl hb2 (by simp; omega) fun s2' g4 hh4 => ?_
    have hh5 : Has (SlP rowZ zZ s1' ((tk l (k + 1)).map (·.1)) :: SlP rowZ zZ s2' ((tk l (k + 1)).map (·.2)) :: [TabP rowI p l, Is h]) g4 := by
      rw [hstep, List.map_append, List.map_append]
      exact hh4.tail.tail
    obtain ⟨gt', hgt', hgts'⟩ := hh5.at 2 rfl
    conv => whnf
    refine next59Q (TabP.sub hgt' hgts') _ ?_
    rw [wrap_nat (by omega)]
    conv => whnf
    exact ⟨(k + 1, s1', s2', g4), ⟨hkl, hh5⟩, by simp only; omega, (by repeat (first | exact trivial | refine ⟨rfl, ?_⟩ | refine ⟨int_eq (wrap_nat (by omega)) rfl, ?_⟩)), subB_nil, rfl⟩
  rw [hn]
  have hcnt : (tk l c).length = cnt l := tk_all (fun j h1 h2 => hfree j (by omega) h2) hc
  have hmem : ∀ x ∈ tk l c, got l x.1 = some x.2 := fun x hx => tk_mem hx
  conv => whnf
  refine len61Q hT ?_
  rw [← hcnt]
  conv => whnf
  rw [show ((((tk l c).map (·.1)).length : Int) != ((tk l c).length : Int)) = false from by rw [hl1]; simp]
  conv => whnf
  refine hh.call 2 rfl copy62S fun u h5 hh5 => ?_
  replace hh5 : Has [TabP rowI u l, SlP rowZ zZ _ ((tk l c).map (·.1)), SlP rowZ zZ s2 ((tk l c).map (·.2)), TabP rowI p l, Is h] h5 := Has.spread (i := 2) rfl hh5
  conv => whnf
  refine hh5.call 3 rfl copy62S fun w h6 hh6 => ?_
  replace hh6 : Has [TabP rowI w l, TabP rowI u l, SlP rowZ zZ _ ((tk l c).map (·.1)), SlP rowZ zZ s2 ((tk l c).map (·.2)), TabP rowI p l, Is h] h6 := Has.spread (i := 3) rfl hh6
  obtain ⟨gu, hgu, hgus⟩ := hh6.at 1 rfl
  conv => whnf
  refine bound63Q (TabP.sub hgu hgus) ?_
  conv => whnf
  refine clamp38 n ?_
  rw [hBn, hlB]
  conv => whnf
  rw [show ((B : Int) != (B : Int)) = false from by simp]
  conv => whnf
  have hh7 : Has [TabP rowI p l, Is h, TabP rowI w l, TabP rowI u l, SlP rowZ zZ _ ((tk l c).map (·.1)), SlP rowZ zZ s2 ((tk l c).map (·.2))] h6 := hh6.sel [4, 5, 0, 1, 2, 3] rfl
  refine (Has.group (L1 := [_, _]) hh7).call1 (play58 hR2 hlen2) fun lt h8 hh8 => ?_
  obtain ⟨hlt, hh8⟩ := hh8.pure
  replace hh8 : Has [TabP rowI p lt, Is h, TabP rowI w l, TabP rowI u l, SlP rowZ zZ _ ((tk l c).map (·.1)), SlP rowZ zZ s2 ((tk l c).map (·.2))] h8 := hh8.flat
  obtain ⟨gt0, hgt0, hgts0⟩ := hh8.at 0 rfl
  conv => whnf
  refine next59Q (TabP.sub hgt0 hgts0) 0 ?_
  have hi2 := Has.nils (l := lt) hh8
  clear hh hh5 hh6 hh7 hh8 hgt0 hgts0 hgu hgus hgt hgts hga hgas
  generalize hsv : s2 = sv at *
  generalize hs1 : (.slice base1 ((tk l c).map (·.1)).length cap1 : Value) = sis at *
  generalize hxs : tk l c = xs at *
  clear hfree hc hn hT
  conv => whnf
  refine loop_intro (σ := Nat × Value × Value × Hp) (fun s => [(17, .v (iv (nextR lt s.1))), (15, .v s.2.1), (16, .v s.2.2.1), (7, .v (ptr p)), (8, .v sis), (9, .v sv), (13, .v (ptr u)), (14, .v (ptr w)), (2, .v (.slice a2 len2 cap2))]) (fun _ => []) (fun s => s.2.2.2)
    (fun s => s.1 ≤ lt.length ∧ Has (SlP rowZ zZ s.2.1 ((tk lt s.1).map (·.1)) :: SlP rowZ zZ s.2.2.1 ((tk lt s.1).map (·.2)) :: [TabP rowI p lt, Is h, TabP rowI w l, TabP rowI u l, SlP rowZ zZ sis (xs.map (·.1)), SlP rowZ zZ sv (xs.map (·.2))]) s.2.2.2) (fun s => lt.length + 1 - s.1) (0, .slice none 0 0, .slice none 0 0, _) ⟨Nat.zero_le _, hi2⟩
    (by repeat (first | exact trivial | refine ⟨rfl, ?_⟩ | refine ⟨int_eq (wrap_nat (by omega)) rfl, ?_⟩)) subB_nil rfl ?_
  clear hi2
  rintro ⟨c, s1, s2, g⟩ ⟨hc, hh⟩
  dsimp only at hc hh ⊢
  obtain ⟨gt, hgt, hgts⟩ := hh.at 2 rfl
  have hT : TabP rowI p lt g := TabP.sub hgt hgts
  have hbd := hT.bound
  obtain ⟨ga, hga, hgas⟩ := hh.at 0 rfl
  obtain ⟨base1, cap1, rfl, _⟩ := (SlP.sub hga hgas).look rowZ_len
  have hl1 : ((tk lt c).map (·.1)).length = (tk lt c).length := by simp
  have hl2 : (tk lt c).length ≤ 4096 := by rw [tk_len lt c hc]; have := cnt_le (lt.take c); simp at this; omega
  rcases nextR_spec lt c with ⟨hn, hfree⟩ | ⟨k, v, hn, hck, hfree, hk⟩
  rotate_left
  · rw [hn]
    have hkl : k < lt.length := (List.getElem?_eq_some_iff.1 hk).1
    have hskip : tk lt k = tk lt c := tk_skip (by omega) fun j h1 h2 => hfree j (by omega) h2
    have hstep : tk lt (k + 1) = tk lt c ++ [((k : Int), v)] := by rw [tk_step hk, hskip]
    conv => whnf
    rw [show decide ((((tk lt c).map (·.1)).length : Int) ≤ 4096) = true from decide_eq_true (by rw [hl1]; omega)]
    conv => whnf
    refine get60Q hT k ?_
    rw [got_nat, hk]
    conv => whnf
    refine fresh_has hh fun b1 g1 hb1 _ _ hh1 => ?_
    conv => whnf
    refine app_has (x := (k : Int)) rowZ_len rowZ_one hh1 1 rfl hb1 (by simp; omega) fun s1' g2 hh2 => ?_
    conv => whnf
    refine fresh_has hh2 fun b2 g3 hb2 _ _ hh3 => ?_
    conv => whnf
    refine app_has (x := v) rowZ_len rowZ_one hh3 3 rfl hb2 (by simp; omega) fun s2' g4 hh4 => ?_
    have hh5 : Has (SlP rowZ zZ s1' ((tk lt (k + 1)).map (·.1)) :: SlP rowZ zZ s2' ((tk lt (k + 1)).map (·.2)) :: [TabP rowI p lt, Is h, TabP rowI w l, TabP rowI u l, SlP rowZ zZ sis (xs.map (·.1)), SlP rowZ zZ sv (xs.map (·.2))]) g4 := by
      rw [hstep, List.map_append, List.map_append]
      exact hh4.tail.tail
    obtain ⟨gt', hgt', hgts'⟩ := hh5.at 2 rfl
    conv => whnf
    refine next59Q (TabP.sub hgt' hgts') _ ?_
    rw [wrap_nat (by omega)]
    conv => whnf
    exact ⟨(k + 1, s1', s2', g4), ⟨hkl, hh5⟩, by simp only; omega, (by repeat (first | exact trivial | refine ⟨rfl, ?_⟩ | refine ⟨int_eq (wrap_nat (by omega)) rfl, ?_⟩)), subB_nil, rfl⟩
  rw [hn]
  have hcnt : (tk lt c).length = cnt lt := tk_all (fun j h1 h2 => hfree j (by omega) h2) hc
  have hmem : ∀ x ∈ tk lt c, got lt x.1 = some x.2 := fun x hx => tk_mem hx
  conv => whnf
  generalize hjs : (.slice base1 ((tk lt c).map (·.1)).length cap1 : Value) = sjs at *
  generalize hys : tk lt c = ys at *
  obtain ⟨gs6, hgs6, hgss6⟩ := hh.at 6 rfl
  obtain ⟨base6, cap6, rfl, _⟩ := (SlP.sub hgs6 hgss6).look rowZ_len
  have hxl : (xs.map (·.1)).length = xs.length := by simp
  refine loop_intro (σ := Nat × Tb × Hp) (fun s => [(20, .v (iv s.1)), (8, .v (.slice base6 (xs.map (·.1)).length cap6)), (9, .v sv), (13, .v (ptr u)), (14, .v (ptr w)), (15, .v sjs), (16, .v s2), (7, .v (ptr p)), (2, .v (.slice a2 len2 cap2))]) (fun _ => []) (fun s => s.2.2)
    (fun s => s.1 ≤ xs.length ∧ Has [SlP rowZ zZ sjs (ys.map (·.1)), SlP rowZ zZ s2 (ys.map (·.2)), TabP rowI p lt, Is h, TabP rowI w s.2.1, TabP rowI u l, SlP rowZ zZ (.slice base6 (xs.map (·.1)).length cap6) (xs.map (·.1)), SlP rowZ zZ sv (xs.map (·.2))] s.2.2) (fun s => xs.length - s.1) (0, l, _) ⟨Nat.zero_le _, hh⟩
    (by repeat (first | exact trivial | refine ⟨rfl, ?_⟩ | refine ⟨int_eq (wrap_nat (by omega)) rfl, ?_⟩)) subB_nil rfl ?_
  clear hh hgs6 hgss6 hgt hgts hga hgas hT
  rintro ⟨j, lw, g⟩ ⟨hj, hh⟩
  dsimp only at hj hh ⊢
  conv => whnf
  refine cond_dec (fun hc => ?_) (fun hc => ?_)
  · rw [hxl] at hc
    have hjx : j < xs.length := by omega
    have hxj : xs[j]? = some xs[j] := List.getElem?_eq_getElem hjx
    obtain ⟨g6, hg6, hgs6⟩ := hh.at 6 rfl
    obtain ⟨g7, hg7, hgs7⟩ := hh.at 7 rfl
    obtain ⟨b6, c6, e6, hel6⟩ := (SlP.sub hg6 hgs6).look rowZ_len
    obtain ⟨b7, c7, rfl, hel7⟩ := (SlP.sub hg7 hgs7).look rowZ_len
    simp only [Value.slice.injEq] at e6
    obtain ⟨rfl, _, rfl⟩ := e6
    obtain ⟨d1, y1, ty1, rfl, hd1, hc1⟩ := hel6 j xs[j].1 (by simp [hxj])
    obtain ⟨d2, y2, ty2, rfl, hd2, hc2⟩ := hel7 j xs[j].2 (by simp [hxj])
    have e1 := hc1 0 _ rfl
    have e2 := hc2 0 _ rfl
    conv => whnf
    refine opt_if ⟨by omega, by rw [hxl]; omega⟩ ?_
    conv => whnf
    refine opt_ld hd1 e1 ?_
    conv => whnf
    refine opt_if ⟨by omega, by simp; omega⟩ ?_
    conv => whnf
    refine opt_ld hd2 e2 ?_
    conv => whnf
    refine hh.call 4 rfl (set64S _ _) fun _ g8 hh8 => ?_
    conv => whnf
    exact ⟨(j + 1, _, g8), ⟨hjx, hh8⟩, by simp only; omega, (by repeat (first | exact trivial | refine ⟨rfl, ?_⟩ | refine ⟨int_eq (wrap_nat (by omega)) rfl, ?_⟩)), subB_nil, rfl⟩
  · have hh9 : Has [TabP rowI w lw, Is h, SlP rowZ zZ sjs (ys.map (·.1)), SlP rowZ zZ s2 (ys.map (·.2)), TabP rowI p lt, TabP rowI u l, SlP rowZ zZ (.slice base6 (xs.map (·.1)).length cap6) (xs.map (·.1)), SlP rowZ zZ sv (xs.map (·.2))] g := hh.sel [4, 3, 0, 1, 2, 5, 6, 7] rfl
    conv => whnf
    refine (Has.group (L1 := [_, _]) hh9).call1 (play58 hR2 hlen2) fun lw2 g10 hh10 => ?_
    obtain ⟨_, hh10⟩ := hh10.pure
    replace hh10 : Has [TabP rowI w lw2, Is h, SlP rowZ zZ sjs (ys.map (·.1)), SlP rowZ zZ s2 (ys.map (·.2)), TabP rowI p lt, TabP rowI u l, SlP rowZ zZ (.slice base6 (xs.map (·.1)).length cap6) (xs.map (·.1)), SlP rowZ zZ sv (xs.map (·.2))] g10 := hh10.flat
    conv => whnf
    refine hh10.call 0 rfl clear65S fun _ g11 hh11 => ?_
    have t0 := hh11.get 0 rfl fun _ _ => TabP.sub
    have t2 := hh11.get 2 rfl fun _ _ => SlP.sub
    have t3 := hh11.get 3 rfl fun _ _ => SlP.sub
    have t4 := hh11.get 4 rfl fun _ _ => TabP.sub
    have t5 := hh11.get 5 rfl fun _ _ => TabP.sub
    have t6 := hh11.get 6 rfl fun _ _ => SlP.sub
    have t7 := hh11.get 7 rfl fun _ _ => SlP.sub
    conv => whnf
    refine tells66 t5 t6 t7 ‹xs.length = cnt l› ‹∀ x ∈ xs, got l x.1 = some x.2› (by omega) ?_
    conv => whnf
    refine tells66 t4 t2 t3 hcnt hmem (by omega) ?_
    conv => whnf
    refine len61Q t0 ?_
    rw [show cnt (clearR lw2) = 0 from cnt_repl _]
    conv => whnf
    exact hq _ (hh11.is 1 rfl)

end
end Go.Proofs.Ytkmknolkblcbeaa.V
