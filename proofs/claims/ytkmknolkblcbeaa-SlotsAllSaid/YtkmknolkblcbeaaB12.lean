/- The map both ways, from cells to numbers; turning. -/
import Derived.Test.YtkmknolkblcbeaaC6
import Derived.Test.YtkmknolkblcbeaaB5
import Derived.Test.YtkmknolkblcbeaaL2
namespace Go.Proofs.Ytkmknolkblcbeaa.V
set_option linter.unusedVariables false
set_option linter.unusedSimpArgs false
set_option linter.unusedSectionVars false
open Go

theorem new21 {h : Hp} {Q : Value → Hp → Prop} (hq : ∀ p m1 m2 h', BiAt ce iv h' p m1 m2 ([] : List (Int × Int)) [] → (∀ x, x ≠ p → x ≠ m1 → x ≠ m2 → h' x = h x) → h p = none → h m1 = none → h m2 = none → Q (ptr p) h') : Ok PR 21 [] h Q := by
  refine e21 rfl ?_
  conv => whnf
  refine .intro fun m1 h1 => ?_
  conv => whnf
  refine .intro fun m2 h2 => ?_
  conv => whnf
  refine .intro fun p h3 => ?_
  conv => whnf
  obtain ⟨n3, h3⟩ := upd_none h3
  obtain ⟨n2, h3⟩ := upd_none h3
  obtain ⟨n1, h2⟩ := upd_none h2
  refine hq p m1 m2 _ ⟨⟨115, ?_⟩, ?_, ?_, n2, n3, Ne.symm n1⟩ (fun x x1 x2 x3 => ?_) h3 h1 h2
  · rw [upd_same]; rfl
  · rw [upd_other (Ne.symm n2), upd_other (Ne.symm n1), upd_same]; exact MapIs.nil _ _ _
  · rw [upd_other (Ne.symm n3), upd_same]; exact MapIs.nil _ _ _
  · rw [upd_other x1, upd_other x3, upd_other x2]

section
variable {h : Hp} {Q : Value → Hp → Prop} {p m1 m2 : Nat} {L : List (Int × Int)} {R : List (Int × Int)}

theorem len31 (hB : BiAt ce iv h p m1 m2 L R) (hq : Q (.int .i64 L.length) h) : Ok PR 31 [ptr p] h Q := by
  obtain ⟨ty, hc⟩ := hB.cell
  refine e31 rfl ?_
  conv => whnf
  refine opt_ld hc rfl ?_
  conv => whnf
  refine len_step hB.left ?_
  conv => whnf
  exact hq

theorem to35 (hB : BiAt ce iv h p m1 m2 L R) (a : Int) (h1 : ∀ b, aget L a = some b → Q (.tuple #[iv b, .bool true]) h) (h2 : aget L a = none → Q (.tuple #[(iv 0), .bool false]) h) : Ok PR 35 [ptr p, ce a] h Q := by
  obtain ⟨ty, hc⟩ := hB.cell
  refine e35 rfl ?_
  conv => whnf
  refine opt_ld hc rfl ?_
  conv => whnf
  cases hg : aget L a with
  | none =>
    refine look_none hB.left cell_key hg ?_
    conv => whnf
    exact h2 hg
  | some b =>
    refine look_some hB.left cell_key hg ?_
    conv => whnf
    exact h1 b hg

theorem back36 (hB : BiAt ce iv h p m1 m2 L R) (a : Int) (h1 : ∀ b, aget R a = some b → Q (.tuple #[ce b, .bool true]) h) (h2 : aget R a = none → Q (.tuple #[ze, .bool false]) h) : Ok PR 36 [ptr p, iv a] h Q := by
  obtain ⟨ty, hc⟩ := hB.cell
  refine e36 rfl ?_
  conv => whnf
  refine opt_ld hc rfl ?_
  conv => whnf
  cases hg : aget R a with
  | none =>
    refine look_none hB.right int_key hg ?_
    conv => whnf
    exact h2 hg
  | some b =>
    refine look_some hB.right int_key hg ?_
    conv => whnf
    exact h1 b hg

theorem tie78 (hB : BiAt ce iv h p m1 m2 L R) (a : Int) (b : Int)
    (h1 : aget L a = none → aget R b = none → ∀ h', BiAt ce iv h' p m1 m2 (aput L a b) (aput R b a) → (∀ x, x ≠ m1 → x ≠ m2 → h' x = h x) → Q (.bool true) h')
    (h2 : ∀ x, aget L a = some x → Q (.bool (decide (x = b))) h) (h3 : aget L a = none → ∀ x, aget R b = some x → Q (.bool false) h) : Ok PR 78 [ptr p, ce a, iv b] h Q := by
  obtain ⟨ty, hc⟩ := hB.cell
  refine e78 rfl ?_
  conv => whnf
  refine opt_ld hc rfl ?_
  conv => whnf
  cases hL : aget L a with
  | some x =>
    refine look_some hB.left cell_key hL ?_
    conv => whnf
    refine opt_ld hc rfl ?_
    conv => whnf
    cases hR : aget R b with
    | some y =>
      refine look_some hB.right int_key hR ?_
      conv => whnf
      have e := h2 x hL
      rw [← int_dec] at e
      exact e
    | none =>
      refine look_none hB.right int_key hR ?_
      conv => whnf
      have e := h2 x hL
      rw [← int_dec] at e
      exact e
  | none =>
    refine look_none hB.left cell_key hL ?_
    conv => whnf
    refine opt_ld hc rfl ?_
    conv => whnf
    cases hR : aget R b with
    | some x =>
      refine look_some hB.right int_key hR ?_
      conv => whnf
      exact h3 hL x hR
    | none =>
      refine look_none hB.right int_key hR ?_
      conv => whnf
      refine opt_ld hc rfl ?_
      conv => whnf
      refine mup_step hB.left cell_key a b fun o1 ho1 => ?_
      have hB1 := hB.setL ho1
      obtain ⟨ty1, hc1⟩ := hB1.cell
      conv => whnf
      refine opt_ld hc1 rfl ?_
      conv => whnf
      refine mup_step hB1.right int_key b a fun o2 ho2 => ?_
      conv => whnf
      exact h1 hL hR _ (hB1.setR ho2) fun x x1 x2 => by rw [upd_other x2, upd_other x1]

theorem cut80 (hB : BiAt ce iv h p m1 m2 L R) (a : Int)
    (h1 : ∀ b, aget L a = some b → ∀ h', BiAt ce iv h' p m1 m2 (adel L a) (adel R b) → (∀ x, x ≠ m1 → x ≠ m2 → h' x = h x) → Q (.bool true) h')
    (h2 : aget L a = none → Q (.bool false) h) : Ok PR 80 [ptr p, ce a] h Q := by
  obtain ⟨ty, hc⟩ := hB.cell
  refine e80 rfl ?_
  conv => whnf
  refine opt_ld hc rfl ?_
  conv => whnf
  cases hL : aget L a with
  | none =>
    refine look_none hB.left cell_key hL ?_
    conv => whnf
    exact h2 hL
  | some b =>
    refine look_some hB.left cell_key hL ?_
    conv => whnf
    refine opt_ld hc rfl ?_
    conv => whnf
    refine mdel_step hB.left cell_key a fun o1 ho1 => ?_
    have hB1 := hB.setL ho1
    obtain ⟨ty1, hc1⟩ := hB1.cell
    conv => whnf
    refine opt_ld hc1 rfl ?_
    conv => whnf
    refine mdel_step hB1.right int_key b fun o2 ho2 => ?_
    conv => whnf
    exact h1 b hL _ (hB1.setR ho2) fun x x1 x2 => by rw [upd_other x2, upd_other x1]

end

section
variable {h : Hp} {Q : Value → Hp → Prop} {p m1 m2 : Nat} {L : List (Int × Int)} {R : List (Int × Int)}

theorem back85 (hB : BiAt iv ce h p m1 m2 L R) (a : Int) (h1 : ∀ b, aget R a = some b → Q (.tuple #[iv b, .bool true]) h) (h2 : aget R a = none → Q (.tuple #[(iv 0), .bool false]) h) : Ok PR 85 [ptr p, ce a] h Q := by
  obtain ⟨ty, hc⟩ := hB.cell
  refine e85 rfl ?_
  conv => whnf
  refine opt_ld hc rfl ?_
  conv => whnf
  cases hg : aget R a with
  | none =>
    refine look_none hB.right cell_key hg ?_
    conv => whnf
    exact h2 hg
  | some b =>
    refine look_some hB.right cell_key hg ?_
    conv => whnf
    exact h1 b hg

theorem cut29 (hB : BiAt iv ce h p m1 m2 L R) (a : Int)
    (h1 : ∀ b, aget L a = some b → ∀ h', BiAt iv ce h' p m1 m2 (adel L a) (adel R b) → (∀ x, x ≠ m1 → x ≠ m2 → h' x = h x) → Q (.bool true) h')
    (h2 : aget L a = none → Q (.bool false) h) : Ok PR 29 [ptr p, iv a] h Q := by
  obtain ⟨ty, hc⟩ := hB.cell
  refine e29 rfl ?_
  conv => whnf
  refine opt_ld hc rfl ?_
  conv => whnf
  cases hL : aget L a with
  | none =>
    refine look_none hB.left int_key hL ?_
    conv => whnf
    exact h2 hL
  | some b =>
    refine look_some hB.left int_key hL ?_
    conv => whnf
    refine opt_ld hc rfl ?_
    conv => whnf
    refine mdel_step hB.left int_key a fun o1 ho1 => ?_
    have hB1 := hB.setL ho1
    obtain ⟨ty1, hc1⟩ := hB1.cell
    conv => whnf
    refine opt_ld hc1 rfl ?_
    conv => whnf
    refine mdel_step hB1.right cell_key b fun o2 ho2 => ?_
    conv => whnf
    exact h1 b hL _ (hB1.setR ho2) fun x x1 x2 => by rw [upd_other x2, upd_other x1]

end

theorem turn30 {h : Hp} {Q : Value → Hp → Prop} {p m1 m2 : Nat} {L : List (Int × Int)} {R : List (Int × Int)} (hB : BiAt iv ce h p m1 m2 L R) (hb : Bi L R)
    (hq : ∀ q n1 n2 L' R' h', BiAt ce iv h' q n1 n2 L' R' → Bi L' R' → (∀ a b, aget R' a = some b ↔ aget L a = some b) → L'.length = L.length → SubH h h' → h q = none → h n1 = none → h n2 = none → Q (ptr q) h') : Ok PR 30 [ptr p] h Q := by
  refine e30 rfl ?_
  conv => whnf
  refine new21 fun q n1 n2 h1 hT0 hs hq0 hn1 hn2 => ?_
  have hsub : SubH h h1 := fun x o hx => by
    rw [hs x (fun e => by subst e; rw [hq0] at hx; cases hx) (fun e => by subst e; rw [hn1] at hx; cases hx) (fun e => by subst e; rw [hn2] at hx; cases hx)]; exact hx
  obtain ⟨ty, hc⟩ := hB.cell
  have hm1 : ∃ o, h m1 = some o := by obtain ⟨es, c, ho, _⟩ := hB.left; exact ⟨_, ho⟩
  obtain ⟨om, hom⟩ := hm1
  have hleft : MapIs iv ce (h1 m1) L := by rw [hsub _ _ hom, ← hom]; exact hB.left
  conv => whnf
  refine opt_ld (hsub _ _ hc) rfl ?_
  conv => whnf
  refine rng_step hleft fun it h2 hit hs2 hI => ?_
  have hne : ∀ x o, h1 x = some o → x ≠ it := fun x o hx e => by subst e; rw [hit] at hx; cases hx
  have hq3 : q ≠ it := by obtain ⟨_, o1⟩ := hT0.cell; exact hne _ _ o1
  have hq4 : n1 ≠ it := by obtain ⟨_, _, o1, _⟩ := hT0.left; exact hne _ _ o1
  have hq5 : n2 ≠ it := by obtain ⟨_, _, o1, _⟩ := hT0.right; exact hne _ _ o1
  have hm3 : m1 ≠ it := hne _ _ (hsub _ _ hom)
  have hm4 : m1 ≠ n1 := fun e => by rw [e] at hom; rw [hn1] at hom; cases hom
  have hm5 : m1 ≠ n2 := fun e => by rw [e] at hom; rw [hn2] at hom; cases hom
  have hT2 : BiAt ce iv h2 q n1 n2 [] [] := by
    exact hT0.same (hs2 _ hq3) (hs2 _ hq4) (hs2 _ hq5)
  have hsub2 : SubH h h2 := fun x o hx => by rw [hs2 x (hne x o (hsub x o hx))]; exact hsub x o hx
  conv => whnf
  refine loop_intro (σ := List (Int × Int) × List (Int × Int) × Option (Int × Int) × Hp) (fun s => [(11, .v (ptr it)), (3, .v (ptr q))]) (fun _ => []) (fun s => s.2.2.2)
    (fun s => Turning L s.1 s.2.1 ∧ IterAt iv ce s.2.2.2 it m1 s.2.1 s.2.2.1 ∧ BiAt ce iv s.2.2.2 q n1 n2 (swp s.1) s.1 ∧ SubH h s.2.2.2) (fun s => s.2.1.length) ([], L, none, h2) ⟨⟨by simp⟩, hI, hT2, hsub2⟩
    (subE_cons rfl (subE_cons rfl subE_nil)) subB_nil rfl ?_
  rintro ⟨D, todo, cur, g⟩ ⟨hTu, hI, hT, hsg⟩
  dsimp only at hTu hI hT hsg ⊢
  conv => whnf
  refine nxt_step hI (fun pre a v post hto g1 hs1 hI1 => ?_) (fun hto => ?_)
  · subst hto
    have hT1 : BiAt ce iv g1 q n1 n2 (swp D) D := hT.same (hs1 _ hq3) (hs1 _ hq4) (hs1 _ hq5)
    obtain ⟨e1, e2⟩ := hTu.new hb.nl hb.vals
    obtain ⟨ty1, hc1⟩ := hT1.cell
    conv => whnf
    refine ent_step hI1 ?_
    conv => whnf
    refine opt_ld hc1 rfl ?_
    conv => whnf
    refine mup_step hT1.left cell_key v a fun o1 ho1 => ?_
    have hT3 := hT1.setL ho1
    obtain ⟨ty3, hc3⟩ := hT3.cell
    conv => whnf
    refine opt_ld hc3 rfl ?_
    conv => whnf
    refine mup_step hT3.right int_key a v fun o2 ho2 => ?_
    have hT4 := hT3.setR ho2
    rw [e1, e2] at hT4
    conv => whnf
    refine ⟨(D ++ [(a, v)], pre ++ post, some (a, v), upd (upd g1 n1 o1) n2 o2), ⟨hTu.step, hI1.same ?_ ?_, hT4, fun x o hx => ?_⟩, by simp only [List.length_append, List.length_cons]; omega, subE_cons rfl (subE_cons rfl subE_nil), subB_nil, rfl⟩
    · dsimp only; rw [upd_other (Ne.symm hq5), upd_other (Ne.symm hq4)]
    · dsimp only; rw [upd_other hm5, upd_other hm4]
    · dsimp only
      rw [upd_other (fun e => by rw [e, hn2] at hx; cases hx), upd_other (fun e => by rw [e, hn1] at hx; cases hx), hs1 x (hne x o (hsub x o hx))]
      exact hsg x o hx
  · subst hto
    obtain ⟨f1, f2, f3⟩ := hTu.done hb
    conv => whnf
    exact hq q n1 n2 (swp D) D g hT f1 f2 f3 hsg hq0 hn1 hn2

theorem turn33 {h : Hp} {Q : Value → Hp → Prop} {p m1 m2 : Nat} {L : List (Int × Int)} {R : List (Int × Int)} (hB : BiAt ce iv h p m1 m2 L R) (hb : Bi L R)
    (hq : ∀ q n1 n2 L' R' h', BiAt iv ce h' q n1 n2 L' R' → Bi L' R' → (∀ a b, aget R' a = some b ↔ aget L a = some b) → L'.length = L.length → SubH h h' → h q = none → h n1 = none → h n2 = none → Q (ptr q) h') : Ok PR 33 [ptr p] h Q := by
  refine e33 rfl ?_
  conv => whnf
  refine new20 fun q n1 n2 h1 hT0 hs hq0 hn1 hn2 => ?_
  have hsub : SubH h h1 := fun x o hx => by
    rw [hs x (fun e => by subst e; rw [hq0] at hx; cases hx) (fun e => by subst e; rw [hn1] at hx; cases hx) (fun e => by subst e; rw [hn2] at hx; cases hx)]; exact hx
  obtain ⟨ty, hc⟩ := hB.cell
  have hm1 : ∃ o, h m1 = some o := by obtain ⟨es, c, ho, _⟩ := hB.left; exact ⟨_, ho⟩
  obtain ⟨om, hom⟩ := hm1
  have hleft : MapIs ce iv (h1 m1) L := by rw [hsub _ _ hom, ← hom]; exact hB.left
  conv => whnf
  refine opt_ld (hsub _ _ hc) rfl ?_
  conv => whnf
  refine rng_step hleft fun it h2 hit hs2 hI => ?_
  have hne : ∀ x o, h1 x = some o → x ≠ it := fun x o hx e => by subst e; rw [hit] at hx; cases hx
  have hq3 : q ≠ it := by obtain ⟨_, o1⟩ := hT0.cell; exact hne _ _ o1
  have hq4 : n1 ≠ it := by obtain ⟨_, _, o1, _⟩ := hT0.left; exact hne _ _ o1
  have hq5 : n2 ≠ it := by obtain ⟨_, _, o1, _⟩ := hT0.right; exact hne _ _ o1
  have hm3 : m1 ≠ it := hne _ _ (hsub _ _ hom)
  have hm4 : m1 ≠ n1 := fun e => by rw [e] at hom; rw [hn1] at hom; cases hom
  have hm5 : m1 ≠ n2 := fun e => by rw [e] at hom; rw [hn2] at hom; cases hom
  have hT2 : BiAt iv ce h2 q n1 n2 [] [] := by
    exact hT0.same (hs2 _ hq3) (hs2 _ hq4) (hs2 _ hq5)
  have hsub2 : SubH h h2 := fun x o hx => by rw [hs2 x (hne x o (hsub x o hx))]; exact hsub x o hx
  conv => whnf
  refine loop_intro (σ := List (Int × Int) × List (Int × Int) × Option (Int × Int) × Hp) (fun s => [(11, .v (ptr it)), (3, .v (ptr q))]) (fun _ => []) (fun s => s.2.2.2)
    (fun s => Turning L s.1 s.2.1 ∧ IterAt ce iv s.2.2.2 it m1 s.2.1 s.2.2.1 ∧ BiAt iv ce s.2.2.2 q n1 n2 (swp s.1) s.1 ∧ SubH h s.2.2.2) (fun s => s.2.1.length) ([], L, none, h2) ⟨⟨by simp⟩, hI, hT2, hsub2⟩
    (subE_cons rfl (subE_cons rfl subE_nil)) subB_nil rfl ?_
  rintro ⟨D, todo, cur, g⟩ ⟨hTu, hI, hT, hsg⟩
  dsimp only at hTu hI hT hsg ⊢
  conv => whnf
  refine nxt_step hI (fun pre a v post hto g1 hs1 hI1 => ?_) (fun hto => ?_)
  · subst hto
    have hT1 : BiAt iv ce g1 q n1 n2 (swp D) D := hT.same (hs1 _ hq3) (hs1 _ hq4) (hs1 _ hq5)
    obtain ⟨e1, e2⟩ := hTu.new hb.nl hb.vals
    obtain ⟨ty1, hc1⟩ := hT1.cell
    conv => whnf
    refine ent_step hI1 ?_
    conv => whnf
    refine opt_ld hc1 rfl ?_
    conv => whnf
    refine mup_step hT1.left int_key v a fun o1 ho1 => ?_
    have hT3 := hT1.setL ho1
    obtain ⟨ty3, hc3⟩ := hT3.cell
    conv => whnf
    refine opt_ld hc3 rfl ?_
    conv => whnf
    refine mup_step hT3.right cell_key a v fun o2 ho2 => ?_
    have hT4 := hT3.setR ho2
    rw [e1, e2] at hT4
    conv => whnf
    refine ⟨(D ++ [(a, v)], pre ++ post, some (a, v), upd (upd g1 n1 o1) n2 o2), ⟨hTu.step, hI1.same ?_ ?_, hT4, fun x o hx => ?_⟩, by simp only [List.length_append, List.length_cons]; omega, subE_cons rfl (subE_cons rfl subE_nil), subB_nil, rfl⟩
    · dsimp only; rw [upd_other (Ne.symm hq5), upd_other (Ne.symm hq4)]
    · dsimp only; rw [upd_other hm5, upd_other hm4]
    · dsimp only
      rw [upd_other (fun e => by rw [e, hn2] at hx; cases hx), upd_other (fun e => by rw [e, hn1] at hx; cases hx), hs1 x (hne x o (hsub x o hx))]
      exact hsg x o hx
  · subst hto
    obtain ⟨f1, f2, f3⟩ := hTu.done hb
    conv => whnf
    exact hq q n1 n2 (swp D) D g hT f1 f2 f3 hsg hq0 hn1 hn2

end Go.Proofs.Ytkmknolkblcbeaa.V
