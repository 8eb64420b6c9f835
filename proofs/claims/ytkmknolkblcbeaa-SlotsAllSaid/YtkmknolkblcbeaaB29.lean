/- Acts on tables; what the document's table gives to a body that acts. -/
import Derived.Test.YtkmknolkblcbeaaC12
import Derived.Test.YtkmknolkblcbeaaB25
import Derived.Test.YtkmknolkblcbeaaB26
namespace Go.Proofs.Ytkmknolkblcbeaa.V
set_option linter.unusedVariables false
set_option linter.unusedSimpArgs false
set_option linter.unusedSectionVars false
open Go

/-- One act in the round n. -/
def act1 (x : Nat → Int) (n : Nat) (s : Tb × Bool × Nat) : Tb × Bool × Nat :=
  if x 0 ≠ (n : Int) then s
  else if x 1 = 1 then ((putR s.1 (x 3)).2.2, s.2)
  else if x 1 = 2 then ((putAtR s.1 (x 2) (x 3)).2, s.2)
  else if x 1 = 4 then ((setR s.1 (x 2) (x 3)).2, s.2)
  else if x 1 = 5 then ((dropR s.1 (x 2)).2, s.2)
  else if x 1 = 7 then (clearR s.1, s.2)
  else if x 1 = 12 then (s.1, s.2.1, s.2.2 + 1)
  else if x 1 = 11 then (s.1, true, s.2.2)
  else s

def actsN (f : Nat → Nat → Int) (n : Nat) (l : Tb) : Nat → Tb × Bool × Nat
  | 0 => (l, false, 0)
  | k + 1 => act1 (f k) n (actsN f n l k)

theorem act1_len (x : Nat → Int) (n : Nat) (s : Tb × Bool × Nat) : (act1 x n s).1.length = s.1.length := by
  unfold act1
  repeat' split
  all_goals first | rfl | exact putR_len _ _ | exact putAtR_len _ _ _ | exact setR_len _ _ _ | exact dropR_len _ _ | exact clearR_len _

theorem actsN_len (f : Nat → Nat → Int) (n : Nat) (l : Tb) : ∀ k, (actsN f n l k).1.length = l.length
  | 0 => rfl
  | k + 1 => (act1_len _ _ _).trans (actsN_len f n l k)

theorem act1_nests (x : Nat → Int) (n : Nat) (s : Tb × Bool × Nat) : (act1 x n s).2.2 ≤ s.2.2 + 1 := by
  unfold act1
  repeat' split
  all_goals simp

theorem actsN_nests (f : Nat → Nat → Int) (n : Nat) (l : Tb) : ∀ k, (actsN f n l k).2.2 ≤ k
  | 0 => Nat.le_refl _
  | k + 1 => by have := act1_nests (f k) n (actsN f n l k); have := actsN_nests f n l k; simp only [actsN]; omega

/-- A range over a table whose body acts: what it gives, what is left. -/
inductive Rng (f : Nat → Nat → Int) (len : Nat) : Tb → Int → Nat → List (Int × Int) → Tb → Prop where
  | stop {l : Tb} {c : Int} {n : Nat} : nextR l c = -1 → Rng f len l c n [] l
  | leave {l : Tb} {c : Int} {n k : Nat} {v : Int} : nextR l c = k → l[k]? = some (some v) → (actsN f n l len).2.1 = true → Rng f len l c n [((k : Int), v)] (actsN f n l len).1
  | step {l l' : Tb} {c : Int} {n k : Nat} {v : Int} {xs : List (Int × Int)} : nextR l c = k → l[k]? = some (some v) → (actsN f n l len).2.1 = false → Rng f len (actsN f n l len).1 (k + 1) (n + 1) xs l' → Rng f len l c n (((k : Int), v) :: xs) l'

theorem Rng.inv {f : Nat → Nat → Int} {len : Nat} {l l' : Tb} {c : Int} {n : Nat} {xs : List (Int × Int)} (h : Rng f len l c n xs l') :
    (nextR l c = -1 ∧ xs = [] ∧ l' = l) ∨ ∃ (k : Nat) (v : Int) (ys : List (Int × Int)), nextR l c = k ∧ l[k]? = some (some v) ∧ xs = ((k : Int), v) :: ys ∧
      (((actsN f n l len).2.1 = true ∧ ys = [] ∧ l' = (actsN f n l len).1) ∨ ((actsN f n l len).2.1 = false ∧ Rng f len (actsN f n l len).1 (k + 1) (n + 1) ys l')) := by
  cases h with
  | stop h => exact .inl ⟨h, rfl, rfl⟩
  | leave h1 h2 h3 => exact .inr ⟨_, _, [], h1, h2, rfl, .inl ⟨h3, rfl, rfl⟩⟩
  | step h1 h2 h3 h4 => exact .inr ⟨_, _, _, h1, h2, rfl, .inr ⟨h3, h4⟩⟩

theorem Rng.len {f : Nat → Nat → Int} {len : Nat} {l l' : Tb} {c : Int} {n : Nat} {xs : List (Int × Int)} (h : Rng f len l c n xs l') : 0 ≤ c → (xs.length : Int) ≤ l.length ∧ ((xs.length : Int) ≤ l.length - c ∨ xs = []) := by
  induction h with
  | stop _ => intro _; exact ⟨by simp, .inr rfl⟩
  | @leave l c n k v h1 h2 _ =>
    intro hc
    have := (List.getElem?_eq_some_iff.1 h2).1
    have hck : c ≤ k := by
      rcases nextR_spec l c with ⟨e, _⟩ | ⟨k2, _, e, h, _⟩
      · rw [h1] at e; omega
      · rw [h1] at e; omega
    simp only [List.length_cons, List.length_nil]
    exact ⟨by omega, .inl (by omega)⟩
  | @step l l' c n k v xs h1 h2 _ h4 ih =>
    intro hc
    have := (List.getElem?_eq_some_iff.1 h2).1
    have hck : c ≤ k := by
      rcases nextR_spec l c with ⟨e, _⟩ | ⟨k2, _, e, h, _⟩
      · rw [h1] at e; omega
      · rw [h1] at e; omega
    obtain ⟨i1, i2⟩ := ih (by omega)
    rw [actsN_len] at i1 i2
    simp only [List.length_cons]
    rcases i2 with i2 | rfl
    · exact ⟨by omega, .inl (by omega)⟩
    · simp only [List.length_nil]; exact ⟨by omega, .inl (by omega)⟩

section
variable {h : Hp} {Q : Value → Hp → Prop} {a : Option Addr} {len cap : Nat} {f : Nat → Nat → Int} {p : Nat} {l : Tb}

theorem told53S {h0 : Hp} (n : Nat) (hR : RowsN 4 h0 a len f) (hlen : len < 2 ^ 62) : Sp PR 53 [ptr p, .slice a len cap, iv n] (Has [TabP rowI p l, Is h0]) (X := Unit) (fun _ => .tuple #[.bool (actsN f n l len).2.1, iv (actsN f n l len).2.2]) (fun _ => Has [TabP rowI p (actsN f n l len).1, Is h0]) := by
  intro h hh
  refine e53 rfl ?_
  conv => whnf
  refine loop_intro (σ := Nat × Hp) (fun s => [(10, .v (iv s.1)), (8, .v (.bool (actsN f n l s.1).2.1)), (9, .v (iv (actsN f n l s.1).2.2)), (0, .v (ptr p)), (1, .v (.slice a len cap)), (2, .v (iv n))]) (fun _ => []) (fun s => s.2)
    (fun s => s.1 ≤ len ∧ Has [TabP rowI p (actsN f n l s.1).1, Is h0] s.2) (fun s => len - s.1) (0, h) ⟨Nat.zero_le _, hh⟩
    (by repeat (first | exact trivial | refine ⟨rfl, ?_⟩ | refine ⟨int_eq (wrap_nat (by omega)) rfl, ?_⟩)) subB_nil rfl ?_
  clear hh
  rintro ⟨k, g⟩ ⟨hk, hh⟩
  dsimp only at hk hh ⊢
  have hsub : SubH h0 g := hh.is 1 rfl
  have hne := actsN_nests f n l k
  conv => whnf
  refine cond_dec (fun hc => ?_) (fun hc => ?_)
  · have hki : k < len := by omega
    obtain ⟨bb, off, c, ty, z, rfl, hb', hcc⟩ := (hR.sub hsub) k hki
    conv => whnf
    refine opt_if ⟨by omega, by omega⟩ ?_
    conv => whnf
    refine opt_ld hb' (v := .agg #[iv (f k 0), iv (f k 1), iv (f k 2), iv (f k 3)]) (rd_list [iv (f k 0), iv (f k 1), iv (f k 2), iv (f k 3)] rfl (by simp) fun j v hj => ?_) ?_
    · rcases j with _ | _ | _ | _ | j <;> cases hj <;> exact hcc _ (by omega)
    conv => whnf
    have nxt : ∀ {ρ : Env} {β : Bx} (s' : Tb × Bool × Nat) (g' : Hp), act1 (f k) n (actsN f n l k) = s' → Has [TabP rowI p s'.1, Is h0] g' → look ρ 10 = some (.v (.int .i64 (IntKind.i64.wrap ((k : Int) + 1)))) → look ρ 8 = some (.v (.bool s'.2.1)) → look ρ 9 = some (.v (iv s'.2.2)) → look ρ 0 = some (.v (ptr p)) → look ρ 1 = some (.v (.slice (some ⟨bb, off, none⟩) len cap)) → look ρ 2 = some (.v (iv n)) →
        ∃ s : Nat × Hp, (s.1 ≤ len ∧ Has [TabP rowI p (actsN f n l s.1).1, Is h0] s.2) ∧ len - s.1 < len - k ∧ subE [(10, .v (iv s.1)), (8, .v (.bool (actsN f n l s.1).2.1)), (9, .v (iv (actsN f n l s.1).2.2)), (0, .v (ptr p)), (1, .v (.slice (some ⟨bb, off, none⟩) len cap)), (2, .v (iv n))] ρ ∧ subB [] β ∧ g' = s.2 :=
      fun {ρ β} s' g' hs hh' f1 f2 f3 e1 e2 e3 => by
        refine ⟨(k + 1, g'), ⟨hki, ?_⟩, by simp only; omega, ?_, subB_nil, rfl⟩
        · show Has [TabP rowI p (act1 (f k) n (actsN f n l k)).1, Is h0] g'
          rw [hs]; exact hh'
        · refine ⟨int_eq (wrap_nat (by omega)) f1, ?_, ?_, e1, e2, e3, trivial⟩
          · show look ρ 8 = some (.v (.bool (act1 (f k) n (actsN f n l k)).2.1)); rw [hs]; exact f2
          · show look ρ 9 = some (.v (iv (act1 (f k) n (actsN f n l k)).2.2)); rw [hs]; exact f3
    refine cond_bne (fun hw => ?_) (fun hw => ?_)
    · conv => whnf
      exact nxt (actsN f n l k) g (by unfold act1; rw [if_pos hw]) hh rfl rfl rfl rfl rfl rfl
    · conv => whnf
      refine cond_beq (fun k1 => ?_) (fun k1 => ?_)
      · conv => whnf
        refine hh.call 0 rfl (put57S (f k 3)) fun _ g1 hh1 => ?_
        conv => whnf
        exact nxt ((putR (actsN f n l k).1 (f k 3)).2.2, (actsN f n l k).2) g1 (by unfold act1; simp [hw, k1]) hh1 rfl rfl rfl rfl rfl rfl
      · conv => whnf
        refine cond_beq (fun k2 => ?_) (fun k2 => ?_)
        · conv => whnf
          refine hh.call 0 rfl (putat67S (f k 2) (f k 3)) fun _ g1 hh1 => ?_
          conv => whnf
          exact nxt ((putAtR (actsN f n l k).1 (f k 2) (f k 3)).2, (actsN f n l k).2) g1 (by unfold act1; simp [hw, k1, k2]) hh1 rfl rfl rfl rfl rfl rfl
        · conv => whnf
          refine cond_beq (fun k4 => ?_) (fun k4 => ?_)
          · conv => whnf
            refine hh.call 0 rfl (set64S (f k 2) (f k 3)) fun _ g1 hh1 => ?_
            conv => whnf
            exact nxt ((setR (actsN f n l k).1 (f k 2) (f k 3)).2, (actsN f n l k).2) g1 (by unfold act1; simp [hw, k1, k2, k4]) hh1 rfl rfl rfl rfl rfl rfl
          · conv => whnf
            refine cond_beq (fun k5 => ?_) (fun k5 => ?_)
            · conv => whnf
              refine hh.call 0 rfl (drop68S (f k 2)) fun _ g1 hh1 => ?_
              conv => whnf
              exact nxt ((dropR (actsN f n l k).1 (f k 2)).2, (actsN f n l k).2) g1 (by unfold act1; simp [hw, k1, k2, k4, k5]) hh1 rfl rfl rfl rfl rfl rfl
            · conv => whnf
              refine cond_beq (fun k7 => ?_) (fun k7 => ?_)
              · conv => whnf
                refine hh.call 0 rfl (clear65S) fun _ g1 hh1 => ?_
                conv => whnf
                exact nxt (clearR (actsN f n l k).1, (actsN f n l k).2) g1 (by unfold act1; simp [hw, k1, k2, k4, k5, k7]) hh1 rfl rfl rfl rfl rfl rfl
              · conv => whnf
                refine cond_beq (fun k12 => ?_) (fun k12 => ?_)
                · conv => whnf
                  exact nxt ((actsN f n l k).1, (actsN f n l k).2.1, (actsN f n l k).2.2 + 1) g (by unfold act1; simp [hw, k1, k2, k4, k5, k7, k12]) hh rfl rfl (int_eq (wrap_nat (by omega)) rfl) rfl rfl rfl
                · conv => whnf
                  refine cond_beq (fun k11 => ?_) (fun k11 => ?_)
                  · conv => whnf
                    exact nxt ((actsN f n l k).1, true, (actsN f n l k).2.2) g (by unfold act1; simp [hw, k1, k2, k4, k5, k7, k12, k11]) hh rfl rfl rfl rfl rfl rfl
                  · conv => whnf
                    exact nxt (actsN f n l k) g (by unfold act1; simp [hw, k1, k2, k4, k5, k7, k12, k11]) hh rfl rfl rfl rfl rfl rfl
  · conv => whnf
    rw [show len = k by omega]
    exact ⟨(), rfl, hh⟩

theorem acted54S {h0 : Hp} (n : Nat) (hR : RowsN 4 h0 a len f) (hlen : len < 2 ^ 62) : Sp PR 54 [ptr p, .slice a len cap, iv n] (Has [RtP p l, Is h0]) (X := Unit) (fun _ => .bool (actsN f n l len).2.1) (fun _ => Has [RtP p (actsN f n l len).1, Is h0]) := by
  intro h hh
  refine e54 rfl ?_
  conv => whnf
  refine loop_intro (σ := Nat × Hp) (fun s => [(8, .v (iv s.1)), (7, .v (.bool (actsN f n l s.1).2.1)), (0, .v (ptr p)), (1, .v (.slice a len cap)), (2, .v (iv n))]) (fun _ => []) (fun s => s.2)
    (fun s => s.1 ≤ len ∧ Has [RtP p (actsN f n l s.1).1, Is h0] s.2) (fun s => len - s.1) (0, h) ⟨Nat.zero_le _, hh⟩
    (by repeat (first | exact trivial | refine ⟨rfl, ?_⟩ | refine ⟨int_eq (wrap_nat (by omega)) rfl, ?_⟩)) subB_nil rfl ?_
  clear hh
  rintro ⟨k, g⟩ ⟨hk, hh⟩
  dsimp only at hk hh ⊢
  have hsub : SubH h0 g := hh.is 1 rfl
  have hne := actsN_nests f n l k
  conv => whnf
  refine cond_dec (fun hc => ?_) (fun hc => ?_)
  · have hki : k < len := by omega
    obtain ⟨bb, off, c, ty, z, rfl, hb', hcc⟩ := (hR.sub hsub) k hki
    conv => whnf
    refine opt_if ⟨by omega, by omega⟩ ?_
    conv => whnf
    refine opt_ld hb' (v := .agg #[iv (f k 0), iv (f k 1), iv (f k 2), iv (f k 3)]) (rd_list [iv (f k 0), iv (f k 1), iv (f k 2), iv (f k 3)] rfl (by simp) fun j v hj => ?_) ?_
    · rcases j with _ | _ | _ | _ | j <;> cases hj <;> exact hcc _ (by omega)
    conv => whnf
    have nxt : ∀ {ρ : Env} {β : Bx} (s' : Tb × Bool × Nat) (g' : Hp), act1 (f k) n (actsN f n l k) = s' → Has [RtP p s'.1, Is h0] g' → look ρ 8 = some (.v (.int .i64 (IntKind.i64.wrap ((k : Int) + 1)))) → look ρ 7 = some (.v (.bool s'.2.1)) → look ρ 0 = some (.v (ptr p)) → look ρ 1 = some (.v (.slice (some ⟨bb, off, none⟩) len cap)) → look ρ 2 = some (.v (iv n)) →
        ∃ s : Nat × Hp, (s.1 ≤ len ∧ Has [RtP p (actsN f n l s.1).1, Is h0] s.2) ∧ len - s.1 < len - k ∧ subE [(8, .v (iv s.1)), (7, .v (.bool (actsN f n l s.1).2.1)), (0, .v (ptr p)), (1, .v (.slice (some ⟨bb, off, none⟩) len cap)), (2, .v (iv n))] ρ ∧ subB [] β ∧ g' = s.2 :=
      fun {ρ β} s' g' hs hh' f1 f2 e1 e2 e3 => by
        refine ⟨(k + 1, g'), ⟨hki, ?_⟩, by simp only; omega, ?_, subB_nil, rfl⟩
        · show Has [RtP p (act1 (f k) n (actsN f n l k)).1, Is h0] g'
          rw [hs]; exact hh'
        · refine ⟨int_eq (wrap_nat (by omega)) f1, ?_, e1, e2, e3, trivial⟩
          · show look ρ 7 = some (.v (.bool (act1 (f k) n (actsN f n l k)).2.1)); rw [hs]; exact f2
    refine cond_bne (fun hw => ?_) (fun hw => ?_)
    · conv => whnf
      exact nxt (actsN f n l k) g (by unfold act1; rw [if_pos hw]) hh rfl rfl rfl rfl rfl
    · conv => whnf
      refine cond_beq (fun k1 => ?_) (fun k1 => ?_)
      · conv => whnf
        refine hh.call 0 rfl (put92S (f k 3)) fun _ g1 hh1 => ?_
        conv => whnf
        exact nxt ((putR (actsN f n l k).1 (f k 3)).2.2, (actsN f n l k).2) g1 (by unfold act1; simp [hw, k1]) hh1 rfl rfl rfl rfl rfl
      · conv => whnf
        refine cond_beq (fun k2 => ?_) (fun k2 => ?_)
        · conv => whnf
          refine hh.call 0 rfl (putat93S (f k 2) (f k 3)) fun _ g1 hh1 => ?_
          conv => whnf
          exact nxt ((putAtR (actsN f n l k).1 (f k 2) (f k 3)).2, (actsN f n l k).2) g1 (by unfold act1; simp [hw, k1, k2]) hh1 rfl rfl rfl rfl rfl
        · conv => whnf
          refine cond_beq (fun k4 => ?_) (fun k4 => ?_)
          · conv => whnf
            refine hh.call 0 rfl (set98S (f k 2) (f k 3)) fun _ g1 hh1 => ?_
            conv => whnf
            exact nxt ((setR (actsN f n l k).1 (f k 2) (f k 3)).2, (actsN f n l k).2) g1 (by unfold act1; simp [hw, k1, k2, k4]) hh1 rfl rfl rfl rfl rfl
          · conv => whnf
            refine cond_beq (fun k5 => ?_) (fun k5 => ?_)
            · conv => whnf
              refine hh.call 0 rfl (drop94S (f k 2)) fun _ g1 hh1 => ?_
              conv => whnf
              exact nxt ((dropR (actsN f n l k).1 (f k 2)).2, (actsN f n l k).2) g1 (by unfold act1; simp [hw, k1, k2, k4, k5]) hh1 rfl rfl rfl rfl rfl
            · conv => whnf
              refine cond_beq (fun k7 => ?_) (fun k7 => ?_)
              · conv => whnf
                refine hh.call 0 rfl (clear99S) fun _ g1 hh1 => ?_
                conv => whnf
                exact nxt (clearR (actsN f n l k).1, (actsN f n l k).2) g1 (by unfold act1; simp [hw, k1, k2, k4, k5, k7]) hh1 rfl rfl rfl rfl rfl
              · conv => whnf
                refine cond_beq (fun k11 => ?_) (fun k11 => ?_)
                · conv => whnf
                  exact nxt ((actsN f n l k).1, true, (actsN f n l k).2.2) g (by unfold act1; simp [hw, k1, k2, k4, k5, k7, k11]) hh rfl rfl rfl rfl rfl
                · conv => whnf
                  by_cases k12 : f k 1 = 12
                  · exact nxt ((actsN f n l k).1, (actsN f n l k).2.1, (actsN f n l k).2.2 + 1) g (by unfold act1; simp [hw, k1, k2, k4, k5, k7, k11, k12]) hh rfl rfl rfl rfl rfl
                  · exact nxt (actsN f n l k) g (by unfold act1; simp [hw, k1, k2, k4, k5, k7, k11, k12]) hh rfl rfl rfl rfl rfl
  · conv => whnf
    rw [show len = k by omega]
    exact ⟨(), rfl, hh⟩

end
end Go.Proofs.Ytkmknolkblcbeaa.V
