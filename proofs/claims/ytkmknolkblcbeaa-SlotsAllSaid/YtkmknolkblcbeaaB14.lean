/- The reference's ties: a list of pairs. -/
import Derived.Test.YtkmknolkblcbeaaC7
import Derived.Test.YtkmknolkblcbeaaB13
import Derived.Test.YtkmknolkblcbeaaVC
namespace Go.Proofs.Ytkmknolkblcbeaa.V
set_option linter.unusedVariables false
set_option linter.unusedSimpArgs false
set_option linter.unusedSectionVars false
open Go

/-! ### The model -/

def tieR (l : List (Int × Int)) (a b : Int) : Bool × List (Int × Int) :=
  if (aget l a).isSome || (aget (swp l) b).isSome then (decide (aget l a = some b), l) else (true, l ++ [(a, b)])

def cutR (l : List (Int × Int)) (a : Int) : Bool × List (Int × Int) := ((aget l a).isSome, adel l a)

structure Uq (l : List (Int × Int)) : Prop where
  k : (keys l).Nodup
  v : (vals2 l).Nodup

theorem Uq.nil : Uq [] := ⟨List.nodup_nil, List.nodup_nil⟩

theorem keys_swp' (l : List (Int × Int)) : keys (swp l) = vals2 l := keys_swp l

theorem vals_swp (l : List (Int × Int)) : vals2 (swp l) = keys l := by simp [keys, swp, vals2]

theorem Uq.swp {l : List (Int × Int)} (h : Uq l) : Uq (V.swp l) := ⟨by rw [keys_swp]; exact h.v, by rw [vals_swp]; exact h.k⟩

theorem swp_swp (l : List (Int × Int)) : swp (swp l) = l := by
  induction l with
  | nil => rfl
  | cons p l ih => obtain ⟨a, b⟩ := p; simpa [swp] using ih

theorem aget_swp {l : List (Int × Int)} (h : Uq l) (a b : Int) : aget (swp l) b = some a ↔ aget l a = some b := by
  rw [aget_iff h.swp.k, aget_iff h.k, mem_swp]

theorem aget_isSome_keys {l : List (Int × Int)} {a : Int} : (aget l a).isSome = false ↔ a ∉ keys l := by
  rw [← aget_none, Option.isSome_eq_false_iff, Option.isNone_iff_eq_none]

theorem Uq.tie {l : List (Int × Int)} (h : Uq l) (a b : Int) : Uq (tieR l a b).2 := by
  unfold tieR
  split
  · exact h
  · rename_i hc
    rw [Bool.or_eq_true, not_or] at hc
    have h1 := aget_isSome_keys.1 (Bool.eq_false_iff.2 hc.1)
    have h2 := aget_isSome_keys.1 (Bool.eq_false_iff.2 hc.2)
    rw [keys_swp] at h2
    refine ⟨?_, ?_⟩
    · simp only [keys, List.map_append, List.map_cons, List.map_nil]; exact nodup_snoc h.k h1
    · simp only [vals2, List.map_append, List.map_cons, List.map_nil]; exact nodup_snoc h.v h2

theorem adel_sub (l : List (Int × Int)) (a : Int) : (adel l a).Sublist l := by
  induction l with
  | nil => exact .slnil
  | cons p l ih =>
    obtain ⟨k, v⟩ := p
    simp only [adel]
    split
    · exact List.sublist_cons_self ..
    · exact ih.cons_cons _

theorem Uq.cut {l : List (Int × Int)} (h : Uq l) (a : Int) : Uq (cutR l a).2 := ⟨h.k.sublist ((adel_sub l a).map _), h.v.sublist ((adel_sub l a).map _)⟩

theorem tieR_len (l : List (Int × Int)) (a b : Int) : (tieR l a b).2.length ≤ l.length + 1 := by unfold tieR; split <;> simp
theorem cutR_len (l : List (Int × Int)) (a : Int) : (cutR l a).2.length ≤ l.length := (adel_sub l a).length_le

theorem adel_at : ∀ {l : List (Int × Int)} {a : Int} {k : Nat}, (∃ b, l[k]? = some (a, b)) → (∀ j x, j < k → l[j]? = some x → x.1 ≠ a) → adel l a = l.eraseIdx k
  | [], a, k, h, _ => by simp at h
  | (c, v) :: l, a, 0, h, _ => by simp at h; simp [adel, h]
  | (c, v) :: l, a, k + 1, h, hj => by
    have h0 := hj 0 (c, v) (by omega) rfl
    simp only [adel, List.eraseIdx_cons_succ]
    rw [if_neg (fun e => h0 e.symm), adel_at (by simpa using h) (fun j x hjk hx => hj (j + 1) x (by omega) (by simpa using hx))]

theorem take_erase {l : List (Int × Int)} {i k : Nat} {x : Int × Int} (hx : l[i]? = some x) : (l.take (i + 1)).eraseIdx k = if i = k then (l.take i).eraseIdx k else (l.take i).eraseIdx k ++ [x] := by
  obtain ⟨hi, he⟩ := List.getElem?_eq_some_iff.1 hx
  have h1 : l.take (i + 1) = l.take i ++ [x] := by rw [List.take_add_one, hx]; rfl
  have hlen : (l.take i).length = i := by simp; omega
  rw [h1]
  split
  · rename_i e
    subst e
    rw [List.eraseIdx_append_of_length_le (by omega), List.eraseIdx_of_length_le (l := l.take i) (by omega)]
    simp [hlen]
  · rename_i e
    rcases Nat.lt_or_ge k i with h | h
    · rw [List.eraseIdx_append_of_lt_length (by omega)]
    · rw [List.eraseIdx_of_length_le (by simp; omega), List.eraseIdx_of_length_le (by omega)]

/-! ### The reference -/

def rowP (p : Int × Int) : List Value := [iv p.1, iv p.2]
def zP : List Value := [.int .i64 0, .int .i64 0]
theorem rowP_len (p : Int × Int) : (rowP p).length = 2 := rfl
theorem rowP_one (p : Int × Int) : (rowP p).all one = true := rfl

structure RefAt (h : Hp) (p : Nat) (bs : Option Nat) (l : List (Int × Int)) : Prop where
  ex : ∃ s ty, h p = some (.cells #[s] ty (0, 0)) ∧ OwnSl rowP zP h s bs l
  ne : bs ≠ some p

def RefP (p : Nat) (l : List (Int × Int)) : As := fun h => ∃ bs, RefAt h p bs l

section
variable {h : Hp} {Q : Value → Hp → Prop} {p : Nat} {bs : Option Nat} {l : List (Int × Int)}

theorem not_key {l : List (Int × Int)} {a : Int} {k : Nat} (h : ∀ j x, j < k → l[j]? = some x → x.1 ≠ a) (hk : l.length ≤ k) : aget l a = none := by
  rw [aget_none]
  intro hm
  obtain ⟨x, hx, he⟩ := List.mem_map.1 hm
  obtain ⟨j, hj⟩ := List.mem_iff_getElem?.1 hx
  have : j < l.length := (List.getElem?_eq_some_iff.1 hj).1
  exact h j x (by omega) hj he

theorem left108 (hR : RefAt h p bs l) (hl : l.length < 2 ^ 62) (a : Int) (h1 : ∀ (k : Nat) b, l[k]? = some (a, b) → (∀ j x, j < k → l[j]? = some x → x.1 ≠ a) → Q (iv k) h) (h2 : aget l a = none → Q (iv (-1)) h) : Ok PR 108 [ptr p, iv a] h Q := by
  obtain ⟨s, ty, hc, ho⟩ := hR.ex
  obtain ⟨base, cap, rfl, hel⟩ := SlP.look rowP_len ⟨bs, ho⟩
  refine e108 rfl ?_
  conv => whnf
  refine loop_intro (σ := Nat) (fun k => [(5, .v (iv k)), (0, .v (ptr p)), (1, .v (iv a))]) (fun _ => []) (fun _ => h) (fun k => k ≤ l.length ∧ ∀ j x, j < k → l[j]? = some x → x.1 ≠ a) (fun k => l.length - k) 0 ⟨Nat.zero_le _, fun j x hj => absurd hj (Nat.not_lt_zero _)⟩
    (by repeat (first | exact trivial | refine ⟨rfl, ?_⟩ | refine ⟨int_eq (wrap_nat (by omega)) rfl, ?_⟩)) subB_nil rfl ?_
  intro k hk
  conv => whnf
  repeat (first | (refine opt_if ⟨by omega, by omega⟩ ?_; conv => whnf) | (refine opt_ld (by assumption) (by first | rfl | assumption) ?_; conv => whnf))
  refine cond_dec (fun hlt => ?_) (fun hge => ?_)
  · have hkl : k < l.length := by omega
    have hx : l[k]? = some l[k] := List.getElem?_eq_getElem hkl
    obtain ⟨d, c, ty2, rfl, hd, hcc⟩ := hel k _ hx
    have e0 := hcc 0 _ rfl
    conv => whnf
    repeat (first | (refine opt_if ⟨by omega, by omega⟩ ?_; conv => whnf) | (refine opt_ld (by assumption) (by first | rfl | assumption) ?_; conv => whnf))
    refine cond_beq (fun he => ?_) (fun he => ?_)
    · conv => whnf
      exact h1 k l[k].2 (by rw [hx, ← he]) hk.2
    · conv => whnf
      refine ⟨k + 1, ⟨hkl, fun j x hj hjx => ?_⟩, by omega, (by repeat (first | exact trivial | refine ⟨rfl, ?_⟩ | refine ⟨int_eq (wrap_nat (by omega)) rfl, ?_⟩)), subB_nil, rfl⟩
      rcases Nat.lt_succ_iff_lt_or_eq.1 hj with hj | rfl
      · exact hk.2 j x hj hjx
      · rw [hx] at hjx; cases hjx; exact he
  · conv => whnf
    exact h2 (not_key hk.2 (by omega))

theorem right109 (hR : RefAt h p bs l) (hl : l.length < 2 ^ 62) (a : Int) (h1 : ∀ (k : Nat) b, l[k]? = some (b, a) → (∀ j x, j < k → l[j]? = some x → x.2 ≠ a) → Q (iv k) h) (h2 : aget (swp l) a = none → Q (iv (-1)) h) : Ok PR 109 [ptr p, iv a] h Q := by
  obtain ⟨s, ty, hc, ho⟩ := hR.ex
  obtain ⟨base, cap, rfl, hel⟩ := SlP.look rowP_len ⟨bs, ho⟩
  refine e109 rfl ?_
  conv => whnf
  refine loop_intro (σ := Nat) (fun k => [(5, .v (iv k)), (0, .v (ptr p)), (1, .v (iv a))]) (fun _ => []) (fun _ => h) (fun k => k ≤ l.length ∧ ∀ j x, j < k → l[j]? = some x → x.2 ≠ a) (fun k => l.length - k) 0 ⟨Nat.zero_le _, fun j x hj => absurd hj (Nat.not_lt_zero _)⟩
    (by repeat (first | exact trivial | refine ⟨rfl, ?_⟩ | refine ⟨int_eq (wrap_nat (by omega)) rfl, ?_⟩)) subB_nil rfl ?_
  intro k hk
  conv => whnf
  repeat (first | (refine opt_if ⟨by omega, by omega⟩ ?_; conv => whnf) | (refine opt_ld (by assumption) (by first | rfl | assumption) ?_; conv => whnf))
  refine cond_dec (fun hlt => ?_) (fun hge => ?_)
  · have hkl : k < l.length := by omega
    have hx : l[k]? = some l[k] := List.getElem?_eq_getElem hkl
    obtain ⟨d, c, ty2, rfl, hd, hcc⟩ := hel k _ hx
    have e0 := hcc 1 _ rfl
    conv => whnf
    repeat (first | (refine opt_if ⟨by omega, by omega⟩ ?_; conv => whnf) | (refine opt_ld (by assumption) (by first | rfl | assumption) ?_; conv => whnf))
    refine cond_beq (fun he => ?_) (fun he => ?_)
    · conv => whnf
      exact h1 k l[k].1 (by rw [hx, ← he]) hk.2
    · conv => whnf
      refine ⟨k + 1, ⟨hkl, fun j x hj hjx => ?_⟩, by omega, (by repeat (first | exact trivial | refine ⟨rfl, ?_⟩ | refine ⟨int_eq (wrap_nat (by omega)) rfl, ?_⟩)), subB_nil, rfl⟩
      rcases Nat.lt_succ_iff_lt_or_eq.1 hj with hj | rfl
      · exact hk.2 j x hj hjx
      · rw [hx] at hjx; cases hjx; exact he
  · conv => whnf
    refine h2 (not_key (k := k) (fun j x hj hjx => ?_) (by simp [swp]; omega))
    simp only [swp, List.getElem?_map, Option.map_eq_some_iff] at hjx
    obtain ⟨y, hy, rfl⟩ := hjx
    exact hk.2 j y hj hy

theorem aget_at (hn : (keys l).Nodup) {k : Nat} {a b : Int} (hk : l[k]? = some (a, b)) : aget l a = some b := mem_aget hn (List.mem_of_getElem? hk)

theorem to81 (hl : l.length < 2 ^ 62) (hn : (keys l).Nodup) (a : Int) : Sp PR 81 [ptr p, iv a] (RefP p l) (X := Unit) (fun _ => .tuple #[iv ((aget l a).getD 0), .bool (aget l a).isSome]) (fun _ => RefP p l) := by
  rintro h ⟨bs, hR⟩
  obtain ⟨s, ty, hc, ho⟩ := hR.ex
  obtain ⟨base, cap, rfl, hel⟩ := SlP.look rowP_len ⟨bs, ho⟩
  refine e81 rfl ?_
  conv => whnf
  refine left108 hR hl a (fun k b hk _ => ?_) (fun hn => ?_)
  · conv => whnf
    obtain ⟨d, c, ty2, rfl, hd, hcc⟩ := hel k _ hk
    have e1 := hcc 1 _ rfl
    have hkl : k < l.length := (List.getElem?_eq_some_iff.1 hk).1
    conv => whnf
    repeat (first | (refine opt_if ⟨by omega, by omega⟩ ?_; conv => whnf) | (refine opt_ld (by assumption) (by first | rfl | assumption) ?_; conv => whnf))
    exact ⟨(), by rw [aget_at hn hk]; rfl, bs, hR⟩
  · conv => whnf
    exact ⟨(), by rw [hn]; rfl, bs, hR⟩

theorem back84 (hl : l.length < 2 ^ 62) (hu : Uq l) (a : Int) : Sp PR 84 [ptr p, iv a] (RefP p l) (X := Unit) (fun _ => .tuple #[iv ((aget (swp l) a).getD 0), .bool (aget (swp l) a).isSome]) (fun _ => RefP p l) := by
  rintro h ⟨bs, hR⟩
  obtain ⟨s, ty, hc, ho⟩ := hR.ex
  obtain ⟨base, cap, rfl, hel⟩ := SlP.look rowP_len ⟨bs, ho⟩
  refine e84 rfl ?_
  conv => whnf
  refine right109 hR hl a (fun k b hk _ => ?_) (fun hn => ?_)
  · conv => whnf
    obtain ⟨d, c, ty2, rfl, hd, hcc⟩ := hel k _ hk
    have e1 := hcc 0 _ rfl
    have hkl : k < l.length := (List.getElem?_eq_some_iff.1 hk).1
    conv => whnf
    repeat (first | (refine opt_if ⟨by omega, by omega⟩ ?_; conv => whnf) | (refine opt_ld (by assumption) (by first | rfl | assumption) ?_; conv => whnf))
    exact ⟨(), by rw [(aget_swp hu b a).2 (aget_at hu.k hk)]; rfl, bs, hR⟩
  · conv => whnf
    exact ⟨(), by rw [hn]; rfl, bs, hR⟩

theorem tie77 (hl : l.length < 2 ^ 42) (hu : Uq l) (a b : Int) : Sp PR 77 [ptr p, iv a, iv b] (RefP p l) (X := Unit) (fun _ => .bool (tieR l a b).1) (fun _ => RefP p (tieR l a b).2) := by
  rintro h ⟨bs, hR⟩
  obtain ⟨s, ty, hc, ho⟩ := hR.ex
  refine e77 rfl ?_
  conv => whnf
  refine left108 hR (by omega) a (fun k b' hk hkf => ?_) (fun hna => ?_)
  · conv => whnf
    have ha := aget_at hu.k hk
    have ht : tieR l a b = (decide (aget l a = some b), l) := by simp [tieR, ha]
    refine right109 hR (by omega) b (fun k' a' hk' hkf' => ?_) (fun hnb => ?_)
    · conv => whnf
      refine ⟨(), ?_, bs, by rw [ht]; exact hR⟩
      rw [ht, ha]
      have h2 := aget_at hu.k hk'
      show Value.bool ((k : Int) == (k' : Int)) = _
      by_cases he : k = k'
      · subst he; rw [hk] at hk'; cases hk'; simp
      · have : ¬ (b' = b) := fun e => by
          subst e
          have h3 := (aget_swp hu a b').2 ha
          have h4 := (aget_swp hu a' b').2 h2
          rw [h3] at h4; cases h4
          have h5 : k' < k ∨ k < k' := by omega
          rcases h5 with h5 | h5
          · exact hkf k' _ h5 hk' rfl
          · exact hkf' k _ h5 hk rfl
        have h6 : ((k : Int) == (k' : Int)) = false := by rw [beq_eq_false_iff_ne]; omega
        simp [this, h6]
    · conv => whnf
      refine ⟨(), ?_, bs, by rw [ht]; exact hR⟩
      rw [ht, ha]
      show Value.bool ((k : Int) == (-1 : Int)) = _
      have : ¬ (b' = b) := fun e => by
        subst e
        rw [(aget_swp hu a b').2 ha] at hnb; cases hnb
      have h6 : ((k : Int) == (-1 : Int)) = false := by rw [beq_eq_false_iff_ne]; omega
      simp [this, h6]
  · conv => whnf
    refine right109 hR (by omega) b (fun k' a' hk' hkf' => ?_) (fun hnb => ?_)
    · conv => whnf
      have hb := (aget_swp hu a' b).2 (aget_at hu.k hk')
      have ht : tieR l a b = (decide (aget l a = some b), l) := by simp [tieR, hb]
      refine ⟨(), ?_, bs, by rw [ht]; exact hR⟩
      rw [ht, hna]
      show Value.bool ((-1 : Int) == (k' : Int)) = _
      have h6 : ((-1 : Int) == (k' : Int)) = false := by rw [beq_eq_false_iff_ne]; omega
      simp [h6]
    · have ht : tieR l a b = (true, l ++ [(a, b)]) := by simp [tieR, hna, hnb]
      conv => whnf
      repeat (first | (refine opt_if ⟨by omega, by omega⟩ ?_; conv => whnf) | (refine opt_ld (by assumption) (by first | rfl | assumption) ?_; conv => whnf))
      refine .intro fun b1 hb1 => ?_
      have hne : b1 ≠ p := fun e => by subst e; rw [hc] at hb1; cases hb1
      conv => whnf
      refine app_step (x := (a, b)) rowP_len rowP_one (ho.sub (h' := upd h b1 _) fun x o hx => by rw [upd_other (fun e => by subst e; rw [hb1] at hx; cases hx)]; exact hx) (upd_same _ _ _) (by simp; omega) fun s' bs' h' ho' hk hbs hex => ?_
      have hp' : h' p = some (.cells #[s] ty (0, 0)) := hk p _ (by rw [upd_other hne.symm]; exact hc) hR.ne
      obtain ⟨_, _, _, rfl⟩ := ho'.val
      conv => whnf
      refine opt_st hp' rfl (Nat.le_refl _) (.inl (by decide)) rfl ?_
      conv => whnf
      refine ⟨(), by rw [ht]; rfl, bs', ?_⟩
      have hnp : bs' ≠ some p := fun e => by
        rcases hbs with e1 | ⟨d, e1, hd⟩
        · exact hR.ne (by rw [← e1]; exact e)
        · rw [e] at e1; cases e1; rw [upd_other hne.symm, hc] at hd; cases hd
      rw [ht]
      exact ⟨⟨_, ty, by rw [upd_same]; rfl, ho'.same fun d hd => upd_other (fun e => hnp (by rw [← e]; exact hd))⟩, hnp⟩

theorem cut79 (hl : l.length < 2 ^ 42) (hu : Uq l) (a : Int) : Sp PR 79 [ptr p, iv a] (RefP p l) (X := Unit) (fun _ => .bool (cutR l a).1) (fun _ => RefP p (cutR l a).2) := by
  rintro h ⟨bs, hR⟩
  obtain ⟨s, ty, hc, ho⟩ := hR.ex
  obtain ⟨base, cap, rfl, hel⟩ := SlP.look rowP_len ⟨bs, ho⟩
  refine e79 rfl ?_
  conv => whnf
  refine left108 hR (by omega) a (fun k b' hk hkf => ?_) (fun hna => ?_)
  · conv => whnf
    have hkl : k < l.length := (List.getElem?_eq_some_iff.1 hk).1
    refine loop_intro (σ := Nat × Value × Option Nat × Hp) (fun s => [(7, .v (iv s.1)), (6, .v s.2.1), (5, .v (iv k)), (0, .v (ptr p)), (1, .v (iv a))]) (fun _ => []) (fun s => s.2.2.2)
      (fun s => s.1 ≤ l.length ∧ OwnSl rowP zP s.2.2.2 s.2.1 s.2.2.1 ((l.take s.1).eraseIdx k) ∧ SubH h s.2.2.2 ∧ (∀ d, s.2.2.1 = some d → h d = none)) (fun s => l.length - s.1) (0, .slice none 0 0, none, h)
      ⟨Nat.zero_le _, .inl ⟨rfl, rfl, by simp⟩, SubH.refl _, fun _ h => by cases h⟩
      (by repeat (first | exact trivial | refine ⟨rfl, ?_⟩ | refine ⟨int_eq (wrap_nat (by omega)) rfl, ?_⟩)) subB_nil rfl ?_
    rintro ⟨i, sl, bl, g⟩ ⟨hi, hs, hsub, hbl⟩
    dsimp only at hi hs hsub hbl ⊢
    have hcg := hsub _ _ hc
    conv => whnf
    repeat (first | (refine opt_if ⟨by omega, by omega⟩ ?_; conv => whnf) | (refine opt_ld (by assumption) (by first | rfl | assumption) ?_; conv => whnf))
    refine cond_dec (fun hlt => ?_) (fun hge => ?_)
    · have hil : i < l.length := by omega
      have hx : l[i]? = some l[i] := List.getElem?_eq_getElem hil
      obtain ⟨d, c, ty2, rfl, hd, hcc⟩ := hel i _ hx
      have hdg := hsub _ _ hd
      conv => whnf
      repeat (first | (refine opt_if ⟨by omega, by omega⟩ ?_; conv => whnf) | (refine opt_ld (by assumption) (by first | rfl | assumption) ?_; conv => whnf))
      refine cond_bne (fun he => ?_) (fun he => ?_)
      · conv => whnf
        repeat (first | (refine opt_if ⟨by omega, by omega⟩ ?_; conv => whnf) | (refine opt_ld (by assumption) (by first | rfl | assumption) ?_; conv => whnf))
        refine opt_ld hdg (v := .agg (rowP l[i]).toArray) (rd_list (rowP l[i]) rfl (by simp [rowP]) fun j v hj => by simpa using hcc j v hj) ?_
        conv => whnf
        refine .intro fun b1 hb1 => ?_
        conv => whnf
        refine app_step (x := l[i]) rowP_len rowP_one (hs.sub (h' := upd g b1 _) fun x o hx => by rw [upd_other (fun e => by subst e; rw [hb1] at hx; cases hx)]; exact hx) (upd_same _ _ _) (by
          have := (List.eraseIdx_sublist (l.take i) k).length_le
          simp at this ⊢; omega) fun s' bs' h' ho' hk' hbs hex => ?_
        conv => whnf
        have hg' : ∀ x o, h x = some o → h' x = some o := fun x o hx => by
          refine hk' x o ?_ (fun e => by rw [hbl x e] at hx; cases hx)
          rw [upd_other (fun e => by subst e; rw [hsub _ _ hx] at hb1; cases hb1)]; exact hsub _ _ hx
        refine ⟨(i + 1, s', bs', h'), ⟨hil, ?_, hg', fun d' e => ?_⟩, by simp only; omega, (by repeat (first | exact trivial | refine ⟨rfl, ?_⟩ | refine ⟨int_eq (wrap_nat (by omega)) rfl, ?_⟩)), subB_nil, rfl⟩
        · rw [take_erase hx, if_neg (fun e => he (by rw [e]))]; exact ho'
        · dsimp only at e
          rcases hbs with e1 | ⟨d2, e1, hd2⟩
          · exact hbl d' (by rw [← e1]; exact e)
          · rw [e] at e1; cases e1
            cases hh : h d' with
            | none => rfl
            | some o =>
              have h3 := hsub _ _ hh
              rw [upd_other (fun e => by subst e; rw [h3] at hb1; cases hb1), h3] at hd2; cases hd2
      · conv => whnf
        refine ⟨(i + 1, sl, bl, g), ⟨hil, ?_, hsub, hbl⟩, by simp only; omega, (by repeat (first | exact trivial | refine ⟨rfl, ?_⟩ | refine ⟨int_eq (wrap_nat (by omega)) rfl, ?_⟩)), subB_nil, rfl⟩
        rw [take_erase hx, if_pos (by omega)]; exact hs
    · obtain ⟨_, _, _, rfl⟩ := hs.val
      conv => whnf
      refine opt_st hcg rfl (Nat.le_refl _) (.inl (by decide)) rfl ?_
      conv => whnf
      have hnp : bl ≠ some p := fun e => by have := hbl p e; rw [hc] at this; cases this
      have hcut : cutR l a = (true, l.eraseIdx k) := by
        unfold cutR
        rw [adel_at ⟨b', hk⟩ hkf, aget_at hu.k hk]; rfl
      refine ⟨(), by rw [hcut]; rfl, bl, ⟨⟨_, ty, by rw [upd_same]; rfl, ?_⟩, hnp⟩⟩
      rw [hcut]
      rw [List.take_of_length_le (by omega)] at hs
      exact hs.same fun d hd => upd_other (fun e => hnp (by rw [← e]; exact hd))
  · conv => whnf
    have hcut : cutR l a = (false, l) := by
      unfold cutR
      rw [hna]
      have : adel l a = l := by
        have h1 := aget_none.1 hna
        clear hR ho hel hc hl hu hna
        induction l with
        | nil => rfl
        | cons x l ih =>
          obtain ⟨c, v⟩ := x
          simp only [keys, List.map_cons, List.mem_cons, not_or] at h1
          simp only [adel, if_neg h1.1]
          rw [ih h1.2]
      rw [this]; rfl
    exact ⟨(), by rw [hcut]; rfl, bs, by rw [hcut]; exact hR⟩

theorem RefP.get (hR : RefP p l h) : ∃ base cap ty, h p = some (.cells #[.slice base l.length cap] ty (0, 0)) ∧
    ∀ i x, l[i]? = some x → ∃ d c ty, base = some ⟨d, 0, none⟩ ∧ h d = some (.cells c ty (0, 0)) ∧ (∀ j v, (rowP x)[j]? = some v → c[0 + i * 2 + j]? = some v) := by
  obtain ⟨bs, hR⟩ := hR
  obtain ⟨s, ty, hc, ho⟩ := hR.ex
  obtain ⟨base, cap, rfl, hel⟩ := SlP.look rowP_len ⟨bs, ho⟩
  exact ⟨base, cap, ty, hc, hel⟩

/-- Turned: a new one, the old one as it was. -/
theorem turn86 (hl : l.length < 2 ^ 42) : Sp PR 86 [ptr p] (RefP p l) (X := Nat) (fun q => ptr q) (fun q => Has [RefP p l, RefP q (swp l)]) := by
  intro h hR
  refine e86 rfl ?_
  conv => whnf
  refine .intro fun q hq => ?_
  conv => whnf
  have hu : Has [RefP q (swp (l.take 0)), RefP p l] (upd h q (.cells #[.slice none 0 0] 43 (0, 0))) :=
    ((Has.one hR).new hq).mono1 fun g hg => ⟨none, ⟨_, 43, hg, .inl ⟨rfl, rfl, rfl⟩⟩, by simp⟩
  refine loop_intro (σ := Nat × Hp) (fun s => [(4, .v (iv s.1)), (3, .v (ptr q)), (0, .v (ptr p))]) (fun _ => []) (fun s => s.2)
    (fun s => s.1 ≤ l.length ∧ Has [RefP q (swp (l.take s.1)), RefP p l] s.2) (fun s => l.length - s.1) (0, upd h q (.cells #[.slice none 0 0] 43 (0, 0)))
    ⟨Nat.zero_le _, hu⟩
    (by repeat (first | exact trivial | refine ⟨rfl, ?_⟩ | refine ⟨int_eq (wrap_nat (by omega)) rfl, ?_⟩)) subB_nil rfl ?_
  rintro ⟨i, g⟩ ⟨hi, hh⟩
  dsimp only at hi hh ⊢
  obtain ⟨g1, g2, rfl, hag, ⟨bq, hRq⟩, hL⟩ := hh
  obtain ⟨g3, hR3, h32⟩ := hL.at 0 rfl
  obtain ⟨base, cap, ty, hc, hel⟩ := hR3.get
  have hs2 : SubH g3 (join g1 g2) := h32.tr (join_sub_right hag)
  have hcg := hs2 _ _ hc
  conv => whnf
  repeat (first | (refine opt_if ⟨by omega, by omega⟩ ?_; conv => whnf) | (refine opt_ld (by assumption) (by first | rfl | assumption) ?_; conv => whnf))
  refine cond_dec (fun hlt => ?_) (fun hge => ?_)
  · have hil : i < l.length := by omega
    have hx : l[i]? = some l[i] := List.getElem?_eq_getElem hil
    obtain ⟨d, c, ty2, rfl, hd, hcc⟩ := hel i _ hx
    have hdg := hs2 _ _ hd
    obtain ⟨sq, tyq, hcq, hoq⟩ := hRq.ex
    have hcq' : join g1 g2 q = _ := join_left hcq
    have e0 := hcc 0 _ rfl
    have e1 := hcc 1 _ rfl
    obtain ⟨hr, hrs, hr1, hr2⟩ := spare (join g1 g2) bq
    have nbq : ∀ y o, g2 y = some o → bq ≠ some y := fun y o hy e => by
      obtain ⟨o', ho'⟩ := hoq.some e
      rw [hag y o' ho'] at hy; cases hy
    have f1 := hr1 _ _ hcq' hRq.ne
    have f2 := hr1 _ _ hcg (nbq _ _ (h32 _ _ hc))
    have f3 := hr1 _ _ hdg (nbq _ _ (h32 _ _ hd))
    conv => whnf
    refine ⟨hr, _, hrs, SubB.refl _, ?_⟩
    conv => whnf
    repeat (first | (refine opt_if ⟨by omega, by omega⟩ ?_; conv => whnf) | (refine opt_ld (by assumption) (by first | rfl | assumption) ?_; conv => whnf))
    refine .intro fun b1 hb1 => ?_
    conv => whnf
    have hup : SubH (join g1 g2) (upd (join g1 g2) b1 (.cells (rowP (l[i].2, l[i].1)).toArray 148 (0, 0))) := fun y o hy => by
      rw [upd_other (fun e => by subst e; rw [hy] at hb1; cases hb1)]; exact hy
    refine ⟨⟨fun y o hy => hup y o (hrs y o hy), SubB.refl _⟩, ?_⟩
    conv => whnf
    have hcat : swp (l.take (i + 1)) = swp (l.take i) ++ [(l[i].2, l[i].1)] := by
      rw [List.take_add_one, hx]; simp only [swp, List.map_append, Option.toList, List.map_cons, List.map_nil]
    refine app_step (x := (l[i].2, l[i].1)) rowP_len rowP_one (hoq.sub (h' := upd (join g1 g2) b1 _) fun x o hx => hup x o (join_left hx)) (upd_same _ _ _) (by simp [swp]; omega) fun s' bs' h' ho' hk' hbs hex => ?_
    have hq' : h' q = some (.cells #[sq] tyq (0, 0)) := hk' _ _ (hup _ _ hcq') hRq.ne
    obtain ⟨va, vn, vc, rfl⟩ := ho'.val
    have hg2 : SubH g2 h' := fun y o hy => hk' y o (hup _ _ (join_sub_right hag y o hy)) (nbq y o hy)
    have hap : ∀ d, bs' = some d → g2 d = none := fun d hd => by
      rcases hbs with e | ⟨d', e, hd'⟩
      · rw [e] at hd
        obtain ⟨o', ho''⟩ := hoq.some hd
        exact hag d o' ho''
      · rw [e] at hd; cases hd
        cases hg : g2 d with
        | none => rfl
        | some o => exact absurd ((hup _ _ (join_sub_right hag d o hg)).symm.trans hd') (by simp)
    have hnp : bs' ≠ some q := fun e => by
      rcases hbs with e1 | ⟨d, e1, hd⟩
      · exact hRq.ne (by rw [← e1]; exact e)
      · rw [e] at e1; cases e1; exact absurd ((hup _ _ hcq').symm.trans hd) (by simp)
    conv => whnf
    refine opt_st hq' rfl (Nat.le_refl _) (.inl (by decide)) rfl ?_
    conv => whnf
    refine ⟨(i + 1, _), ⟨hil, ?_⟩, by simp only; omega, (by repeat (first | exact trivial | refine ⟨rfl, ?_⟩ | refine ⟨int_eq (wrap_nat (by omega)) rfl, ?_⟩)), subB_nil, rfl⟩
    dsimp only
    have hqn : g2 q = none := hag q _ hcq
    refine Has.sub (h := join (fun y => if y = q ∨ bs' = some y then upd h' q (.cells #[.slice va vn vc] tyq (0, 0)) y else none) g2) ⟨_, g2, rfl, fun y o hy => ?_, ⟨bs', ⟨.slice va vn vc, tyq, ?_, ?_⟩, hnp⟩, hL⟩ fun y o hy => ?_
    · simp only at hy
      split at hy
      · rename_i e
        rcases e with rfl | e
        · exact hqn
        · exact hap y e
      · cases hy
    · simp only [true_or, if_true, upd_same]
    · rw [hcat]
      refine ho'.same fun d hd => ?_
      simp only [hd, or_true, if_true]
      exact upd_other (fun e => hnp (by rw [← e]; exact hd))
    · unfold join at hy
      by_cases e : y = q ∨ bs' = some y
      · simp only [e, if_true] at hy
        have hgy : g2 y = none := by
          rcases e with rfl | e
          · exact hqn
          · exact hap y e
        rw [hgy, Option.or_none] at hy; exact hy
      · simp only [e, if_false] at hy
        rw [upd_other (fun e2 => e (.inl e2))]
        exact hg2 y o (by simpa using hy)
  · conv => whnf
    refine ⟨q, rfl, ?_⟩
    have hf : Has [RefP q (swp (l.take i)), RefP p l] (join g1 g2) := ⟨g1, g2, rfl, hag, ⟨bq, hRq⟩, hL⟩
    rw [List.take_of_length_le (by omega)] at hf
    exact hf.swap

end
end Go.Proofs.Ytkmknolkblcbeaa.V
