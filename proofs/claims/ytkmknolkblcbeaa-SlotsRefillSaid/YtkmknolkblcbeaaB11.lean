/- The law on a table filled, emptied and filled again. -/
import Derived.Test.YtkmknolkblcbeaaB10
import Derived.Test.YtkmknolkblcbeaaV21
namespace Go.Proofs.Ytkmknolkblcbeaa.V
set_option linter.unusedVariables false
open Go

def fillTo (B i : Nat) : List (Option Int) := (List.range B).map fun j => if j < i then some (j : Int) else none

theorem fillTo_get {B i j : Nat} (hj : j < B) : (fillTo B i)[j]? = some (if j < i then some (j : Int) else none) := by simp [fillTo, hj]
theorem fillTo_len {B i : Nat} : (fillTo B i).length = B := by simp [fillTo]

theorem fillTo_zero {B : Nat} : fillTo B 0 = List.replicate B none := by
  apply List.ext_getElem?
  intro j
  by_cases hj : j < B
  · rw [fillTo_get hj, List.getElem?_replicate, if_pos hj]; simp
  · rw [List.getElem?_eq_none (by rw [fillTo_len]; omega), List.getElem?_eq_none (by simp; omega)]

theorem fillTo_set {B i : Nat} (hi : i < B) : (fillTo B i).set i (some (i : Int)) = fillTo B (i + 1) := by
  apply List.ext_getElem?
  intro j
  by_cases hj : j < B
  · rw [fillTo_get hj, List.getElem?_set]
    by_cases hij : i = j
    · subst hij; rw [if_pos rfl, if_pos (by rw [fillTo_len]; exact hi), if_pos (by omega)]
    · rw [if_neg hij, fillTo_get hj]
      congr 1
      by_cases h : j < i
      · rw [if_pos h, if_pos (by omega)]
      · rw [if_neg h, if_neg (by omega)]
  · rw [List.getElem?_eq_none (by rw [List.length_set, fillTo_len]; omega), List.getElem?_eq_none (by rw [fillTo_len]; omega)]

theorem cnt_fill {B : Nat} : ∀ i, i ≤ B → cnt (fillTo B i) = i
  | 0, _ => by rw [fillTo_zero, cnt_repl]
  | i + 1, h => by
    rw [← fillTo_set (by omega), cnt_set_some (by rw [fillTo_get (by omega), if_neg (by omega)]), cnt_fill i (by omega)]

def Own (l : List (Option Int)) : Prop := ∀ (j : Nat) (x : Int), l[j]? = some (some x) → x = (j : Int)

theorem own_fill {B i : Nat} : Own (fillTo B i) := fun j x h => by
  have hj : j < B := by have := (List.getElem?_eq_some_iff.1 h).1; rwa [fillTo_len] at this
  rw [fillTo_get hj] at h
  split at h <;> cases h
  rfl

theorem own_set {l : List (Option Int)} (ho : Own l) (k : Nat) : Own (l.set k none) := fun j x h => by
  rw [List.getElem?_set] at h
  split at h
  · split at h <;> cases h
  · exact ho j x h

theorem all_free {l : List (Option Int)} {B : Nat} (hl : l.length = B) (h : ∀ j, j < B → l[j]? = some none) : l = List.replicate B none := by
  apply List.ext_getElem?
  intro j
  rw [List.getElem?_replicate]
  split
  · rename_i hj; exact h j hj
  · rename_i hj; exact List.getElem?_eq_none (by omega)

section
variable {h : Hp} {Q : Value → Hp → Prop} {a : Option Addr} {len cap : Nat} {f : Nat → Int}

theorem But2.keep {h0 h h' : Hp} {p d : Nat} (hb : But2 h h' p d) (hs : SubH h0 h) (hp : h0 p = none) (hd : h0 d = none) : SubH h0 h' := fun x o hx => by
  rw [hb x (fun e => by subst e; rw [hp] at hx; cases hx) (fun e => by subst e; rw [hd] at hx; cases hx)]; exact hs x o hx

def NextIs (l : List (Option Int)) (i m : Int) : Prop := (m = -1 ∧ ∀ j : Nat, i ≤ j → j < l.length → l[j]? = some none) ∨ ∃ (k : Nat) (v : Int), m = k ∧ i ≤ k ∧ (∀ j : Nat, i ≤ j → j < k → l[j]? = some none) ∧ l[k]? = some (some v)

theorem next43R {p d : Nat} {l : List (Option Int)} (hT : TabAt rowC h p d l) (i : Int) (hi : i < 2 ^ 62) (hq : ∀ m, NextIs l i m → Q (iv m) h) : Ok PR 43 [ptr p, iv i] h Q :=
  next43 hT i hi (fun k v h1 h2 h3 => hq _ (.inr ⟨k, v, rfl, h1, h2, h3⟩)) (fun h1 => hq _ (.inl ⟨rfl, h1⟩))

theorem refill6 (n : Int) (hR : IntsAt .i64 h a len f) (hlen : len < 2 ^ 63) (hq : ∀ h', SubH h h' → Q (.bool true) h') : Ok PR 6 [iv n, .slice a len cap] h Q := by
  obtain ⟨B, hB⟩ : ∃ B : Nat, (B : Int) = min (max n 0) 4096 := ⟨(min (max n 0) 4096).toNat, by omega⟩
  have hB4 : B ≤ 4096 := by omega
  refine e6 rfl ?_
  conv => whnf
  refine new37 n fun p d h1 hT hb hp hd => ?_
  rw [← hB, Int.toNat_natCast] at hT
  conv => whnf
  refine clamp38 n ?_
  rw [← hB]
  conv => whnf
  refine fixed39 fun h3 hs3 => ?_
  have hT3 : TabAt rowC h3 p d (List.replicate B none) := hT.sub hs3
  conv => whnf
  refine loop_intro (σ := Nat × Hp) (fun s => [(7, .v (iv s.1)), (5, .v (ptr p)), (6, .v (iv B)), (1, .v (.slice a len cap))]) (fun _ => []) (fun s => s.2)
    (fun s => s.1 ≤ 2 ∧ TabAt rowC s.2 p d (List.replicate B none) ∧ SubH h s.2) (fun s => 2 - s.1) (0, h3) ⟨Nat.zero_le _, hT3, (hb.subH hp hd).trans hs3⟩
    (subE_cons rfl (subE_cons rfl (subE_cons rfl (subE_cons rfl subE_nil)))) subB_nil rfl ?_
  rintro ⟨r, g⟩ ⟨hr, hT, hs⟩
  dsimp only at hr hT hs ⊢
  conv => whnf
  refine cond_dec (fun hc => ?_) (fun hc => ?_)
  · have hr2 : r < 2 := by omega
    conv => whnf
    rw [← fillTo_zero] at hT
    refine loop_intro (σ := Nat × Hp) (fun s => [(8, .v (iv s.1)), (7, .v (iv r)), (5, .v (ptr p)), (6, .v (iv B)), (1, .v (.slice a len cap))]) (fun _ => []) (fun s => s.2)
      (fun s => s.1 ≤ B ∧ TabAt rowC s.2 p d (fillTo B s.1) ∧ SubH h s.2) (fun s => B - s.1) (0, g) ⟨Nat.zero_le _, hT, hs⟩
      (subE_cons rfl (subE_cons rfl (subE_cons rfl (subE_cons rfl (subE_cons rfl subE_nil))))) subB_nil rfl ?_
    clear hT hs g
    rintro ⟨i, g⟩ ⟨hi, hT, hs⟩
    dsimp only at hi hT hs ⊢
    conv => whnf
    refine cond_dec (fun hc => ?_) (fun hc => ?_)
    · have hiB : i < B := by omega
      conv => whnf
      refine cell28 i ?_
      conv => whnf
      refine put40 hT i (fun k hk1 hk2 g' hT' hb' => ?_) (fun hall => absurd (by rw [fillTo_get hiB, if_neg (by omega)]) (hall i (by rw [fillTo_len]; exact hiB)))
      obtain rfl := ff_eq hk1 hk2 (k' := i) (fun j hj => by rw [fillTo_get (by omega), if_pos hj]; simp) (by rw [fillTo_get hiB, if_neg (by omega)])
      rw [fillTo_set hiB] at hT'
      conv => whnf
      rw [show ((k : Int) != (k : Int)) = false from by simp]
      conv => whnf
      exact ⟨(k + 1, g'), ⟨hiB, hT', hb'.keep hs hp hd⟩, by simp only; omega, subE_cons (int_eq (wrap_nat (by omega)) rfl) (subE_cons rfl (subE_cons rfl (subE_cons rfl (subE_cons rfl subE_nil)))), subB_nil, rfl⟩
    · obtain rfl : i = B := by omega
      conv => whnf
      refine cell28 i ?_
      conv => whnf
      refine put40 hT i (fun k hk1 hk2 => ?_) (fun hall g2 hT2 hb2 => ?_)
      · have hk : k < i := by have := (List.getElem?_eq_some_iff.1 hk2).1; rwa [fillTo_len] at this
        rw [fillTo_get hk, if_pos hk] at hk2
        cases hk2
      have hs2 := hb2.keep hs hp hd
      conv => whnf
      refine len41 hT2 ?_
      rw [cnt_fill i (Nat.le_refl _)]
      conv => whnf
      rw [show ((i : Int) != (i : Int)) = false from by simp]
      conv => whnf
      refine loop_intro (σ := Nat × List (Option Int) × Hp) (fun s => [(13, .v (iv s.1)), (7, .v (iv r)), (5, .v (ptr p)), (6, .v (iv i)), (1, .v (.slice a len cap))]) (fun _ => []) (fun s => s.2.2)
        (fun s => s.1 ≤ len ∧ TabAt rowC s.2.2 p d s.2.1 ∧ s.2.1.length = i ∧ Own s.2.1 ∧ SubH h s.2.2) (fun s => len - s.1) (0, fillTo i i, g2) ⟨Nat.zero_le _, hT2, fillTo_len, own_fill, hs2⟩
        (subE_cons rfl (subE_cons rfl (subE_cons rfl (subE_cons rfl (subE_cons rfl subE_nil))))) subB_nil rfl ?_
      clear hT hs hT2 hs2 hb2 hall g g2
      rintro ⟨j, l, g⟩ ⟨hj, hT, hl, ho, hs⟩
      dsimp only at hj hT hl ho hs ⊢
      conv => whnf
      refine cond_dec (fun hc => ?_) (fun hc => ?_)
      · have hjl : j < len := by omega
        obtain ⟨b, off, c, ty, z, rfl, hb', hcc, _⟩ := (hR.sub hs) j hjl
        conv => whnf
        refine opt_if ⟨by omega, by omega⟩ ?_
        conv => whnf
        refine opt_ld hb' (v := iv (f j)) hcc ?_
        conv => whnf
        refine drop42 hT (f j) (fun k v he hk g' hT' hb2 => ?_) (fun _ => ?_)
        · conv => whnf
          exact ⟨(j + 1, l.set k none, g'), ⟨hjl, hT', by rw [List.length_set]; exact hl, own_set ho k, hb2.keep hs hp hd⟩, by simp only; omega, subE_cons (int_eq (wrap_nat (by omega)) rfl) (subE_cons rfl (subE_cons rfl (subE_cons rfl (subE_cons rfl subE_nil)))), subB_nil, rfl⟩
        · conv => whnf
          exact ⟨(j + 1, l, g), ⟨hjl, hT, hl, ho, hs⟩, by simp only; omega, subE_cons (int_eq (wrap_nat (by omega)) rfl) (subE_cons rfl (subE_cons rfl (subE_cons rfl (subE_cons rfl subE_nil)))), subB_nil, rfl⟩
      · conv => whnf
        refine next43R hT 0 (by decide) fun m hm => ?_
        conv => whnf
        refine loop_intro (σ := Int × List (Option Int) × Hp) (fun s => [(14, .v (iv s.1)), (7, .v (iv r)), (5, .v (ptr p)), (6, .v (iv i)), (1, .v (.slice a len cap))]) (fun _ => []) (fun s => s.2.2)
          (fun s => NextIs s.2.1 0 s.1 ∧ TabAt rowC s.2.2 p d s.2.1 ∧ s.2.1.length = i ∧ Own s.2.1 ∧ SubH h s.2.2) (fun s => cnt s.2.1) (m, l, g) ⟨hm, hT, hl, ho, hs⟩
          (subE_cons rfl (subE_cons rfl (subE_cons rfl (subE_cons rfl (subE_cons rfl subE_nil))))) subB_nil rfl ?_
        clear hT hs hl ho hm g l m hj hc j
        rintro ⟨m, l, g⟩ ⟨hm, hT, hl, ho, hs⟩
        dsimp only at hm hT hl ho hs ⊢
        conv => whnf
        rcases hm with ⟨rfl, hall⟩ | ⟨k, v, rfl, _, hfree, hkv⟩
        · obtain rfl := all_free hl (fun j hj => hall j (by omega) (by omega))
          conv => whnf
          refine len41 hT ?_
          rw [cnt_repl]
          conv => whnf
          exact ⟨(r + 1, g), ⟨hr2, hT, hs⟩, by simp only; omega, subE_cons (int_eq (wrap_nat (by omega)) rfl) (subE_cons rfl (subE_cons rfl (subE_cons rfl subE_nil))), subB_nil, rfl⟩
        · have hk : k < l.length := (List.getElem?_eq_some_iff.1 hkv).1
          obtain rfl := ho k v hkv
          have hcs := cnt_set_none hkv
          conv => whnf
          refine cond_dec (fun hc => absurd hc (by omega)) (fun _ => ?_)
          conv => whnf
          refine drop42 hT k (fun k2 v2 he hk2 g' hT' hb2 => ?_) (fun hn => by rw [got_nat, hkv] at hn; cases hn)
          obtain rfl : k = k2 := by omega
          rw [hkv] at hk2
          cases hk2
          have hs' := hb2.keep hs hp hd
          conv => whnf
          refine ⟨g', _, SubH.refl _, SubB.refl _, ?_⟩
          conv => whnf
          refine cell28 k ?_
          conv => whnf
          refine ⟨⟨SubH.refl _, SubB.refl _⟩, ?_⟩
          conv => whnf
          rw [ce_self (k : Int)]
          conv => whnf
          rw [wrap_nat (by omega)]
          refine next43R hT' ((k + 1 : Nat) : Int) (by omega) fun m hm => ?_
          conv => whnf
          refine ⟨(m, l.set k none, g'), ⟨?_, hT', by rw [List.length_set]; exact hl, own_set ho k, hs'⟩, by simp only; omega, subE_cons rfl (subE_cons rfl (subE_cons rfl (subE_cons rfl (subE_cons rfl subE_nil)))), subB_nil, rfl⟩
          have hlow : ∀ j : Nat, j < k + 1 → (l.set k none)[j]? = some none := fun j hj => by
            rcases Nat.lt_succ_iff_lt_or_eq.1 hj with hj | rfl
            · rw [List.getElem?_set_ne (by omega)]; exact hfree j (by omega) hj
            · rw [List.getElem?_set_self hk]
          rcases hm with ⟨rfl, hall⟩ | ⟨k3, v3, rfl, hle, hfree3, hkv3⟩
          · refine .inl ⟨rfl, fun j _ hj => ?_⟩
            by_cases hjk : j < k + 1
            · exact hlow j hjk
            · exact hall j (by omega) hj
          · refine .inr ⟨k3, v3, rfl, by omega, fun j _ hj => ?_, hkv3⟩
            by_cases hjk : j < k + 1
            · exact hlow j hjk
            · exact hfree3 j (by omega) hj
  · conv => whnf
    exact hq _ hs

end
end Go.Proofs.Ytkmknolkblcbeaa.V
