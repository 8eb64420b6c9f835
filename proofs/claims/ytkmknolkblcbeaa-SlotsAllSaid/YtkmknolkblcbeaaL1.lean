/- Two lists of pairs that are each other's way back. -/
import Derived.Test.YtkmknolkblcbeaaVC
namespace Go.Proofs.Ytkmknolkblcbeaa.V
set_option linter.unusedSectionVars false
set_option linter.unusedVariables false
set_option linter.unusedSimpArgs false
set_option linter.unusedSectionVars false

structure Bi {α β : Type} [DecidableEq α] [DecidableEq β] (L : List (α × β)) (R : List (β × α)) : Prop where
  inv : ∀ a b, aget L a = some b ↔ aget R b = some a
  nl : (keys L).Nodup
  nr : (keys R).Nodup
  len : L.length = R.length

section
variable {α β : Type} [DecidableEq α] [DecidableEq β] {L : List (α × β)} {R : List (β × α)}

theorem Bi.nil : Bi ([] : List (α × β)) ([] : List (β × α)) := ⟨fun a b => by simp [aget], List.nodup_nil, List.nodup_nil, rfl⟩

theorem keys_append (L : List (α × β)) (a : α) (b : β) : keys (L ++ [(a, b)]) = keys L ++ [a] := by simp [keys]

theorem nodup_snoc {l : List α} {a : α} (hl : l.Nodup) (ha : a ∉ l) : (l ++ [a]).Nodup := by
  rw [List.nodup_append]
  exact ⟨hl, by simp, fun x hx y hy e => ha (by simp at hy; subst hy; subst e; exact hx)⟩

theorem Bi.tie (hB : Bi L R) {a : α} {b : β} (h1 : aget L a = none) (h2 : aget R b = none) : Bi (aput L a b) (aput R b a) := by
  refine ⟨fun x y => ?_, ?_, ?_, ?_⟩
  · rw [aget_aput, aget_aput]
    by_cases hx : x = a <;> by_cases hy : y = b
    · subst hx; subst hy; simp
    · subst hx
      rw [if_pos rfl, if_neg hy]
      constructor
      · intro h; cases h; exact absurd rfl hy
      · intro h; rw [← hB.inv, h1] at h; cases h
    · subst hy
      rw [if_neg hx, if_pos rfl]
      constructor
      · intro h; rw [hB.inv, h2] at h; cases h
      · intro h; cases h; exact absurd rfl hx
    · rw [if_neg hx, if_neg hy]; exact hB.inv x y
  · rw [aput_new h1, keys_append]; exact nodup_snoc hB.nl (aget_none.1 h1)
  · rw [aput_new h2, keys_append]; exact nodup_snoc hB.nr (aget_none.1 h2)
  · rw [aput_new h1, aput_new h2]; simp [hB.len]

theorem length_adel {a : α} : ∀ {L : List (α × β)} {b : β}, aget L a = some b → (adel L a).length + 1 = L.length
  | (k, v) :: L, b, h => by
    simp only [aget] at h
    simp only [adel]
    split
    · rfl
    · rename_i hc; rw [if_neg hc] at h; simp [length_adel h]

theorem Bi.cut (hB : Bi L R) {a : α} {b : β} (h1 : aget L a = some b) : Bi (adel L a) (adel R b) := by
  have h2 := (hB.inv a b).1 h1
  refine ⟨fun x y => ?_, ?_, ?_, ?_⟩
  · rw [aget_adel hB.nl, aget_adel hB.nr]
    by_cases hx : x = a <;> by_cases hy : y = b
    · rw [if_pos hx, if_pos hy]; simp
    · subst hx
      rw [if_pos rfl, if_neg hy]
      constructor
      · intro h; cases h
      · intro h; rw [← hB.inv, h1] at h; cases h; exact absurd rfl hy
    · subst hy
      rw [if_neg hx, if_pos rfl]
      constructor
      · intro h; rw [hB.inv, h2] at h; cases h; exact absurd rfl hx
      · intro h; cases h
    · rw [if_neg hx, if_neg hy]; exact hB.inv x y
  · rw [keys_del]; exact hB.nl.erase _
  · rw [keys_del]; exact hB.nr.erase _
  · have e1 := length_adel h1
    have e2 := length_adel h2
    have := hB.len
    omega

theorem mem_keys {a : α} : a ∈ keys L ↔ ∃ b, aget L a = some b := by
  cases h : aget L a with
  | none => simp [aget_none.1 h]
  | some b =>
    have : a ∈ keys L := Classical.byContradiction fun hn => by rw [aget_none.2 hn] at h; cases h
    simp [this]

/-- The distinct bound ones among the first k. -/
def firsts (L : List (α × β)) (g : Nat → α) : Nat → List α
  | 0 => []
  | k + 1 => if aget L (g k) ≠ none ∧ ∀ j, j < k → g j ≠ g k then firsts L g k ++ [g k] else firsts L g k

theorem mem_firsts {g : Nat → α} {x : α} : ∀ k, x ∈ firsts L g k ↔ aget L x ≠ none ∧ ∃ j, j < k ∧ g j = x
  | 0 => by simp [firsts]
  | k + 1 => by
    simp only [firsts]
    split
    · rename_i hc
      rw [List.mem_append, mem_firsts k]
      constructor
      · rintro (⟨h1, j, hj, rfl⟩ | h)
        · exact ⟨h1, j, by omega, rfl⟩
        · simp at h; subst h; exact ⟨hc.1, k, by omega, rfl⟩
      · rintro ⟨h1, j, hj, rfl⟩
        rcases Nat.lt_succ_iff_lt_or_eq.1 hj with hj | rfl
        · exact .inl ⟨h1, j, hj, rfl⟩
        · exact .inr (by simp)
    · rename_i hc
      rw [mem_firsts k]
      constructor
      · rintro ⟨h1, j, hj, rfl⟩; exact ⟨h1, j, by omega, rfl⟩
      · rintro ⟨h1, j, hj, rfl⟩
        rcases Nat.lt_succ_iff_lt_or_eq.1 hj with hj | rfl
        · exact ⟨h1, j, hj, rfl⟩
        · refine ⟨h1, Classical.byContradiction fun hn => hc ⟨h1, fun i hi he => hn ⟨i, hi, he⟩⟩⟩

theorem firsts_nodup {g : Nat → α} : ∀ k, (firsts L g k).Nodup
  | 0 => List.nodup_nil
  | k + 1 => by
    simp only [firsts]
    split
    · rename_i hc
      refine nodup_snoc (firsts_nodup k) fun hm => ?_
      obtain ⟨_, j, hj, he⟩ := (mem_firsts k).1 hm
      exact hc.2 j hj he
    · exact firsts_nodup k

theorem firsts_length {g : Nat → α} {n : Nat} (hn : (keys L).Nodup) (hk : ∀ a ∈ keys L, ∃ j, j < n ∧ g j = a) : (firsts L g n).length = L.length := by
  have : (firsts L g n).Perm (keys L) := (List.perm_ext_iff_of_nodup (firsts_nodup n) hn).2 fun a => by
    rw [mem_firsts]
    constructor
    · rintro ⟨h1, _⟩
      exact Classical.byContradiction fun hm => h1 (aget_none.2 hm)
    · intro hm
      exact ⟨fun he => aget_none.1 he hm, hk a hm⟩
  rw [this.length_eq]; simp [keys]

theorem firsts_le {g : Nat → α} : ∀ k, (firsts L g k).length ≤ k
  | 0 => Nat.le_refl _
  | k + 1 => by
    have := firsts_le (g := g) k
    simp only [firsts]
    split
    · simp; omega
    · omega

theorem keys_aput {a : α} {b : β} {x : α} (h : x ∈ keys (aput L a b)) : x = a ∨ x ∈ keys L := by
  rw [mem_keys] at h ⊢
  obtain ⟨y, hy⟩ := h
  rw [aget_aput] at hy
  split at hy
  · rename_i e; exact .inl e
  · exact .inr ⟨y, hy⟩

theorem keys_adel {a : α} {x : α} (h : x ∈ keys (adel L a)) : x ∈ keys L := by
  rw [keys_del] at h; exact List.mem_of_mem_erase h

end
end Go.Proofs.Ytkmknolkblcbeaa.V
