/- Turning a list of pairs. -/
import Derived.Test.YtkmknolkblcbeaaL1
namespace Go.Proofs.Ytkmknolkblcbeaa.V
set_option linter.unusedSectionVars false

section
variable {α β : Type} [DecidableEq α] [DecidableEq β]

theorem mem_aget {L : List (α × β)} (hn : (keys L).Nodup) {a : α} {b : β} (h : (a, b) ∈ L) : aget L a = some b := by
  induction L with
  | nil => cases h
  | cons p L ih =>
    obtain ⟨k, v⟩ := p
    simp only [keys, List.map_cons, List.nodup_cons] at hn
    simp only [aget]
    rcases List.mem_cons.1 h with h | h
    · cases h; rw [if_pos rfl]
    · have : a ≠ k := fun e => hn.1 (by rw [← e]; exact List.mem_map.2 ⟨(a, b), h, rfl⟩)
      rw [if_neg this]; exact ih hn.2 h

theorem aget_iff {L : List (α × β)} (hn : (keys L).Nodup) (a : α) (b : β) : aget L a = some b ↔ (a, b) ∈ L := ⟨aget_mem, mem_aget hn⟩

def vals2 (L : List (α × β)) : List β := L.map (·.2)

theorem vals_nodup {L : List (α × β)} (hn : (keys L).Nodup) (hi : ∀ a a' b, (a, b) ∈ L → (a', b) ∈ L → a = a') : (vals2 L).Nodup := by
  induction L with
  | nil => exact List.nodup_nil
  | cons p L ih =>
    obtain ⟨k, v⟩ := p
    simp only [keys, List.map_cons, List.nodup_cons] at hn
    simp only [vals2, List.map_cons, List.nodup_cons]
    refine ⟨fun hm => ?_, ih hn.2 fun a a' b h1 h2 => hi a a' b (List.mem_cons_of_mem _ h1) (List.mem_cons_of_mem _ h2)⟩
    obtain ⟨⟨a, b⟩, h1, h2⟩ := List.mem_map.1 hm
    simp only at h2
    subst h2
    have := hi a k b (List.mem_cons_of_mem _ h1) (by simp)
    subst this
    exact hn.1 (List.mem_map.2 ⟨_, h1, rfl⟩)

def swp (D : List (α × β)) : List (β × α) := D.map fun p => (p.2, p.1)

theorem keys_swp (D : List (α × β)) : keys (swp D) = vals2 D := by simp [keys, swp, vals2]

theorem mem_swp {D : List (α × β)} {a : α} {b : β} : (b, a) ∈ swp D ↔ (a, b) ∈ D := by
  simp only [swp, List.mem_map]
  constructor
  · rintro ⟨⟨x, y⟩, h, e⟩; cases e; exact h
  · intro h; exact ⟨(a, b), h, rfl⟩

theorem Bi.vals {L : List (α × β)} {R : List (β × α)} (hB : Bi L R) : (vals2 L).Nodup :=
  vals_nodup hB.nl fun a a' b h1 h2 => by
    have e1 := (hB.inv a b).1 (mem_aget hB.nl h1)
    have e2 := (hB.inv a' b).1 (mem_aget hB.nl h2)
    rw [e1] at e2; exact Option.some.inj e2

/-- What has been turned so far. -/
structure Turning (L D todo : List (α × β)) : Prop where
  perm : (D ++ todo).Perm L

theorem Turning.keysD {L D todo : List (α × β)} (h : Turning L D todo) (hn : (keys L).Nodup) : (keys (D ++ todo)).Nodup := (h.perm.map Prod.fst).nodup_iff.2 hn

theorem Turning.valsD {L D todo : List (α × β)} (h : Turning L D todo) (hn : (vals2 L).Nodup) : (vals2 (D ++ todo)).Nodup := (h.perm.map Prod.snd).nodup_iff.2 hn

theorem Turning.step {L D pre post : List (α × β)} {a : α} {b : β} (h : Turning L D (pre ++ (a, b) :: post)) : Turning L (D ++ [(a, b)]) (pre ++ post) := by
  refine ⟨List.Perm.trans ?_ h.perm⟩
  rw [List.append_assoc]
  refine List.Perm.append_left D ?_
  exact (List.perm_middle (l₁ := pre) (a := (a, b)) (l₂ := post)).symm

theorem Turning.new {L D pre post : List (α × β)} {a : α} {b : β} (h : Turning L D (pre ++ (a, b) :: post)) (hn : (keys L).Nodup) (hv : (vals2 L).Nodup) :
    aput D a b = D ++ [(a, b)] ∧ aput (swp D) b a = swp (D ++ [(a, b)]) := by
  have h1 := h.keysD hn
  have h2 := h.valsD hv
  constructor
  · apply aput_new
    rw [aget_none]
    intro hm
    simp only [keys, List.map_append, List.map_cons] at h1 hm
    rw [List.nodup_append] at h1
    exact h1.2.2 a hm a (by simp) rfl
  · rw [aput_new]
    · simp [swp]
    · rw [aget_none, keys_swp]
      intro hm
      simp only [vals2, List.map_append, List.map_cons] at h2 hm
      rw [List.nodup_append] at h2
      exact h2.2.2 b hm b (by simp) rfl

theorem Turning.done {L D : List (α × β)} {R : List (β × α)} (h : Turning L D []) (hB : Bi L R) : Bi (swp D) D ∧ (∀ a b, aget D a = some b ↔ aget L a = some b) ∧ (swp D).length = L.length := by
  have hp := h.perm
  rw [List.append_nil] at hp
  have hk : (keys D).Nodup := (hp.map Prod.fst).nodup_iff.2 hB.nl
  have hv : (vals2 D).Nodup := (hp.map Prod.snd).nodup_iff.2 hB.vals
  refine ⟨⟨fun b a => ?_, by rw [keys_swp]; exact hv, hk, by simp [swp]⟩, fun a b => ?_, by simp [swp, hp.length_eq]⟩
  · rw [aget_iff (by rw [keys_swp]; exact hv), aget_iff hk, mem_swp]
  · rw [aget_iff hk, aget_iff hB.nl, hp.mem_iff]

end
end Go.Proofs.Ytkmknolkblcbeaa.V
