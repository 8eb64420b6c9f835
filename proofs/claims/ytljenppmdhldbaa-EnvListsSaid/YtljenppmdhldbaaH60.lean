/- Seat 09: lists of lists, each one by itself. -/
import Derived.Test.YtljenppmdhldbaaH59
namespace Go.Proofs.Ytljenppmdhldbaa.V
set_option linter.unusedVariables false
set_option linter.unusedSimpArgs false
set_option linter.unusedSectionVars false
set_option linter.unusedSectionVars false
open Go

/-- Behind the marks: the lists below i, and of the list i what stands below k. -/
def P1 (xs0 xs : Ls) (i k : Nat) : Prop :=
  xs.length = xs0.length ∧ ∀ j s l, xs0[j]? = some (s, l) → ∃ l', xs[j]? = some (s, l') ∧ l'.length = l.length ∧ ∀ m v, l'[m]? = some v → (j < i ∨ (j = i ∧ m < k)) → v = -1000 - (j : Int)

/-- Behind what is laid behind. -/
def P2 (ns : List Nat) (xs : Ls) (i k : Nat) : Prop :=
  xs.length = ns.length ∧ ∀ j n, ns[j]? = some n → ∃ s l', xs[j]? = some (s, l') ∧ l'.length = n + (if j < i then 64 else if j = i then k else 0) ∧ ∀ m v, l'[m]? = some v → v = if m < n then -1000 - (j : Int) else -9000 - (j : Int)

section
variable {xs0 xs : Ls} {i k : Nat}

theorem P1.zero (xs0 : Ls) : P1 xs0 xs0 0 0 := ⟨rfl, fun j s l h => ⟨l, h, rfl, fun m v _ h => by omega⟩⟩

theorem P1.at (hp : P1 xs0 xs i k) (hi : i < xs0.length) : ∃ s l l', xs0[i]? = some (s, l) ∧ xs[i]? = some (s, l') ∧ l'.length = l.length := by
  obtain ⟨l', h1, h2, _⟩ := hp.2 i xs0[i].1 xs0[i].2 (by rw [List.getElem?_eq_getElem hi])
  exact ⟨_, _, l', by rw [List.getElem?_eq_getElem hi], h1, h2⟩

theorem P1.put (hp : P1 xs0 xs i k) {s : Value} {l' : List Int} (h : xs[i]? = some (s, l')) : P1 xs0 (xs.set i (s, l'.set k (-1000 - (i : Int)))) i (k + 1) := by
  refine ⟨by rw [List.length_set]; exact hp.1, fun j s2 l hj => ?_⟩
  obtain ⟨m', h1, h2, h3⟩ := hp.2 j s2 l hj
  by_cases hji : j = i
  · subst hji
    rw [h] at h1
    injection h1 with h1
    injection h1 with e1 e2
    subst e1 e2
    refine ⟨l'.set k (-1000 - (j : Int)), by rw [List.getElem?_set_self (List.getElem?_eq_some_iff.1 h).1], by rw [List.length_set]; exact h2, fun m v hv hm => ?_⟩
    by_cases hmk : m = k
    · subst hmk
      have : m < l'.length := by have := (List.getElem?_eq_some_iff.1 hv).1; rwa [List.length_set] at this
      rw [List.getElem?_set_self this] at hv
      injection hv with hv; exact hv.symm
    · rw [List.getElem?_set_ne (fun e => hmk e.symm)] at hv
      exact h3 m v hv (by omega)
  · exact ⟨m', by rw [List.getElem?_set_ne (fun e => hji e.symm)]; exact h1, h2, fun m v hv hm => h3 m v hv (by omega)⟩

theorem P1.next (hp : P1 xs0 xs i k) (hk : ∀ s l, xs0[i]? = some (s, l) → l.length ≤ k) : P1 xs0 xs (i + 1) 0 := by
  refine ⟨hp.1, fun j s l hj => ?_⟩
  obtain ⟨l', h1, h2, h3⟩ := hp.2 j s l hj
  refine ⟨l', h1, h2, fun m v hv hm => h3 m v hv ?_⟩
  by_cases hji : j = i
  · subst hji
    have := hk s l hj
    have := (List.getElem?_eq_some_iff.1 hv).1
    omega
  · omega

theorem P1.done (hp : P1 xs0 xs xs0.length 0) : P2 (xs0.map (·.2.length)) xs 0 0 := by
  refine ⟨by rw [List.length_map]; exact hp.1, fun j n hj => ?_⟩
  rw [List.getElem?_map] at hj
  obtain ⟨x, hx, e⟩ := Option.map_eq_some_iff.1 hj
  obtain ⟨l', h1, h2, h3⟩ := hp.2 j x.1 x.2 hx
  have hj2 := (List.getElem?_eq_some_iff.1 hx).1
  refine ⟨x.1, l', h1, ?_, fun m v hv => ?_⟩
  · rw [if_neg (by omega)]; split <;> omega
  · have := (List.getElem?_eq_some_iff.1 hv).1
    rw [if_pos (by omega)]
    exact h3 m v hv (.inl hj2)

variable {ns : List Nat}

theorem P2.at (hp : P2 ns xs i k) (hi : i < ns.length) : ∃ s l', xs[i]? = some (s, l') ∧ l'.length = ns[i] + k := by
  obtain ⟨s, l', h1, h2, _⟩ := hp.2 i ns[i] (List.getElem?_eq_getElem hi)
  exact ⟨s, l', h1, by rw [if_neg (by omega), if_pos rfl] at h2; exact h2⟩

theorem P2.put (hp : P2 ns xs i k) {s s' : Value} {l' : List Int} (h : xs[i]? = some (s, l')) : P2 ns (xs.set i (s', l' ++ [-9000 - (i : Int)])) i (k + 1) := by
  refine ⟨by rw [List.length_set]; exact hp.1, fun j n hj => ?_⟩
  obtain ⟨s2, m', h1, h2, h3⟩ := hp.2 j n hj
  by_cases hji : j = i
  · subst hji
    rw [h] at h1
    injection h1 with h1
    injection h1 with e1 e2
    subst e1 e2
    rw [if_neg (by omega), if_pos rfl] at h2
    refine ⟨s', _, by rw [List.getElem?_set_self (List.getElem?_eq_some_iff.1 h).1], by rw [if_neg (by omega), if_pos rfl, List.length_append]; simp; omega, fun m v hv => ?_⟩
    by_cases hm : m < l'.length
    · rw [List.getElem?_append_left hm] at hv
      exact h3 m v hv
    · have hm2 : m = l'.length := by have := (List.getElem?_eq_some_iff.1 hv).1; simp at this; omega
      subst hm2
      rw [List.getElem?_append_right (Nat.le_refl _), Nat.sub_self] at hv
      injection hv with hv
      rw [if_neg (by omega)]; exact hv.symm
  · refine ⟨s2, m', by rw [List.getElem?_set_ne (fun e => hji e.symm)]; exact h1, ?_, h3⟩
    rw [h2, if_neg hji, if_neg hji]

theorem P2.next (hp : P2 ns xs i 64) : P2 ns xs (i + 1) 0 := by
  refine ⟨hp.1, fun j n hj => ?_⟩
  obtain ⟨s, l', h1, h2, h3⟩ := hp.2 j n hj
  refine ⟨s, l', h1, ?_, h3⟩
  rw [h2]
  by_cases h : j < i
  · rw [if_pos h, if_pos (by omega)]
  · by_cases h4 : j = i
    · rw [if_neg h, if_pos h4, if_pos (by omega)]
    · rw [if_neg h, if_neg h4, if_neg (by omega)]; split <;> rfl
end
end Go.Proofs.Ytljenppmdhldbaa.V
