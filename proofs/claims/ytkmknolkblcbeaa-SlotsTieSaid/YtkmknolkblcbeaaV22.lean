/- Ranging over a map that does not turn. -/
import Derived.Test.YtkmknolkblcbeaaV21
namespace Go.Proofs.Ytkmknolkblcbeaa.V
set_option linter.unusedSectionVars false
set_option linter.unusedVariables false
set_option linter.unusedSimpArgs false
open Go

section
variable {α β : Type} {ek : α → Value} {ev : β → Value}

/-- An iterator over the map m: what is still to come, and where it stands. -/
def IterAt (ek : α → Value) (ev : β → Value) (h : Hp) (it m : Nat) (todo : List (α × β)) (cur : Option (α × β)) : Prop :=
  ∃ es clock seen, h it = some (.mapIter (some m) clock seen clock) ∧ h m = some (.map es clock) ∧ (∀ e ∈ es.toList, e.born < clock) ∧ (es.toList.map (·.born)).Nodup ∧
    (es.toList.filter (fun e => !seen.contains e.born)).map (fun e => (e.key, e.val)) = todo.map (fun p => (ek p.1, ev p.2)) ∧
    (match cur with | none => seen = #[] | some p => ∃ e ∈ es.toList, seen.back? = some e.born ∧ e.key = ek p.1 ∧ e.val = ev p.2)

theorem IterAt.same {h h' : Hp} {it m : Nat} {todo : List (α × β)} {cur : Option (α × β)} (hi : IterAt ek ev h it m todo cur) (h1 : h' it = h it) (h2 : h' m = h m) : IterAt ek ev h' it m todo cur := by
  obtain ⟨es, clock, seen, a, b, c⟩ := hi
  exact ⟨es, clock, seen, by rw [h1]; exact a, by rw [h2]; exact b, c⟩

theorem rng_step {h : Hp} {m : Nat} {L : List (α × β)} {K : Ent → Hp → Prop} (hm : MapIs ek ev (h m) L) (hk : ∀ it h', h it = none → (∀ x, x ≠ it → h' x = h x) → IterAt ek ev h' it m L none → K (.v (.pointer (some ⟨it, 0, none⟩))) h') :
    rngK h (.v (.map (some m))) K := by
  obtain ⟨es, c, ho, hes, hbl, hbn⟩ := hm
  unfold rngK
  simp only [ho]
  refine .intro fun b hb => ?_
  have hne : m ≠ b := fun e => by subst e; rw [ho] at hb; cases hb
  refine hk b _ hb (fun x hx => upd_other hx) ⟨es, c, #[], upd_same _ _ _, by rw [upd_other hne]; exact ho, hbl, hbn, ?_, rfl⟩
  rw [← hes]
  congr 1
  rw [List.filter_eq_self]
  intro e he
  simp

theorem filter_push {es : List MapEntry} (hn : (es.map (·.born)).Nodup) {seen : Array Nat} {pre post : List MapEntry} {e : MapEntry} (hf : es.filter (fun e => !seen.contains e.born) = pre ++ e :: post) :
    es.filter (fun x => !(seen.push e.born).contains x.born) = pre ++ post := by
  have h1 : es.filter (fun x => !(seen.push e.born).contains x.born) = (es.filter (fun x => !seen.contains x.born)).filter (fun x => x.born != e.born) := by
    rw [List.filter_filter]
    congr 1
    funext x
    simp only [Array.contains_push, Bool.not_or]
    rw [Bool.and_comm]
    congr 1
  rw [h1, hf]
  have hnd : ((pre ++ e :: post).map (·.born)).Nodup := by rw [← hf]; exact hn.sublist ((List.filter_sublist).map _)
  simp only [List.map_append, List.map_cons] at hnd
  rw [List.nodup_append] at hnd
  obtain ⟨_, hn2, hn3⟩ := hnd
  rw [List.nodup_cons] at hn2
  rw [List.filter_append, List.filter_cons]
  have hp : pre.filter (fun x => x.born != e.born) = pre := List.filter_eq_self.2 fun x hx => by
    have := hn3 x.born (List.mem_map_of_mem hx) e.born (by simp)
    simpa using this
  have hq : post.filter (fun x => x.born != e.born) = post := List.filter_eq_self.2 fun x hx => by
    have : x.born ≠ e.born := fun he => hn2.1 (by rw [← he]; exact List.mem_map_of_mem hx)
    simpa using this
  rw [hp, hq]
  simp

theorem nxt_step {h : Hp} {it m : Nat} {todo : List (α × β)} {cur : Option (α × β)} {K : Ent → Hp → Prop} (hi : IterAt ek ev h it m todo cur)
    (hsome : ∀ pre a v post, todo = pre ++ (a, v) :: post → ∀ h', (∀ x, x ≠ it → h' x = h x) → IterAt ek ev h' it m (pre ++ post) (some (a, v)) → K (.v (.tuple #[.bool true, ek a, ev v])) h')
    (hnone : todo = [] → K (.v (.tuple #[.bool false])) h) : nxtK h (.v (.pointer (some ⟨it, 0, none⟩))) K := by
  obtain ⟨es, clock, seen, h1, h2, hbl, hbn, hf, hcur⟩ := hi
  unfold nxtK
  simp only [h1, h2]
  have hne : m ≠ it := fun e => by subst e; rw [h1] at h2; cases h2
  refine ⟨?_, fun e he hse => ?_, fun hall => ?_⟩
  · by_cases hemp : es.isEmpty = true
    · simp [hemp]
    · have : es.all (·.born ≥ clock) = false := by
        rw [Bool.eq_false_iff]
        intro hall
        rw [Array.all_eq_true] at hall
        rw [Array.isEmpty_iff_size_eq_zero] at hemp
        have h3 := hall 0 (by omega)
        have h4 := hbl es[0] (by simp)
        simp at h3
        omega
      rw [this]; simp
  · have hin : e ∈ es.toList.filter (fun e => !seen.contains e.born) := List.mem_filter.2 ⟨he, by rw [hse]; rfl⟩
    obtain ⟨pre, post, hpp⟩ := List.append_of_mem hin
    rw [hpp] at hf
    simp only [List.map_append, List.map_cons] at hf
    obtain ⟨tp, tr, ht, htp, htr⟩ := List.append_eq_map_iff.1 hf
    obtain ⟨⟨a, v⟩, tq, htq, he1, he2⟩ := List.map_eq_cons_iff.1 htr
    simp only [Prod.mk.injEq] at he1
    rw [← he1.1, ← he1.2]
    refine hsome tp a v tq (by rw [ht, htq]) _ (fun x hx => upd_other hx) ⟨es, clock, seen.push e.born, upd_same _ _ _, by rw [upd_other hne]; exact h2, hbl, hbn, ?_, e, he, by simp, he1.1.symm, he1.2.symm⟩
    rw [filter_push hbn hpp, List.map_append, List.map_append, htp, he2]
  · refine hnone ?_
    have : es.toList.filter (fun e => !seen.contains e.born) = [] := List.filter_eq_nil_iff.2 fun e he hse => by
      have h3 := hall e he (by simpa using hse)
      have h4 := hbl e he
      omega
    rw [this] at hf
    cases todo with
    | nil => rfl
    | cons => simp at hf

theorem ent_step {h : Hp} {it m : Nat} {todo : List (α × β)} {a : α} {v : β} {K : Ent → Prop} (hi : IterAt ek ev h it m todo (some (a, v))) (hk : K (.v (.tuple #[ek a, ev v]))) :
    optK (pEnt h (.v (.pointer (some ⟨it, 0, none⟩)))) K := by
  obtain ⟨es, clock, seen, h1, h2, hbl, hbn, hf, e, he, hb, e1, e2⟩ := hi
  have hfind : es.find? (fun x => x.born == e.born) = some e := by
    rw [← Array.find?_toList]
    clear hf h2 hbl
    generalize es.toList = l at he hbn
    induction l with
    | nil => cases he
    | cons y l ih =>
      rw [List.find?_cons]
      simp only [List.map_cons, List.nodup_cons] at hbn
      rcases List.mem_cons.1 he with rfl | he
      · simp
      · have : (y.born == e.born) = false := by
          simp only [beq_eq_false_iff_ne, ne_eq]
          exact fun hy => hbn.1 (by rw [hy]; exact List.mem_map_of_mem he)
        rw [this]
        exact ih he hbn.2
  simp only [pEnt, h1, h2, hb, if_true, hfind, optK, e1, e2]
  exact hk

end
end Go.Proofs.Ytkmknolkblcbeaa.V
