/- Maps as lists of pairs. -/
import Derived.Test.YtkmknolkblcbeaaV16
namespace Go.Proofs.Ytkmknolkblcbeaa.V
set_option linter.unusedSectionVars false
set_option linter.unusedVariables false
set_option linter.unusedSimpArgs false
open Go

section
variable {α β : Type} [DecidableEq α]

def aget : List (α × β) → α → Option β
  | [], _ => none
  | (k, v) :: r, a => if a = k then some v else aget r a

def aput : List (α × β) → α → β → List (α × β)
  | [], a, b => [(a, b)]
  | (k, v) :: r, a, b => if a = k then (a, b) :: r else (k, v) :: aput r a b

def adel : List (α × β) → α → List (α × β)
  | [], _ => []
  | (k, v) :: r, a => if a = k then r else (k, v) :: adel r a

/-- Keys that compare as their data do. -/
structure KeyOk (q : EqT) (ek : α → Value) : Prop where
  eq : ∀ h a b, eqV h q (ek a) (ek b) = some (decide (a = b))
  bits : ∀ a, Instr.sameBits 10000 (ek a) (ek a) = true

def MapIs (ek : α → Value) (ev : β → Value) (o : Option Obj) (L : List (α × β)) : Prop :=
  ∃ es c, o = some (.map es c) ∧ es.toList.map (fun e => (e.key, e.val)) = L.map (fun p => (ek p.1, ev p.2)) ∧ (∀ e ∈ es.toList, e.born < c) ∧ (es.toList.map (·.born)).Nodup

theorem MapIs.nil (ek : α → Value) (ev : β → Value) (c : Nat) : MapIs ek ev (some (.map #[] c)) [] := ⟨#[], c, rfl, rfl, by simp, by simp⟩

variable {q : EqT} {ek : α → Value} {ev : β → Value} {h : Hp}

theorem find_is (hk : KeyOk q ek) (a : α) : ∀ {es : List MapEntry} {L : List (α × β)}, es.map (fun e => (e.key, e.val)) = L.map (fun p => (ek p.1, ev p.2)) → find h q (ek a) es = some ((aget L a).map ev)
  | [], [], _ => rfl
  | [], _ :: _, h => by cases h
  | _ :: _, [], h => by cases h
  | e :: es, (k, v) :: L, hm => by
    simp only [List.map_cons, List.cons.injEq, Prod.mk.injEq] at hm
    obtain ⟨⟨h1, h2⟩, h3⟩ := hm
    simp only [find, h1, hk.eq, aget]
    by_cases hc : a = k
    · simp [hc, h2]
    · simp only [hc, decide_false, if_false]; exact find_is hk a h3

theorem repl_is (hk : KeyOk q ek) (a : α) (b : β) : ∀ {es : List MapEntry} {L : List (α × β)}, es.map (fun e => (e.key, e.val)) = L.map (fun p => (ek p.1, ev p.2)) →
    (∃ l, repl q h (ek a) (ev b) es = some (some l) ∧ l.map (fun e => (e.key, e.val)) = (aput L a b).map (fun p => (ek p.1, ev p.2)) ∧ l.map (·.born) = es.map (·.born)) ∨
    (repl q h (ek a) (ev b) es = some none ∧ aput L a b = L ++ [(a, b)])
  | [], [], _ => .inr ⟨rfl, rfl⟩
  | [], _ :: _, h => by cases h
  | _ :: _, [], h => by cases h
  | e :: es, (k, v) :: L, hm => by
    simp only [List.map_cons, List.cons.injEq, Prod.mk.injEq] at hm
    obtain ⟨⟨h1, h2⟩, h3⟩ := hm
    simp only [repl, h1, hk.eq, aput]
    by_cases hc : a = k
    · subst hc
      simp [hk.bits, h3]
    · simp only [hc, decide_false, if_false]
      rcases repl_is hk a b h3 with ⟨l, hl, hl2, hl3⟩ | ⟨hl, hl2⟩
      · exact .inl ⟨e :: l, by rw [hl], by simp [hl2, h1, h2], by simp [hl3]⟩
      · exact .inr ⟨by rw [hl], by rw [hl2]; rfl⟩

theorem strk_is (hk : KeyOk q ek) (a : α) : ∀ {es : List MapEntry} {L : List (α × β)}, es.map (fun e => (e.key, e.val)) = L.map (fun p => (ek p.1, ev p.2)) →
    (∃ l, strk q h (ek a) es = some (some l) ∧ l.map (fun e => (e.key, e.val)) = (adel L a).map (fun p => (ek p.1, ev p.2)) ∧ List.Sublist l es) ∨
    (strk q h (ek a) es = some none ∧ adel L a = L)
  | [], [], _ => .inr ⟨rfl, rfl⟩
  | [], _ :: _, h => by cases h
  | _ :: _, [], h => by cases h
  | e :: es, (k, v) :: L, hm => by
    simp only [List.map_cons, List.cons.injEq, Prod.mk.injEq] at hm
    obtain ⟨⟨h1, h2⟩, h3⟩ := hm
    simp only [strk, h1, hk.eq, adel]
    by_cases hc : a = k
    · subst hc
      simp [h3]
    · simp only [hc, decide_false, if_false]
      rcases strk_is hk a h3 with ⟨l, hl, hl2, hl3⟩ | ⟨hl, hl2⟩
      · exact .inl ⟨e :: l, by rw [hl], by simp [hl2, h1, h2], hl3.cons_cons e⟩
      · exact .inr ⟨by rw [hl], by rw [hl2]⟩

theorem look_step {r : Nat} {L : List (α × β)} {z : Value} {K : Ent → Prop} (hm : MapIs ek ev (h r) L) (hk : KeyOk q ek) (a : α)
    (hK : K (.v (.tuple #[((aget L a).map ev).getD z, .bool (aget L a).isSome]))) : optK (pLook q z true h (.v (.map (some r))) (.v (ek a))) K := by
  obtain ⟨es, c, ho, hes, hbl, hbn⟩ := hm
  have h1 : (eqV h q (ek a) (ek a)).isNone = false := by rw [hk.eq]; rfl
  simp only [pLook, ho, mapO, h1, find_is hk a hes, Bool.false_eq_true, if_false, if_true]
  cases hg : aget L a <;> rw [hg] at hK <;> exact hK

theorem look_none {r : Nat} {L : List (α × β)} {z : Value} {K : Ent → Prop} (hm : MapIs ek ev (h r) L) (hk : KeyOk q ek) {a : α} (hg : aget L a = none)
    (hK : K (.v (.tuple #[z, .bool false]))) : optK (pLook q z true h (.v (.map (some r))) (.v (ek a))) K := look_step hm hk a (by rw [hg]; exact hK)

theorem look_some {r : Nat} {L : List (α × β)} {z : Value} {K : Ent → Prop} (hm : MapIs ek ev (h r) L) (hk : KeyOk q ek) {a : α} {b : β} (hg : aget L a = some b)
    (hK : K (.v (.tuple #[ev b, .bool true]))) : optK (pLook q z true h (.v (.map (some r))) (.v (ek a))) K := look_step hm hk a (by rw [hg]; exact hK)

theorem look1_step {r : Nat} {L : List (α × β)} {z : Value} {K : Ent → Prop} (hm : MapIs ek ev (h r) L) (hk : KeyOk q ek) (a : α)
    (hK : K (.v (((aget L a).map ev).getD z))) : optK (pLook q z false h (.v (.map (some r))) (.v (ek a))) K := by
  obtain ⟨es, c, ho, hes, hbl, hbn⟩ := hm
  have h1 : (eqV h q (ek a) (ek a)).isNone = false := by rw [hk.eq]; rfl
  simp only [pLook, ho, mapO, h1, find_is hk a hes, Bool.false_eq_true, if_false]
  cases hg : aget L a <;> rw [hg] at hK <;> exact hK

omit [DecidableEq α] in
theorem len_step {r : Nat} {L : List (α × β)} {K : Ent → Prop} (hm : MapIs ek ev (h r) L) (hK : K (.v (.int .i64 L.length))) : optK (pLenM h (.v (.map (some r)))) K := by
  obtain ⟨es, c, ho, hes, hbl, hbn⟩ := hm
  have : es.toList.length = L.length := by rw [← List.length_map (f := fun e => (e.key, e.val)), hes, List.length_map]
  simp only [pLenM, ho, mapO, this]
  exact hK

theorem mup_step {r : Nat} {L : List (α × β)} {K : Ent → Hp → Prop} (hm : MapIs ek ev (h r) L) (hk : KeyOk q ek) (a : α) (b : β)
    (hK : ∀ o, MapIs ek ev (some o) (aput L a b) → K undefE (upd h r o)) : mupK q h (.v (.map (some r))) (.v (ek a)) (.v (ev b)) K := by
  obtain ⟨es, c, ho, hes, hbl, hbn⟩ := hm
  unfold mupK
  refine ⟨by rw [hk.eq]; rfl, ?_⟩
  simp only [ho]
  rcases repl_is (h := h) hk a b hes with ⟨l, hl, hl2, hl3⟩ | ⟨hl, hl2⟩
  · rw [hl]
    refine hK _ ⟨l.toArray, c, rfl, by simpa using hl2, fun e he => ?_, by simpa [hl3] using hbn⟩
    have : e.born ∈ es.toList.map (·.born) := by rw [← hl3]; exact List.mem_map_of_mem (by simpa using he)
    obtain ⟨e', h1, h2⟩ := List.mem_map.1 this
    rw [← h2]; exact hbl e' h1
  · rw [hl]
    refine hK _ ⟨_, _, rfl, by rw [hl2]; simp [hes], fun e he => ?_, ?_⟩
    · simp only [Array.toList_push, List.mem_append, List.mem_singleton] at he
      rcases he with he | rfl
      · have := hbl e he; omega
      · exact Nat.lt_succ_self c
    · simp only [Array.toList_push, List.map_append, List.map_cons, List.map_nil]
      rw [List.nodup_append]
      refine ⟨hbn, by simp, fun x hx y hy e => ?_⟩
      simp only [List.mem_singleton] at hy
      obtain ⟨e', h1, h2⟩ := List.mem_map.1 hx
      have := hbl e' h1
      omega

theorem mdel_step {r : Nat} {L : List (α × β)} {K : Ent → Hp → Prop} (hm : MapIs ek ev (h r) L) (hk : KeyOk q ek) (a : α)
    (hK : ∀ o, MapIs ek ev (some o) (adel L a) → K (.v (.tuple #[])) (upd h r o)) : mdelK q h (.v (.map (some r))) (.v (ek a)) K := by
  obtain ⟨es, c, ho, hes, hbl, hbn⟩ := hm
  unfold mdelK
  refine ⟨by rw [hk.eq]; rfl, ?_⟩
  simp only [ho]
  rcases strk_is (h := h) hk a hes with ⟨l, hl, hl2, hl3⟩ | ⟨hl, hl2⟩
  · rw [hl]; exact hK _ ⟨l.toArray, c, rfl, by simpa using hl2, fun e he => hbl e (hl3.subset (by simpa using he)), hbn.sublist (by simpa using hl3.map _)⟩
  · rw [hl]; exact hK _ ⟨es, c, rfl, by rw [hl2]; exact hes, hbl, hbn⟩

end

/-! ### Lists of pairs -/
section
variable {α β : Type} [DecidableEq α]

theorem aget_aput (L : List (α × β)) (a : α) (b : β) (x : α) : aget (aput L a b) x = if x = a then some b else aget L x := by
  induction L with
  | nil => simp [aput, aget]
  | cons p L ih =>
    obtain ⟨k, v⟩ := p
    simp only [aput]
    by_cases hc : a = k
    · subst hc; simp only [if_true, aget]; split <;> rfl
    · simp only [hc, if_false, aget, ih]
      by_cases hx : x = k
      · subst hx; rw [if_pos rfl, if_neg (fun e => hc e.symm), if_pos rfl]
      · rw [if_neg hx, if_neg hx]

def keys (L : List (α × β)) : List α := L.map (·.1)

theorem aget_none {L : List (α × β)} {a : α} : aget L a = none ↔ a ∉ keys L := by
  induction L with
  | nil => simp [aget, keys]
  | cons p L ih =>
    obtain ⟨k, v⟩ := p
    simp only [aget, keys, List.map_cons, List.mem_cons, not_or]
    by_cases hc : a = k
    · simp [hc]
    · simp only [hc, if_false, not_false_eq_true, true_and]; exact ih

theorem aget_mem {L : List (α × β)} {a : α} {b : β} (h : aget L a = some b) : (a, b) ∈ L := by
  induction L with
  | nil => cases h
  | cons p L ih =>
    obtain ⟨k, v⟩ := p
    simp only [aget] at h
    split at h
    · rename_i e; subst e; cases h; simp
    · exact List.mem_cons_of_mem _ (ih h)

theorem aput_new {L : List (α × β)} {a : α} {b : β} (h : aget L a = none) : aput L a b = L ++ [(a, b)] := by
  induction L with
  | nil => rfl
  | cons p L ih =>
    obtain ⟨k, v⟩ := p
    simp only [aget] at h
    split at h
    · cases h
    · rename_i hc; simp only [aput, hc, if_false, ih h]; rfl

theorem keys_del (L : List (α × β)) (a : α) : keys (adel L a) = (keys L).erase a := by
  induction L with
  | nil => rfl
  | cons p L ih =>
    obtain ⟨k, v⟩ := p
    simp only [adel, keys, List.map_cons, List.erase_cons]
    by_cases hc : a = k
    · subst hc; simp
    · simp only [hc, if_false, List.map_cons]
      have : ¬ (k == a) = true := by simp; exact fun e => hc e.symm
      rw [if_neg this]
      congr 1

theorem aget_adel {L : List (α × β)} (hn : (keys L).Nodup) (a x : α) : aget (adel L a) x = if x = a then none else aget L x := by
  induction L with
  | nil => simp [adel, aget]
  | cons p L ih =>
    obtain ⟨k, v⟩ := p
    simp only [keys, List.map_cons, List.nodup_cons] at hn
    simp only [adel]
    by_cases hc : a = k
    · subst hc
      simp only [if_true, aget]
      by_cases hx : x = a
      · subst hx; simp only [if_true]; exact aget_none.2 hn.1
      · simp [hx]
    · simp only [hc, if_false, aget, ih hn.2]
      by_cases hx : x = k
      · subst hx; rw [if_pos rfl, if_neg (fun e => hc e.symm), if_pos rfl]
      · rw [if_neg hx, if_neg hx]

end
end Go.Proofs.Ytkmknolkblcbeaa.V
