/- Heaps in parts: a list of what lies apart; contracts on a part serve wherever that part lies. -/
import Derived.Test.YtkmknolkblcbeaaV23
namespace Go.Proofs.Ytkmknolkblcbeaa.V
set_option linter.unusedSectionVars false
set_option linter.unusedVariables false
set_option linter.unusedSimpArgs false
open Go

abbrev As := Hp → Prop

/-- The heap has these, each in a part of its own (and whatever else). -/
def Has : List As → Hp → Prop
  | [], _ => True
  | A :: L, h => ∃ h1 h2, h = join h1 h2 ∧ V.Apart h1 h2 ∧ A h1 ∧ Has L h2

/-- One block. -/
def Pt (b : Nat) (o : Obj) : As := fun h => h b = some o

/-- What lay there at the start. -/
def Is (g : Hp) : As := fun h => h = g

theorem join_sub_left (h g : Hp) : SubH h (join h g) := fun b o hb => join_left hb
theorem join_sub_right {h g : Hp} (ha : V.Apart h g) : SubH g (join h g) := fun b o hb => by
  cases hh : h b with
  | none => rw [join_right hh]; exact hb
  | some p => rw [ha b p hh] at hb; cases hb

theorem SubH.tr {h1 h2 h3 : Hp} (a : SubH h1 h2) (b : SubH h2 h3) : SubH h1 h3 := fun x o hx => b x o (a x o hx)

/-- What is left of h without h1. -/
def rest (h h1 : Hp) : Hp := fun b => if (h1 b).isSome then none else h b

theorem rest_join {h h1 : Hp} (hs : SubH h1 h) : h = join h1 (rest h h1) := by
  funext b
  unfold join rest
  cases hh : h1 b with
  | none => simp
  | some o => simp; exact hs b o hh

theorem rest_apart (h h1 : Hp) : V.Apart h1 (rest h h1) := fun b o hb => by simp [rest, hb]

theorem Has.sub : ∀ {L : List As} {h h' : Hp}, Has L h → SubH h h' → Has L h'
  | [], _, _, _, _ => trivial
  | A :: L, h, h', ⟨h1, h2, he, ha, hA, hL⟩, hs => by
    have hs1 : SubH h1 h' := fun b o hb => hs b o (by rw [he]; exact join_left hb)
    refine ⟨h1, rest h' h1, rest_join hs1, rest_apart _ _, hA, hL.sub fun b o hb => ?_⟩
    have h3 : h1 b = none := by
      cases hh : h1 b with
      | none => rfl
      | some p => rw [ha b p hh] at hb; cases hb
    simp only [rest, h3, Option.isSome_none, Bool.false_eq_true, if_false]
    exact hs b o (by rw [he, join_right h3]; exact hb)

theorem Has.tail {A : As} {L : List As} {h : Hp} (hh : Has (A :: L) h) : Has L h := by
  obtain ⟨h1, h2, rfl, ha, hA, hL⟩ := hh
  exact hL.sub (join_sub_right ha)

theorem Has.mono1 {A A' : As} {L : List As} {h : Hp} (hh : Has (A :: L) h) (hA : ∀ g, A g → A' g) : Has (A' :: L) h := by
  obtain ⟨h1, h2, e, ha, h3, hL⟩ := hh
  exact ⟨h1, h2, e, ha, hA _ h3, hL⟩

theorem join_swap {a b c : Hp} (hab : V.Apart a b) : join a (join b c) = join b (join a c) := by
  funext x
  unfold join
  cases ha : a x with
  | none => cases hb : b x <;> simp
  | some o => rw [hab x o ha]; simp

theorem apart_join {a b c : Hp} (h1 : V.Apart a b) (h2 : V.Apart a c) : V.Apart a (join b c) := fun x o hx => by
  unfold join; rw [h1 x o hx, h2 x o hx]; rfl

theorem apart_symm {a b : Hp} (h : V.Apart a b) : V.Apart b a := fun x o hx => by
  cases hh : a x with
  | none => rfl
  | some p => rw [h x p hh] at hx; cases hx

theorem apart_of_join {a b c : Hp} (h : V.Apart a (join b c)) : V.Apart a b ∧ V.Apart a c := by
  refine ⟨fun x o hx => ?_, fun x o hx => ?_⟩ <;> have := h x o hx <;> unfold join at this <;> cases hb : b x <;> simp [hb] at this ⊢ <;> assumption

theorem Has.swap {A B : As} {L : List As} {h : Hp} (hh : Has (A :: B :: L) h) : Has (B :: A :: L) h := by
  obtain ⟨h1, h2, rfl, ha, hA, g1, g2, rfl, hb, hB, hL⟩ := hh
  obtain ⟨a1, a2⟩ := apart_of_join ha
  exact ⟨g1, join h1 g2, join_swap a1, apart_join (apart_symm a1) hb, hB, h1, g2, rfl, a2, hA, hL⟩

theorem Has.map_tail {A : As} {L L' : List As} {h : Hp} (hh : Has (A :: L) h) (ht : ∀ g, Has L g → Has L' g) : Has (A :: L') h := by
  obtain ⟨h1, h2, e, ha, h3, hL⟩ := hh
  exact ⟨h1, h2, e, ha, h3, ht _ hL⟩

theorem Has.perm {L L' : List As} (hp : L.Perm L') : ∀ {h : Hp}, Has L h → Has L' h := by
  induction hp with
  | nil => exact fun h => h
  | cons x _ ih => exact fun hh => hh.map_tail fun g hg => ih hg
  | swap x y l => exact fun hh => hh.swap
  | trans _ _ ih1 ih2 => exact fun hh => ih2 (ih1 hh)

theorem perm_erase {α : Type} : ∀ {L : List α} {i : Nat} {x : α}, L[i]? = some x → (x :: L.eraseIdx i).Perm L
  | [], i, x, h => by simp at h
  | y :: L, 0, x, h => by simp at h; subst h; simp
  | y :: L, i + 1, x, h => by
    simp only [List.getElem?_cons_succ] at h
    rw [List.eraseIdx_cons_succ]
    exact (List.Perm.swap y x _).trans ((perm_erase h).cons y)

theorem perm_set {α : Type} : ∀ {L : List α} {i : Nat} {x y : α}, L[i]? = some x → (y :: L.eraseIdx i).Perm (L.set i y)
  | [], i, x, y, h => by simp at h
  | z :: L, 0, x, y, h => by simp
  | z :: L, i + 1, x, y, h => by
    simp only [List.getElem?_cons_succ] at h
    rw [List.eraseIdx_cons_succ, List.set_cons_succ]
    exact (List.Perm.swap z y _).trans ((perm_set h).cons z)

theorem Has.pull {L : List As} {h : Hp} (hh : Has L h) (i : Nat) {A : As} (hi : L[i]? = some A) : Has (A :: L.eraseIdx i) h := hh.perm (perm_erase hi).symm

theorem Has.at {L : List As} {h : Hp} (hh : Has L h) (i : Nat) {A : As} (hi : L[i]? = some A) : ∃ g, A g ∧ SubH g h := by
  obtain ⟨h1, h2, rfl, ha, hA, hL⟩ := hh.pull i hi
  exact ⟨h1, hA, join_sub_left _ _⟩

theorem Has.pt {L : List As} {h : Hp} (hh : Has L h) (i : Nat) {b : Nat} {o : Obj} (hi : L[i]? = some (Pt b o)) : h b = some o := by
  obtain ⟨g, h1, h2⟩ := hh.at i hi
  exact h2 _ _ h1

theorem Has.is {L : List As} {h : Hp} (hh : Has L h) (i : Nat) {g : Hp} (hi : L[i]? = some (Is g)) : SubH g h := by
  obtain ⟨g', h1, h2⟩ := hh.at i hi
  rw [show g' = g from h1] at h2; exact h2

theorem Has.start (h : Hp) : Has [Is h] h := ⟨h, fun _ => none, by funext b; simp [join], fun _ _ _ => rfl, rfl, trivial⟩

theorem Has.one {A : As} {h : Hp} (hA : A h) : Has [A] h := ⟨h, fun _ => none, by funext b; simp [join], fun _ _ _ => rfl, hA, trivial⟩

theorem Has.append : ∀ {L1 L2 : List As} {h1 h2 : Hp}, Has L1 h1 → Has L2 h2 → V.Apart h1 h2 → Has (L1 ++ L2) (join h1 h2)
  | [], L2, h1, h2, _, hL, ha => hL.sub (join_sub_right ha)
  | A :: L1, L2, h1, h2, ⟨g1, g2, e, hb, hA, hL1⟩, hL, ha => by
    subst e
    obtain ⟨a1, a2⟩ := apart_of_join (apart_symm ha)
    refine ⟨g1, join g2 h2, ?_, apart_join hb (apart_symm a1), hA, hL1.append hL (apart_symm a2)⟩
    funext x; unfold join; cases g1 x <;> simp

theorem Has.flat {L1 L2 : List As} {h : Hp} (hh : Has (Has L1 :: L2) h) : Has (L1 ++ L2) h := by
  obtain ⟨h1, h2, rfl, ha, hA, hL⟩ := hh
  exact hA.append hL ha

theorem Has.split : ∀ {L1 L2 : List As} {h : Hp}, Has (L1 ++ L2) h → ∃ h1 h2, h = join h1 h2 ∧ V.Apart h1 h2 ∧ Has L1 h1 ∧ Has L2 h2
  | [], L2, h, hh => ⟨fun _ => none, h, by funext b; simp [join], fun _ _ h => (by cases h), trivial, hh⟩
  | A :: L1, L2, h, ⟨g1, g2, e, hb, hA, hL⟩ => by
    obtain ⟨k1, k2, rfl, hc, h1, h2⟩ := hL.split
    subst e
    obtain ⟨a1, a2⟩ := apart_of_join hb
    refine ⟨join g1 k1, k2, ?_, ?_, ⟨g1, k1, rfl, a1, hA, h1⟩, h2⟩
    · funext x; unfold join; cases g1 x <;> simp
    · exact apart_symm (apart_join (apart_symm a2) (apart_symm hc))

theorem Has.group {L1 L2 : List As} {h : Hp} (hh : Has (L1 ++ L2) h) : Has (Has L1 :: L2) h := by
  obtain ⟨h1, h2, e, ha, h3, h4⟩ := hh.split
  exact ⟨h1, h2, e, ha, h3, h4⟩

/-- The i-th turned. -/
theorem Has.put {L : List As} {h : Hp} {i : Nat} {A B : As} (hi : L[i]? = some A) (hh : Has (B :: L.eraseIdx i) h) : Has (L.set i B) h := hh.perm (perm_set hi)

theorem Has.turn {L : List As} {h : Hp} (hh : Has L h) (i : Nat) {A B : As} (hi : L[i]? = some A) (hAB : ∀ g, A g → B g) : Has (L.set i B) h :=
  Has.put hi ((hh.pull i hi).mono1 hAB)

/-- A new block. -/
theorem Has.new {L : List As} {h : Hp} (hh : Has L h) {b : Nat} {o : Obj} (hb : h b = none) : Has (Pt b o :: L) (upd h b o) := by
  refine ⟨fun x => if x = b then some o else none, h, ?_, fun x p hx => ?_, by simp [Pt], hh⟩
  · funext x
    unfold join upd
    by_cases hx : x = b
    · simp [hx]
    · simp [hx]
  · simp only at hx
    split at hx
    · rename_i e; subst e; exact hb
    · cases hx

/-- A block turned. -/
theorem Has.st {L : List As} {h : Hp} (hh : Has L h) (i : Nat) {b : Nat} {o : Obj} (hi : L[i]? = some (Pt b o)) (o' : Obj) : Has (L.set i (Pt b o')) (upd h b o') := by
  obtain ⟨h1, h2, rfl, ha, hA, hL⟩ := hh.pull i hi
  refine Has.put hi ⟨upd h1 b o', h2, ?_, fun x p hx => ?_, upd_same _ _ _, hL⟩
  · funext x
    unfold join
    by_cases hx : x = b
    · subst hx; rw [upd_same, upd_same]; rfl
    · rw [upd_other hx, upd_other hx]
  · by_cases hxb : x = b
    · subst hxb; exact ha x o hA
    · rw [upd_other hxb] at hx; exact ha x p hx

/-- A part turned by what is known of it alone. -/
theorem Has.upd_in {L : List As} {h : Hp} (hh : Has L h) (i : Nat) {A : As} (hi : L[i]? = some A) {b : Nat} {o' : Obj} {B : As} (hA : ∀ g, A g → (∃ o, g b = some o) ∧ B (upd g b o')) : Has (L.set i B) (upd h b o') := by
  obtain ⟨h1, h2, rfl, ha, h3, hL⟩ := hh.pull i hi
  obtain ⟨⟨o, ho⟩, hB⟩ := hA _ h3
  refine Has.put hi ⟨upd h1 b o', h2, ?_, fun x p hx => ?_, hB, hL⟩
  · funext x
    unfold join
    by_cases hx : x = b
    · subst hx; rw [upd_same, upd_same]; rfl
    · rw [upd_other hx, upd_other hx]
  · by_cases hxb : x = b
    · subst hxb; exact ha x o ho
    · rw [upd_other hxb] at hx; exact ha x p hx

/-- A contract on a part: it turns A into one of the Bs, by the answer. -/
def Sp (P : Program) (f : FuncId) (args : List Value) (A : As) {X : Type} (val : X → Value) (B : X → As) : Prop := ∀ h, A h → Ok P f args h (fun v h' => ∃ x, v = val x ∧ B x h')

theorem Has.call1 {P : Program} {f : FuncId} {args : List Value} {A : As} {X : Type} {val : X → Value} {B : X → As} {L : List As} {h : Hp} {Q : Value → Hp → Prop} (hh : Has (A :: L) h) (hs : Sp P f args A val B)
    (hq : ∀ x h', Has (B x :: L) h' → Q (val x) h') : Ok P f args h Q := by
  obtain ⟨h1, h2, rfl, ha, hA, hL⟩ := hh
  exact ((hs h1 hA).frame ha).mono fun v h' ⟨g, e, hg, x, hv, hB⟩ => by
    subst hv
    exact hq x h' ⟨g, h2, e, hg, hB, hL⟩

theorem Has.call {P : Program} {f : FuncId} {args : List Value} {A : As} {X : Type} {val : X → Value} {B : X → As} {L : List As} {h : Hp} {Q : Value → Hp → Prop} (hh : Has L h) (i : Nat) (hi : L[i]? = some A) (hs : Sp P f args A val B)
    (hq : ∀ x h', Has (L.set i (B x)) h' → Q (val x) h') : Ok P f args h Q :=
  (hh.pull i hi).call1 hs fun x h' hh' => hq x h' (Has.put hi hh')

/-- A call that makes something and needs nothing. -/
theorem Has.make {P : Program} {f : FuncId} {args : List Value} {X : Type} {val : X → Value} {B : X → As} {L : List As} {h : Hp} {Q : Value → Hp → Prop} (hh : Has L h) (hs : Sp P f args (fun _ => True) val B)
    (hq : ∀ x h', Has (B x :: L) h' → Q (val x) h') : Ok P f args h Q :=
  Has.call1 (A := fun _ => True) ⟨fun _ => none, h, by funext b; simp [join], fun _ _ h => (by cases h), trivial, hh⟩ hs hq

theorem sub_new {h : Hp} {b : Nat} {o : Obj} (hb : h b = none) : SubH h (upd h b o) := fun x p hx => by
  rw [upd_other (fun e => by subst e; rw [hb] at hx; cases hx)]; exact hx

/-- A new block, and the heap under a name of its own. -/
theorem fresh_has {L : List As} {h : Hp} {o : Obj} {K : Nat → Hp → Prop} (hh : Has L h) (hk : ∀ b h', h' b = some o → h b = none → SubH h h' → Has (Pt b o :: L) h' → K b h') : fresh h o K :=
  .intro fun b hb => hk b _ (upd_same _ _ _) hb (sub_new hb) (hh.new hb)

theorem fresh_sub {h : Hp} {o : Obj} {K : Nat → Hp → Prop} (hk : ∀ b h', h' b = some o → h b = none → SubH h h' → K b h') : fresh h o K :=
  .intro fun b hb => hk b _ (upd_same _ _ _) hb (sub_new hb)

/-- A store into a block of ours, and the heap under a name of its own. -/
theorem st_has {L : List As} {h : Hp} {b o sz : Nat} {β : Bx} {x : Value} {c : Array Value} {ty : TypeId} {K : Hp × Bx → Prop} (hh : Has L h) (i : Nat) (hi : L[i]? = some (Pt b (.cells c ty (0, 0)))) (h1 : x.cells.size = sz) (h2 : o + sz ≤ c.size) (h4 : x.cells.toList.all one = true)
    (hk : ∀ h', h' b = some (.cells (wr c o x.cells.toList) ty (0, 0)) → (∀ y, y ≠ b → h' y = h y) → Has (L.set i (Pt b (.cells (wr c o x.cells.toList) ty (0, 0)))) h' → K (h', β)) : optK (pSt sz h β (.v (.pointer (some ⟨b, o, none⟩))) (.v x)) K :=
  opt_st (hh.pt i hi) h1 h2 (.inl (Nat.zero_le _)) h4 (hk _ (upd_same _ _ _) (fun y hy => upd_other hy) (hh.st i hi _))

/-- Two where one was. -/
theorem Has.spread {L : List As} {h : Hp} {i : Nat} {C A B : As} (hi : L[i]? = some C) (hh : Has (L.set i (Has [A, B])) h) : Has (B :: L.set i A) h := by
  have h1 : Has (Has [A, B] :: L.eraseIdx i) h := hh.perm (perm_set hi).symm
  have h2 : Has ([A, B] ++ L.eraseIdx i) h := h1.flat
  have h3 : Has (B :: A :: L.eraseIdx i) h := Has.swap h2
  exact h3.perm ((perm_set hi).cons B)

/-- A local box filled whole; read whole. -/
theorem opt_stL {h : Hp} {r sz : Nat} {β : Bx} {x : Value} {c : List Value} {K : Hp × Bx → Prop} (hl : lookB β r = some c) (h1 : x.cells.size = sz) (h2 : c.length = sz) (h4 : x.cells.toList.all one = true)
    (hk : K (h, (r, x.cells.toList) :: β)) : optK (pSt sz h β (.l r 0) (.v x)) K := by
  simp only [pSt, stL, hl]
  rw [if_pos ⟨h1, by omega, h4⟩]
  simp only [optK]
  rw [wr_all (by simpa using h1.trans h2.symm)]
  exact hk

theorem opt_ldL {r sz : Nat} {β : Bx} {cs : List Value} {K : Ent → Prop} (hl : lookB β r = some cs) (h1 : cs.length = sz) (hk : K (.v (.agg cs.toArray))) : optK (pLd sz true (fun _ => none) β (.l r 0)) K := by
  have : rd cs.toArray 0 sz true = some (.agg cs.toArray) := by
    simp only [rd, if_true]
    rw [if_pos (by simp; omega)]
    simp only [sub, List.drop_zero]
    rw [List.take_of_length_le (Nat.le_of_eq h1), Array.toArray_toList] 
  simp only [pLd, hl, ldL, this, toE, optK]
  exact hk

theorem range_get {α : Type} (L : List α) (d : α) : (List.range L.length).map (fun i => L.getD i d) = L := by
  apply List.ext_getElem?
  intro i
  rw [List.getElem?_map]
  by_cases h : i < L.length
  · rw [List.getElem?_range h, List.getElem?_eq_getElem h]; simp [h]
  · rw [List.getElem?_eq_none (by simpa using Nat.le_of_not_lt h), List.getElem?_eq_none (by omega)]; rfl

/-- The parts in another order. -/
theorem Has.sel {L : List As} {h : Hp} (hh : Has L h) (is : List Nat) (hp : is.isPerm (List.range L.length) = true) : Has (is.map fun i => L.getD i (fun _ => True)) h := by
  refine hh.perm ?_
  have h1 := (List.isPerm_iff.1 hp).map (fun i => L.getD i (fun _ => True))
  rw [range_get] at h1
  exact h1.symm

theorem mem_set {α : Type} {l : List α} {i : Nat} {x y : α} (h : y ∈ l.set i x) : y = x ∨ y ∈ l := by
  rcases List.mem_or_eq_of_mem_set h with h | h
  · exact .inr h
  · exact .inl h

theorem opt_up1 {v c : List Value} {n : Nat} {K : List Value → Prop} (h1 : v.length = n) (h2 : c.length = n) (hk : K v) : optK (pairsUp [0] [.v (.agg v.toArray)] n c) K := by
  simp only [pairsUp, Value.cells, List.size_toArray]
  rw [if_pos ⟨h1, by omega⟩]
  simp only [optK, Nat.zero_mul]
  rw [wr_all (by rw [h1, h2])]
  exact hk

end Go.Proofs.Ytkmknolkblcbeaa.V
