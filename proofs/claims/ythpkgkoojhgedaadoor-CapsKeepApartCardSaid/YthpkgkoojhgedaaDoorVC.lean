/- Maps as lists, what came in, tables, slices of our own, heaps in parts. -/
import Derived.Test.YthpkgkoojhgedaaDoorVB
import Derived.ProofKit
import Derived.OpenShut
import Derived.ChangeOld
import Derived.Below
import Derived.Deep.Slices

/- Maps as lists of pairs. -/
namespace Go.Proofs.YthpkgkoojhgedaaDoor.V
set_option linter.unusedSectionVars false
set_option linter.unusedVariables false
set_option linter.unusedSimpArgs false
open Go

section
variable {α β : Type} [DecidableEq α]

def aget : List (α × β) → α → Option β
  | [], _ => none
  | (k, v) :: r, a => if a = k then some v else aget r a

def aput : List (α × β) → α → β → List (α × β)
  | [], a, b => [(a, b)]
  | (k, v) :: r, a, b => if a = k then (a, b) :: r else (k, v) :: aput r a b

def adel : List (α × β) → α → List (α × β)
  | [], _ => []
  | (k, v) :: r, a => if a = k then r else (k, v) :: adel r a

/-- Keys that compare as their data do. -/
structure KeyOk (q : EqT) (ek : α → Value) : Prop where
  eq : ∀ h a b, eqV h q (ek a) (ek b) = some (decide (a = b))
  bits : ∀ a, Instr.sameBits 10000 (ek a) (ek a) = true

def MapIs (ek : α → Value) (ev : β → Value) (o : Option Obj) (L : List (α × β)) : Prop :=
  ∃ es c, o = some (.map es c) ∧ es.toList.map (fun e => (e.key, e.val)) = L.map (fun p => (ek p.1, ev p.2)) ∧ (∀ e ∈ es.toList, e.born < c) ∧ (es.toList.map (·.born)).Nodup

theorem MapIs.nil (ek : α → Value) (ev : β → Value) (c : Nat) : MapIs ek ev (some (.map #[] c)) [] := ⟨#[], c, rfl, rfl, by simp, by simp⟩

variable {q : EqT} {ek : α → Value} {ev : β → Value} {h : Hp}

theorem find_is (hk : KeyOk q ek) (a : α) : ∀ {es : List MapEntry} {L : List (α × β)}, es.map (fun e => (e.key, e.val)) = L.map (fun p => (ek p.1, ev p.2)) → find h q (ek a) es = some ((aget L a).map ev)
  | [], [], _ => rfl
  | [], _ :: _, h => by cases h
  | _ :: _, [], h => by cases h
  | e :: es, (k, v) :: L, hm => by
    simp only [List.map_cons, List.cons.injEq, Prod.mk.injEq] at hm
    obtain ⟨⟨h1, h2⟩, h3⟩ := hm
    simp only [find, h1, hk.eq, aget]
    by_cases hc : a = k
    · simp [hc, h2]
    · simp only [hc, decide_false, if_false]; exact find_is hk a h3

theorem repl_is (hk : KeyOk q ek) (a : α) (b : β) : ∀ {es : List MapEntry} {L : List (α × β)}, es.map (fun e => (e.key, e.val)) = L.map (fun p => (ek p.1, ev p.2)) →
    (∃ l, repl q h (ek a) (ev b) es = some (some l) ∧ l.map (fun e => (e.key, e.val)) = (aput L a b).map (fun p => (ek p.1, ev p.2)) ∧ l.map (·.born) = es.map (·.born)) ∨
    (repl q h (ek a) (ev b) es = some none ∧ aput L a b = L ++ [(a, b)])
  | [], [], _ => .inr ⟨rfl, rfl⟩
  | [], _ :: _, h => by cases h
  | _ :: _, [], h => by cases h
  | e :: es, (k, v) :: L, hm => by
    simp only [List.map_cons, List.cons.injEq, Prod.mk.injEq] at hm
    obtain ⟨⟨h1, h2⟩, h3⟩ := hm
    simp only [repl, h1, hk.eq, aput]
    by_cases hc : a = k
    · subst hc
      simp [hk.bits, h3]
    · simp only [hc, decide_false, if_false]
      rcases repl_is hk a b h3 with ⟨l, hl, hl2, hl3⟩ | ⟨hl, hl2⟩
      · exact .inl ⟨e :: l, by rw [hl], by simp [hl2, h1, h2], by simp [hl3]⟩
      · exact .inr ⟨by rw [hl], by rw [hl2]; rfl⟩

theorem strk_is (hk : KeyOk q ek) (a : α) : ∀ {es : List MapEntry} {L : List (α × β)}, es.map (fun e => (e.key, e.val)) = L.map (fun p => (ek p.1, ev p.2)) →
    (∃ l, strk q h (ek a) es = some (some l) ∧ l.map (fun e => (e.key, e.val)) = (adel L a).map (fun p => (ek p.1, ev p.2)) ∧ List.Sublist l es) ∨
    (strk q h (ek a) es = some none ∧ adel L a = L)
  | [], [], _ => .inr ⟨rfl, rfl⟩
  | [], _ :: _, h => by cases h
  | _ :: _, [], h => by cases h
  | e :: es, (k, v) :: L, hm => by
    simp only [List.map_cons, List.cons.injEq, Prod.mk.injEq] at hm
    obtain ⟨⟨h1, h2⟩, h3⟩ := hm
    simp only [strk, h1, hk.eq, adel]
    by_cases hc : a = k
    · subst hc
      simp [h3]
    · simp only [hc, decide_false, if_false]
      rcases strk_is hk a h3 with ⟨l, hl, hl2, hl3⟩ | ⟨hl, hl2⟩
      · exact .inl ⟨e :: l, by rw [hl], by simp [hl2, h1, h2], hl3.cons_cons e⟩
      · exact .inr ⟨by rw [hl], by rw [hl2]⟩

theorem look_step {r : Nat} {L : List (α × β)} {z : Value} {K : Ent → Prop} (hm : MapIs ek ev (h r) L) (hk : KeyOk q ek) (a : α)
    (hK : K (.v (.tuple #[((aget L a).map ev).getD z, .bool (aget L a).isSome]))) : optK (pLook q z true h (.v (.map (some r))) (.v (ek a))) K := by
  obtain ⟨es, c, ho, hes, hbl, hbn⟩ := hm
  have h1 : (eqV h q (ek a) (ek a)).isNone = false := by rw [hk.eq]; rfl
  simp only [pLook, ho, mapO, h1, find_is hk a hes, Bool.false_eq_true, if_false, if_true]
  cases hg : aget L a <;> rw [hg] at hK <;> exact hK

theorem look_none {r : Nat} {L : List (α × β)} {z : Value} {K : Ent → Prop} (hm : MapIs ek ev (h r) L) (hk : KeyOk q ek) {a : α} (hg : aget L a = none)
    (hK : K (.v (.tuple #[z, .bool false]))) : optK (pLook q z true h (.v (.map (some r))) (.v (ek a))) K := look_step hm hk a (by rw [hg]; exact hK)

theorem look_some {r : Nat} {L : List (α × β)} {z : Value} {K : Ent → Prop} (hm : MapIs ek ev (h r) L) (hk : KeyOk q ek) {a : α} {b : β} (hg : aget L a = some b)
    (hK : K (.v (.tuple #[ev b, .bool true]))) : optK (pLook q z true h (.v (.map (some r))) (.v (ek a))) K := look_step hm hk a (by rw [hg]; exact hK)

theorem look1_step {r : Nat} {L : List (α × β)} {z : Value} {K : Ent → Prop} (hm : MapIs ek ev (h r) L) (hk : KeyOk q ek) (a : α)
    (hK : K (.v (((aget L a).map ev).getD z))) : optK (pLook q z false h (.v (.map (some r))) (.v (ek a))) K := by
  obtain ⟨es, c, ho, hes, hbl, hbn⟩ := hm
  have h1 : (eqV h q (ek a) (ek a)).isNone = false := by rw [hk.eq]; rfl
  simp only [pLook, ho, mapO, h1, find_is hk a hes, Bool.false_eq_true, if_false]
  cases hg : aget L a <;> rw [hg] at hK <;> exact hK

omit [DecidableEq α] in
theorem len_step {r : Nat} {L : List (α × β)} {K : Ent → Prop} (hm : MapIs ek ev (h r) L) (hK : K (.v (.int .i64 L.length))) : optK (pLenM h (.v (.map (some r)))) K := by
  obtain ⟨es, c, ho, hes, hbl, hbn⟩ := hm
  have : es.toList.length = L.length := by rw [← List.length_map (f := fun e => (e.key, e.val)), hes, List.length_map]
  simp only [pLenM, ho, mapO, this]
  exact hK

theorem mup_step {r : Nat} {L : List (α × β)} {K : Ent → Hp → Prop} (hm : MapIs ek ev (h r) L) (hk : KeyOk q ek) (a : α) (b : β)
    (hK : ∀ o, MapIs ek ev (some o) (aput L a b) → K undefE (upd h r o)) : mupK q h (.v (.map (some r))) (.v (ek a)) (.v (ev b)) K := by
  obtain ⟨es, c, ho, hes, hbl, hbn⟩ := hm
  unfold mupK
  refine ⟨by rw [hk.eq]; rfl, ?_⟩
  simp only [ho]
  rcases repl_is (h := h) hk a b hes with ⟨l, hl, hl2, hl3⟩ | ⟨hl, hl2⟩
  · rw [hl]
    refine hK _ ⟨l.toArray, c, rfl, by simpa using hl2, fun e he => ?_, by simpa [hl3] using hbn⟩
    have : e.born ∈ es.toList.map (·.born) := by rw [← hl3]; exact List.mem_map_of_mem (by simpa using he)
    obtain ⟨e', h1, h2⟩ := List.mem_map.1 this
    rw [← h2]; exact hbl e' h1
  · rw [hl]
    refine hK _ ⟨_, _, rfl, by rw [hl2]; simp [hes], fun e he => ?_, ?_⟩
    · simp only [Array.toList_push, List.mem_append, List.mem_singleton] at he
      rcases he with he | rfl
      · have := hbl e he; omega
      · exact Nat.lt_succ_self c
    · simp only [Array.toList_push, List.map_append, List.map_cons, List.map_nil]
      rw [List.nodup_append]
      refine ⟨hbn, by simp, fun x hx y hy e => ?_⟩
      simp only [List.mem_singleton] at hy
      obtain ⟨e', h1, h2⟩ := List.mem_map.1 hx
      have := hbl e' h1
      omega

theorem mdel_step {r : Nat} {L : List (α × β)} {K : Ent → Hp → Prop} (hm : MapIs ek ev (h r) L) (hk : KeyOk q ek) (a : α)
    (hK : ∀ o, MapIs ek ev (some o) (adel L a) → K (.v (.tuple #[])) (upd h r o)) : mdelK q h (.v (.map (some r))) (.v (ek a)) K := by
  obtain ⟨es, c, ho, hes, hbl, hbn⟩ := hm
  unfold mdelK
  refine ⟨by rw [hk.eq]; rfl, ?_⟩
  simp only [ho]
  rcases strk_is (h := h) hk a hes with ⟨l, hl, hl2, hl3⟩ | ⟨hl, hl2⟩
  · rw [hl]; exact hK _ ⟨l.toArray, c, rfl, by simpa using hl2, fun e he => hbl e (hl3.subset (by simpa using he)), hbn.sublist (by simpa using hl3.map _)⟩
  · rw [hl]; exact hK _ ⟨es, c, rfl, by rw [hl2]; exact hes, hbl, hbn⟩

end

/-! ### Lists of pairs -/
section
variable {α β : Type} [DecidableEq α]

theorem aget_aput (L : List (α × β)) (a : α) (b : β) (x : α) : aget (aput L a b) x = if x = a then some b else aget L x := by
  induction L with
  | nil => simp [aput, aget]
  | cons p L ih =>
    obtain ⟨k, v⟩ := p
    simp only [aput]
    by_cases hc : a = k
    · subst hc; simp only [if_true, aget]; split <;> rfl
    · simp only [hc, if_false, aget, ih]
      by_cases hx : x = k
      · subst hx; rw [if_pos rfl, if_neg (fun e => hc e.symm), if_pos rfl]
      · rw [if_neg hx, if_neg hx]

def keys (L : List (α × β)) : List α := L.map (·.1)

theorem aget_none {L : List (α × β)} {a : α} : aget L a = none ↔ a ∉ keys L := by
  induction L with
  | nil => simp [aget, keys]
  | cons p L ih =>
    obtain ⟨k, v⟩ := p
    simp only [aget, keys, List.map_cons, List.mem_cons, not_or]
    by_cases hc : a = k
    · simp [hc]
    · simp only [hc, if_false, not_false_eq_true, true_and]; exact ih

theorem aget_mem {L : List (α × β)} {a : α} {b : β} (h : aget L a = some b) : (a, b) ∈ L := by
  induction L with
  | nil => cases h
  | cons p L ih =>
    obtain ⟨k, v⟩ := p
    simp only [aget] at h
    split at h
    · rename_i e; subst e; cases h; simp
    · exact List.mem_cons_of_mem _ (ih h)

theorem aput_new {L : List (α × β)} {a : α} {b : β} (h : aget L a = none) : aput L a b = L ++ [(a, b)] := by
  induction L with
  | nil => rfl
  | cons p L ih =>
    obtain ⟨k, v⟩ := p
    simp only [aget] at h
    split at h
    · cases h
    · rename_i hc; simp only [aput, hc, if_false, ih h]; rfl

theorem keys_del (L : List (α × β)) (a : α) : keys (adel L a) = (keys L).erase a := by
  induction L with
  | nil => rfl
  | cons p L ih =>
    obtain ⟨k, v⟩ := p
    simp only [adel, keys, List.map_cons, List.erase_cons]
    by_cases hc : a = k
    · subst hc; simp
    · simp only [hc, if_false, List.map_cons]
      have : ¬ (k == a) = true := by simp; exact fun e => hc e.symm
      rw [if_neg this]
      congr 1

theorem aget_adel {L : List (α × β)} (hn : (keys L).Nodup) (a x : α) : aget (adel L a) x = if x = a then none else aget L x := by
  induction L with
  | nil => simp [adel, aget]
  | cons p L ih =>
    obtain ⟨k, v⟩ := p
    simp only [keys, List.map_cons, List.nodup_cons] at hn
    simp only [adel]
    by_cases hc : a = k
    · subst hc
      simp only [if_true, aget]
      by_cases hx : x = a
      · subst hx; simp only [if_true]; exact aget_none.2 hn.1
      · simp [hx]
    · simp only [hc, if_false, aget, ih hn.2]
      by_cases hx : x = k
      · subst hx; rw [if_pos rfl, if_neg (fun e => hc e.symm), if_pos rfl]
      · rw [if_neg hx, if_neg hx]

end
end Go.Proofs.YthpkgkoojhgedaaDoor.V

/- What came in: rows of numbers behind a slice; a contract of ours as the judge's call. -/
namespace Go.Proofs.YthpkgkoojhgedaaDoor.V
set_option linter.unusedSectionVars false
set_option linter.unusedVariables false
set_option linter.unusedSimpArgs false
open Go Go.ChangeShapes Go.WideShapes Go.ChangeAt Go.RowKit

def iv (n : Int) : Value := .int .i64 n

/-- Rows of n numbers each. -/
def RowsN (n : Nat) (h : Hp) (a : Option Addr) (len : Nat) (f : Nat → Nat → Int) : Prop :=
  ∀ i, i < len → ∃ b off c ty z, a = some ⟨b, off, none⟩ ∧ h b = some (.cells c ty z) ∧ ∀ j, j < n → c[off + i * n + j]? = some (iv (f i j))

/-- All that a world has, in sight. -/
def allH (w : World) : Hp := fun b => w.heap[b]?

theorem rep_all (w : World) : Rep w (allH w) ⟨fun _ => none, w⟩ := ⟨fun _ _ h => h, fun _ _ h => (by cases h), fun _ _ _ => rfl, ⟨rfl, rfl, rfl⟩⟩

theorem cell_cells {w : World} {b o : Nat} {v : Value} (h : w.cell? ⟨b, o, none⟩ = some v) : ∃ c ty z, w.heap[b]? = some (.cells c ty z) ∧ c[o]? = some v := by
  unfold World.cell? at h
  split at h
  · rename_i c ty z hb
    exact ⟨c, ty, z, hb, by simpa using h⟩
  · cases h

section
variable {H : Type} {enc : TypeId × Value → H} {P : Program} {w : World} {base : Nat} {spare : Nat → Bool} {held : Bool}

theorem struct_ints {e n : Nat} {fs : Array Field} {fuel : Nat} {cs : List Value} {x : DataW H × List MemPlace} (hs : P.underlying e = some (.struct fs))
    (hf : ∀ j, j < n → ∃ (i : Nat) (fl : Field), fs[i]? = some fl ∧ fl.offset = j ∧ P.cellsOf fl.type = 1 ∧ P.underlying fl.type = some (.int .i64))
    (h : DataW.trod enc P w base spare held fuel e cs = some x) (j : Nat) (hj : j < n) : ∃ m, cs[j]? = some (iv m) := by
  obtain ⟨xs, k, _, rfl, hl, hlen, hall⟩ := DataW.trod_struct hs h
  obtain ⟨i, fl, h1, h2, h3, h4⟩ := hf j hj
  have h5 := hall i fl h1
  have hi : i < xs.length := by rw [hlen]; exact (Array.getElem?_eq_some_iff.1 h1).1
  rw [List.getElem?_eq_getElem hi] at h5
  obtain ⟨m, h6, _⟩ := DataW.trod_int h4 h5
  refine ⟨m, ?_⟩
  rw [h2, h3] at h6
  have : ((cs.drop j).take 1)[0]? = some (Value.int .i64 m) := by rw [h6]; rfl
  simpa [List.getElem?_take, List.getElem?_drop, iv] using this

/-- A struct of n numbers. -/
def intStruct (P : Program) (e n : Nat) : Bool := match P.underlying e with
  | some (.struct fs) => P.cellsOf e == n && decide (0 < n) && (List.range n).all fun j => match fs[j]? with
    | some fl => fl.offset == j && P.cellsOf fl.type == 1 && (match P.underlying fl.type with | some (.int .i64) => true | _ => false)
    | none => false
  | _ => false

theorem intStruct_spec {e n : Nat} (h : intStruct P e n = true) : ∃ fs, P.underlying e = some (.struct fs) ∧ P.cellsOf e = n ∧ 0 < n ∧
    ∀ j, j < n → ∃ (i : Nat) (fl : Field), fs[i]? = some fl ∧ fl.offset = j ∧ P.cellsOf fl.type = 1 ∧ P.underlying fl.type = some (.int .i64) := by
  unfold intStruct at h
  split at h
  · rename_i fs hs
    simp only [Bool.and_eq_true, beq_iff_eq, decide_eq_true_eq, List.all_eq_true, List.mem_range] at h
    refine ⟨fs, hs, h.1.1, h.1.2, fun j hj => ?_⟩
    have h2 := h.2 j hj
    split at h2
    · rename_i fl hfl
      simp only [Bool.and_eq_true, beq_iff_eq] at h2
      refine ⟨j, fl, hfl, h2.1.1, h2.1.2, ?_⟩
      have h3 := h2.2
      split at h3
      · assumption
      · cases h3
    · cases h2
  · cases h

theorem rows_open {t e n : Nat} {fuel : Nat} {a : Option Addr} {len cap : Nat} {x : DataW H × List MemPlace} (ht : P.underlying t = some (.slice e)) (hck : intStruct P e n = true)
    (h : DataW.trod enc P w base spare held fuel t [.slice a len cap] = some x) : ∃ f, RowsN n (allH w) a len f ∧ len ≤ maxLen := by
  obtain ⟨fs, hs, hc, hn, hf⟩ := intStruct_spec hck
  rcases Go.Deep.open_slice ht h with ⟨he, _⟩ | ⟨a', len', cap', m, k, D, Pl, he, hb, hl, hm, hmm, _, hel⟩
  · cases he
    exact ⟨fun _ _ => 0, fun i hi => absurd hi (Nat.not_lt_zero _), Nat.zero_le _⟩
  · cases he
    refine ⟨fun i j => match w.cell? ((a'.add (i * n)).add j) with | some (.int _ q) => q | _ => 0, fun i hi => ?_, Nat.le_trans hl hm⟩
    have him : i < m := by rw [hmm]; split <;> omega
    obtain ⟨cs', h1, h2⟩ := hel i him
    rw [hc] at h1
    obtain ⟨_, hlen, hcell⟩ := World.cells?_some h1
    obtain ⟨b, off, spot⟩ := a'
    have hsp : spot = none := by
      obtain ⟨cs0, g1, g2⟩ := hel 0 (by omega)
      rw [hc, Nat.zero_mul] at g1
      obtain ⟨_, _, gcell⟩ := World.cells?_some g1
      obtain ⟨m0, h0⟩ := struct_ints hs hf g2 0 hn
      have hz := gcell 0 hn
      rw [h0] at hz
      simpa [Addr.add] using World.cell?_spot hz
    subst hsp
    obtain ⟨m0, h0⟩ := struct_ints hs hf h2 0 hn
    have hz := hcell 0 hn
    rw [h0] at hz
    rw [add_mk, add_mk] at hz
    obtain ⟨c, ty, z, hbw, _⟩ := cell_cells hz
    refine ⟨b, off, c, ty, z, rfl, hbw, fun j hj => ?_⟩
    obtain ⟨mj, hmj⟩ := struct_ints hs hf h2 j hj
    have hcj := hcell j hj
    rw [hmj, add_mk, add_mk] at hcj
    show _ = some (iv (match w.cell? ((Addr.add ⟨b, off, none⟩ (i * n)).add j) with | some (.int _ q) => q | _ => 0))
    rw [add_mk, add_mk]
    rw [hcj]
    have : w.cell? ⟨b, off + i * n + j, none⟩ = c[off + i * n + j]? := cell_of hbw
    rw [← this, hcj]
    rfl

end

/-- From a contract that keeps what was there to the judge's call. -/
theorem call_of {P : Program} {k : FuncId} {args : List Value} {w : World} (h : Ok P k args (allH w) (fun v h' => v = .bool true ∧ ∀ b o, allH w b = some o → h' b = some o)) :
    Calls P k args.toArray w fun e w' => e = .returned (.bool true) ∧ Below w.heap.size w w' := by
  refine (h.run w _ (rep_all w)).mono fun e w' ⟨v, h', he, ⟨hv, hk⟩, hr⟩ => ⟨by rw [he, hv], ?_⟩
  have hblk : ∀ b, b < w.heap.size → w'.heap[b]? = w.heap[b]? := fun b hb => by
    have hb' : w.heap[b]? = some w.heap[b] := Array.getElem?_eq_getElem hb
    rw [hb']
    exact hr.vis b _ (hk b _ hb')
  refine ⟨hr.kp.os, hr.kp.tape, hr.kp.output, ?_, hblk⟩
  rcases Nat.lt_or_ge w'.heap.size w.heap.size with hlt | hge
  · have h1 := hblk w'.heap.size hlt
    rw [Array.getElem?_eq_none (Nat.le_refl _), Array.getElem?_eq_getElem hlt] at h1
    cases h1
  · exact hge

end Go.Proofs.YthpkgkoojhgedaaDoor.V

/- Rows laid flat: a list of places, each a row of the same length. -/
namespace Go.Proofs.YthpkgkoojhgedaaDoor.V
set_option linter.unusedSectionVars false
set_option linter.unusedVariables false
set_option linter.unusedSimpArgs false
open Go

section
variable {α : Type} {row : α → List Value} {e : Nat}

theorem flat_len (hr : ∀ x, (row x).length = e) : ∀ l : List α, (l.flatMap row).length = l.length * e
  | [] => by simp
  | x :: l => by simp [hr, flat_len hr l, Nat.succ_mul, Nat.add_comm]

theorem flat_get (hr : ∀ x, (row x).length = e) : ∀ (l : List α) (i j : Nat) (x : α), l[i]? = some x → j < e → (l.flatMap row)[i * e + j]? = (row x)[j]?
  | [], i, j, x, h, _ => by simp at h
  | y :: l, 0, j, x, h, hj => by
    simp at h; subst h
    rw [List.flatMap_cons, List.getElem?_append_left (by rw [hr]; omega)]; simp
  | y :: l, i + 1, j, x, h, hj => by
    rw [List.flatMap_cons, List.getElem?_append_right (by rw [hr, Nat.succ_mul]; omega), hr, show (i + 1) * e + j - e = i * e + j by rw [Nat.succ_mul]; omega]
    exact flat_get hr l i j x (by simpa using h) hj

theorem wrL_get : ∀ (vs c : List Value) (o i : Nat), o + vs.length ≤ c.length → (wrL c o vs)[i]? = if o ≤ i ∧ i < o + vs.length then vs[i - o]? else c[i]?
  | [], c, o, i, _ => by
    simp only [wrL, List.length_nil, Nat.add_zero]; rw [if_neg (by omega)]
  | v :: vs, c, o, i, h => by
    simp only [List.length_cons] at h ⊢
    simp only [wrL]
    rw [wrL_get vs (c.set o v) (o + 1) i (by simp; omega)]
    by_cases h1 : i = o
    · subst h1
      rw [if_neg (by omega), if_pos (by omega)]
      rw [List.getElem?_set_self (by omega)]; simp
    · by_cases h2 : o + 1 ≤ i ∧ i < o + 1 + vs.length
      · rw [if_pos h2, if_pos (by omega), show i - o = (i - (o + 1)) + 1 by omega, List.getElem?_cons_succ]
      · rw [if_neg h2, if_neg (by omega), List.getElem?_set_ne (Ne.symm h1)]

theorem flat_set (hr : ∀ x, (row x).length = e) (l : List α) (i : Nat) (x : α) (hi : i < l.length) : wrL (l.flatMap row) (i * e) (row x) = (l.set i x).flatMap row := by
  have hle : i * e + e ≤ l.length * e := by rw [← Nat.succ_mul]; exact Nat.mul_le_mul_right e hi
  apply List.ext_getElem?
  intro k
  rw [wrL_get _ _ _ _ (by rw [hr, flat_len hr]; omega), hr]
  by_cases he : e = 0
  · subst he
    rw [if_neg (by omega), List.getElem?_eq_none (by rw [flat_len hr]; simp), List.getElem?_eq_none (by rw [flat_len hr]; simp)]
  · have hk : k = k / e * e + k % e := by rw [Nat.mul_comm]; exact (Nat.div_add_mod k e).symm
    have hm : k % e < e := Nat.mod_lt _ (by omega)
    by_cases hq : k / e < l.length
    · have hgl : l[k / e]? = some l[k / e] := List.getElem?_eq_getElem hq
      by_cases hki : k / e = i
      · have : (l.set i x)[k / e]? = some x := by rw [hki, List.getElem?_set_self hi]
        have h2 := flat_get hr (l.set i x) (k / e) (k % e) x this hm
        rw [← hk] at h2
        rw [h2, if_pos (by rw [← hki]; omega)]
        congr 1
        rw [← hki]; omega
      · have : (l.set i x)[k / e]? = some l[k / e] := by rw [List.getElem?_set_ne (fun h => hki h.symm)]; exact hgl
        have h2 := flat_get hr (l.set i x) (k / e) (k % e) _ this hm
        have h3 := flat_get hr l (k / e) (k % e) _ hgl hm
        rw [← hk] at h2 h3
        rw [h2, h3, if_neg]
        rintro ⟨h4, h5⟩
        apply hki
        rcases Nat.lt_trichotomy (k / e) i with hlt | heq | hgt
        · exfalso
          have : (k / e + 1) * e ≤ i * e := Nat.mul_le_mul_right e hlt
          rw [Nat.succ_mul] at this; omega
        · exact heq
        · exfalso
          have : (i + 1) * e ≤ k / e * e := Nat.mul_le_mul_right e hgt
          rw [Nat.succ_mul] at this; omega
    · have hbig : l.length * e ≤ k := by
        have : l.length * e ≤ k / e * e := Nat.mul_le_mul_right e (by omega)
        omega
      rw [if_neg (by omega), List.getElem?_eq_none (by rw [flat_len hr]; omega), List.getElem?_eq_none (by rw [flat_len hr]; simp; omega)]

theorem flat_reps (x : α) : ∀ n, reps n (row x) = (List.replicate n x).flatMap row
  | 0 => rfl
  | n + 1 => by rw [List.replicate_succ, List.flatMap_cons, ← flat_reps x n]; rfl

theorem wr_flat (hr : ∀ x, (row x).length = e) (l : List α) (i : Nat) (x : α) (hi : i < l.length) : wr (l.flatMap row).toArray (i * e) (row x) = ((l.set i x).flatMap row).toArray := by
  rw [wr_wrL, flat_set hr l i x hi]

/-- A row read whole, from its o-th cell on. -/
theorem rd_flat (hr : ∀ x, (row x).length = e) {l : List α} {i : Nat} {x : α} (hi : l[i]? = some x) (o n : Nat) (vs : List Value) (hv : ((row x).drop o).take n = vs) (hn : vs.length = n) (ho : o + n ≤ e) (hn0 : 0 < n) :
    rd (l.flatMap row).toArray (i * e + o) n true = some (.agg vs.toArray) := by
  have hil : i < l.length := (List.getElem?_eq_some_iff.1 hi).1
  have hle : i * e + e ≤ l.length * e := by rw [← Nat.succ_mul]; exact Nat.mul_le_mul_right e hil
  have h1 : i * e + o + n ≤ (l.flatMap row).toArray.size := by simp only [List.size_toArray]; rw [flat_len hr]; omega
  unfold rd
  rw [if_pos rfl, if_pos h1]
  congr 2
  unfold sub
  congr 1
  rw [← hv]
  apply List.ext_getElem?
  intro j
  rw [List.getElem?_take, List.getElem?_take]
  split
  · rename_i hj
    rw [List.getElem?_drop, List.getElem?_drop, Nat.add_assoc, ← flat_get hr l i (o + j) x hi (by omega)]
  · rfl

theorem rd1_flat (hr : ∀ x, (row x).length = e) {l : List α} {i : Nat} {x : α} (hi : l[i]? = some x) (o : Nat) (v : Value) (hv : (row x)[o]? = some v) (ho : o < e) (n : Nat) :
    rd (l.flatMap row).toArray (i * e + o) n false = some v := by
  unfold rd
  rw [if_neg (by simp), ← hv, ← flat_get hr l i o x hi ho]
  simp

end
end Go.Proofs.YthpkgkoojhgedaaDoor.V

/- A bounded table in memory: places free or taken. -/
namespace Go.Proofs.YthpkgkoojhgedaaDoor.V
set_option linter.unusedSectionVars false
set_option linter.unusedVariables false
set_option linter.unusedSimpArgs false
open Go

theorem rd1_at {α : Type} {row : α → List Value} {e : Nat} (hr : ∀ x, (row x).length = e) {l : List α} {k : Nat} {x : α} (hi : l[k]? = some x) (o : Nat) (v : Value) (hv : (row x)[o]? = some v) (ho : o < e) (n : Nat) :
    rd (l.flatMap row).toArray (0 + (k : Int).toNat * e + o) n false = some v := by
  rw [Nat.zero_add]; exact rd1_flat hr hi o v hv ho n

theorem rd_at {α : Type} {row : α → List Value} {e : Nat} (hr : ∀ x, (row x).length = e) {l : List α} {k : Nat} {x : α} (hi : l[k]? = some x) (o n : Nat) (vs : List Value) (hv : ((row x).drop o).take n = vs) (hn : vs.length = n) (ho : o + n ≤ e) (hn0 : 0 < n) :
    rd (l.flatMap row).toArray (0 + (k : Int).toNat * e + o) n true = some (.agg vs.toArray) := by
  rw [Nat.zero_add]; exact rd_flat hr hi o n vs hv hn ho hn0

theorem wr_at {α : Type} {row : α → List Value} {e : Nat} (hr : ∀ x, (row x).length = e) {l : List α} {k : Nat} (x : α) (hi : k < l.length) :
    wr (l.flatMap row).toArray (0 + (k : Int).toNat * e) (row x) = ((l.set k x).flatMap row).toArray := by
  rw [Nat.zero_add]; exact wr_flat hr l k x hi

section
variable {α : Type}

def cnt (l : List (Option α)) : Nat := (l.filter (·.isSome)).length

theorem cnt_le (l : List (Option α)) : cnt l ≤ l.length := List.length_filter_le _ _

theorem cnt_set_some {v : α} : ∀ {l : List (Option α)} {k : Nat}, l[k]? = some none → cnt (l.set k (some v)) = cnt l + 1
  | [], k, h => by simp at h
  | x :: l, 0, h => by simp at h; subst h; simp [cnt]
  | x :: l, k + 1, h => by
    have := cnt_set_some (v := v) (l := l) (k := k) (by simpa using h)
    unfold cnt at *
    cases x <;> simp [List.filter_cons] <;> omega

theorem cnt_set_none {v : α} : ∀ {l : List (Option α)} {k : Nat}, l[k]? = some (some v) → cnt (l.set k none) + 1 = cnt l
  | [], k, h => by simp at h
  | x :: l, 0, h => by simp at h; subst h; simp [cnt]
  | x :: l, k + 1, h => by
    have := cnt_set_none (v := v) (l := l) (k := k) (by simpa using h)
    unfold cnt at *
    cases x <;> simp [List.filter_cons] <;> omega

theorem cnt_set_same {v w : α} : ∀ {l : List (Option α)} {k : Nat}, l[k]? = some (some v) → cnt (l.set k (some w)) = cnt l
  | [], k, h => by simp at h
  | x :: l, 0, h => by simp at h; subst h; simp [cnt]
  | x :: l, k + 1, h => by
    have := cnt_set_same (v := v) (w := w) (l := l) (k := k) (by simpa using h)
    unfold cnt at *
    cases x <;> simp [List.filter_cons] <;> omega

theorem cnt_repl (n : Nat) : cnt (List.replicate n (none : Option α)) = 0 := by simp [cnt]

/-- What lies at a place. -/
def got (l : List (Option α)) (i : Int) : Option α := if 0 ≤ i then (match l[i.toNat]? with | some x => x | none => none) else none

theorem got_nat (l : List (Option α)) (k : Nat) : got l (k : Int) = (match l[k]? with | some x => x | none => none) := by simp [got]

theorem got_neg {l : List (Option α)} {i : Int} (h : i < 0) : got l i = none := by simp [got, show ¬ 0 ≤ i by omega]

theorem got_big {l : List (Option α)} {k : Nat} (h : l.length ≤ k) : got l (k : Int) = none := by rw [got_nat, List.getElem?_eq_none h]

theorem got_some {l : List (Option α)} {i : Int} {v : α} (h : got l i = some v) : ∃ k : Nat, i = k ∧ k < l.length ∧ l[k]? = some (some v) := by
  unfold got at h
  split at h
  · rename_i h0
    obtain ⟨k, rfl⟩ := Int.eq_ofNat_of_zero_le h0
    simp only [Int.toNat_natCast] at h
    cases hk : l[k]? with
    | none => rw [hk] at h; cases h
    | some x =>
      rw [hk] at h
      simp only at h
      subst h
      exact ⟨k, rfl, (List.getElem?_eq_some_iff.1 hk).1, hk⟩
  · cases h

/-- The table at p, its places at d. -/
structure TabLow (row : Option α → List Value) (h : Hp) (p d : Nat) (l : List (Option α)) (low : Nat) : Prop where
  cell : ∃ ty, h p = some (.cells #[.slice (some ⟨d, 0, none⟩) l.length l.length, iv (cnt l), iv low] ty (0, 0))
  data : ∃ ty, h d = some (.cells (l.flatMap row).toArray ty (0, 0))
  lo : low ≤ l.length
  full : ∀ j, j < low → l[j]? ≠ some none
  bound : l.length ≤ 4096
  ne : p ≠ d

def TabAt (row : Option α → List Value) (h : Hp) (p d : Nat) (l : List (Option α)) : Prop := ∃ low, TabLow row h p d l low

theorem TabLow.same {row : Option α → List Value} {h h' : Hp} {p d : Nat} {l : List (Option α)} {low : Nat} (hT : TabLow row h p d l low) (h1 : h' p = h p) (h2 : h' d = h d) : TabLow row h' p d l low :=
  ⟨by rw [h1]; exact hT.cell, by rw [h2]; exact hT.data, hT.lo, hT.full, hT.bound, hT.ne⟩

theorem TabAt.same {row : Option α → List Value} {h h' : Hp} {p d : Nat} {l : List (Option α)} (hT : TabAt row h p d l) (h1 : h' p = h p) (h2 : h' d = h d) : TabAt row h' p d l :=
  let ⟨low, hl⟩ := hT; ⟨low, hl.same h1 h2⟩

theorem TabAt.sub {row : Option α → List Value} {h h' : Hp} {p d : Nat} {l : List (Option α)} (hT : TabAt row h p d l) (hs : ∀ b o, h b = some o → h' b = some o) : TabAt row h' p d l := by
  obtain ⟨low, hl⟩ := hT
  obtain ⟨ty, hc⟩ := hl.cell
  obtain ⟨ty2, hd⟩ := hl.data
  exact ⟨low, hl.same (by rw [hc]; exact hs _ _ hc) (by rw [hd]; exact hs _ _ hd)⟩

/-- Two blocks apart, nothing else turned. -/
def But2 (h h' : Hp) (p d : Nat) : Prop := ∀ x, x ≠ p → x ≠ d → h' x = h x

theorem But2.refl (h : Hp) (p d : Nat) : But2 h h p d := fun _ _ _ => rfl
theorem But2.trans {h1 h2 h3 : Hp} {p d : Nat} (a : But2 h1 h2 p d) (b : But2 h2 h3 p d) : But2 h1 h3 p d := fun x hp hd => (b x hp hd).trans (a x hp hd)
theorem But2.updP (h : Hp) (p d : Nat) (o : Obj) : But2 h (upd h p o) p d := fun _ hp _ => upd_other hp
theorem But2.updD (h : Hp) (p d : Nat) (o : Obj) : But2 h (upd h d o) p d := fun _ _ hd => upd_other hd

end
theorem clr_step {z : List Value} {h : Hp} {b o n cap : Nat} {c : Array Value} {ty : TypeId} {fz : Nat × Nat} {K : Ent → Hp → Prop} (hb : h b = some (.cells c ty fz)) (h1 : o + n * z.length ≤ c.size) (h2 : fz.2 ≤ o ∨ o + n * z.length ≤ fz.1) (h3 : z.all one = true)
    (hk : K (.v (.tuple #[])) (upd h b (.cells (wr c o (reps n z)) ty fz))) : clrSK z h (.v (.slice (some ⟨b, o, none⟩) n cap)) K := by
  unfold clrSK
  simp only [hb]
  exact ⟨h1, h2, h3, hk⟩

theorem wr_all {c vs : List Value} (h : vs.length = c.length) : wrL c 0 vs = vs := by
  apply List.ext_getElem?
  intro i
  rw [wrL_get _ _ _ _ (by omega)]
  split
  · simp
  · rename_i hi
    rw [List.getElem?_eq_none (by omega), List.getElem?_eq_none (by omega)]

end Go.Proofs.YthpkgkoojhgedaaDoor.V

/- Slices of numbers that came in. -/
namespace Go.Proofs.YthpkgkoojhgedaaDoor.V
set_option linter.unusedSectionVars false
set_option linter.unusedVariables false
set_option linter.unusedSimpArgs false
open Go Go.ChangeShapes Go.WideShapes Go.ChangeAt Go.RowKit

/-- A row of numbers of one kind. -/
def IntsAt (k : IntKind) (h : Hp) (a : Option Addr) (len : Nat) (f : Nat → Int) : Prop :=
  ∀ i, i < len → ∃ b off c ty z, a = some ⟨b, off, none⟩ ∧ h b = some (.cells c ty z) ∧ c[off + i * 1]? = some (.int k (f i)) ∧ (Lit.int k (f i)).wf = true

theorem IntsAt.sub {k : IntKind} {h h' : Hp} {a : Option Addr} {len : Nat} {f : Nat → Int} (hR : IntsAt k h a len f) (hs : ∀ b o, h b = some o → h' b = some o) : IntsAt k h' a len f := fun i hi =>
  let ⟨b, off, c, ty, z, h1, h2, h3⟩ := hR i hi; ⟨b, off, c, ty, z, h1, hs b _ h2, h3⟩

section
variable {H : Type} {enc : TypeId × Value → H} {P : Program} {w : World} {base : Nat} {spare : Nat → Bool} {held : Bool}

theorem ints_open {t e : TypeId} {k : IntKind} {fuel : Nat} {a : Option Addr} {len cap : Nat} {x : DataW H × List MemPlace} (ht : P.underlying t = some (.slice e)) (he : P.underlying e = some (.int k)) (hc : P.cellsOf e = 1)
    (h : DataW.trod enc P w base spare held fuel t [.slice a len cap] = some x) : ∃ f, IntsAt k (allH w) a len f ∧ len ≤ maxLen := by
  rcases Go.Deep.open_slice ht h with ⟨hn, _⟩ | ⟨a', len', cap', m, fu, D, Pl, hn, hb, hl, hm, hmm, _, hel⟩
  · cases hn
    exact ⟨fun _ => 0, fun i hi => absurd hi (Nat.not_lt_zero _), Nat.zero_le _⟩
  · cases hn
    have hlm : len ≤ m := by rw [hmm]; split <;> omega
    have key : ∀ i, i < m → ∃ q, w.cell? (a'.add (i * 1)) = some (.int k q) ∧ (Lit.int k q).wf = true := fun i hi => by
      obtain ⟨cs', h1, h2⟩ := hel i hi
      rw [hc] at h1
      obtain ⟨_, hlen, hcell⟩ := World.cells?_some h1
      obtain ⟨q, h3, _, h4⟩ := DataW.trod_int he h2
      refine ⟨q, ?_, h4⟩
      have := hcell 0 (by omega)
      rw [h3] at this
      simpa [Addr.add] using this
    refine ⟨fun i => match w.cell? (a'.add (i * 1)) with | some (.int _ q) => q | _ => 0, fun i hi => ?_, Nat.le_trans hl hm⟩
    obtain ⟨b, off, spot⟩ := a'
    have hsp : spot = none := by
      obtain ⟨q, h0, _⟩ := key 0 (by omega)
      simpa [Addr.add] using World.cell?_spot h0
    subst hsp
    obtain ⟨q, h1, h2⟩ := key i (by omega)
    rw [add_mk] at h1
    obtain ⟨c, ty, z, hbw, hci⟩ := cell_cells h1
    refine ⟨b, off, c, ty, z, rfl, hbw, ?_⟩
    have : (match w.cell? (Addr.add ⟨b, off, none⟩ (i * 1)) with | some (.int _ q) => q | _ => 0) = q := by rw [add_mk, h1]
    simp only [this]
    exact ⟨hci, h2⟩

theorem weights_cons {t : TypeId} {ts : List TypeId} {d : DataW H} {r : List (DataW H)} (h : (DataW.weightsEach P (t :: ts) (d :: r)).all (· ≤ reachBytes) = true) :
    (d.weights P t).all (· ≤ reachBytes) = true ∧ (DataW.weightsEach P ts r).all (· ≤ reachBytes) = true := by
  simpa [DataW.weightsEach, List.all_append] using h

/-- A slice that came in has so many bytes at most. -/
theorem slice_reach {t e : TypeId} {fuel : Nat} {a : Option Addr} {len cap : Nat} {d : DataW H} {pl : List MemPlace} (ht : P.underlying t = some (.slice e))
    (h : DataW.trod enc P w base spare held fuel t [.slice a len cap] = some (d, pl)) (hz : (d.weights P t).all (· ≤ reachBytes) = true) : len * P.bytesOf e ≤ reachBytes := by
  rcases Go.Deep.open_slice ht h with ⟨hn, _⟩ | ⟨a', len', cap', m, fu, D, Pl, hn, hb, hl, hm, hmm, hx, hel⟩
  · cases hn; simp
  · cases hn
    simp only [Prod.mk.injEq] at hx
    obtain ⟨rfl, _⟩ := hx
    simp only [DataW.weights, ht, List.all_cons, Bool.and_eq_true, decide_eq_true_eq, List.length_map, List.length_range] at hz
    refine Nat.le_trans (Nat.mul_le_mul_right _ ?_) hz.1
    omega

end
end Go.Proofs.YthpkgkoojhgedaaDoor.V

/- Ranging over a map that does not turn. -/
namespace Go.Proofs.YthpkgkoojhgedaaDoor.V
set_option linter.unusedSectionVars false
set_option linter.unusedVariables false
set_option linter.unusedSimpArgs false
open Go

section
variable {α β : Type} {ek : α → Value} {ev : β → Value}

/-- An iterator over the map m: what is still to come, and where it stands. -/
def IterAt (ek : α → Value) (ev : β → Value) (h : Hp) (it m : Nat) (todo : List (α × β)) (cur : Option (α × β)) : Prop :=
  ∃ es clock seen, h it = some (.mapIter (some m) clock seen clock) ∧ h m = some (.map es clock) ∧ (∀ e ∈ es.toList, e.born < clock) ∧ (es.toList.map (·.born)).Nodup ∧
    (es.toList.filter (fun e => !seen.contains e.born)).map (fun e => (e.key, e.val)) = todo.map (fun p => (ek p.1, ev p.2)) ∧
    (match cur with | none => seen = #[] | some p => ∃ e ∈ es.toList, seen.back? = some e.born ∧ e.key = ek p.1 ∧ e.val = ev p.2)

theorem IterAt.same {h h' : Hp} {it m : Nat} {todo : List (α × β)} {cur : Option (α × β)} (hi : IterAt ek ev h it m todo cur) (h1 : h' it = h it) (h2 : h' m = h m) : IterAt ek ev h' it m todo cur := by
  obtain ⟨es, clock, seen, a, b, c⟩ := hi
  exact ⟨es, clock, seen, by rw [h1]; exact a, by rw [h2]; exact b, c⟩

theorem rng_step {h : Hp} {m : Nat} {L : List (α × β)} {K : Ent → Hp → Prop} (hm : MapIs ek ev (h m) L) (hk : ∀ it h', h it = none → (∀ x, x ≠ it → h' x = h x) → IterAt ek ev h' it m L none → K (.v (.pointer (some ⟨it, 0, none⟩))) h') :
    rngK h (.v (.map (some m))) K := by
  obtain ⟨es, c, ho, hes, hbl, hbn⟩ := hm
  unfold rngK
  simp only [ho]
  refine .intro fun b hb => ?_
  have hne : m ≠ b := fun e => by subst e; rw [ho] at hb; cases hb
  refine hk b _ hb (fun x hx => upd_other hx) ⟨es, c, #[], upd_same _ _ _, by rw [upd_other hne]; exact ho, hbl, hbn, ?_, rfl⟩
  rw [← hes]
  congr 1
  rw [List.filter_eq_self]
  intro e he
  simp

theorem filter_push {es : List MapEntry} (hn : (es.map (·.born)).Nodup) {seen : Array Nat} {pre post : List MapEntry} {e : MapEntry} (hf : es.filter (fun e => !seen.contains e.born) = pre ++ e :: post) :
    es.filter (fun x => !(seen.push e.born).contains x.born) = pre ++ post := by
  have h1 : es.filter (fun x => !(seen.push e.born).contains x.born) = (es.filter (fun x => !seen.contains x.born)).filter (fun x => x.born != e.born) := by
    rw [List.filter_filter]
    congr 1
    funext x
    simp only [Array.contains_push, Bool.not_or]
    rw [Bool.and_comm]
    congr 1
  rw [h1, hf]
  have hnd : ((pre ++ e :: post).map (·.born)).Nodup := by rw [← hf]; exact hn.sublist ((List.filter_sublist).map _)
  simp only [List.map_append, List.map_cons] at hnd
  rw [List.nodup_append] at hnd
  obtain ⟨_, hn2, hn3⟩ := hnd
  rw [List.nodup_cons] at hn2
  rw [List.filter_append, List.filter_cons]
  have hp : pre.filter (fun x => x.born != e.born) = pre := List.filter_eq_self.2 fun x hx => by
    have := hn3 x.born (List.mem_map_of_mem hx) e.born (by simp)
    simpa using this
  have hq : post.filter (fun x => x.born != e.born) = post := List.filter_eq_self.2 fun x hx => by
    have : x.born ≠ e.born := fun he => hn2.1 (by rw [← he]; exact List.mem_map_of_mem hx)
    simpa using this
  rw [hp, hq]
  simp

theorem nxt_step {h : Hp} {it m : Nat} {todo : List (α × β)} {cur : Option (α × β)} {K : Ent → Hp → Prop} (hi : IterAt ek ev h it m todo cur)
    (hsome : ∀ pre a v post, todo = pre ++ (a, v) :: post → ∀ h', (∀ x, x ≠ it → h' x = h x) → IterAt ek ev h' it m (pre ++ post) (some (a, v)) → K (.v (.tuple #[.bool true, ek a, ev v])) h')
    (hnone : todo = [] → K (.v (.tuple #[.bool false])) h) : nxtK h (.v (.pointer (some ⟨it, 0, none⟩))) K := by
  obtain ⟨es, clock, seen, h1, h2, hbl, hbn, hf, hcur⟩ := hi
  unfold nxtK
  simp only [h1, h2]
  have hne : m ≠ it := fun e => by subst e; rw [h1] at h2; cases h2
  refine ⟨?_, fun e he hse => ?_, fun hall => ?_⟩
  · by_cases hemp : es.isEmpty = true
    · simp [hemp]
    · have : es.all (·.born ≥ clock) = false := by
        rw [Bool.eq_false_iff]
        intro hall
        rw [Array.all_eq_true] at hall
        rw [Array.isEmpty_iff_size_eq_zero] at hemp
        have h3 := hall 0 (by omega)
        have h4 := hbl es[0] (by simp)
        simp at h3
        omega
      rw [this]; simp
  · have hin : e ∈ es.toList.filter (fun e => !seen.contains e.born) := List.mem_filter.2 ⟨he, by rw [hse]; rfl⟩
    obtain ⟨pre, post, hpp⟩ := List.append_of_mem hin
    rw [hpp] at hf
    simp only [List.map_append, List.map_cons] at hf
    obtain ⟨tp, tr, ht, htp, htr⟩ := List.append_eq_map_iff.1 hf
    obtain ⟨⟨a, v⟩, tq, htq, he1, he2⟩ := List.map_eq_cons_iff.1 htr
    simp only [Prod.mk.injEq] at he1
    rw [← he1.1, ← he1.2]
    refine hsome tp a v tq (by rw [ht, htq]) _ (fun x hx => upd_other hx) ⟨es, clock, seen.push e.born, upd_same _ _ _, by rw [upd_other hne]; exact h2, hbl, hbn, ?_, e, he, by simp, he1.1.symm, he1.2.symm⟩
    rw [filter_push hbn hpp, List.map_append, List.map_append, htp, he2]
  · refine hnone ?_
    have : es.toList.filter (fun e => !seen.contains e.born) = [] := List.filter_eq_nil_iff.2 fun e he hse => by
      have h3 := hall e he (by simpa using hse)
      have h4 := hbl e he
      omega
    rw [this] at hf
    cases todo with
    | nil => rfl
    | cons => simp at hf

theorem ent_step {h : Hp} {it m : Nat} {todo : List (α × β)} {a : α} {v : β} {K : Ent → Prop} (hi : IterAt ek ev h it m todo (some (a, v))) (hk : K (.v (.tuple #[ek a, ev v]))) :
    optK (pEnt h (.v (.pointer (some ⟨it, 0, none⟩)))) K := by
  obtain ⟨es, clock, seen, h1, h2, hbl, hbn, hf, e, he, hb, e1, e2⟩ := hi
  have hfind : es.find? (fun x => x.born == e.born) = some e := by
    rw [← Array.find?_toList]
    clear hf h2 hbl
    generalize es.toList = l at he hbn
    induction l with
    | nil => cases he
    | cons y l ih =>
      rw [List.find?_cons]
      simp only [List.map_cons, List.nodup_cons] at hbn
      rcases List.mem_cons.1 he with rfl | he
      · simp
      · have : (y.born == e.born) = false := by
          simp only [beq_eq_false_iff_ne, ne_eq]
          exact fun hy => hbn.1 (by rw [hy]; exact List.mem_map_of_mem he)
        rw [this]
        exact ih he hbn.2
  simp only [pEnt, h1, h2, hb, if_true, hfind, optK, e1, e2]
  exact hk

end
end Go.Proofs.YthpkgkoojhgedaaDoor.V

/- Slices that the call itself makes and appends to. -/
namespace Go.Proofs.YthpkgkoojhgedaaDoor.V
set_option linter.unusedSectionVars false
set_option linter.unusedVariables false
set_option linter.unusedSimpArgs false
open Go

section
variable {α : Type}

/-- A slice of our own: nil, or a block with room behind the elements. -/
def OwnSl (row : α → List Value) (z : List Value) (h : Hp) (s : Value) (bs : Option Nat) (l : List α) : Prop :=
  (bs = none ∧ s = .slice none 0 0 ∧ l = []) ∨
  ∃ d cap ty, bs = some d ∧ s = .slice (some ⟨d, 0, none⟩) l.length cap ∧ l.length ≤ cap ∧ h d = some (.cells (l.flatMap row ++ reps (cap - l.length) z).toArray ty (0, 0))

theorem OwnSl.same {row : α → List Value} {z : List Value} {h h' : Hp} {s : Value} {bs : Option Nat} {l : List α} (ho : OwnSl row z h s bs l) (hs : ∀ d, bs = some d → h' d = h d) : OwnSl row z h' s bs l := by
  rcases ho with ⟨h1, h2, h3⟩ | ⟨d, cap, ty, h1, h2, h3, h4⟩
  · exact .inl ⟨h1, h2, h3⟩
  · exact .inr ⟨d, cap, ty, h1, h2, h3, by rw [hs d h1]; exact h4⟩

/-- Seen from its elements. -/
theorem OwnSl.look {row : α → List Value} {z : List Value} {e : Nat} (hr : ∀ x, (row x).length = e) {h : Hp} {s : Value} {bs : Option Nat} {l : List α} (ho : OwnSl row z h s bs l) :
    ∃ base cap, s = .slice base l.length cap ∧ ∀ i x, l[i]? = some x → ∃ d c ty, base = some ⟨d, 0, none⟩ ∧ h d = some (.cells c ty (0, 0)) ∧ bs = some d ∧ (∀ j, j < e → c[0 + i * e + j]? = (row x)[j]?) := by
  rcases ho with ⟨h1, h2, h3⟩ | ⟨d, cap, ty, h1, h2, h3, h4⟩
  · subst h3; exact ⟨none, 0, h2, fun i x hx => by simp at hx⟩
  · refine ⟨_, cap, h2, fun i x hx => ⟨d, _, ty, rfl, h4, h1, fun j hj => ?_⟩⟩
    have hi : i < l.length := (List.getElem?_eq_some_iff.1 hx).1
    have hle : i * e + e ≤ l.length * e := by rw [← Nat.succ_mul]; exact Nat.mul_le_mul_right e hi
    rw [Nat.zero_add, List.getElem?_toArray, List.getElem?_append_left (by rw [flat_len hr]; omega)]
    exact flat_get hr l i j x hx hj

theorem reps_add (z : List Value) : ∀ a b, reps (a + b) z = reps a z ++ reps b z
  | 0, b => by simp [reps]
  | a + 1, b => by rw [Nat.succ_add]; simp [reps, reps_add z a b]

theorem reps_len (z : List Value) (n : Nat) : (reps n z).length = n * z.length := reps_length z n

theorem wrL_mid {A B C V : List Value} (h : B.length = V.length) : wrL (A ++ B ++ C) A.length V = A ++ V ++ C := by
  apply List.ext_getElem?
  intro i
  rw [wrL_get _ _ _ _ (by simp; omega)]
  split
  · rename_i hi
    rw [List.append_assoc, List.getElem?_append_right (by omega), List.getElem?_append_left (by omega)]
  · rename_i hi
    by_cases hA : i < A.length
    · rw [List.append_assoc, List.getElem?_append_left hA, List.append_assoc, List.getElem?_append_left hA]
    · rw [List.getElem?_append_right (by simp; omega), List.getElem?_append_right (by simp; omega)]
      simp [h]

/-- One element more: in place where there is room, else in a new block. -/
theorem app_step {row : α → List Value} {z : List Value} (hr : ∀ x, (row x).length = z.length) (hone : ∀ x, (row x).all one = true) {h : Hp} {s : Value} {bs : Option Nat} {l : List α} {x : α} {ty ty1 : TypeId} {bytes b1 : Nat} {K : Ent → Hp → Prop}
    (ho : OwnSl row z h s bs l) (h1 : h b1 = some (.cells (row x).toArray ty1 (0, 0))) (hb : 2 * (l.length + 1) * bytes ≤ 2 ^ 48)
    (hK : ∀ s' bs' h', OwnSl row z h' s' bs' (l ++ [x]) → (∀ y o, h y = some o → bs ≠ some y → h' y = some o) → (bs' = bs ∨ ∃ d, bs' = some d ∧ h d = none) → (∀ d, bs' = some d → ∃ o, h' d = some o) → K (.v s') h') :
    appK z ty bytes h (.v s) (.v (.slice (some ⟨b1, 0, none⟩) 1 1)) K := by
  have hsrc : srcCells h 1 z.length (.v (.slice (some ⟨b1, 0, none⟩) 1 1)) = some (row x) := by
    rw [src_some h1 (by simp [hr])]
    simp only [List.extract_toArray, List.extract_eq_take_drop, Nat.zero_add, Nat.one_mul, Nat.sub_zero, List.drop_zero]
    rw [List.take_of_length_le (by rw [hr]; exact Nat.le_refl _)]
  unfold appK
  simp only [elen]
  rcases ho with ⟨rfl, rfl, rfl⟩ | ⟨d, cap, ty2, rfl, rfl, hle, hd⟩
  · simp only [hsrc]
    refine ⟨by rw [hr, Nat.one_mul], ?_⟩
    rw [if_neg (by omega)]
    simp only [srcCells]
    refine ⟨by simp, by simpa using hb, fun cap' hc => ?_⟩
    refine .intro fun d hd => ?_
    refine hK _ (some d) _ (.inr ⟨d, cap', ty, rfl, rfl, by simpa using hc, ?_⟩) (fun y o hy _ => ?_) (.inr ⟨d, rfl, hd⟩) (fun d' hd' => ?_)
    · rw [upd_same]; simp
    · rw [upd_other (fun e => by subst e; rw [hd] at hy; cases hy)]; exact hy
    · cases hd'; exact ⟨_, upd_same _ _ _⟩
  · simp only [hsrc]
    refine ⟨by rw [hr, Nat.one_mul], ?_⟩
    have hfl := flat_len hr l
    by_cases hroom : l.length + 1 ≤ cap
    · rw [if_pos hroom]
      simp only [hd]
      have hsz : (l.flatMap row ++ reps (cap - l.length) z).toArray.size = cap * z.length := by
        simp only [List.size_toArray, List.length_append, hfl, reps_len]
        rw [← Nat.add_mul]; congr 1; omega
      refine ⟨hone x, ?_, .inl (Nat.zero_le _), ?_⟩
      · rw [hsz, Nat.zero_add]; exact Nat.mul_le_mul_right _ hroom
      · have hwr : wr (l.flatMap row ++ reps (cap - l.length) z).toArray (0 + l.length * z.length) (row x) = ((l ++ [x]).flatMap row ++ reps (cap - (l ++ [x]).length) z).toArray := by
          rw [wr_wrL, Nat.zero_add, ← hfl, show cap - l.length = 1 + (cap - (l.length + 1)) by omega, reps_add, ← List.append_assoc, wrL_mid (by rw [reps_len, hr]; omega)]
          simp
        rw [hwr]
        refine hK _ (some d) _ (.inr ⟨d, cap, ty2, rfl, by simp, by simpa using hroom, upd_same _ _ _⟩) (fun y o hy hne => ?_) (.inl rfl) (fun d' hd' => ?_)
        · rw [upd_other (fun e => hne (by rw [e]))]; exact hy
        · cases hd'; exact ⟨_, upd_same _ _ _⟩
    · rw [if_neg hroom]
      have hcap : cap = l.length := by omega
      have hsrc2 : srcCells h l.length z.length (.v (.slice (some ⟨d, 0, none⟩) l.length cap)) = some (l.flatMap row) := by
        rw [src_some hd (by simp [hfl])]
        simp only [List.extract_toArray, List.extract_eq_take_drop, Nat.zero_add, Nat.sub_zero, List.drop_zero]
        rw [List.take_append_of_le_length (by rw [hfl]; exact Nat.le_refl _), List.take_of_length_le (by rw [hfl]; exact Nat.le_refl _)]
      simp only [hsrc2]
      refine ⟨hfl, by simpa using hb, fun cap' hc => ?_⟩
      refine .intro fun d' hd' => ?_
      refine hK _ (some d') _ (.inr ⟨d', cap', ty, rfl, by simp, by simpa using hc, ?_⟩) (fun y o hy _ => ?_) (.inr ⟨d', rfl, hd'⟩) (fun d'' hd'' => ?_)
      · rw [upd_same]; simp
      · rw [upd_other (fun e => by subst e; rw [hd'] at hy; cases hy)]; exact hy
      · cases hd''; exact ⟨_, upd_same _ _ _⟩

end
end Go.Proofs.YthpkgkoojhgedaaDoor.V

/- Heaps in parts: a list of what lies apart; contracts on a part serve wherever that part lies. -/
namespace Go.Proofs.YthpkgkoojhgedaaDoor.V
set_option linter.unusedSectionVars false
set_option linter.unusedVariables false
set_option linter.unusedSimpArgs false
open Go

abbrev As := Hp → Prop

/-- The heap has these, each in a part of its own (and whatever else). -/
def Has : List As → Hp → Prop
  | [], _ => True
  | A :: L, h => ∃ h1 h2, h = join h1 h2 ∧ V.Apart h1 h2 ∧ A h1 ∧ Has L h2

/-- One block. -/
def Pt (b : Nat) (o : Obj) : As := fun h => h b = some o

/-- What lay there at the start. -/
def Is (g : Hp) : As := fun h => h = g

theorem join_sub_left (h g : Hp) : SubH h (join h g) := fun b o hb => join_left hb
theorem join_sub_right {h g : Hp} (ha : V.Apart h g) : SubH g (join h g) := fun b o hb => by
  cases hh : h b with
  | none => rw [join_right hh]; exact hb
  | some p => rw [ha b p hh] at hb; cases hb

theorem SubH.tr {h1 h2 h3 : Hp} (a : SubH h1 h2) (b : SubH h2 h3) : SubH h1 h3 := fun x o hx => b x o (a x o hx)

/-- What is left of h without h1. -/
def rest (h h1 : Hp) : Hp := fun b => if (h1 b).isSome then none else h b

theorem rest_join {h h1 : Hp} (hs : SubH h1 h) : h = join h1 (rest h h1) := by
  funext b
  unfold join rest
  cases hh : h1 b with
  | none => simp
  | some o => simp; exact hs b o hh

theorem rest_apart (h h1 : Hp) : V.Apart h1 (rest h h1) := fun b o hb => by simp [rest, hb]

theorem Has.sub : ∀ {L : List As} {h h' : Hp}, Has L h → SubH h h' → Has L h'
  | [], _, _, _, _ => trivial
  | A :: L, h, h', ⟨h1, h2, he, ha, hA, hL⟩, hs => by
    have hs1 : SubH h1 h' := fun b o hb => hs b o (by rw [he]; exact join_left hb)
    refine ⟨h1, rest h' h1, rest_join hs1, rest_apart _ _, hA, hL.sub fun b o hb => ?_⟩
    have h3 : h1 b = none := by
      cases hh : h1 b with
      | none => rfl
      | some p => rw [ha b p hh] at hb; cases hb
    simp only [rest, h3, Option.isSome_none, Bool.false_eq_true, if_false]
    exact hs b o (by rw [he, join_right h3]; exact hb)

theorem Has.tail {A : As} {L : List As} {h : Hp} (hh : Has (A :: L) h) : Has L h := by
  obtain ⟨h1, h2, rfl, ha, hA, hL⟩ := hh
  exact hL.sub (join_sub_right ha)

theorem Has.mono1 {A A' : As} {L : List As} {h : Hp} (hh : Has (A :: L) h) (hA : ∀ g, A g → A' g) : Has (A' :: L) h := by
  obtain ⟨h1, h2, e, ha, h3, hL⟩ := hh
  exact ⟨h1, h2, e, ha, hA _ h3, hL⟩

theorem join_swap {a b c : Hp} (hab : V.Apart a b) : join a (join b c) = join b (join a c) := by
  funext x
  unfold join
  cases ha : a x with
  | none => cases hb : b x <;> simp
  | some o => rw [hab x o ha]; simp

theorem apart_join {a b c : Hp} (h1 : V.Apart a b) (h2 : V.Apart a c) : V.Apart a (join b c) := fun x o hx => by
  unfold join; rw [h1 x o hx, h2 x o hx]; rfl

theorem apart_symm {a b : Hp} (h : V.Apart a b) : V.Apart b a := fun x o hx => by
  cases hh : a x with
  | none => rfl
  | some p => rw [h x p hh] at hx; cases hx

theorem apart_of_join {a b c : Hp} (h : V.Apart a (join b c)) : V.Apart a b ∧ V.Apart a c := by
  refine ⟨fun x o hx => ?_, fun x o hx => ?_⟩ <;> have := h x o hx <;> unfold join at this <;> cases hb : b x <;> simp [hb] at this ⊢ <;> assumption

theorem Has.swap {A B : As} {L : List As} {h : Hp} (hh : Has (A :: B :: L) h) : Has (B :: A :: L) h := by
  obtain ⟨h1, h2, rfl, ha, hA, g1, g2, rfl, hb, hB, hL⟩ := hh
  obtain ⟨a1, a2⟩ := apart_of_join ha
  exact ⟨g1, join h1 g2, join_swap a1, apart_join (apart_symm a1) hb, hB, h1, g2, rfl, a2, hA, hL⟩

theorem Has.map_tail {A : As} {L L' : List As} {h : Hp} (hh : Has (A :: L) h) (ht : ∀ g, Has L g → Has L' g) : Has (A :: L') h := by
  obtain ⟨h1, h2, e, ha, h3, hL⟩ := hh
  exact ⟨h1, h2, e, ha, h3, ht _ hL⟩

theorem Has.perm {L L' : List As} (hp : L.Perm L') : ∀ {h : Hp}, Has L h → Has L' h := by
  induction hp with
  | nil => exact fun h => h
  | cons x _ ih => exact fun hh => hh.map_tail fun g hg => ih hg
  | swap x y l => exact fun hh => hh.swap
  | trans _ _ ih1 ih2 => exact fun hh => ih2 (ih1 hh)

theorem perm_erase {α : Type} : ∀ {L : List α} {i : Nat} {x : α}, L[i]? = some x → (x :: L.eraseIdx i).Perm L
  | [], i, x, h => by simp at h
  | y :: L, 0, x, h => by simp at h; subst h; simp
  | y :: L, i + 1, x, h => by
    simp only [List.getElem?_cons_succ] at h
    rw [List.eraseIdx_cons_succ]
    exact (List.Perm.swap y x _).trans ((perm_erase h).cons y)

theorem perm_set {α : Type} : ∀ {L : List α} {i : Nat} {x y : α}, L[i]? = some x → (y :: L.eraseIdx i).Perm (L.set i y)
  | [], i, x, y, h => by simp at h
  | z :: L, 0, x, y, h => by simp
  | z :: L, i + 1, x, y, h => by
    simp only [List.getElem?_cons_succ] at h
    rw [List.eraseIdx_cons_succ, List.set_cons_succ]
    exact (List.Perm.swap z y _).trans ((perm_set h).cons z)

theorem Has.pull {L : List As} {h : Hp} (hh : Has L h) (i : Nat) {A : As} (hi : L[i]? = some A) : Has (A :: L.eraseIdx i) h := hh.perm (perm_erase hi).symm

theorem Has.at {L : List As} {h : Hp} (hh : Has L h) (i : Nat) {A : As} (hi : L[i]? = some A) : ∃ g, A g ∧ SubH g h := by
  obtain ⟨h1, h2, rfl, ha, hA, hL⟩ := hh.pull i hi
  exact ⟨h1, hA, join_sub_left _ _⟩

theorem Has.pt {L : List As} {h : Hp} (hh : Has L h) (i : Nat) {b : Nat} {o : Obj} (hi : L[i]? = some (Pt b o)) : h b = some o := by
  obtain ⟨g, h1, h2⟩ := hh.at i hi
  exact h2 _ _ h1

theorem Has.is {L : List As} {h : Hp} (hh : Has L h) (i : Nat) {g : Hp} (hi : L[i]? = some (Is g)) : SubH g h := by
  obtain ⟨g', h1, h2⟩ := hh.at i hi
  rw [show g' = g from h1] at h2; exact h2

theorem Has.start (h : Hp) : Has [Is h] h := ⟨h, fun _ => none, by funext b; simp [join], fun _ _ _ => rfl, rfl, trivial⟩

theorem Has.one {A : As} {h : Hp} (hA : A h) : Has [A] h := ⟨h, fun _ => none, by funext b; simp [join], fun _ _ _ => rfl, hA, trivial⟩

theorem Has.append : ∀ {L1 L2 : List As} {h1 h2 : Hp}, Has L1 h1 → Has L2 h2 → V.Apart h1 h2 → Has (L1 ++ L2) (join h1 h2)
  | [], L2, h1, h2, _, hL, ha => hL.sub (join_sub_right ha)
  | A :: L1, L2, h1, h2, ⟨g1, g2, e, hb, hA, hL1⟩, hL, ha => by
    subst e
    obtain ⟨a1, a2⟩ := apart_of_join (apart_symm ha)
    refine ⟨g1, join g2 h2, ?_, apart_join hb (apart_symm a1), hA, hL1.append hL (apart_symm a2)⟩
    funext x; unfold join; cases g1 x <;> simp

theorem Has.flat {L1 L2 : List As} {h : Hp} (hh : Has (Has L1 :: L2) h) : Has (L1 ++ L2) h := by
  obtain ⟨h1, h2, rfl, ha, hA, hL⟩ := hh
  exact hA.append hL ha

theorem Has.split : ∀ {L1 L2 : List As} {h : Hp}, Has (L1 ++ L2) h → ∃ h1 h2, h = join h1 h2 ∧ V.Apart h1 h2 ∧ Has L1 h1 ∧ Has L2 h2
  | [], L2, h, hh => ⟨fun _ => none, h, by funext b; simp [join], fun _ _ h => (by cases h), trivial, hh⟩
  | A :: L1, L2, h, ⟨g1, g2, e, hb, hA, hL⟩ => by
    obtain ⟨k1, k2, rfl, hc, h1, h2⟩ := hL.split
    subst e
    obtain ⟨a1, a2⟩ := apart_of_join hb
    refine ⟨join g1 k1, k2, ?_, ?_, ⟨g1, k1, rfl, a1, hA, h1⟩, h2⟩
    · funext x; unfold join; cases g1 x <;> simp
    · exact apart_symm (apart_join (apart_symm a2) (apart_symm hc))

theorem Has.group {L1 L2 : List As} {h : Hp} (hh : Has (L1 ++ L2) h) : Has (Has L1 :: L2) h := by
  obtain ⟨h1, h2, e, ha, h3, h4⟩ := hh.split
  exact ⟨h1, h2, e, ha, h3, h4⟩

/-- The i-th turned. -/
theorem Has.put {L : List As} {h : Hp} {i : Nat} {A B : As} (hi : L[i]? = some A) (hh : Has (B :: L.eraseIdx i) h) : Has (L.set i B) h := hh.perm (perm_set hi)

theorem Has.turn {L : List As} {h : Hp} (hh : Has L h) (i : Nat) {A B : As} (hi : L[i]? = some A) (hAB : ∀ g, A g → B g) : Has (L.set i B) h :=
  Has.put hi ((hh.pull i hi).mono1 hAB)

/-- A new block. -/
theorem Has.new {L : List As} {h : Hp} (hh : Has L h) {b : Nat} {o : Obj} (hb : h b = none) : Has (Pt b o :: L) (upd h b o) := by
  refine ⟨fun x => if x = b then some o else none, h, ?_, fun x p hx => ?_, by simp [Pt], hh⟩
  · funext x
    unfold join upd
    by_cases hx : x = b
    · simp [hx]
    · simp [hx]
  · simp only at hx
    split at hx
    · rename_i e; subst e; exact hb
    · cases hx

/-- A block turned. -/
theorem Has.st {L : List As} {h : Hp} (hh : Has L h) (i : Nat) {b : Nat} {o : Obj} (hi : L[i]? = some (Pt b o)) (o' : Obj) : Has (L.set i (Pt b o')) (upd h b o') := by
  obtain ⟨h1, h2, rfl, ha, hA, hL⟩ := hh.pull i hi
  refine Has.put hi ⟨upd h1 b o', h2, ?_, fun x p hx => ?_, upd_same _ _ _, hL⟩
  · funext x
    unfold join
    by_cases hx : x = b
    · subst hx; rw [upd_same, upd_same]; rfl
    · rw [upd_other hx, upd_other hx]
  · by_cases hxb : x = b
    · subst hxb; exact ha x o hA
    · rw [upd_other hxb] at hx; exact ha x p hx

/-- A part turned by what is known of it alone. -/
theorem Has.upd_in {L : List As} {h : Hp} (hh : Has L h) (i : Nat) {A : As} (hi : L[i]? = some A) {b : Nat} {o' : Obj} {B : As} (hA : ∀ g, A g → (∃ o, g b = some o) ∧ B (upd g b o')) : Has (L.set i B) (upd h b o') := by
  obtain ⟨h1, h2, rfl, ha, h3, hL⟩ := hh.pull i hi
  obtain ⟨⟨o, ho⟩, hB⟩ := hA _ h3
  refine Has.put hi ⟨upd h1 b o', h2, ?_, fun x p hx => ?_, hB, hL⟩
  · funext x
    unfold join
    by_cases hx : x = b
    · subst hx; rw [upd_same, upd_same]; rfl
    · rw [upd_other hx, upd_other hx]
  · by_cases hxb : x = b
    · subst hxb; exact ha x o ho
    · rw [upd_other hxb] at hx; exact ha x p hx

/-- A contract on a part: it turns A into one of the Bs, by the answer. -/
def Sp (P : Program) (f : FuncId) (args : List Value) (A : As) {X : Type} (val : X → Value) (B : X → As) : Prop := ∀ h, A h → Ok P f args h (fun v h' => ∃ x, v = val x ∧ B x h')

theorem Has.call1 {P : Program} {f : FuncId} {args : List Value} {A : As} {X : Type} {val : X → Value} {B : X → As} {L : List As} {h : Hp} {Q : Value → Hp → Prop} (hh : Has (A :: L) h) (hs : Sp P f args A val B)
    (hq : ∀ x h', Has (B x :: L) h' → Q (val x) h') : Ok P f args h Q := by
  obtain ⟨h1, h2, rfl, ha, hA, hL⟩ := hh
  exact ((hs h1 hA).frame ha).mono fun v h' ⟨g, e, hg, x, hv, hB⟩ => by
    subst hv
    exact hq x h' ⟨g, h2, e, hg, hB, hL⟩

theorem Has.call {P : Program} {f : FuncId} {args : List Value} {A : As} {X : Type} {val : X → Value} {B : X → As} {L : List As} {h : Hp} {Q : Value → Hp → Prop} (hh : Has L h) (i : Nat) (hi : L[i]? = some A) (hs : Sp P f args A val B)
    (hq : ∀ x h', Has (L.set i (B x)) h' → Q (val x) h') : Ok P f args h Q :=
  (hh.pull i hi).call1 hs fun x h' hh' => hq x h' (Has.put hi hh')

/-- A call that makes something and needs nothing. -/
theorem Has.make {P : Program} {f : FuncId} {args : List Value} {X : Type} {val : X → Value} {B : X → As} {L : List As} {h : Hp} {Q : Value → Hp → Prop} (hh : Has L h) (hs : Sp P f args (fun _ => True) val B)
    (hq : ∀ x h', Has (B x :: L) h' → Q (val x) h') : Ok P f args h Q :=
  Has.call1 (A := fun _ => True) ⟨fun _ => none, h, by funext b; simp [join], fun _ _ h => (by cases h), trivial, hh⟩ hs hq

theorem sub_new {h : Hp} {b : Nat} {o : Obj} (hb : h b = none) : SubH h (upd h b o) := fun x p hx => by
  rw [upd_other (fun e => by subst e; rw [hb] at hx; cases hx)]; exact hx

/-- A new block, and the heap under a name of its own. -/
theorem fresh_has {L : List As} {h : Hp} {o : Obj} {K : Nat → Hp → Prop} (hh : Has L h) (hk : ∀ b h', h' b = some o → h b = none → SubH h h' → Has (Pt b o :: L) h' → K b h') : fresh h o K :=
  .intro fun b hb => hk b _ (upd_same _ _ _) hb (sub_new hb) (hh.new hb)

theorem fresh_sub {h : Hp} {o : Obj} {K : Nat → Hp → Prop} (hk : ∀ b h', h' b = some o → h b = none → SubH h h' → K b h') : fresh h o K :=
  .intro fun b hb => hk b _ (upd_same _ _ _) hb (sub_new hb)

/-- A store into a block of ours, and the heap under a name of its own. -/
theorem st_has {L : List As} {h : Hp} {b o sz : Nat} {β : Bx} {x : Value} {c : Array Value} {ty : TypeId} {K : Hp × Bx → Prop} (hh : Has L h) (i : Nat) (hi : L[i]? = some (Pt b (.cells c ty (0, 0)))) (h1 : x.cells.size = sz) (h2 : o + sz ≤ c.size) (h4 : x.cells.toList.all one = true)
    (hk : ∀ h', h' b = some (.cells (wr c o x.cells.toList) ty (0, 0)) → (∀ y, y ≠ b → h' y = h y) → Has (L.set i (Pt b (.cells (wr c o x.cells.toList) ty (0, 0)))) h' → K (h', β)) : optK (pSt sz h β (.v (.pointer (some ⟨b, o, none⟩))) (.v x)) K :=
  opt_st (hh.pt i hi) h1 h2 (.inl (Nat.zero_le _)) h4 (hk _ (upd_same _ _ _) (fun y hy => upd_other hy) (hh.st i hi _))

/-- Two where one was. -/
theorem Has.spread {L : List As} {h : Hp} {i : Nat} {C A B : As} (hi : L[i]? = some C) (hh : Has (L.set i (Has [A, B])) h) : Has (B :: L.set i A) h := by
  have h1 : Has (Has [A, B] :: L.eraseIdx i) h := hh.perm (perm_set hi).symm
  have h2 : Has ([A, B] ++ L.eraseIdx i) h := h1.flat
  have h3 : Has (B :: A :: L.eraseIdx i) h := Has.swap h2
  exact h3.perm ((perm_set hi).cons B)

/-- A local box filled whole; read whole. -/
theorem opt_stL {h : Hp} {r sz : Nat} {β : Bx} {x : Value} {c : List Value} {K : Hp × Bx → Prop} (hl : lookB β r = some c) (h1 : x.cells.size = sz) (h2 : c.length = sz) (h4 : x.cells.toList.all one = true)
    (hk : K (h, (r, x.cells.toList) :: β)) : optK (pSt sz h β (.l r 0) (.v x)) K := by
  simp only [pSt, stL, hl]
  rw [if_pos ⟨h1, by omega, h4⟩]
  simp only [optK]
  rw [wrF_eq (by simp [h1]; omega), wr_all (by simpa using h1.trans h2.symm)]
  exact hk

theorem opt_ldL {r sz : Nat} {β : Bx} {cs : List Value} {K : Ent → Prop} (hl : lookB β r = some cs) (h1 : cs.length = sz) (hk : K (.v (.agg cs.toArray))) : optK (pLd sz true (fun _ => none) β (.l r 0)) K := by
  have : rd cs.toArray 0 sz true = some (.agg cs.toArray) := by
    simp only [rd, if_true]
    rw [if_pos (by simp; omega)]
    simp only [sub, List.drop_zero]
    rw [List.take_of_length_le (Nat.le_of_eq h1), Array.toArray_toList] 
  simp only [pLd, hl, ldL, this, toE, optK]
  exact hk

theorem range_get {α : Type} (L : List α) (d : α) : (List.range L.length).map (fun i => L.getD i d) = L := by
  apply List.ext_getElem?
  intro i
  rw [List.getElem?_map]
  by_cases h : i < L.length
  · rw [List.getElem?_range h, List.getElem?_eq_getElem h]; simp [h]
  · rw [List.getElem?_eq_none (by simpa using Nat.le_of_not_lt h), List.getElem?_eq_none (by omega)]; rfl

/-- The parts in another order. -/
theorem Has.sel {L : List As} {h : Hp} (hh : Has L h) (is : List Nat) (hp : is.isPerm (List.range L.length) = true) : Has (is.map fun i => L.getD i (fun _ => True)) h := by
  refine hh.perm ?_
  have h1 := (List.isPerm_iff.1 hp).map (fun i => L.getD i (fun _ => True))
  rw [range_get] at h1
  exact h1.symm

theorem mem_set {α : Type} {l : List α} {i : Nat} {x y : α} (h : y ∈ l.set i x) : y = x ∨ y ∈ l := by
  rcases List.mem_or_eq_of_mem_set h with h | h
  · exact .inr h
  · exact .inl h

theorem opt_up1 {v c : List Value} {n : Nat} {K : List Value → Prop} (h1 : v.length = n) (h2 : c.length = n) (hk : K v) : optK (pairsUp [0] [.v (.agg v.toArray)] n c) K := by
  simp only [pairsUp, Value.cells, List.size_toArray]
  rw [if_pos ⟨h1, by omega⟩]
  simp only [optK, Nat.zero_mul]
  rw [wr_all (by rw [h1, h2])]
  exact hk

end Go.Proofs.YthpkgkoojhgedaaDoor.V

/- Slices of our own as parts of a heap. -/
namespace Go.Proofs.YthpkgkoojhgedaaDoor.V
set_option linter.unusedSectionVars false
set_option linter.unusedVariables false
set_option linter.unusedSimpArgs false
open Go

def SlP {α : Type} (row : α → List Value) (z : List Value) (s : Value) (l : List α) : As := fun h => ∃ bs, OwnSl row z h s bs l

section
variable {α : Type} {row : α → List Value} {z : List Value}

theorem SlP.nil (row : α → List Value) (z : List Value) (h : Hp) : SlP row z (.slice none 0 0) [] h := ⟨none, .inl ⟨rfl, rfl, rfl⟩⟩

theorem OwnSl.val {h : Hp} {s : Value} {bs : Option Nat} {l : List α} (ho : OwnSl row z h s bs l) : ∃ a n c, s = .slice a n c := by
  rcases ho with ⟨_, h1, _⟩ | ⟨d, cap, ty, _, h2, _⟩
  · exact ⟨_, _, _, h1⟩
  · exact ⟨_, _, _, h2⟩

theorem OwnSl.some {h : Hp} {s : Value} {bs : Option Nat} {l : List α} (ho : OwnSl row z h s bs l) {d : Nat} (hd : bs = some d) : ∃ o, h d = some o := by
  rcases ho with ⟨h1, _⟩ | ⟨d', cap, ty, h1, h2, h3, h4⟩
  · rw [h1] at hd; cases hd
  · rw [h1] at hd; cases hd; exact ⟨_, h4⟩

theorem OwnSl.sub {h h' : Hp} {s : Value} {bs : Option Nat} {l : List α} (ho : OwnSl row z h s bs l) (hs : SubH h h') : OwnSl row z h' s bs l := by
  rcases ho with ⟨h1, h2, h3⟩ | ⟨d, cap, ty, h1, h2, h3, h4⟩
  · exact .inl ⟨h1, h2, h3⟩
  · exact .inr ⟨d, cap, ty, h1, h2, h3, hs _ _ h4⟩

theorem SlP.sub {h h' : Hp} {s : Value} {l : List α} (ho : SlP row z s l h) (hs : SubH h h') : SlP row z s l h' := let ⟨bs, h1⟩ := ho; ⟨bs, h1.sub hs⟩

/-- All but one block. -/
theorem spare (h : Hp) (bs : Option Nat) : ∃ hr, SubH hr h ∧ (∀ b o, h b = some o → bs ≠ some b → hr b = some o) ∧ (∀ b o, hr b = some o → bs ≠ some b) := by
  refine ⟨fun x => if bs = some x then none else h x, fun b o hb => ?_, fun b o hb hn => by simp [hn, hb], fun b o hb hn => by simp [hn] at hb⟩
  simp only at hb
  split at hb
  · cases hb
  · exact hb

/-- Seen from its elements. -/
theorem SlP.look {e : Nat} (hr : ∀ x, (row x).length = e) {h : Hp} {s : Value} {l : List α} (ho : SlP row z s l h) :
    ∃ base cap, s = .slice base l.length cap ∧ ∀ i x, l[i]? = some x → ∃ d c ty, base = some ⟨d, 0, none⟩ ∧ h d = some (.cells c ty (0, 0)) ∧ (∀ j v, (row x)[j]? = some v → c[0 + i * e + j]? = some v) := by
  obtain ⟨bs, ho⟩ := ho
  obtain ⟨base, cap, h1, h2⟩ := ho.look hr
  refine ⟨base, cap, h1, fun i x hx => ?_⟩
  obtain ⟨d, c, ty, g1, g2, g3, g4⟩ := h2 i x hx
  refine ⟨d, c, ty, g1, g2, fun j v hv => ?_⟩
  have : j < e := by rw [← hr x]; exact (List.getElem?_eq_some_iff.1 hv).1
  rw [g4 j this]; exact hv

/-- One element more. -/
theorem app_has (hr : ∀ x, (row x).length = z.length) (hone : ∀ x, (row x).all one = true) {L : List As} {h : Hp} (hh : Has L h) (i : Nat) {s : Value} {l : List α} (hi : L[i]? = some (SlP row z s l)) {b1 : Nat} {x : α} {ty ty1 : TypeId} {bytes : Nat} {K : Ent → Hp → Prop}
    (h1 : h b1 = some (.cells (row x).toArray ty1 (0, 0))) (hb : 2 * (l.length + 1) * bytes ≤ 2 ^ 48)
    (hK : ∀ s' h', Has (L.set i (SlP row z s' (l ++ [x]))) h' → K (.v s') h') : appK z ty bytes h (.v s) (.v (.slice (some ⟨b1, 0, none⟩) 1 1)) K := by
  obtain ⟨g1, g2, rfl, ha, ⟨bs, ho⟩, hL⟩ := hh.pull i hi
  refine app_step hr hone (ho.sub (join_sub_left _ _)) h1 hb fun s' bs' h' ho' hk hbs hex => hK s' h' (Has.put hi ?_)
  have hg2 : SubH g2 h' := fun y o hy => hk y o (join_sub_right ha y o hy) fun e => by
    obtain ⟨o', ho''⟩ := ho.some e
    rw [ha y o' ho''] at hy; cases hy
  have hap : ∀ d, bs' = some d → g2 d = none := fun d hd => by
    rcases hbs with e | ⟨d', e, hd'⟩
    · rw [e] at hd
      obtain ⟨o', ho''⟩ := ho.some hd
      exact ha d o' ho''
    · rw [e] at hd; cases hd
      cases hg : g2 d with
      | none => rfl
      | some o => rw [join_sub_right ha d o hg] at hd'; cases hd'
  refine Has.sub (h := join (fun y => if bs' = some y then h' y else none) g2) ⟨_, g2, rfl, fun y o hy => ?_, ⟨bs', ho'.same fun d hd => by simp [hd]⟩, hL⟩ fun y o hy => ?_
  · simp only at hy
    split at hy
    · rename_i e; exact hap y e
    · cases hy
  · unfold join at hy
    by_cases e : bs' = some y
    · simp only [e, if_true, hap y e] at hy; simpa using hy
    · simp only [e, if_false] at hy
      exact hg2 y o (by simpa using hy)

end
/-- The end of a function whose results lie in boxes. -/
theorem ret_c {Q : Value → Hp → Prop} {ρ : Env} {β : Bx} {h : Hp} {n sz : Nat} {ag : Bool} {b o : Nat} {c : Array Value} {ty : TypeId} {z : Nat × Nat} {v : Value} (hl : look ρ n = some (.v (.pointer (some ⟨b, o, none⟩))))
    (hb : h b = some (.cells c ty z)) (hv : rd c o sz ag = some v) (hk : Q v h) : retK Q [.c n sz ag] ρ β h := by
  simp only [retK, rvs, rv, hl, pLd, ldO, hb, hv, toE, one1]
  exact hk

theorem ret_c2 {Q : Value → Hp → Prop} {ρ : Env} {β : Bx} {h : Hp} {n sz n2 sz2 : Nat} {ag ag2 : Bool} {b o b2 o2 : Nat} {c c2 : Array Value} {ty ty2 : TypeId} {z z2 : Nat × Nat} {v v2 : Value} (hl : look ρ n = some (.v (.pointer (some ⟨b, o, none⟩))))
    (hb : h b = some (.cells c ty z)) (hv : rd c o sz ag = some v) (hl2 : look ρ n2 = some (.v (.pointer (some ⟨b2, o2, none⟩)))) (hb2 : h b2 = some (.cells c2 ty2 z2)) (hv2 : rd c2 o2 sz2 ag2 = some v2) (hk : Q (.tuple #[v, v2]) h) : retK Q [.c n sz ag, .c n2 sz2 ag2] ρ β h := by
  simp only [retK, rvs, rv, hl, hl2, pLd, ldO, hb, hb2, hv, hv2, toE, one1]
  exact hk

end Go.Proofs.YthpkgkoojhgedaaDoor.V
