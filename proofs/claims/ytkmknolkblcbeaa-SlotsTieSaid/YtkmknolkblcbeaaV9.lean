/- The deeds: each is the program's own operation. -/
import Derived.Test.YtkmknolkblcbeaaV8
namespace Go.Proofs.Ytkmknolkblcbeaa.V
set_option linter.unusedSectionVars false
set_option linter.unusedVariables false
set_option linter.unusedSimpArgs false
open Go

/-- The world's part of what is known. -/
structure Wd (B : Nat → Nat) (β : Bx) (h : Hp) (f : Fm) (w : World) : Prop where
  box : ∀ r cs, lookB β r = some cs → ∃ ty, w.heap[B r]? = some (.cells cs.toArray ty (0, 0)) ∧ h (B r) = none ∧ f (B r) = none
  inj : ∀ r s cs es, lookB β r = some cs → lookB β s = some es → B r = B s → r = s
  rep : Rep w h f

/-- The deeds. -/
def cef (P : Program) (prom : List Nat) (o : Oper) : Option (Ef × List Operand) :=
  match cpr P o with
  | some (p, xs) => some (.pr p, xs)
  | none => match o.op with
    | .store t a v => if (P.info? t).isNone then none else some (.st (P.cellsOf t), [a, v])
    | .alloc t => (match zeroCells P t with
      | some z => if z.length = 0 then none else if prom.contains (o.dst.getD 0) && o.dst.isSome then some (.al z, []) else some (.alh z t, [])
      | none => none)
    | .box t v => if prom.contains (o.dst.getD 0) && o.dst.isSome then some (.bx, [v]) else some (.bxh t, [v])
    | .makeSlice t l c => (match P.underlying t with
      | some (.slice e) => (match P.info? e, zeroCells P e with
        | some i, some z => if z.length = i.size && z.length != 0 then some (.mks z e i.bytes, [l, c]) else none
        | _, _ => none)
      | _ => none)
    | .buildSlice t len parts => (match P.underlying t with
      | some (.slice e) => (match P.info? e, zeroCells P e with
        | some i, some z => if z.length = i.size && z.length != 0 && len * i.size ≤ 2 ^ 24 then some (.bsl z e len i.size (parts.toList.map (·.1)), parts.toList.map (·.2)) else none
        | _, _ => none)
      | _ => none)
    | .makeMap _ none => some (.mkm, [])
    | .makeMap t (some r) => (match P.underlying t with | some (.map _ _) => some (.mkmr, [r]) | _ => none)
    | .range t m => (match P.underlying t with | some (.map _ _) => some (.rng, [m]) | _ => none)
    | .next it false => some (.nxt, [it])
    | .entry it => some (.ent, [it])
    | .mapUpdate t m k v | .insert t m k v => (match P.underlying t with
      | some (.map kt _) => (match eqT P kt with | some e => some (.mup e, [m, k, v]) | none => none)
      | _ => none)
    | .call { callee := .value (.func k), args, argTypes := _ } => if callable P k then some (.call k, args.toList) else none
    | .call { callee := .value (.tmp t), args, argTypes := _ } => some (.callv, .tmp t :: args.toList)
    | .call { callee := .builtin .append, args, argTypes } => (match args.toList, argTypes.toList with
      | [s, x], [t, u] => (match P.underlying t, P.underlying u with
        | some (.slice e), some (.slice _) => (match P.info? e, zeroCells P e with
          | some i, some z => if z.length = i.size && z.length != 0 && i.bytes != 0 then some (.app z e i.bytes, [s, x]) else none
          | _, _ => none)
        | _, _ => none)
      | _, _ => none)
    | .call { callee := .builtin .delete, args, argTypes } => (match args.toList, argTypes[0]? with
      | [m, k], some t => (match P.underlying t with
        | some (.map kt _) => (match eqT P kt with | some e => some (.mdel e, [m, k]) | none => none)
        | _ => none)
      | _, _ => none)
    | .call { callee := .builtin .clear, args, argTypes } => (match args.toList, argTypes[0]? with
      | [m], some t => (match P.underlying t with
        | some (.map _ _) => some (.clrM, [m])
        | some (.slice e) => (match P.info? e, zeroCells P e with
          | some i, some z => if z.length = i.size && z.length != 0 then some (.clrS z, [m]) else none
          | _, _ => none)
        | _ => none)
      | _, _ => none)
    | .call { callee := .builtin .copy, args, argTypes } => (match args.toList, argTypes[0]? with
      | [d, s], some t => (match P.underlying t with
        | some (.slice e) => if (P.info? e).isNone then none else some (.cpy (P.cellsOf e), [d, s])
        | _ => none)
      | _, _ => none)
    | _ => none

section
variable {P : Program} {w : World} {h : Hp} {f : Fm} {B : Nat → Nat} {β : Bx} {ρ : Operand → Value}

theorem Wd.boxes (hw : Wd B β h f w) : ∀ r cs, lookB β r = some cs → ∃ ty, w.heap[B r]? = some (.cells cs.toArray ty (0, 0)) := fun r cs hl =>
  let ⟨ty, h1, _⟩ := hw.box r cs hl; ⟨ty, h1⟩

theorem Wd.ne_box (hw : Wd B β h f w) {b : Nat} {o : Obj} (hb : h b = some o) {r : Nat} {cs : List Value} (hl : lookB β r = some cs) : B r ≠ b := fun e => by
  obtain ⟨_, _, h2, _⟩ := hw.box r cs hl
  rw [e, hb] at h2; cases h2

/-- The heap changed at a block in sight. -/
theorem Wd.set (hw : Wd B β h f w) {w' : World} {b : Nat} {o o' : Obj} (hb : h b = some o) (hu : Upd w w' b o') : Wd B β (upd h b o') f w' := by
  have he := hu.get
  refine ⟨fun r cs hl => ?_, hw.inj, hw.rep.set hb hu⟩
  obtain ⟨ty, h1, h2, h3⟩ := hw.box r cs hl
  exact ⟨ty, by rw [he, if_neg (hw.ne_box hb hl)]; exact h1, by rw [upd_other (hw.ne_box hb hl)]; exact h2, h3⟩

theorem Wd.push (hw : Wd B β h f w) {w' : World} {o : Obj} (he : w'.heap = w.heap.push o) (hs : Still w w' := by exact ⟨rfl, rfl, rfl⟩) : Wd B β (upd h w.heap.size o) f w' := by
  have hlt : ∀ r cs, lookB β r = some cs → B r ≠ w.heap.size := fun r cs hl e => by
    obtain ⟨ty, h1, _⟩ := hw.box r cs hl
    rw [e] at h1; simp at h1
  refine ⟨fun r cs hl => ?_, hw.inj, hw.rep.push he hs⟩
  obtain ⟨ty, h1, h2, h3⟩ := hw.box r cs hl
  exact ⟨ty, by rw [he, push_get, if_neg (hlt r cs hl)]; exact h1, by rw [upd_other (hlt r cs hl)]; exact h2, h3⟩

theorem Wd.heap (hw : Wd B β h f w) {w' : World} (he : w'.heap = w.heap) (hs : Still w w' := by exact ⟨rfl, rfl, rfl⟩) : Wd B β h f w' :=
  ⟨fun r cs hl => by rw [he]; exact hw.box r cs hl, hw.inj, hw.rep.heap he hs⟩

/-- What is hidden from a callee: the frame and the boxes. -/
def frH (B : Nat → Nat) (β : Bx) (f : Fm) (w : World) : Hp := fun b => (f b).or (if β.any (fun p => B p.1 == b) then w.heap[b]? else none)

def frB (B : Nat → Nat) (β : Bx) (f : Fm) (w : World) : Fm := { f with hid := frH B β f w }

theorem lookB_any : ∀ {β : Bx} {r : Nat} {cs : List Value}, lookB β r = some cs → ∃ p ∈ β, p.1 = r
  | [], _, _, h => by cases h
  | (k, e) :: β, r, cs, h => by
    simp only [lookB] at h
    split at h
    · rename_i hk; exact ⟨(k, e), by simp, hk⟩
    · obtain ⟨p, hp, hr⟩ := lookB_any h; exact ⟨p, by simp [hp], hr⟩

theorem any_lookB : ∀ {β : Bx} {p : Nat × List Value}, p ∈ β → ∃ cs, lookB β p.1 = some cs
  | (k, e) :: β, p, h => by
    simp only [lookB]
    split
    · exact ⟨_, rfl⟩
    · rename_i hk
      rcases List.mem_cons.1 h with h | h
      · subst h; exact absurd rfl hk
      · exact any_lookB h

theorem Wd.frame (hw : Wd B β h f w) : Rep w h (frB B β f w) := by
  refine ⟨hw.rep.vis, fun b o hb => ?_, fun b o hb => ?_, hw.rep.kp⟩
  · replace hb : frH B β f w b = some o := hb
    unfold frH at hb
    cases hf : f b with
    | some q => rw [hf] at hb; simp at hb; subst hb; exact hw.rep.hid b _ hf
    | none => rw [hf] at hb; simp only [Option.none_or] at hb; split at hb <;> first | exact hb | cases hb
  · show frH B β f w b = none
    unfold frH
    rw [hw.rep.dis b o hb]
    simp only [Option.none_or]
    split
    · rename_i ha
      obtain ⟨p, hp, hpb⟩ := List.any_eq_true.1 ha
      obtain ⟨cs, hl⟩ := any_lookB hp
      exact absurd (by simpa using hpb) (hw.ne_box hb hl)
    · rfl

theorem Wd.back (hw : Wd B β h f w) {w' : World} {h' : Hp} (hr : Rep w' h' (frB B β f w)) : Wd B β h' f w' := by
  have hbx : ∀ r cs, lookB β r = some cs → ∃ ty, frB B β f w (B r) = some (.cells cs.toArray ty (0, 0)) := fun r cs hl => by
    obtain ⟨ty, h1, _, h3⟩ := hw.box r cs hl
    refine ⟨ty, ?_⟩
    show frH B β f w (B r) = _
    unfold frH
    obtain ⟨p, hp, hpr⟩ := lookB_any hl
    rw [h3, Option.none_or, if_pos (List.any_eq_true.2 ⟨p, hp, by simp [hpr]⟩), h1]
  refine ⟨fun r cs hl => ?_, hw.inj, ⟨hr.vis, fun b o hb => hr.hid b o (by show frH B β f w b = _; unfold frH; rw [hb]; rfl), fun b o hb => ?_, hr.kp⟩⟩
  · obtain ⟨ty, h1⟩ := hbx r cs hl
    obtain ⟨_, _, _, h3⟩ := hw.box r cs hl
    refine ⟨ty, hr.hid _ _ h1, ?_, h3⟩
    cases hh : h' (B r) with
    | none => rfl
    | some o => rw [hr.dis _ _ hh] at h1; cases h1
  · have : frH B β f w b = none := hr.dis b o hb
    unfold frH at this
    cases hf : f b with
    | none => rfl
    | some q => rw [hf] at this; simp at this

theorem wr_length : ∀ (l : List Value) (c : Array Value) (o : Nat), (wr c o l).size = c.size
  | [], _, _ => rfl
  | v :: l, c, o => by simp [wr, wr_length l]

theorem wr_wrL : ∀ (l : List Value) (c : List Value) (o : Nat), wr c.toArray o l = (wrL c o l).toArray
  | [], _, _ => rfl
  | v :: l, c, o => by
    simp only [wr, wrL, List.setIfInBounds_toArray]
    exact wr_wrL l _ _

theorem run_storeCells {b o : Nat} {ty : TypeId} {z : Nat × Nat} : ∀ (vs : List Value) (i : Nat) (c : Array Value) (w : World), w.heap[b]? = some (.cells c ty z) → o + i + vs.length ≤ c.size →
    (z.2 ≤ o + i ∨ o + i + vs.length ≤ z.1) → vs.all one = true →
    ∃ w', (storeCells ⟨b, o, none⟩ vs i).run P w = .ok () w' ∧ Upd w w' b (.cells (wr c (o + i) vs) ty z)
  | [], i, c, w, hb, _, _, _ => ⟨w, rfl, fun x => (by split <;> first | (rename_i e; subst e; exact hb) | rfl), ⟨rfl, rfl, rfl⟩⟩
  | v :: vs, i, c, w, hb, hn, hz, h1 => by
    simp only [List.all_cons, Bool.and_eq_true] at h1
    simp only [List.length_cons] at hn hz
    have hcell : w.cell? ⟨b, o + i, none⟩ = some c[o + i] := by rw [cell_of hb]; exact Array.getElem?_eq_getElem (by omega)
    have hfr : w.frozen? ⟨b, o + i, none⟩ = false := by
      rw [frozen_of hb]
      rcases hz with hz | hz
      · have : ¬ (o + i < z.2) := by omega
        simp [this]
      · have : ¬ (z.1 ≤ o + i) := by omega
        simp [this]
    have hst : (store (Addr.add ⟨b, o, none⟩ i) v).run P w = .ok () (w.setCell ⟨b, o + i, none⟩ v) := by
      rw [add_mk, run_store P w _ v _ h1.1, hcell]
      simp [hfr]
    have hb' : (w.setCell ⟨b, o + i, none⟩ v).heap[b]? = some (.cells (c.setIfInBounds (o + i) v) ty z) := by rw [setCell_get hb]; simp
    obtain ⟨w', hr, hx⟩ := run_storeCells (ty := ty) (z := z) (o := o) vs (i + 1) (c.setIfInBounds (o + i) v) (w.setCell ⟨b, o + i, none⟩ v) hb' (by simp only [Array.size_setIfInBounds]; omega) (by omega) h1.2
    refine ⟨w', ?_, fun x => ?_, Still.trans (b := w.setCell ⟨b, o + i, none⟩ v) ⟨rfl, rfl, rfl⟩ hx.still⟩
    · simp only [storeCells, Sem.run_bind, hst, Result.andThen_ok]; exact hr
    · rw [hx.get, setCell_get hb]
      split
      · rfl
      · rfl

theorem run_storeVar {t : TypeId} {b o : Nat} {c : Array Value} {ty : TypeId} {z : Nat × Nat} {x : Value} (hi : (P.info? t).isSome = true) (hb : w.heap[b]? = some (.cells c ty z)) (hsz : x.cells.size = P.cellsOf t)
    (hn : o + P.cellsOf t ≤ c.size) (hz : z.2 ≤ o ∨ o + P.cellsOf t ≤ z.1) (h1 : x.cells.toList.all one = true) :
    ∃ w', (storeVar t ⟨b, o, none⟩ x).run P w = .ok () w' ∧ Upd w w' b (.cells (wr c o x.cells.toList) ty z) := by
  have hlen : x.cells.toList.length = P.cellsOf t := by simpa using hsz
  obtain ⟨w', hr, hx⟩ := run_storeCells (P := P) (o := o) x.cells.toList 0 c w hb (by omega) (by omega) h1
  refine ⟨w', ?_, by simpa using hx⟩
  simp only [storeVar, Sem.run_bind, run_sizeOf_c hi, Result.andThen_ok, hsz, ne_eq, not_true_eq_false, if_false]
  exact hr

theorem Rep.elsewhere {w' : World} {b : Nat} {o' : Obj} (hr : Rep w h f) (hb : h b = none) (hf : f b = none) (hu : Upd w w' b o') : Rep w' h f :=
  ⟨fun c p hc => by rw [hu.get, if_neg (fun e => by subst e; rw [hb] at hc; cases hc)]; exact hr.vis c p hc,
   fun c p hc => by rw [hu.get, if_neg (fun e => by subst e; rw [hf] at hc; cases hc)]; exact hr.hid c p hc, hr.dis, hr.kp.trans hu.still⟩

theorem Wd.setBox (hw : Wd B β h f w) {w' : World} {r : Nat} {cs cs' : List Value} (hl : lookB β r = some cs) (hu : ∀ ty, w.heap[B r]? = some (.cells cs.toArray ty (0, 0)) → Upd w w' (B r) (.cells cs'.toArray ty (0, 0))) :
    Wd B ((r, cs') :: β) h f w' := by
  obtain ⟨ty, h1, h2, h3⟩ := hw.box r cs hl
  have hu := hu ty h1
  have he := hu.get
  refine ⟨fun s es hs => ?_, fun s u es es' hs hu hB => ?_, hw.rep.elsewhere h2 h3 hu⟩
  · simp only [lookB] at hs
    split at hs
    · rename_i e; subst e; cases hs
      exact ⟨ty, by rw [he]; simp, h2, h3⟩
    · rename_i e
      obtain ⟨ty', g1, g2, g3⟩ := hw.box s es hs
      exact ⟨ty', by rw [he, if_neg (fun hB => e (hw.inj r s cs es hl hs hB.symm))]; exact g1, g2, g3⟩
  · have g : ∀ s es, lookB ((r, cs') :: β) s = some es → ∃ es', lookB β s = some es' := fun s es hs => by
      simp only [lookB] at hs
      split at hs
      · rename_i e; subst e; exact ⟨cs, hl⟩
      · exact ⟨es, hs⟩
    obtain ⟨a, ha⟩ := g s es hs
    obtain ⟨b, hb⟩ := g u es' hu
    exact hw.inj s u a b ha hb hB

theorem st_sound {o : Oper} {t : TypeId} {a x : Operand} {ea ex : Ent} {h' : Hp} {β' : Bx} (hw : Wd B β h f w) (ho : o.op = .store t a x) (hi : (P.info? t).isSome = true) (ha : ρ a = entV B ea) (hx : ρ x = entV B ex)
    (hp : pSt (P.cellsOf t) h β ea ex = some (h', β')) : ∃ w', (execOp ρ o).run P w = .ok .skip w' ∧ Wd B β' h' f w' := by
  unfold pSt at hp
  split at hp
  · rename_i b o' v
    cases hs : stO o' (P.cellsOf t) v (h b) with
    | none => simp [hs] at hp
    | some ob =>
      simp only [hs, Option.some.injEq, Prod.mk.injEq] at hp
      obtain ⟨rfl, rfl⟩ := hp
      unfold stO at hs
      split at hs
      · rename_i c ty z hb
        split at hs
        · rename_i hc
          cases hs
          obtain ⟨w', hr, he⟩ := run_storeVar (P := P) hi (hw.rep.vis _ _ hb) hc.1 hc.2.1 hc.2.2.1 hc.2.2.2
          refine ⟨w', ?_, hw.set hb he⟩
          simp only [execOp, ho, ha, hx, entV, Instr.storeAt, Instr.sureAddr, Sem.run_bind, Sem.run_pure, Result.andThen_ok, hr]
        · cases hs
      · cases hs
  · rename_i r o' v
    cases hs : stL o' (P.cellsOf t) v (lookB β r) with
    | none => simp [hs] at hp
    | some cs' =>
      simp only [hs, Option.some.injEq, Prod.mk.injEq] at hp
      obtain ⟨rfl, rfl⟩ := hp
      unfold stL at hs
      split at hs
      · rename_i cs hl
        split at hs
        · rename_i hc
          cases hs
          obtain ⟨ty, h1, h2, h3⟩ := hw.box r cs hl
          obtain ⟨w', hr, he⟩ := run_storeVar (P := P) hi h1 hc.1 (by simpa using hc.2.1) (.inl (Nat.zero_le _)) hc.2.2
          refine ⟨w', ?_, hw.setBox hl (fun ty' hty => ?_)⟩
          · simp only [execOp, ho, ha, hx, entV, Instr.storeAt, Instr.sureAddr, Sem.run_bind, Sem.run_pure, Result.andThen_ok, hr]
          · rw [h1] at hty; cases hty
            rw [wr_wrL] at he; exact he
        · cases hs
      · cases hs
  · cases hp

end

end Go.Proofs.Ytkmknolkblcbeaa.V
