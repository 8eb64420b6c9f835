/- append, copy, clear; every deed; a region's operations. -/
import Derived.Test.YtkmknolkblcbeaaV10
namespace Go.Proofs.Ytkmknolkblcbeaa.V
set_option linter.unusedSectionVars false
set_option linter.unusedVariables false
set_option linter.unusedSimpArgs false
open Go

section
variable {P : Program} {w : World} {h : Hp} {f : Fm} {B : Nat → Nat} {β : Bx} {ρ : Operand → Value}

theorem entV_v (x : Value) : entV B (.v x) = x := rfl

theorem growBy_le (n : Nat) : ∀ (r c : Nat), 256 ≤ c → c ≤ 2 * n → Builtin.growBy n r c ≤ 2 * n
  | 0, c, _, h => by simpa [Builtin.growBy] using h
  | r + 1, c, h1, h2 => by
    simp only [Builtin.growBy]
    split
    · exact h2
    · exact growBy_le n r _ (by omega) (by omega)

theorem nextcap_le {n c : Nat} (hc : c < n) : Builtin.nextslicecap n c ≤ 2 * n := by
  unfold Builtin.nextslicecap
  split
  · omega
  · split
    · omega
    · exact growBy_le n 4 c (by omega) (by omega)

theorem src_run {n esz : Nat} {e : Ent} {l : List Value} {w' : World} (hr : Rep w' h f) (hs : srcCells h n esz e = some l) : (Builtin.firstCells esz n (entV B e)).run P w' = .ok l.toArray w' := by
  unfold srcCells at hs
  split at hs
  · cases hs; simp [entV, Builtin.firstCells]
  · split at hs
    · rename_i b o _ _ c ty z hb
      split at hs
      · rename_i hn
        cases hs
        simp only [entV, Builtin.firstCells]
        rw [run_loadCells_row (hr.vis _ _ hb) hn]
      · cases hs
    · cases hs
  · cases hs

theorem elen_run {e : Ent} {m : Nat} {w' : World} (he : elen e = some m) : (Builtin.lenOf (entV B e)).run P w' = .ok m w' := by
  unfold elen at he
  split at he <;> cases he
  simp [entV, Builtin.lenOf]

theorem zeroCells_reps {z : List Value} {v : Value} (hv : v.cells = z.toArray) (hz : z.length ≠ 0) (n : Nat) : Builtin.zeroCells v.cells n = (reps n z).toArray := by
  rw [hv]
  unfold Builtin.zeroCells
  rw [← range_reps n hz]
  simp only [List.size_toArray]

theorem app_sound {o : Oper} {t u e e2 : TypeId} {s x : Operand} {args : Array Operand} {ts : Array TypeId} {i : TypeInfo} {z : List Value} {es ex : Ent} {K : Ent → Hp → Prop} (hw : Wd B β h f w)
    (ho : o.op = .call { callee := .builtin .append, args := args, argTypes := ts }) (ha : args.toList = [s, x]) (hts : ts.toList = [t, u]) (ht : P.underlying t = some (.slice e)) (hu : P.underlying u = some (.slice e2))
    (hi : P.info? e = some i) (hz : zeroCells P e = some z) (hl : z.length = i.size) (hl0 : z.length ≠ 0) (hb0 : i.bytes ≠ 0) (hs : ρ s = entV B es) (hx : ρ x = entV B ex) (hp : appK z e i.bytes h es ex K) :
    ∃ w' v h', (execOp ρ o).run P w = .ok (.value (entV B v)) w' ∧ K v h' ∧ Wd B β h' f w' := by
  have hargs : args = #[s, x] := by rw [← Array.toArray_toList (xs := args), ha]
  have htys : ts = #[t, u] := by rw [← Array.toArray_toList (xs := ts), hts]
  subst hargs htys
  obtain ⟨i', v0, hi', hv, hvc⟩ := zeroCells_info hz
  rw [hi] at hi'; cases hi'
  rw [run_builtin ho]
  have harr : (#[s, x] : Array Operand).map ρ = #[entV B es, entV B ex] := by simp [hs, hx]
  unfold appK at hp
  split at hp
  · rename_i base n cap m hm
    split at hp
    · cases hp
    · rename_i new hnew
      obtain ⟨hnl, hp⟩ := hp
      have hstart : ∀ (K' : Result Next → Prop), K' ((builtin .append #[t, u] o.type ((#[s, x] : Array Operand).map fun | .const _ => true | _ => false) ((#[s, x] : Array Operand).map ρ)).run P w) ↔
          K' (((Builtin.append_ #[t, u] o.type #[.slice base n cap, entV B ex]).run P w).andThen fun a w' => .ok (.value a) w') := by
        intro K'
        rw [harr]
        simp only [builtin, Sem.run_bind, Sem.run_pure]
        rfl
      split at hp
      · rename_i hle
        split at hp
        · rename_i b o'
          split at hp
          · rename_i c ty' fz hb
            obtain ⟨hone, hsz, hfz, hK⟩ := hp
            have hb' := hw.rep.vis _ _ hb
            have hnl' : new.length = m * i.size := by rw [hnl, hl]
            obtain ⟨w', hst, hw'⟩ := run_storeCells (P := P) (o := o' + n * i.size) (z := fz) (ty := ty') new 0 c w hb' (by rw [hnl', Nat.add_zero]; rw [hl, Nat.add_mul] at hsz; omega)
              (by rw [hnl', Nat.add_zero]; rw [hl, Nat.add_mul] at hfz; omega) hone
            refine ⟨w', .v (.slice (some ⟨b, o', none⟩) (n + m) cap), _, ?_, hK, ?_⟩
            · refine (hstart (· = _)).2 ?_
              simp only [Builtin.append_, List.getElem?_toArray, List.getElem?_cons_zero, List.getElem?_cons_succ, Sem.run_bind, run_underlying' ht, run_underlying' hu, Result.andThen_ok, run_sizeOf' hi, Sem.run_pure, Bool.false_eq_true, if_false, elen_run hm, hle, if_true, Bool.not_false, src_run hw.rep (hl ▸ hnew), add_mk, hst, entV_v]
            · rw [hl]; exact hw.set hb (by simpa using hw')
          · cases hp
        · cases hp
        · refine ⟨w, .v (.slice none (n + m) cap), h, ?_, hp, hw⟩
          refine (hstart (· = _)).2 ?_
          simp only [Builtin.append_, List.getElem?_toArray, List.getElem?_cons_zero, List.getElem?_cons_succ, Sem.run_bind, run_underlying' ht, run_underlying' hu, Result.andThen_ok, run_sizeOf' hi, Sem.run_pure, Bool.false_eq_true, if_false, elen_run hm, hle, if_true, Bool.not_false, src_run hw.rep (hl ▸ hnew), entV_v]
      · rename_i hgt
        split at hp
        · cases hp
        · rename_i old hold
          obtain ⟨hol, hbytes, hK⟩ := hp
          have hcapq : ¬ (Builtin.nextslicecap (n + m) cap * i.bytes > 2 ^ 48) := by
            have h1 := nextcap_le (n := n + m) (c := cap) (by omega)
            have h2 := Nat.mul_le_mul_right i.bytes h1
            omega
          let q : Question := .appendCap (n + m) cap e
          let cap' := q.cut (w.tape w.drawn q)
          have hcap' : n + m ≤ cap' := by show n + m ≤ n + m + _ % _; omega
          let w1 : World := { w with drawn := w.drawn + 1 }
          have hw1 : Wd B β h f w1 := hw.heap rfl
          let ob : Obj := .cells (old ++ new ++ reps (cap' - (n + m)) z).toArray e (0, 0)
          let w2 : World := { w1 with heap := w1.heap.push ob }
          have hf := hK cap' hcap'
          obtain ⟨hk, hwd⟩ := fresh_push (w' := w2) hw1 hf rfl
          refine ⟨w2, _, _, ?_, hk, hwd⟩
          refine (hstart (· = _)).2 ?_
          have hold' : (Builtin.firstCells i.size n (.slice base n cap)).run P w1 = .ok old.toArray w1 := src_run (B := B) (e := .v (.slice base n cap)) hw1.rep (hl ▸ hold)
          have hnew' : (Builtin.firstCells i.size m (entV B ex)).run P w1 = .ok new.toArray w1 := src_run hw1.rep (hl ▸ hnew)
          have hch : (choose q).run P w = .ok cap' w1 := by simp only [run_choose, show q.forced = false from rfl, Bool.false_eq_true, if_false]; rfl
          have hch' : (choose (.appendCap (n + m) cap e)).run P w = .ok cap' w1 := hch
          have hgrow : ¬ (((n + m : Nat) : Int) > IntKind.i64.max ∧ (false = true ∨ i.bytes = 0)) := by simp [hb0]
          simp only [Builtin.append_, List.getElem?_toArray, List.getElem?_cons_zero, List.getElem?_cons_succ, Sem.run_bind, run_underlying' ht, run_underlying' hu, Result.andThen_ok, run_sizeOf' hi, Sem.run_pure, Bool.false_eq_true, if_false, elen_run hm, hgt, Bool.not_false, if_true, run_typeInfo' hi, hb0, or_self, and_false, hcapq, hch', run_askRoom, hold', hnew', run_zero hi hv, zeroCells_reps hvc hl0, newRow, run_newObj]
          simp [w2, w1, ob, entV_v]
          rfl
  · cases hp

theorem clrS_sound {o : Oper} {t e : TypeId} {m : Operand} {args : Array Operand} {ts : Array TypeId} {i : TypeInfo} {z : List Value} {em : Ent} {K : Ent → Hp → Prop} (hw : Wd B β h f w)
    (ho : o.op = .call { callee := .builtin .clear, args := args, argTypes := ts }) (ha : args.toList = [m]) (h0 : ts[0]? = some t) (ht : P.underlying t = some (.slice e)) (hi : P.info? e = some i) (hz : zeroCells P e = some z)
    (hl : z.length = i.size) (hl0 : z.length ≠ 0) (hm : ρ m = entV B em) (hp : clrSK z h em K) :
    ∃ w' h', (execOp ρ o).run P w = .ok (.value (.tuple #[])) w' ∧ K (.v (.tuple #[])) h' ∧ Wd B β h' f w' := by
  have hargs : args = #[m] := by rw [← Array.toArray_toList (xs := args), ha]
  subst hargs
  obtain ⟨i', v0, hi', hv, hvc⟩ := zeroCells_info hz
  rw [hi] at hi'; cases hi'
  rw [run_builtin ho]
  have harr : (#[m] : Array Operand).map ρ = #[entV B em] := by simp [hm]
  rw [harr]
  unfold clrSK at hp
  split at hp
  · exact ⟨w, h, by simp [builtin, Builtin.clear_, h0, run_underlying' ht, entV], hp, hw⟩
  · rename_i b o' n cp
    split at hp
    · rename_i c ty fz hb
      obtain ⟨hsz, hfz, hone, hK⟩ := hp
      cases n with
      | zero =>
        refine ⟨w, h, by simp [builtin, Builtin.clear_, h0, run_underlying' ht, entV], ?_, hw⟩
        have : upd h b (.cells (wr c o' (reps 0 z)) ty fz) = h := by
          funext y; unfold upd; split
          · rename_i e; subst e; simp [reps, wr, hb]
          · rfl
        rw [this] at hK; exact hK
      | succ n =>
        have hlen := reps_length z (n + 1)
        have hall : (reps (n + 1) z).all one = true := by
          have : ∀ k, (reps k z).all one = true := fun k => by
            induction k with
            | zero => rfl
            | succ k ih => simp only [reps, List.all_append, hone, ih, Bool.and_self]
          exact this _
        obtain ⟨w', hst, hw'⟩ := run_storeCells (P := P) (o := o') (z := fz) (ty := ty) (reps (n + 1) z) 0 c w (hw.rep.vis _ _ hb) (by rw [hlen]; omega) (by rw [hlen]; omega) hall
        refine ⟨w', _, ?_, hK, hw.set hb (by simpa using hw')⟩
        simp only [builtin, Builtin.clear_, h0, List.getElem?_toArray, List.getElem?_cons_zero, Sem.run_bind, run_underlying' ht, Result.andThen_ok, entV, run_zero hi hv, zeroCells_reps hvc hl0, hst, Sem.run_pure]
    · cases hp
  · cases hp

theorem clrM_sound {o : Oper} {t kt et : TypeId} {m : Operand} {args : Array Operand} {ts : Array TypeId} {em : Ent} {K : Ent → Hp → Prop} (hw : Wd B β h f w)
    (ho : o.op = .call { callee := .builtin .clear, args := args, argTypes := ts }) (ha : args.toList = [m]) (h0 : ts[0]? = some t) (ht : P.underlying t = some (.map kt et)) (hm : ρ m = entV B em) (hp : clrMK h em K) :
    ∃ w' h', (execOp ρ o).run P w = .ok (.value (.tuple #[])) w' ∧ K (.v (.tuple #[])) h' ∧ Wd B β h' f w' := by
  have hargs : args = #[m] := by rw [← Array.toArray_toList (xs := args), ha]
  subst hargs
  rw [run_builtin ho]
  have harr : (#[m] : Array Operand).map ρ = #[entV B em] := by simp [hm]
  rw [harr]
  unfold clrMK at hp
  split at hp
  · exact ⟨w, h, by simp [builtin, Builtin.clear_, h0, run_underlying' ht, entV], hp, hw⟩
  · split at hp
    · rename_i r es clock hb
      obtain ⟨w', hset, hx'⟩ := setObj_run (P := P) (o' := .map #[] clock) (hw.rep.vis _ _ hb) rfl
      refine ⟨w', _, ?_, hp, hw.set hb hx'⟩
      simp only [builtin, Builtin.clear_, h0, List.getElem?_toArray, List.getElem?_cons_zero, Sem.run_bind, run_underlying' ht, Result.andThen_ok, entV, run_getObj_map (hw.rep.vis _ _ hb), hset, Sem.run_pure]
    · cases hp
  · cases hp

theorem cpy_sound {o : Oper} {t e : TypeId} {d x : Operand} {args : Array Operand} {ts : Array TypeId} {ed ex : Ent} {K : Ent → Hp → Prop} (hw : Wd B β h f w)
    (ho : o.op = .call { callee := .builtin .copy, args := args, argTypes := ts }) (ha : args.toList = [d, x]) (h0 : ts[0]? = some t) (ht : P.underlying t = some (.slice e)) (hi : (P.info? e).isSome = true)
    (hd : ρ d = entV B ed) (hx : ρ x = entV B ex) (hp : cpyK (P.cellsOf e) h ed ex K) :
    ∃ w' v h', (execOp ρ o).run P w = .ok (.value (entV B v)) w' ∧ K v h' ∧ Wd B β h' f w' := by
  have hargs : args = #[d, x] := by rw [← Array.toArray_toList (xs := args), ha]
  subst hargs
  rw [run_builtin ho]
  have harr : (#[d, x] : Array Operand).map ρ = #[entV B ed, entV B ex] := by simp [hd, hx]
  rw [harr]
  unfold cpyK at hp
  split at hp
  · rename_i base dl dc m hm
    split at hp
    · cases hp
    · rename_i new hnew
      obtain ⟨hlen, hone, hp⟩ := hp
      have hmin : Nat.min m dl = min m dl := rfl
      split at hp
      · refine ⟨w, .v (.int .i64 (min m dl : Nat)), h, ?_, hp, hw⟩
        simp only [builtin, Builtin.copy_, h0, List.getElem?_toArray, List.getElem?_cons_zero, List.getElem?_cons_succ, Sem.run_bind, run_underlying' ht, Result.andThen_ok, entV_v, elen_run hm, hmin, run_sizeOf_c hi, src_run hw.rep hnew, Sem.run_pure, goInt]
      · rename_i b o'
        split at hp
        · rename_i c ty fz hb
          obtain ⟨hsz, hfz, hK⟩ := hp
          obtain ⟨w', hst, hw'⟩ := run_storeCells (P := P) (o := o') (z := fz) (ty := ty) new 0 c w (hw.rep.vis _ _ hb) (by rw [hlen]; omega) (by rw [hlen]; omega) hone
          refine ⟨w', .v (.int .i64 (min m dl : Nat)), _, ?_, hK, hw.set hb (by simpa using hw')⟩
          simp only [builtin, Builtin.copy_, h0, List.getElem?_toArray, List.getElem?_cons_zero, List.getElem?_cons_succ, Sem.run_bind, run_underlying' ht, Result.andThen_ok, entV_v, elen_run hm, hmin, run_sizeOf_c hi, src_run hw.rep hnew, hst, Sem.run_pure, goInt]
        · cases hp
      · cases hp
  · cases hp

/-! ### Ranging over a map -/

theorem ptr_entV {e : Ent} {b : Nat} (h : e = .v (.pointer (some ⟨b, 0, none⟩))) : entV B e = .pointer (some ⟨b, 0, none⟩) := by subst h; rfl

theorem rng_sound {o : Oper} {t kt et : TypeId} {m : Operand} {em : Ent} {K : Ent → Hp → Prop} (hw : Wd B β h f w) (ho : o.op = .range t m) (ht : P.underlying t = some (.map kt et)) (hm : ρ m = entV B em) (hp : rngK h em K) :
    ∃ w' v h', (execOp ρ o).run P w = .ok (.value (entV B v)) w' ∧ K v h' ∧ Wd B β h' f w' := by
  unfold rngK at hp
  split at hp
  · obtain ⟨hk, hwd⟩ := fresh_push hw hp (w' := { w with heap := w.heap.push (.mapIter none 0 #[] 0) }) rfl
    refine ⟨_, .v (.pointer (some ⟨w.heap.size, 0, none⟩)), _, ?_, hk, hwd⟩
    simp only [execOp, ho, hm, entV, Instr.range, Sem.run_bind, run_underlying' ht, Result.andThen_ok, Sem.run_pure, run_newObj]
  · rename_i r
    split at hp
    · rename_i es clock hb
      obtain ⟨hk, hwd⟩ := fresh_push hw hp (w' := { w with heap := w.heap.push (.mapIter (some r) clock #[] clock) }) rfl
      refine ⟨_, .v (.pointer (some ⟨w.heap.size, 0, none⟩)), _, ?_, hk, hwd⟩
      simp only [execOp, ho, hm, entV, Instr.range, Sem.run_bind, run_underlying' ht, Result.andThen_ok, run_getObj_map (hw.rep.vis _ _ hb), Sem.run_pure, run_newObj]
    · cases hp
  · cases hp

theorem getObj_iter {r : Nat} {m : Option Nat} {since last : Nat} {seen : Array Nat} (hb : w.heap[r]? = some (.mapIter m since seen last)) : (getObj r).run P w = .ok (.mapIter m since seen last) w := by
  simp [getObj, Sem.run, hb]

theorem setObj_iter {r : Nat} {m : Option Nat} {since last : Nat} {seen : Array Nat} {o' : Obj} (hb : w.heap[r]? = some (.mapIter m since seen last)) :
    ∃ w', (setObj r o').run P w = .ok () w' ∧ Upd w w' r o' := by
  refine ⟨{ w with heap := w.heap.setIfInBounds r o' }, by simp [setObj, Sem.run, hb], fun x => ?_, ⟨rfl, rfl, rfl⟩⟩
  have hlt : r < w.heap.size := by
    rcases Nat.lt_or_ge r w.heap.size with h | h
    · exact h
    · rw [Array.getElem?_eq_none h] at hb; cases hb
  rw [Array.getElem?_setIfInBounds]
  split
  · rename_i e; subst e; simp [hlt]
  · rename_i e; rw [if_neg (fun h => e h.symm)]

theorem nxt_sound {o : Oper} {it : Operand} {ei : Ent} {K : Ent → Hp → Prop} (hw : Wd B β h f w) (ho : o.op = .next it false) (hi : ρ it = entV B ei) (hp : nxtK h ei K) :
    ∃ w' v h', (execOp ρ o).run P w = .ok (.value (entV B v)) w' ∧ K v h' ∧ Wd B β h' f w' := by
  unfold nxtK at hp
  split at hp
  · rename_i r
    split at hp
    · rename_i hb
      refine ⟨w, _, h, ?_, hp, hw⟩
      simp only [execOp, ho, hi, entV, Instr.next, Sem.run_bind, getObj_iter (hw.rep.vis _ _ hb), Result.andThen_ok, Sem.run_pure]
    · rename_i m since seen last hb
      split at hp
      · rename_i es clock hbm
        obtain ⟨hno, hsome, hnone⟩ := hp
        obtain ⟨cands, hcd⟩ : ∃ x : Array (Option MapEntry), x = (if ((es.filter fun e => !seen.contains e.born).filter (·.born < since)).isEmpty then #[none] else #[]) ++ (((es.filter fun e => !seen.contains e.born).filter (·.born < since)) ++ ((es.filter fun e => !seen.contains e.born).filter (·.born ≥ since))).map some := ⟨_, rfl⟩
        obtain ⟨c, w1, hch, hw1⟩ : ∃ c w1, (choose (.mapNext cands.size)).run P w = .ok c w1 ∧ w1.heap = w.heap ∧ Still w w1 ∧ c < cands.size := by
          have hpos : 0 < cands.size := by
            rw [hcd]
            split
            · simp; omega
            · rename_i hne
              simp only [Array.isEmpty_iff_size_eq_zero] at hne
              simp only [Array.size_append, Array.size_map]
              omega
          rw [run_choose]
          split
          · exact ⟨0, w, rfl, rfl, ⟨rfl, rfl, rfl⟩, hpos⟩
          · exact ⟨_, _, rfl, rfl, ⟨rfl, rfl, rfl⟩, Nat.mod_lt _ hpos⟩
        obtain ⟨hheap, hstill, hlt⟩ := hw1
        have hwd1 : Wd B β h f w1 := hw.heap hheap hstill
        have hget : cands[c]? = some cands[c] := Array.getElem?_eq_getElem hlt
        have hmem : cands[c] ∈ cands := Array.getElem_mem hlt
        cases hcc : cands[c] with
        | none =>
          have hold : ((es.filter fun e => !seen.contains e.born).filter (·.born < since)).isEmpty = true := by
            rw [hcc, hcd] at hmem
            simp only [Array.mem_append] at hmem
            rcases hmem with hmem | hmem
            · split at hmem
              · assumption
              · simp at hmem
            · simp at hmem
          refine ⟨w1, .v (.tuple #[.bool false]), h, ?_, hnone ?_, hwd1⟩
          · simp only [execOp, ho, hi, entV, Instr.next, Sem.run_bind, getObj_iter (hw.rep.vis _ _ hb), run_getObj_map (hw.rep.vis _ _ hbm), Result.andThen_ok]
            rw [if_neg (by rw [hno]; simp)]
            rw [← hcd, Sem.run_bind, hch]
            simp only [Result.andThen_ok, hget, hcc, Sem.run_pure]
          · intro e he hse
            have : e ∉ ((es.filter fun e => !seen.contains e.born).filter (·.born < since)) := by
              intro hm
              rw [Array.isEmpty_iff] at hold
              rw [hold] at hm
              simp at hm
            simp only [Array.mem_filter, Bool.not_eq_true', decide_eq_true_eq, not_and, Nat.not_lt] at this
            exact this ⟨by simpa using he, hse⟩
        | some e =>
          have hin : e ∈ es ∧ seen.contains e.born = false := by
            rw [hcc, hcd] at hmem
            simp only [Array.mem_append] at hmem
            rcases hmem with hmem | hmem
            · split at hmem <;> simp at hmem
            · simp only [Array.mem_map, Option.some.injEq, Array.mem_append] at hmem
              obtain ⟨e', he', rfl⟩ := hmem
              simp only [Array.mem_filter, Bool.not_eq_true', decide_eq_true_eq] at he'
              rcases he' with he' | he' <;> exact he'.1
          obtain ⟨w', hset, hx'⟩ := setObj_iter (P := P) (w := w1) (o' := .mapIter (some m) since (seen.push e.born) clock) (hwd1.rep.vis _ _ hb)
          refine ⟨w', .v (.tuple #[.bool true, e.key, e.val]), _, ?_, hsome e (by simpa using hin.1) hin.2, hwd1.set hb hx'⟩
          simp only [execOp, ho, hi, entV, Instr.next, Sem.run_bind, getObj_iter (hw.rep.vis _ _ hb), run_getObj_map (hw.rep.vis _ _ hbm), Result.andThen_ok]
          rw [if_neg (by rw [hno]; simp)]
          rw [← hcd, Sem.run_bind, hch]
          simp only [Result.andThen_ok, hget, hcc, Sem.run_bind, hset, Sem.run_pure]
      · cases hp
    · cases hp
  · cases hp

theorem ent_run {o : Oper} {it : Operand} {ei e : Ent} (hw : Wd B β h f w) (ho : o.op = .entry it) (hi : ρ it = entV B ei) (hp : pEnt h ei = some e) : (execOp ρ o).run P w = .ok (.value (entV B e)) w := by
  unfold pEnt at hp
  split at hp
  · rename_i r
    split at hp
    · rename_i m since seen stepped hb
      split at hp
      · rename_i stamp es clock hs hbm
        split at hp
        · rename_i hcl
          split at hp
          · rename_i x hx
            cases hp
            simp only [execOp, ho, hi, entV, Instr.entry, Sem.run_bind, getObj_iter (hw.rep.vis _ _ hb), run_getObj_map (hw.rep.vis _ _ hbm), Result.andThen_ok, hs, hcl, bne_self_eq_false, Bool.false_eq_true, if_false, hx, Sem.run_pure]
          · cases hp
        · cases hp
      · cases hp
    · cases hp
  · cases hp

/-! ### Every deed -/

/-- What is known of the reader of operands. -/
def Fixed (ρ : Operand → Value) : Prop := ∀ k, ρ (.func k) = .func (.func k) #[] #[]

theorem maps1 {args : Array Operand} {m : Operand} (ha : args.toList = [m]) {es : List Ent} (hes : args.toList.map ρ = es.map (entV B)) : ∃ e, es = [e] ∧ ρ m = entV B e := by
  rw [ha] at hes; exact map1 hes

theorem ef_sound {o : Oper} {prom : List Nat} {ef : Ef} {xs : List Operand} {es : List Ent} {K : Ent → Hp → Bx → Prop} (hw : Wd B β h f w) (hρ : Fixed ρ) (hc : cef P prom o = some (ef, xs))
    (hes : xs.map ρ = es.map (entV B)) (hp : efK P h β K ef es) : stepW P o ρ w (fun v w' => ∃ e h' β', v = entV B e ∧ K e h' β' ∧ Wd B β' h' f w') := by
  unfold stepW
  unfold cef at hc
  split at hc
  · rename_i p xs' hpr
    cases hc
    simp only [efK] at hp
    obtain ⟨e, he, hp⟩ := optK_spec hp
    rw [run_pr hw.rep hw.boxes hpr hes he]
    exact ⟨e, h, β, rfl, hp, hw⟩
  · split at hc
    · -- store
      rename_i t a v ho
      split at hc
      · cases hc
      · rename_i hi
        cases hc
        obtain ⟨e1, e2, rfl, h1, h2⟩ := map2 hes
        simp only [efK] at hp
        obtain ⟨⟨h', β'⟩, hst, hp⟩ := optK_spec hp
        obtain ⟨w', hr, hwd⟩ := st_sound hw ho (by cases hq : P.info? t <;> simp [hq] at hi ⊢) h1 h2 hst
        rw [hr]
        exact ⟨undefE, h', β', rfl, hp, hwd⟩
    · -- alloc
      rename_i t ho
      split at hc
      · rename_i z hz
        split at hc
        · cases hc
        · split at hc
          · cases hc; cases es <;> simp [efK] at hp
          · cases hc
            cases es with
            | cons a b => simp at hes
            | nil =>
              simp only [efK] at hp
              obtain ⟨v, hv, hvc⟩ := zero_run (P := P) (w := w) hz
              have hrun : (execOp ρ o).run P w = .ok (.value (.pointer (some ⟨w.heap.size, 0, none⟩))) { w with heap := w.heap.push (.cells z.toArray t (0, 0)) } := by
                simp only [execOp, ho, Instr.alloc, Sem.run_bind, hv, Result.andThen_ok, newVar, newRow, hvc, run_newObj, Sem.run_pure]
              rw [hrun]
              obtain ⟨hk, hwd⟩ := fresh_push hw hp (w' := { w with heap := w.heap.push (.cells z.toArray t (0, 0)) }) rfl
              exact ⟨_, _, β, rfl, hk, hwd⟩
      · cases hc
    · -- box
      rename_i t v ho
      split at hc
      · cases hc; cases es <;> simp [efK] at hp
      · cases hc
        obtain ⟨e1, rfl, h1⟩ := map1 hes
        cases e1 with
        | l r q => simp [efK] at hp
        | v x =>
          simp only [efK] at hp
          have hrun : (execOp ρ o).run P w = .ok (.value (.pointer (some ⟨w.heap.size, 0, none⟩))) { w with heap := w.heap.push (.cells x.cells t (0, 0)) } := by
            simp only [execOp, ho, Instr.box, Sem.run_bind, Result.andThen_ok, newVar, newRow, h1, entV, run_newObj, Sem.run_pure]
          rw [hrun]
          obtain ⟨hk, hwd⟩ := fresh_push hw hp (w' := { w with heap := w.heap.push (.cells x.cells t (0, 0)) }) rfl
          exact ⟨_, _, β, rfl, hk, hwd⟩
    · -- makeSlice
      rename_i t l c ho
      split at hc
      · rename_i e ht
        split at hc
        · rename_i i z hi hz
          split at hc
          · rename_i hcond
            simp only [Bool.and_eq_true, decide_eq_true_eq, bne_iff_ne, ne_eq] at hcond
            cases hc
            obtain ⟨e1, e2, rfl, h1, h2⟩ := map2 hes
            simp only [efK, mksK] at hp
            split at hp
            · rename_i kl nl kc nc
              obtain ⟨g1, g2, g3, g4, hf⟩ := hp
              rw [mks_sound ho ht hi hz hcond.1 hcond.2 h1 h2 g1 g2 g3 g4]
              obtain ⟨hk, hwd⟩ := fresh_push hw hf (w' := { w with heap := w.heap.push (.cells (reps nc.toNat z).toArray e (0, 0)) }) rfl
              exact ⟨_, _, β, rfl, hk, hwd⟩
            · cases hp
          · cases hc
        · cases hc
      · cases hc
    · -- buildSlice
      rename_i t len parts ho
      split at hc
      · rename_i e ht
        split at hc
        · rename_i i z hi hz
          split at hc
          · rename_i hcond
            simp only [Bool.and_eq_true, decide_eq_true_eq, bne_iff_ne, ne_eq] at hcond
            cases hc
            simp only [efK] at hp
            obtain ⟨cs, hcs, hp⟩ := optK_spec hp
            rw [bsl_sound ho ht hi hz hcond.1.1 hcond.1.2 hcond.2 hes hcs]
            obtain ⟨hk, hwd⟩ := fresh_push hw hp (w' := { w with heap := w.heap.push (.cells cs.toArray e (0, 0)) }) rfl
            exact ⟨_, _, β, rfl, hk, hwd⟩
          · cases hc
        · cases hc
      · cases hc
    · -- makeMap
      rename_i t ho
      cases hc
      cases es with
      | cons a b => simp at hes
      | nil =>
        simp only [efK] at hp
        have hrun : (execOp ρ o).run P w = .ok (.value (.map (some w.heap.size))) { w with heap := w.heap.push (.map #[] 0) } := by
          simp only [execOp, ho, Instr.makeMap, Option.map_none, Sem.run_bind, Sem.run_pure, Result.andThen_ok, run_newObj]
        rw [hrun]
        obtain ⟨hk, hwd⟩ := fresh_push hw hp (w' := { w with heap := w.heap.push (.map #[] 0) }) rfl
        exact ⟨_, _, β, rfl, hk, hwd⟩
    · -- makeMap with a hint
      rename_i t r ho
      split at hc
      · rename_i kt et ht
        cases hc
        obtain ⟨e1, rfl, h1⟩ := map1 hes
        cases e1 with
        | l r q => simp [efK] at hp
        | v x => cases x with
          | int kk nn =>
            simp only [efK] at hp
            have hrun : (execOp ρ o).run P w = .ok (.value (.map (some w.heap.size))) { w with heap := w.heap.push (.map #[] 0) } := by
              simp only [execOp, ho, Instr.makeMap, Option.map_some, Sem.run_bind, Sem.run_pure, Result.andThen_ok, run_newObj, run_underlying' ht, h1, entV, asInt, asIntOf]
            rw [hrun]
            obtain ⟨hk, hwd⟩ := fresh_push hw hp (w' := { w with heap := w.heap.push (.map #[] 0) }) rfl
            exact ⟨_, _, β, rfl, hk, hwd⟩
          | _ => simp [efK] at hp
      · cases hc
    · -- range
      rename_i t m ho
      split at hc
      · rename_i kt et ht
        cases hc
        obtain ⟨e1, rfl, h1⟩ := map1 hes
        simp only [efK] at hp
        obtain ⟨w', v, h', hr, hk, hwd⟩ := rng_sound (K := fun e h' => K e h' β) hw ho ht h1 hp
        rw [hr]; exact ⟨v, h', β, rfl, hk, hwd⟩
      · cases hc
    · -- next
      rename_i it ho
      cases hc
      obtain ⟨e1, rfl, h1⟩ := map1 hes
      simp only [efK] at hp
      obtain ⟨w', v, h', hr, hk, hwd⟩ := nxt_sound (K := fun e h' => K e h' β) hw ho h1 hp
      rw [hr]; exact ⟨v, h', β, rfl, hk, hwd⟩
    · -- entry
      rename_i it ho
      cases hc
      obtain ⟨e1, rfl, h1⟩ := map1 hes
      simp only [efK] at hp
      obtain ⟨e, he, hp⟩ := optK_spec hp
      rw [ent_run hw ho h1 he]
      exact ⟨e, h, β, rfl, hp, hw⟩
    · -- mapUpdate
      rename_i t m k v ho
      split at hc
      · rename_i kt et ht
        split at hc
        · rename_i q hq
          cases hc
          obtain ⟨e1, e2, e3, rfl, h1, h2, h3⟩ := map3 hes
          simp only [efK] at hp
          obtain ⟨w', h', hr, hk, hwd⟩ := mup_sound (K := fun e h' => K e h' β) hw (.inl ho) ht hq h1 h2 h3 hp
          rw [hr]; exact ⟨_, _, β, rfl, hk, hwd⟩
        · cases hc
      · cases hc
    · -- insert
      rename_i t m k v ho
      split at hc
      · rename_i kt et ht
        split at hc
        · rename_i q hq
          cases hc
          obtain ⟨e1, e2, e3, rfl, h1, h2, h3⟩ := map3 hes
          simp only [efK] at hp
          obtain ⟨w', h', hr, hk, hwd⟩ := mup_sound (K := fun e h' => K e h' β) hw (.inr ho) ht hq h1 h2 h3 hp
          rw [hr]; exact ⟨_, _, β, rfl, hk, hwd⟩
        · cases hc
      · cases hc
    · -- call
      rename_i k args ts ho
      split at hc
      · rename_i hcall
        cases hc
        simp only [efK] at hp
        obtain ⟨vs, hvs, hp⟩ := optK_spec hp
        rw [call_run ho (hρ k) hcall]
        have hargs : (#[] ++ args.map ρ ++ #[] : Array Value) = vs.toArray := by
          apply Array.ext'
          rw [vals_entV hvs] at hes
          simp [← hes]
        rw [hargs]
        exact (hp.run w _ hw.frame).mono fun e w' ⟨v, h', he, hk, hr⟩ => ⟨v, he, .v v, h', β, rfl, hk, hw.back hr⟩
      · cases hc
    · -- callv
      rename_i t args ts ho
      cases hc
      cases es with
      | nil => simp at hes
      | cons g es =>
        simp only [List.map_cons, List.cons.injEq] at hes
        simp only [efK, callvK] at hp
        split at hp
        · rename_i k first cap vs hvs
          obtain ⟨hcall, hok⟩ := hp
          rw [call_run ho hes.1 hcall]
          have hargs : (first ++ args.map ρ ++ cap : Array Value) = (first.toList ++ vs ++ cap.toList).toArray := by
            apply Array.ext'
            rw [vals_entV hvs] at hes
            simp [← hes.2]
          rw [hargs]
          refine (hok.run w _ hw.frame).mono fun e w' ⟨v, h', he, hk, hr⟩ => ⟨v, he, .v v, h', β, rfl, hk, hw.back hr⟩
        · rename_i l first cap vs hvs
          obtain ⟨f', tmps, assign, body, w', hy, hround⟩ := hp.run w _ hw.frame
          have hargs : (first ++ args.map ρ : Array Value) = (first.toList ++ vs).toArray := by
            apply Array.ext'
            rw [vals_entV hvs] at hes
            simp [← hes.2]
          rw [call_run_y ho hes.1 (by rw [hargs]; exact hy)]
          exact hround.mono fun e w' ⟨v, h', he, hk, hr⟩ => ⟨v, he, .v v, h', β, rfl, hk, hw.back hr⟩
        · cases hp
    · -- append
      rename_i args ts ho
      split at hc
      · rename_i s x t u ha hts
        split at hc
        · rename_i e e2 ht hu
          split at hc
          · rename_i i z hi hz
            split at hc
            · rename_i hcond
              simp only [Bool.and_eq_true, decide_eq_true_eq, bne_iff_ne, ne_eq] at hcond
              cases hc
              obtain ⟨e1, e2', rfl, h1, h2⟩ := map2 hes
              simp only [efK] at hp
              obtain ⟨w', v, h', hr, hk, hwd⟩ := app_sound (K := fun e h' => K e h' β) hw ho ha hts ht hu hi hz hcond.1.1 hcond.1.2 hcond.2 h1 h2 hp
              rw [hr]; exact ⟨v, _, β, rfl, hk, hwd⟩
            · cases hc
          · cases hc
        · cases hc
      · cases hc
    · -- delete
      rename_i args ts ho
      split at hc
      · rename_i m k t ha h0
        split at hc
        · rename_i kt et ht
          split at hc
          · rename_i q hq
            cases hc
            obtain ⟨e1, e2, rfl, h1, h2⟩ := map2 hes
            simp only [efK] at hp
            obtain ⟨w', h', hr, hk, hwd⟩ := mdel_sound (K := fun e h' => K e h' β) hw ho ha h0 ht hq h1 h2 hp
            rw [hr]; exact ⟨_, _, β, rfl, hk, hwd⟩
          · cases hc
        · cases hc
      · cases hc
    · -- clear
      rename_i args ts ho
      split at hc
      · rename_i m t ha h0
        split at hc
        · rename_i kt et ht
          cases hc
          obtain ⟨e1, rfl, h1⟩ := map1 hes
          simp only [efK] at hp
          obtain ⟨w', h', hr, hk, hwd⟩ := clrM_sound (K := fun e h' => K e h' β) hw ho ha h0 ht h1 hp
          rw [hr]; exact ⟨_, _, β, rfl, hk, hwd⟩
        · rename_i e ht
          split at hc
          · rename_i i z hi hz
            split at hc
            · rename_i hcond
              simp only [Bool.and_eq_true, decide_eq_true_eq, bne_iff_ne, ne_eq] at hcond
              cases hc
              obtain ⟨e1, rfl, h1⟩ := map1 hes
              simp only [efK] at hp
              obtain ⟨w', h', hr, hk, hwd⟩ := clrS_sound (K := fun e h' => K e h' β) hw ho ha h0 ht hi hz hcond.1 hcond.2 h1 hp
              rw [hr]; exact ⟨_, _, β, rfl, hk, hwd⟩
            · cases hc
          · cases hc
        · cases hc
      · cases hc
    · -- copy
      rename_i args ts ho
      split at hc
      · rename_i d s t ha h0
        split at hc
        · rename_i e ht
          split at hc
          · cases hc
          · rename_i hi
            cases hc
            obtain ⟨e1, e2, rfl, h1, h2⟩ := map2 hes
            simp only [efK] at hp
            obtain ⟨w', v, h', hr, hk, hwd⟩ := cpy_sound (K := fun e h' => K e h' β) hw ho ha h0 ht (by cases hq : P.info? e <;> simp [hq] at hi ⊢) h1 h2 hp
            rw [hr]; exact ⟨v, _, β, rfl, hk, hwd⟩
        · cases hc
      · cases hc
    · cases hc

end

end Go.Proofs.Ytkmknolkblcbeaa.V
