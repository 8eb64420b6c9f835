/- The deeds together. -/
import Derived.Test.YtkmknolkblcbeaaV9
namespace Go.Proofs.Ytkmknolkblcbeaa.V
set_option linter.unusedSectionVars false
set_option linter.unusedVariables false
set_option linter.unusedSimpArgs false
open Go

section
variable {P : Program} {w : World} {h : Hp} {f : Fm} {B : Nat → Nat} {β : Bx} {ρ : Operand → Value}

theorem wrap_i64 {x : Int} (h1 : -9223372036854775808 ≤ x) (h2 : x < 9223372036854775808) : IntKind.i64.wrap x = x := by
  simp only [IntKind.wrap, IntKind.bits, IntKind.signed, Bool.true_and, Int.reducePow, Nat.reduceSub]
  split <;> rename_i hh <;> simp only [ge_iff_le, decide_eq_true_eq, Int.not_le] at hh <;> omega

theorem reps_length (z : List Value) : ∀ n, (reps n z).length = n * z.length
  | 0 => by simp [reps]
  | n + 1 => by simp [reps, reps_length z n, Nat.succ_mul, Nat.add_comm]

theorem reps_get {z : List Value} : ∀ (n i : Nat), i < n * z.length → (reps n z)[i]? = z[i % z.length]?
  | 0, i, h => by simp at h
  | n + 1, i, h => by
    simp only [reps]
    rw [List.getElem?_append]
    split
    · rename_i hi; rw [Nat.mod_eq_of_lt hi]
    · rename_i hi
      have hz : z.length ≤ i := by omega
      rw [reps_get n (i - z.length) (by rw [Nat.succ_mul] at h; omega)]
      congr 1
      rw [Nat.mod_eq_sub_mod hz]

theorem range_reps {z : List Value} (n : Nat) (hz : z.length ≠ 0) : ((Array.range (n * z.length)).map fun i => z.toArray[i % z.toArray.size]!) = (reps n z).toArray := by
  apply Array.ext'
  apply List.ext_getElem?
  intro i
  simp only [Array.toList_map, Array.toList_range, List.getElem?_map, List.size_toArray]
  by_cases hi : i < n * z.length
  · have hm : i % z.length < z.length := Nat.mod_lt _ (by omega)
    rw [reps_get n i hi, List.getElem?_range hi]
    simp [hm]
  · rw [List.getElem?_eq_none (by simpa using hi), List.getElem?_eq_none (by rw [reps_length]; omega)]
    rfl

theorem fresh_push (hw : Wd B β h f w) {o : Obj} {K : Nat → Hp → Prop} (hf : fresh h o K) {w' : World} (he : w'.heap = w.heap.push o) (hs : Still w w' := by exact ⟨rfl, rfl, rfl⟩) :
    K w.heap.size (upd h w.heap.size o) ∧ Wd B β (upd h w.heap.size o) f w' := ⟨hf.run _ hw.rep.fresh_vis, hw.push he hs⟩

theorem upW_value {K : Value → World → Prop} {v : Value} {w' : World} {r : Result Next} (hr : r = .ok (.value v) w') (hk : K v w') : upW P K r := by subst hr; exact hk

theorem zeroCells_info {t : TypeId} {z : List Value} (hz : zeroCells P t = some z) : ∃ i v, P.info? t = some i ∧ i.zero = some v ∧ v.cells = z.toArray := by
  unfold zeroCells at hz
  split at hz
  · rename_i i hi
    split at hz
    · rename_i v hv; cases hz; exact ⟨i, v, hi, hv, by simp⟩
    · cases hz
  · cases hz

theorem mks_sound {o : Oper} {t e : TypeId} {l c : Operand} {i : TypeInfo} {z : List Value} {kl kc : IntKind} {nl nc : Int} (ho : o.op = .makeSlice t l c) (ht : P.underlying t = some (.slice e)) (hi : P.info? e = some i)
    (hz : zeroCells P e = some z) (hl : z.length = i.size) (hl0 : z.length ≠ 0) (h1 : ρ l = .int kl nl) (h2 : ρ c = .int kc nc) (g1 : 0 ≤ nl) (g2 : nl ≤ nc) (g3 : nc * i.bytes ≤ 2 ^ 48) (g4 : nc < 2 ^ 62) :
    (execOp ρ o).run P w = .ok (.value (.slice (some ⟨w.heap.size, 0, none⟩) nl.toNat nc.toNat)) { w with heap := w.heap.push (.cells (reps nc.toNat z).toArray e (0, 0)) } := by
  obtain ⟨i', v, hi', hv, hvc⟩ := zeroCells_info hz
  rw [hi] at hi'; cases hi'
  have w1 : IntKind.i64.wrap nl = nl := wrap_i64 (by omega) (by omega)
  have w2 : IntKind.i64.wrap nc = nc := wrap_i64 (by omega) (by omega)
  have hb : ¬ ((i.bytes : Int) * nc > 2 ^ 48) := by rw [Int.mul_comm]; omega
  have hcells : (if nc.toNat * i.size = 0 then (#[] : Array Value) else v.cells) = (if nc.toNat * i.size = 0 then #[] else z.toArray) := by rw [hvc]
  have hrow : ((Array.range (nc.toNat * i.size)).map fun j => (if nc.toNat * i.size = 0 then (#[] : Array Value) else z.toArray)[j % (if nc.toNat * i.size = 0 then (#[] : Array Value) else z.toArray).size]!) = (reps nc.toNat z).toArray := by
    by_cases hn : nc.toNat * i.size = 0
    · have hn' : nc.toNat = 0 := by
        rcases Nat.mul_eq_zero.1 hn with h | h
        · exact h
        · omega
      simp [hn', reps]
    · simp only [hn, if_false]
      rw [← hl]; exact range_reps _ hl0
  have hne : (decide (nc < 0) || decide ((i.bytes : Int) * nc > 2 ^ 48) || decide (nl < 0) || decide (nl > nc)) = false := by
    simp only [Bool.or_eq_false_iff, decide_eq_false_iff_not]
    exact ⟨⟨⟨by omega, hb⟩, by omega⟩, by omega⟩
  simp only [execOp, ho, h1, h2, Instr.makeSlice, Sem.run_bind, run_underlying' ht, Result.andThen_ok, asInt, asIntOf, Sem.run_pure, run_typeInfo' hi, w1, w2, hne, Bool.false_eq_true, if_false, run_askRoom, run_sizeOf' hi]
  by_cases hn : nc.toNat * i.size = 0
  · simp only [hn, if_true, Sem.run_pure, Result.andThen_ok, newRow, Sem.run_bind, run_newObj] at hrow ⊢
    rw [hrow]
  · simp only [hn, if_false, Sem.run_bind, Sem.run_pure, run_zero hi hv, hvc, Result.andThen_ok, newRow, run_newObj] at hrow ⊢
    rw [hrow]

theorem pairs_fill {esz : Nat} : ∀ (ps : List (Nat × Value)) (es : List Ent) (c l : List Value), ps.map (·.2) = es.map (entV B) → pairsUp (ps.map (·.1)) es esz c = some l →
    Instr.fill (fun i => some (i * esz, esz)) c.toArray ps = some l.toArray
  | [], es, c, l, h2, h3 => by
    cases es with
    | nil => simp only [List.map_nil, pairsUp, Option.some.injEq] at h3; subst h3; rfl
    | cons a b => simp at h2
  | (i, v) :: ps, es, c, l, h2, h3 => by
    cases es with
    | nil => simp at h2
    | cons e es =>
      simp only [List.map_cons, List.cons.injEq] at h2
      cases e with
      | l r q => simp [pairsUp] at h3
      | v x =>
        simp only [List.map_cons, pairsUp] at h3
        split at h3
        · rename_i hc
          have hx : v = x := h2.1
          subst hx
          simp only [Instr.fill]
          rw [if_neg (by simp [hc.1]; omega)]
          have := pairs_fill ps es _ _ h2.2 h3
          rw [← this]
          congr 1
          rw [← Array.foldl_toList, Array.toList_zipIdx, foldl_wrL]
        · cases h3

theorem bsl_sound {o : Oper} {t e : TypeId} {len : Nat} {parts : Array (Nat × Operand)} {i : TypeInfo} {z cs : List Value} {es : List Ent} (ho : o.op = .buildSlice t len parts) (ht : P.underlying t = some (.slice e)) (hi : P.info? e = some i)
    (hz : zeroCells P e = some z) (hl : z.length = i.size) (hl0 : z.length ≠ 0) (hle : len * i.size ≤ 2 ^ 24) (hes : (parts.toList.map (·.2)).map ρ = es.map (entV B)) (hp : pairsUp (parts.toList.map (·.1)) es i.size (reps len z) = some cs) :
    (execOp ρ o).run P w = .ok (.value (.slice (some ⟨w.heap.size, 0, none⟩) len len)) { w with heap := w.heap.push (.cells cs.toArray e (0, 0)) } := by
  obtain ⟨i', v, hi', hv, hvc⟩ := zeroCells_info hz
  rw [hi] at hi'; cases hi'
  have hfill : Instr.fill (fun k => some (k * i.size, i.size)) (reps len z).toArray (parts.map fun (k, x) => (k, ρ x)).toList = some cs.toArray :=
    pairs_fill (B := B) _ es _ _ (by rw [← hes]; simp) (by rw [← hp]; congr 1; simp)
  simp only [execOp, ho, Instr.buildSlice, Sem.run_bind, run_underlying' ht, Result.andThen_ok, run_sizeOf' hi, if_neg (show ¬ len * i.size > 2 ^ 24 by omega), Sem.run_pure]
  by_cases hn : len * i.size = 0
  · have hn' : len = 0 := by
      rcases Nat.mul_eq_zero.1 hn with h | h
      · exact h
      · omega
    subst hn'
    simp only [reps] at hfill
    simp only [Nat.zero_mul, if_true, Sem.run_bind, Sem.run_pure, Result.andThen_ok]
    have h0 : ((Array.range 0).map fun j => (#[] : Array Value)[j % (#[] : Array Value).size]!) = #[] := by simp
    rw [h0, hfill]
    simp [newRow]
  · simp only [hn, if_false, Sem.run_bind, Sem.run_pure, run_zero hi hv, hvc, Result.andThen_ok]
    have hrow := range_reps (z := z) len hl0
    rw [hl] at hrow
    rw [hrow, hfill]
    simp [newRow]

theorem call_run {o : Oper} {g : Operand} {args : Array Operand} {ts : Array TypeId} {k : FuncId} {first cap : Array Value} (ho : o.op = .call { callee := .value g, args := args, argTypes := ts })
    (hg : ρ g = .func (.func k) first cap) (hc : callable P k = true) : (execOp ρ o).run P w = .ok (.enter k (first ++ args.map ρ ++ cap)) w := by
  unfold callable at hc
  split at hc
  · rename_i fn hf
    simp only [Bool.and_eq_true, Bool.not_eq_true'] at hc
    have hb : fn.body.isNone = false := by cases hq : fn.body <;> simp [hq] at hc ⊢
    simp only [execOp, ho, resolve, Deferred.ofValue, hg, Sem.run_bind, Sem.run_pure, Result.andThen_ok, invoke, callFunc, run_program, hf, hc.1, Bool.false_eq_true, if_false, hb]
  · cases hc

theorem call_run_y {o : Oper} {g : Operand} {args : Array Operand} {ts : Array TypeId} {l : Nat} {first cap : Array Value} {nx : Next} {w' : World} (ho : o.op = .call { callee := .value g, args := args, argTypes := ts })
    (hg : ρ g = .func (.yield l) first cap) (hy : (Instr.yield l (first ++ args.map ρ)).run P w = .ok nx w') : (execOp ρ o).run P w = .ok nx w' := by
  simp only [execOp, ho, resolve, Deferred.ofValue, hg, Sem.run_bind, Sem.run_pure, Result.andThen_ok, invoke, hy]

theorem keyStays {a b : Value} (hs : Instr.sameBits 10000 a b = true) : (Instr.keyThatStays a b).run P w = .ok b w := by
  simp [Instr.keyThatStays, hs]

theorem setObj_run {r : Nat} {ob o' : Obj} {es : Array MapEntry} {c : Nat} (hb : w.heap[r]? = some ob) (hob : ob = .map es c) :
    ∃ w', (setObj r o').run P w = .ok () w' ∧ Upd w w' r o' := by
  subst hob
  refine ⟨{ w with heap := w.heap.setIfInBounds r o' }, by simp [setObj, Sem.run, hb], fun x => ?_, ⟨rfl, rfl, rfl⟩⟩
  have hlt : r < w.heap.size := by
    rcases Nat.lt_or_ge r w.heap.size with h | h
    · exact h
    · rw [Array.getElem?_eq_none h] at hb; cases hb
  rw [Array.getElem?_setIfInBounds]
  split
  · rename_i e; subst e; simp [hlt]
  · rename_i e; rw [if_neg (fun h => e h.symm)]

theorem mup_sound {o : Oper} {t kt et : TypeId} {k : EqT} {m x y : Operand} {em ex ey : Ent} {K : Ent → Hp → Prop} (hw : Wd B β h f w) (ho : o.op = .mapUpdate t m x y ∨ o.op = .insert t m x y) (ht : P.underlying t = some (.map kt et)) (hk : eqT P kt = some k)
    (hm : ρ m = entV B em) (hx : ρ x = entV B ex) (hy : ρ y = entV B ey) (hp : mupK k h em ex ey K) :
    ∃ w' h', (execOp ρ o).run P w = .ok .skip w' ∧ K undefE h' ∧ Wd B β h' f w' := by
  have hexec : (execOp ρ o).run P w = ((Instr.mapUpdate t (ρ m) (ρ x) (ρ y)).run P w).andThen fun _ w' => .ok .skip w' := by
    rcases ho with ho | ho <;> simp only [execOp, ho, Sem.run_bind, Sem.run_pure]
  unfold mupK at hp
  split at hp
  · rename_i r vx vy
    obtain ⟨hself, hp⟩ := hp
    split at hp
    · rename_i es clock hb
      have hbw := hw.rep.vis _ _ hb
      have hck : (Instr.checkKey false 10000 kt vx).run P w = .ok () w := chk_run hk hself
      split at hp
      · rename_i l hl
        obtain ⟨i, hsc, hi⟩ := repl_scan hl
        cases i with
        | none => cases hi
        | some i =>
          obtain ⟨hlt, hsame, hl'⟩ := hi
          cases hl'
          have hfk := scan_run (w := w) hw.rep hk hsc
          have hg : es.toList[i]? = some es.toList[i] := List.getElem?_eq_getElem hlt
          simp only [outI, hg, Option.map_some, Nat.add_zero] at hfk
          have hg2 : es[i]? = some es.toList[i] := by rw [← hg]; simp
          obtain ⟨w', hset, hx'⟩ := setObj_run (P := P) (o' := .map (es.toList.set i { es.toList[i] with key := vx, val := vy }).toArray clock) hbw rfl
          refine ⟨w', _, ?_, hp, hw.set hb hx'⟩
          rw [hexec]
          have hmod : (es.modify i fun e => { e with key := vx, val := vy }) = (es.toList.set i { es.toList[i] with key := vx, val := vy }).toArray := by
            apply Array.ext'
            simp [Array.toList_modify, List.modify_eq_set, hg]
          simp only [hm, hx, hy, entV, Instr.mapUpdate, Sem.run_bind, run_underlying' ht, Result.andThen_ok, run_getObj_map hbw, hck, hfk, hg2, Option.map_some, Option.getD_some, keyStays hsame, hmod, hset]
      · rename_i hl
        obtain ⟨i, hsc, hi⟩ := repl_scan hl
        cases i with
        | some i => obtain ⟨_, _, h3⟩ := hi; cases h3
        | none =>
          have hfk := scan_run (w := w) hw.rep hk hsc
          simp only [outI] at hfk
          obtain ⟨w', hset, hx'⟩ := setObj_run (P := P) (o' := .map (es.push { key := vx, val := vy, born := clock }) (clock + 1)) hbw rfl
          refine ⟨w', _, ?_, hp, hw.set hb hx'⟩
          rw [hexec]
          simp only [hm, hx, hy, entV, Instr.mapUpdate, Sem.run_bind, run_underlying' ht, Result.andThen_ok, run_getObj_map hbw, hck, hfk, hset]
      · cases hp
    · cases hp
  · cases hp

theorem mdel_sound {o : Oper} {t kt et : TypeId} {k : EqT} {m x : Operand} {args : Array Operand} {ts : Array TypeId} {em ex : Ent} {K : Ent → Hp → Prop} (hw : Wd B β h f w)
    (ho : o.op = .call { callee := .builtin .delete, args := args, argTypes := ts }) (ha : args.toList = [m, x]) (h0 : ts[0]? = some t) (ht : P.underlying t = some (.map kt et)) (hk : eqT P kt = some k)
    (hm : ρ m = entV B em) (hx : ρ x = entV B ex) (hp : mdelK k h em ex K) :
    ∃ w' h', (execOp ρ o).run P w = .ok (.value (.tuple #[])) w' ∧ K (.v (.tuple #[])) h' ∧ Wd B β h' f w' := by
  have hargs : args = #[m, x] := by rw [← Array.toArray_toList (xs := args), ha]
  subst hargs
  rw [run_builtin ho]
  have harr : (#[m, x] : Array Operand).map ρ = #[entV B em, entV B ex] := by simp [hm, hx]
  unfold mdelK at hp
  split at hp
  · rename_i vx
    obtain ⟨hself, hp⟩ := hp
    have hck : (Instr.checkKey true 10000 kt vx).run P w = .ok () w := chk_run hk hself
    refine ⟨w, h, ?_, hp, hw⟩
    simp only [builtin, harr, Builtin.delete_, h0, List.getElem?_toArray, List.getElem?_cons_zero, List.getElem?_cons_succ, Sem.run_bind, run_underlying' ht, Result.andThen_ok, entV, hck, Sem.run_pure]
  · rename_i r vx
    obtain ⟨hself, hp⟩ := hp
    split at hp
    · rename_i es clock hb
      have hbw := hw.rep.vis _ _ hb
      have hck : (Instr.checkKey es.isEmpty 10000 kt vx).run P w = .ok () w := chk_run hk hself
      split at hp
      · rename_i l hl
        obtain ⟨i, hsc, hi⟩ := strk_scan hl
        cases i with
        | none => cases hi
        | some i =>
          obtain ⟨hlt, hl'⟩ := hi
          cases hl'
          have hfk := scan_run (w := w) hw.rep hk hsc
          have hg : es.toList[i]? = some es.toList[i] := List.getElem?_eq_getElem hlt
          simp only [outI, hg, Option.map_some, Nat.add_zero] at hfk
          obtain ⟨w', hset, hx'⟩ := setObj_run (P := P) (o' := .map (es.toList.eraseIdx i).toArray clock) hbw rfl
          refine ⟨w', _, ?_, hp, hw.set hb hx'⟩
          have herase : es.eraseIdxIfInBounds i = (es.toList.eraseIdx i).toArray := by
            apply Array.ext'
            have hlt' : i < es.size := by simpa using hlt
            rw [Array.eraseIdxIfInBounds, dif_pos hlt', Array.toList_eraseIdx]
          simp only [builtin, harr, Builtin.delete_, h0, List.getElem?_toArray, List.getElem?_cons_zero, List.getElem?_cons_succ, Sem.run_bind, run_underlying' ht, Result.andThen_ok, entV, run_getObj_map hbw, hck, hfk, herase, hset, Sem.run_pure]
      · rename_i hl
        obtain ⟨i, hsc, hi⟩ := strk_scan hl
        cases i with
        | some i => obtain ⟨_, h3⟩ := hi; cases h3
        | none =>
          have hfk := scan_run (w := w) hw.rep hk hsc
          simp only [outI] at hfk
          obtain ⟨w', hset, hx'⟩ := setObj_run (P := P) (o' := .map es clock) hbw rfl
          refine ⟨w', _, ?_, hp, hw.set hb hx'⟩
          simp only [builtin, harr, Builtin.delete_, h0, List.getElem?_toArray, List.getElem?_cons_zero, List.getElem?_cons_succ, Sem.run_bind, run_underlying' ht, Result.andThen_ok, entV, run_getObj_map hbw, hck, hfk, hset, Sem.run_pure]
      · cases hp
    · cases hp
  · cases hp

end

end Go.Proofs.Ytkmknolkblcbeaa.V
