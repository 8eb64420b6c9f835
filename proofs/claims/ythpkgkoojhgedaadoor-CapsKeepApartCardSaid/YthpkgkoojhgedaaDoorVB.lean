/- Deeds, frames, regions in every order, code, loops over functions, calls. -/
import Derived.Test.YthpkgkoojhgedaaDoorVA

/- The deeds together. -/
namespace Go.Proofs.YthpkgkoojhgedaaDoor.V
set_option linter.unusedSectionVars false
set_option linter.unusedVariables false
set_option linter.unusedSimpArgs false
open Go

section
variable {P : Program} {w : World} {h : Hp} {f : Fm} {B : Nat → Nat} {β : Bx} {ρ : Operand → Value}

theorem wrap_i64 {x : Int} (h1 : -9223372036854775808 ≤ x) (h2 : x < 9223372036854775808) : IntKind.i64.wrap x = x := by
  simp only [IntKind.wrap, IntKind.bits, IntKind.signed, Bool.true_and, Int.reducePow, Nat.reduceSub]
  split <;> rename_i hh <;> simp only [ge_iff_le, decide_eq_true_eq, Int.not_le] at hh <;> omega

theorem reps_length (z : List Value) : ∀ n, (reps n z).length = n * z.length
  | 0 => by simp [reps]
  | n + 1 => by simp [reps, reps_length z n, Nat.succ_mul, Nat.add_comm]

theorem reps_get {z : List Value} : ∀ (n i : Nat), i < n * z.length → (reps n z)[i]? = z[i % z.length]?
  | 0, i, h => by simp at h
  | n + 1, i, h => by
    simp only [reps]
    rw [List.getElem?_append]
    split
    · rename_i hi; rw [Nat.mod_eq_of_lt hi]
    · rename_i hi
      have hz : z.length ≤ i := by omega
      rw [reps_get n (i - z.length) (by rw [Nat.succ_mul] at h; omega)]
      congr 1
      rw [Nat.mod_eq_sub_mod hz]

theorem range_reps {z : List Value} (n : Nat) (hz : z.length ≠ 0) : ((Array.range (n * z.length)).map fun i => z.toArray[i % z.toArray.size]!) = (reps n z).toArray := by
  apply Array.ext'
  apply List.ext_getElem?
  intro i
  simp only [Array.toList_map, Array.toList_range, List.getElem?_map, List.size_toArray]
  by_cases hi : i < n * z.length
  · have hm : i % z.length < z.length := Nat.mod_lt _ (by omega)
    rw [reps_get n i hi, List.getElem?_range hi]
    simp [hm]
  · rw [List.getElem?_eq_none (by simpa using hi), List.getElem?_eq_none (by rw [reps_length]; omega)]
    rfl

theorem fresh_push (hw : Wd B β h f w) {o : Obj} {K : Nat → Hp → Prop} (hf : fresh h o K) {w' : World} (he : w'.heap = w.heap.push o) (hs : Still w w' := by exact ⟨rfl, rfl, rfl⟩) :
    K w.heap.size (upd h w.heap.size o) ∧ Wd B β (upd h w.heap.size o) f w' := ⟨hf.run _ hw.rep.fresh_vis, hw.push he hs⟩

theorem upW_value {K : Value → World → Prop} {v : Value} {w' : World} {r : Result Next} (hr : r = .ok (.value v) w') (hk : K v w') : upW P K r := by subst hr; exact hk

theorem zeroCells_info {t : TypeId} {z : List Value} (hz : zeroCells P t = some z) : ∃ i v, P.info? t = some i ∧ i.zero = some v ∧ v.cells = z.toArray := by
  unfold zeroCells at hz
  split at hz
  · rename_i i hi
    split at hz
    · rename_i v hv; cases hz; exact ⟨i, v, hi, hv, by simp⟩
    · cases hz
  · cases hz

theorem mks_sound {o : Oper} {t e : TypeId} {l c : Operand} {i : TypeInfo} {z : List Value} {kl kc : IntKind} {nl nc : Int} (ho : o.op = .makeSlice t l c) (ht : P.underlying t = some (.slice e)) (hi : P.info? e = some i)
    (hz : zeroCells P e = some z) (hl : z.length = i.size) (hl0 : z.length ≠ 0) (h1 : ρ l = .int kl nl) (h2 : ρ c = .int kc nc) (g1 : 0 ≤ nl) (g2 : nl ≤ nc) (g3 : nc * i.bytes ≤ 2 ^ 48) (g4 : nc < 2 ^ 62) :
    (execOp ρ o).run P w = .ok (.value (.slice (some ⟨w.heap.size, 0, none⟩) nl.toNat nc.toNat)) { w with heap := w.heap.push (.cells (reps nc.toNat z).toArray e (0, 0)) } := by
  obtain ⟨i', v, hi', hv, hvc⟩ := zeroCells_info hz
  rw [hi] at hi'; cases hi'
  have w1 : IntKind.i64.wrap nl = nl := wrap_i64 (by omega) (by omega)
  have w2 : IntKind.i64.wrap nc = nc := wrap_i64 (by omega) (by omega)
  have hb : ¬ ((i.bytes : Int) * nc > 2 ^ 48) := by rw [Int.mul_comm]; omega
  have hcells : (if nc.toNat * i.size = 0 then (#[] : Array Value) else v.cells) = (if nc.toNat * i.size = 0 then #[] else z.toArray) := by rw [hvc]
  have hrow : ((Array.range (nc.toNat * i.size)).map fun j => (if nc.toNat * i.size = 0 then (#[] : Array Value) else z.toArray)[j % (if nc.toNat * i.size = 0 then (#[] : Array Value) else z.toArray).size]!) = (reps nc.toNat z).toArray := by
    by_cases hn : nc.toNat * i.size = 0
    · have hn' : nc.toNat = 0 := by
        rcases Nat.mul_eq_zero.1 hn with h | h
        · exact h
        · omega
      simp [hn', reps]
    · simp only [hn, if_false]
      rw [← hl]; exact range_reps _ hl0
  have hne : (decide (nc < 0) || decide ((i.bytes : Int) * nc > 2 ^ 48) || decide (nl < 0) || decide (nl > nc)) = false := by
    simp only [Bool.or_eq_false_iff, decide_eq_false_iff_not]
    exact ⟨⟨⟨by omega, hb⟩, by omega⟩, by omega⟩
  simp only [execOp, ho, h1, h2, Instr.makeSlice, Sem.run_bind, run_underlying' ht, Result.andThen_ok, asInt, asIntOf, Sem.run_pure, run_typeInfo' hi, w1, w2, hne, Bool.false_eq_true, if_false, run_askRoom, run_sizeOf' hi]
  by_cases hn : nc.toNat * i.size = 0
  · simp only [hn, if_true, Sem.run_pure, Result.andThen_ok, newRow, Sem.run_bind, run_newObj] at hrow ⊢
    rw [hrow]
  · simp only [hn, if_false, Sem.run_bind, Sem.run_pure, run_zero hi hv, hvc, Result.andThen_ok, newRow, run_newObj] at hrow ⊢
    rw [hrow]

theorem pairs_fill {esz : Nat} : ∀ (ps : List (Nat × Value)) (es : List Ent) (c l : List Value), ps.map (·.2) = es.map (entV B) → pairsUp (ps.map (·.1)) es esz c = some l →
    Instr.fill (fun i => some (i * esz, esz)) c.toArray ps = some l.toArray
  | [], es, c, l, h2, h3 => by
    cases es with
    | nil => simp only [List.map_nil, pairsUp, Option.some.injEq] at h3; subst h3; rfl
    | cons a b => simp at h2
  | (i, v) :: ps, es, c, l, h2, h3 => by
    cases es with
    | nil => simp at h2
    | cons e es =>
      simp only [List.map_cons, List.cons.injEq] at h2
      cases e with
      | l r q => simp [pairsUp] at h3
      | v x =>
        simp only [List.map_cons, pairsUp] at h3
        split at h3
        · rename_i hc
          have hx : v = x := h2.1
          subst hx
          simp only [Instr.fill]
          rw [if_neg (by simp [hc.1]; omega)]
          have := pairs_fill ps es _ _ h2.2 h3
          rw [← this]
          congr 1
          rw [← Array.foldl_toList, Array.toList_zipIdx, foldl_wrL]
        · cases h3

theorem bsl_sound {o : Oper} {t e : TypeId} {len : Nat} {parts : Array (Nat × Operand)} {i : TypeInfo} {z cs : List Value} {es : List Ent} (ho : o.op = .buildSlice t len parts) (ht : P.underlying t = some (.slice e)) (hi : P.info? e = some i)
    (hz : zeroCells P e = some z) (hl : z.length = i.size) (hl0 : z.length ≠ 0) (hle : len * i.size ≤ 2 ^ 24) (hes : (parts.toList.map (·.2)).map ρ = es.map (entV B)) (hp : pairsUp (parts.toList.map (·.1)) es i.size (reps len z) = some cs) :
    (execOp ρ o).run P w = .ok (.value (.slice (some ⟨w.heap.size, 0, none⟩) len len)) { w with heap := w.heap.push (.cells cs.toArray e (0, 0)) } := by
  obtain ⟨i', v, hi', hv, hvc⟩ := zeroCells_info hz
  rw [hi] at hi'; cases hi'
  have hfill : Instr.fill (fun k => some (k * i.size, i.size)) (reps len z).toArray (parts.map fun (k, x) => (k, ρ x)).toList = some cs.toArray :=
    pairs_fill (B := B) _ es _ _ (by rw [← hes]; simp) (by rw [← hp]; congr 1; simp)
  simp only [execOp, ho, Instr.buildSlice, Sem.run_bind, run_underlying' ht, Result.andThen_ok, run_sizeOf' hi, if_neg (show ¬ len * i.size > 2 ^ 24 by omega), Sem.run_pure]
  by_cases hn : len * i.size = 0
  · have hn' : len = 0 := by
      rcases Nat.mul_eq_zero.1 hn with h | h
      · exact h
      · omega
    subst hn'
    simp only [reps] at hfill
    simp only [Nat.zero_mul, if_true, Sem.run_bind, Sem.run_pure, Result.andThen_ok]
    have h0 : ((Array.range 0).map fun j => (#[] : Array Value)[j % (#[] : Array Value).size]!) = #[] := by simp
    rw [h0, hfill]
    simp [newRow]
  · simp only [hn, if_false, Sem.run_bind, Sem.run_pure, run_zero hi hv, hvc, Result.andThen_ok]
    have hrow := range_reps (z := z) len hl0
    rw [hl] at hrow
    rw [hrow, hfill]
    simp [newRow]

theorem call_run {o : Oper} {g : Operand} {args : Array Operand} {ts : Array TypeId} {k : FuncId} {first cap : Array Value} (ho : o.op = .call { callee := .value g, args := args, argTypes := ts })
    (hg : ρ g = .func (.func k) first cap) (hc : callable P k = true) : (execOp ρ o).run P w = .ok (.enter k (first ++ args.map ρ ++ cap)) w := by
  unfold callable at hc
  split at hc
  · rename_i fn hf
    simp only [Bool.and_eq_true, Bool.not_eq_true'] at hc
    have hb : fn.body.isNone = false := by cases hq : fn.body <;> simp [hq] at hc ⊢
    simp only [execOp, ho, resolve, Deferred.ofValue, hg, Sem.run_bind, Sem.run_pure, Result.andThen_ok, invoke, callFunc, run_program, hf, hc.1, Bool.false_eq_true, if_false, hb]
  · cases hc

theorem call_run_y {o : Oper} {g : Operand} {args : Array Operand} {ts : Array TypeId} {l : Nat} {first cap : Array Value} {nx : Next} {w' : World} (ho : o.op = .call { callee := .value g, args := args, argTypes := ts })
    (hg : ρ g = .func (.yield l) first cap) (hy : (Instr.yield l (first ++ args.map ρ)).run P w = .ok nx w') : (execOp ρ o).run P w = .ok nx w' := by
  simp only [execOp, ho, resolve, Deferred.ofValue, hg, Sem.run_bind, Sem.run_pure, Result.andThen_ok, invoke, hy]

theorem keyStays {a b : Value} (hs : Instr.sameBits 10000 a b = true) : (Instr.keyThatStays a b).run P w = .ok b w := by
  simp [Instr.keyThatStays, hs]

theorem setObj_run {r : Nat} {ob o' : Obj} {es : Array MapEntry} {c : Nat} (hb : w.heap[r]? = some ob) (hob : ob = .map es c) :
    ∃ w', (setObj r o').run P w = .ok () w' ∧ Upd w w' r o' := by
  subst hob
  refine ⟨{ w with heap := w.heap.setIfInBounds r o' }, by simp [setObj, Sem.run, hb], fun x => ?_, ⟨rfl, rfl, rfl⟩⟩
  have hlt : r < w.heap.size := by
    rcases Nat.lt_or_ge r w.heap.size with h | h
    · exact h
    · rw [Array.getElem?_eq_none h] at hb; cases hb
  rw [Array.getElem?_setIfInBounds]
  split
  · rename_i e; subst e; simp [hlt]
  · rename_i e; rw [if_neg (fun h => e h.symm)]

theorem mup_sound {o : Oper} {t kt et : TypeId} {k : EqT} {m x y : Operand} {em ex ey : Ent} {K : Ent → Hp → Prop} (hw : Wd B β h f w) (ho : o.op = .mapUpdate t m x y ∨ o.op = .insert t m x y) (ht : P.underlying t = some (.map kt et)) (hk : eqT P kt = some k)
    (hm : ρ m = entV B em) (hx : ρ x = entV B ex) (hy : ρ y = entV B ey) (hp : mupK k h em ex ey K) :
    ∃ w' h', (execOp ρ o).run P w = .ok .skip w' ∧ K undefE h' ∧ Wd B β h' f w' := by
  have hexec : (execOp ρ o).run P w = ((Instr.mapUpdate t (ρ m) (ρ x) (ρ y)).run P w).andThen fun _ w' => .ok .skip w' := by
    rcases ho with ho | ho <;> simp only [execOp, ho, Sem.run_bind, Sem.run_pure]
  unfold mupK at hp
  split at hp
  · rename_i r vx vy
    obtain ⟨hself, hp⟩ := hp
    split at hp
    · rename_i es clock hb
      have hbw := hw.rep.vis _ _ hb
      have hck : (Instr.checkKey false 10000 kt vx).run P w = .ok () w := chk_run hk hself
      split at hp
      · rename_i l hl
        obtain ⟨i, hsc, hi⟩ := repl_scan hl
        cases i with
        | none => cases hi
        | some i =>
          obtain ⟨hlt, hsame, hl'⟩ := hi
          cases hl'
          have hfk := scan_run (w := w) hw.rep hk hsc
          have hg : es.toList[i]? = some es.toList[i] := List.getElem?_eq_getElem hlt
          simp only [outI, hg, Option.map_some, Nat.add_zero] at hfk
          have hg2 : es[i]? = some es.toList[i] := by rw [← hg]; simp
          obtain ⟨w', hset, hx'⟩ := setObj_run (P := P) (o' := .map (es.toList.set i { es.toList[i] with key := vx, val := vy }).toArray clock) hbw rfl
          refine ⟨w', _, ?_, hp, hw.set hb hx'⟩
          rw [hexec]
          have hmod : (es.modify i fun e => { e with key := vx, val := vy }) = (es.toList.set i { es.toList[i] with key := vx, val := vy }).toArray := by
            apply Array.ext'
            simp [Array.toList_modify, List.modify_eq_set, hg]
          simp only [hm, hx, hy, entV, Instr.mapUpdate, Sem.run_bind, run_underlying' ht, Result.andThen_ok, run_getObj_map hbw, hck, hfk, hg2, Option.map_some, Option.getD_some, keyStays hsame, hmod, hset]
      · rename_i hl
        obtain ⟨i, hsc, hi⟩ := repl_scan hl
        cases i with
        | some i => obtain ⟨_, _, h3⟩ := hi; cases h3
        | none =>
          have hfk := scan_run (w := w) hw.rep hk hsc
          simp only [outI] at hfk
          obtain ⟨w', hset, hx'⟩ := setObj_run (P := P) (o' := .map (es.push { key := vx, val := vy, born := clock }) (clock + 1)) hbw rfl
          refine ⟨w', _, ?_, hp, hw.set hb hx'⟩
          rw [hexec]
          simp only [hm, hx, hy, entV, Instr.mapUpdate, Sem.run_bind, run_underlying' ht, Result.andThen_ok, run_getObj_map hbw, hck, hfk, hset]
      · cases hp
    · cases hp
  · cases hp

theorem mdel_sound {o : Oper} {t kt et : TypeId} {k : EqT} {m x : Operand} {args : Array Operand} {ts : Array TypeId} {em ex : Ent} {K : Ent → Hp → Prop} (hw : Wd B β h f w)
    (ho : o.op = .call { callee := .builtin .delete, args := args, argTypes := ts }) (ha : args.toList = [m, x]) (h0 : ts[0]? = some t) (ht : P.underlying t = some (.map kt et)) (hk : eqT P kt = some k)
    (hm : ρ m = entV B em) (hx : ρ x = entV B ex) (hp : mdelK k h em ex K) :
    ∃ w' h', (execOp ρ o).run P w = .ok (.value (.tuple #[])) w' ∧ K (.v (.tuple #[])) h' ∧ Wd B β h' f w' := by
  have hargs : args = #[m, x] := by rw [← Array.toArray_toList (xs := args), ha]
  subst hargs
  rw [run_builtin ho]
  have harr : (#[m, x] : Array Operand).map ρ = #[entV B em, entV B ex] := by simp [hm, hx]
  unfold mdelK at hp
  split at hp
  · rename_i vx
    obtain ⟨hself, hp⟩ := hp
    have hck : (Instr.checkKey true 10000 kt vx).run P w = .ok () w := chk_run hk hself
    refine ⟨w, h, ?_, hp, hw⟩
    simp only [builtin, harr, Builtin.delete_, h0, List.getElem?_toArray, List.getElem?_cons_zero, List.getElem?_cons_succ, Sem.run_bind, run_underlying' ht, Result.andThen_ok, entV, hck, Sem.run_pure]
  · rename_i r vx
    obtain ⟨hself, hp⟩ := hp
    split at hp
    · rename_i es clock hb
      have hbw := hw.rep.vis _ _ hb
      have hck : (Instr.checkKey es.isEmpty 10000 kt vx).run P w = .ok () w := chk_run hk hself
      split at hp
      · rename_i l hl
        obtain ⟨i, hsc, hi⟩ := strk_scan hl
        cases i with
        | none => cases hi
        | some i =>
          obtain ⟨hlt, hl'⟩ := hi
          cases hl'
          have hfk := scan_run (w := w) hw.rep hk hsc
          have hg : es.toList[i]? = some es.toList[i] := List.getElem?_eq_getElem hlt
          simp only [outI, hg, Option.map_some, Nat.add_zero] at hfk
          obtain ⟨w', hset, hx'⟩ := setObj_run (P := P) (o' := .map (es.toList.eraseIdx i).toArray clock) hbw rfl
          refine ⟨w', _, ?_, hp, hw.set hb hx'⟩
          have herase : es.eraseIdxIfInBounds i = (es.toList.eraseIdx i).toArray := by
            apply Array.ext'
            have hlt' : i < es.size := by simpa using hlt
            rw [Array.eraseIdxIfInBounds, dif_pos hlt', Array.toList_eraseIdx]
          simp only [builtin, harr, Builtin.delete_, h0, List.getElem?_toArray, List.getElem?_cons_zero, List.getElem?_cons_succ, Sem.run_bind, run_underlying' ht, Result.andThen_ok, entV, run_getObj_map hbw, hck, hfk, herase, hset, Sem.run_pure]
      · rename_i hl
        obtain ⟨i, hsc, hi⟩ := strk_scan hl
        cases i with
        | some i => obtain ⟨_, h3⟩ := hi; cases h3
        | none =>
          have hfk := scan_run (w := w) hw.rep hk hsc
          simp only [outI] at hfk
          obtain ⟨w', hset, hx'⟩ := setObj_run (P := P) (o' := .map es clock) hbw rfl
          refine ⟨w', _, ?_, hp, hw.set hb hx'⟩
          simp only [builtin, harr, Builtin.delete_, h0, List.getElem?_toArray, List.getElem?_cons_zero, List.getElem?_cons_succ, Sem.run_bind, run_underlying' ht, Result.andThen_ok, entV, run_getObj_map hbw, hck, hfk, hset, Sem.run_pure]
      · cases hp
    · cases hp
  · cases hp

end

end Go.Proofs.YthpkgkoojhgedaaDoor.V

/- append, copy, clear; every deed; a region's operations. -/
namespace Go.Proofs.YthpkgkoojhgedaaDoor.V
set_option linter.unusedSectionVars false
set_option linter.unusedVariables false
set_option linter.unusedSimpArgs false
open Go

section
variable {P : Program} {w : World} {h : Hp} {f : Fm} {B : Nat → Nat} {β : Bx} {ρ : Operand → Value}

theorem entV_v (x : Value) : entV B (.v x) = x := rfl

theorem growBy_le (n : Nat) : ∀ (r c : Nat), 256 ≤ c → c ≤ 2 * n → Builtin.growBy n r c ≤ 2 * n
  | 0, c, _, h => by simpa [Builtin.growBy] using h
  | r + 1, c, h1, h2 => by
    simp only [Builtin.growBy]
    split
    · exact h2
    · exact growBy_le n r _ (by omega) (by omega)

theorem nextcap_le {n c : Nat} (hc : c < n) : Builtin.nextslicecap n c ≤ 2 * n := by
  unfold Builtin.nextslicecap
  split
  · omega
  · split
    · omega
    · exact growBy_le n 4 c (by omega) (by omega)

theorem src_run {n esz : Nat} {e : Ent} {l : List Value} {w' : World} (hr : Rep w' h f) (hs : srcCells h n esz e = some l) : (Builtin.firstCells esz n (entV B e)).run P w' = .ok l.toArray w' := by
  unfold srcCells at hs
  split at hs
  · cases hs; simp [entV, Builtin.firstCells]
  · split at hs
    · rename_i h0
      cases hs
      simp only [entV, Builtin.firstCells, h0]
      rfl
    · split at hs
      · split at hs
        · rename_i c ty z hb
          split at hs
          · rename_i hn
            cases hs
            simp only [entV, Builtin.firstCells]
            rw [run_loadCells_row (hr.vis _ _ hb) hn]
          · cases hs
        · cases hs
      · cases hs
  · cases hs

theorem elen_run {e : Ent} {m : Nat} {w' : World} (he : elen e = some m) : (Builtin.lenOf (entV B e)).run P w' = .ok m w' := by
  unfold elen at he
  split at he <;> cases he
  simp [entV, Builtin.lenOf]

theorem zeroCells_reps {z : List Value} {v : Value} (hv : v.cells = z.toArray) (hz : z.length ≠ 0) (n : Nat) : Builtin.zeroCells v.cells n = (reps n z).toArray := by
  rw [hv]
  unfold Builtin.zeroCells
  rw [← range_reps n hz]
  simp only [List.size_toArray]

theorem app_sound {o : Oper} {t u e e2 : TypeId} {s x : Operand} {args : Array Operand} {ts : Array TypeId} {i : TypeInfo} {z : List Value} {es ex : Ent} {K : Ent → Hp → Prop} (hw : Wd B β h f w)
    (ho : o.op = .call { callee := .builtin .append, args := args, argTypes := ts }) (ha : args.toList = [s, x]) (hts : ts.toList = [t, u]) (ht : P.underlying t = some (.slice e)) (hu : P.underlying u = some (.slice e2))
    (hi : P.info? e = some i) (hz : zeroCells P e = some z) (hl : z.length = i.size) (hl0 : z.length ≠ 0) (hb0 : i.bytes ≠ 0) (hs : ρ s = entV B es) (hx : ρ x = entV B ex) (hp : appK z e i.bytes h es ex K) :
    ∃ w' v h', (execOp ρ o).run P w = .ok (.value (entV B v)) w' ∧ K v h' ∧ Wd B β h' f w' := by
  have hargs : args = #[s, x] := by rw [← Array.toArray_toList (xs := args), ha]
  have htys : ts = #[t, u] := by rw [← Array.toArray_toList (xs := ts), hts]
  subst hargs htys
  obtain ⟨i', v0, hi', hv, hvc⟩ := zeroCells_info hz
  rw [hi] at hi'; cases hi'
  rw [run_builtin ho]
  have harr : (#[s, x] : Array Operand).map ρ = #[entV B es, entV B ex] := by simp [hs, hx]
  unfold appK at hp
  split at hp
  · rename_i base n cap m hm
    split at hp
    · cases hp
    · rename_i new hnew
      obtain ⟨hnl, hp⟩ := hp
      have hstart : ∀ (K' : Result Next → Prop), K' ((builtin .append #[t, u] o.type ((#[s, x] : Array Operand).map fun | .const _ => true | _ => false) ((#[s, x] : Array Operand).map ρ)).run P w) ↔
          K' (((Builtin.append_ #[t, u] o.type #[.slice base n cap, entV B ex]).run P w).andThen fun a w' => .ok (.value a) w') := by
        intro K'
        rw [harr]
        simp only [builtin, Sem.run_bind, Sem.run_pure]
        rfl
      split at hp
      · rename_i hle
        split at hp
        · rename_i b o'
          split at hp
          · rename_i c ty' fz hb
            obtain ⟨hone, hsz, hfz, hK⟩ := hp
            have hb' := hw.rep.vis _ _ hb
            have hnl' : new.length = m * i.size := by rw [hnl, hl]
            obtain ⟨w', hst, hw'⟩ := run_storeCells (P := P) (o := o' + n * i.size) (z := fz) (ty := ty') new 0 c w hb' (by rw [hnl', Nat.add_zero]; rw [hl, Nat.add_mul] at hsz; omega)
              (by rw [hnl', Nat.add_zero]; rw [hl, Nat.add_mul] at hfz; omega) hone
            refine ⟨w', .v (.slice (some ⟨b, o', none⟩) (n + m) cap), _, ?_, hK, ?_⟩
            · refine (hstart (· = _)).2 ?_
              simp only [Builtin.append_, List.getElem?_toArray, List.getElem?_cons_zero, List.getElem?_cons_succ, Sem.run_bind, run_underlying' ht, run_underlying' hu, Result.andThen_ok, run_sizeOf' hi, Sem.run_pure, Bool.false_eq_true, if_false, elen_run hm, hle, if_true, Bool.not_false, src_run hw.rep (hl ▸ hnew), add_mk, hst, entV_v]
            · rw [hl]; exact hw.set hb (by simpa using hw')
          · cases hp
        · cases hp
        · refine ⟨w, .v (.slice none (n + m) cap), h, ?_, hp, hw⟩
          refine (hstart (· = _)).2 ?_
          simp only [Builtin.append_, List.getElem?_toArray, List.getElem?_cons_zero, List.getElem?_cons_succ, Sem.run_bind, run_underlying' ht, run_underlying' hu, Result.andThen_ok, run_sizeOf' hi, Sem.run_pure, Bool.false_eq_true, if_false, elen_run hm, hle, if_true, Bool.not_false, src_run hw.rep (hl ▸ hnew), entV_v]
      · rename_i hgt
        split at hp
        · cases hp
        · rename_i old hold
          obtain ⟨hol, hbytes, hK⟩ := hp
          have hcapq : ¬ (Builtin.nextslicecap (n + m) cap * i.bytes > 2 ^ 48) := by
            have h1 := nextcap_le (n := n + m) (c := cap) (by omega)
            have h2 := Nat.mul_le_mul_right i.bytes h1
            omega
          let q : Question := .appendCap (n + m) cap e
          let cap' := q.cut (w.tape w.drawn q)
          have hcap' : n + m ≤ cap' := by show n + m ≤ n + m + _ % _; omega
          let w1 : World := { w with drawn := w.drawn + 1 }
          have hw1 : Wd B β h f w1 := hw.heap rfl
          let ob : Obj := .cells (old ++ new ++ reps (cap' - (n + m)) z).toArray e (0, 0)
          let w2 : World := { w1 with heap := w1.heap.push ob }
          have hf := hK cap' hcap'
          obtain ⟨hk, hwd⟩ := fresh_push (w' := w2) hw1 hf rfl
          refine ⟨w2, _, _, ?_, hk, hwd⟩
          refine (hstart (· = _)).2 ?_
          have hold' : (Builtin.firstCells i.size n (.slice base n cap)).run P w1 = .ok old.toArray w1 := src_run (B := B) (e := .v (.slice base n cap)) hw1.rep (hl ▸ hold)
          have hnew' : (Builtin.firstCells i.size m (entV B ex)).run P w1 = .ok new.toArray w1 := src_run hw1.rep (hl ▸ hnew)
          have hch : (choose q).run P w = .ok cap' w1 := by simp only [run_choose, show q.forced = false from rfl, Bool.false_eq_true, if_false]; rfl
          have hch' : (choose (.appendCap (n + m) cap e)).run P w = .ok cap' w1 := hch
          have hgrow : ¬ (((n + m : Nat) : Int) > IntKind.i64.max ∧ (false = true ∨ i.bytes = 0)) := by simp [hb0]
          simp only [Builtin.append_, List.getElem?_toArray, List.getElem?_cons_zero, List.getElem?_cons_succ, Sem.run_bind, run_underlying' ht, run_underlying' hu, Result.andThen_ok, run_sizeOf' hi, Sem.run_pure, Bool.false_eq_true, if_false, elen_run hm, hgt, Bool.not_false, if_true, run_typeInfo' hi, hb0, or_self, and_false, hcapq, hch', run_askRoom, hold', hnew', run_zero hi hv, zeroCells_reps hvc hl0, newRow, run_newObj]
          simp [w2, w1, ob, entV_v]
          rfl
  · cases hp

theorem clrS_sound {o : Oper} {t e : TypeId} {m : Operand} {args : Array Operand} {ts : Array TypeId} {i : TypeInfo} {z : List Value} {em : Ent} {K : Ent → Hp → Prop} (hw : Wd B β h f w)
    (ho : o.op = .call { callee := .builtin .clear, args := args, argTypes := ts }) (ha : args.toList = [m]) (h0 : ts[0]? = some t) (ht : P.underlying t = some (.slice e)) (hi : P.info? e = some i) (hz : zeroCells P e = some z)
    (hl : z.length = i.size) (hl0 : z.length ≠ 0) (hm : ρ m = entV B em) (hp : clrSK z h em K) :
    ∃ w' h', (execOp ρ o).run P w = .ok (.value (.tuple #[])) w' ∧ K (.v (.tuple #[])) h' ∧ Wd B β h' f w' := by
  have hargs : args = #[m] := by rw [← Array.toArray_toList (xs := args), ha]
  subst hargs
  obtain ⟨i', v0, hi', hv, hvc⟩ := zeroCells_info hz
  rw [hi] at hi'; cases hi'
  rw [run_builtin ho]
  have harr : (#[m] : Array Operand).map ρ = #[entV B em] := by simp [hm]
  rw [harr]
  unfold clrSK at hp
  split at hp
  · exact ⟨w, h, by simp [builtin, Builtin.clear_, h0, run_underlying' ht, entV], hp, hw⟩
  · rename_i b o' n cp
    split at hp
    · rename_i c ty fz hb
      obtain ⟨hsz, hfz, hone, hK⟩ := hp
      cases n with
      | zero =>
        refine ⟨w, h, by simp [builtin, Builtin.clear_, h0, run_underlying' ht, entV], ?_, hw⟩
        have : upd h b (.cells (wr c o' (reps 0 z)) ty fz) = h := by
          funext y; unfold upd; split
          · rename_i e; subst e; simp [reps, wr, hb]
          · rfl
        rw [this] at hK; exact hK
      | succ n =>
        have hlen := reps_length z (n + 1)
        have hall : (reps (n + 1) z).all one = true := by
          have : ∀ k, (reps k z).all one = true := fun k => by
            induction k with
            | zero => rfl
            | succ k ih => simp only [reps, List.all_append, hone, ih, Bool.and_self]
          exact this _
        obtain ⟨w', hst, hw'⟩ := run_storeCells (P := P) (o := o') (z := fz) (ty := ty) (reps (n + 1) z) 0 c w (hw.rep.vis _ _ hb) (by rw [hlen]; omega) (by rw [hlen]; omega) hall
        refine ⟨w', _, ?_, hK, hw.set hb (by simpa using hw')⟩
        simp only [builtin, Builtin.clear_, h0, List.getElem?_toArray, List.getElem?_cons_zero, Sem.run_bind, run_underlying' ht, Result.andThen_ok, entV, run_zero hi hv, zeroCells_reps hvc hl0, hst, Sem.run_pure]
    · cases hp
  · cases hp

theorem clrM_sound {o : Oper} {t kt et : TypeId} {m : Operand} {args : Array Operand} {ts : Array TypeId} {em : Ent} {K : Ent → Hp → Prop} (hw : Wd B β h f w)
    (ho : o.op = .call { callee := .builtin .clear, args := args, argTypes := ts }) (ha : args.toList = [m]) (h0 : ts[0]? = some t) (ht : P.underlying t = some (.map kt et)) (hm : ρ m = entV B em) (hp : clrMK h em K) :
    ∃ w' h', (execOp ρ o).run P w = .ok (.value (.tuple #[])) w' ∧ K (.v (.tuple #[])) h' ∧ Wd B β h' f w' := by
  have hargs : args = #[m] := by rw [← Array.toArray_toList (xs := args), ha]
  subst hargs
  rw [run_builtin ho]
  have harr : (#[m] : Array Operand).map ρ = #[entV B em] := by simp [hm]
  rw [harr]
  unfold clrMK at hp
  split at hp
  · exact ⟨w, h, by simp [builtin, Builtin.clear_, h0, run_underlying' ht, entV], hp, hw⟩
  · split at hp
    · rename_i r es clock hb
      obtain ⟨w', hset, hx'⟩ := setObj_run (P := P) (o' := .map #[] clock) (hw.rep.vis _ _ hb) rfl
      refine ⟨w', _, ?_, hp, hw.set hb hx'⟩
      simp only [builtin, Builtin.clear_, h0, List.getElem?_toArray, List.getElem?_cons_zero, Sem.run_bind, run_underlying' ht, Result.andThen_ok, entV, run_getObj_map (hw.rep.vis _ _ hb), hset, Sem.run_pure]
    · cases hp
  · cases hp

theorem cpy_sound {o : Oper} {t e : TypeId} {d x : Operand} {args : Array Operand} {ts : Array TypeId} {ed ex : Ent} {K : Ent → Hp → Prop} (hw : Wd B β h f w)
    (ho : o.op = .call { callee := .builtin .copy, args := args, argTypes := ts }) (ha : args.toList = [d, x]) (h0 : ts[0]? = some t) (ht : P.underlying t = some (.slice e)) (hi : (P.info? e).isSome = true)
    (hd : ρ d = entV B ed) (hx : ρ x = entV B ex) (hp : cpyK (P.cellsOf e) h ed ex K) :
    ∃ w' v h', (execOp ρ o).run P w = .ok (.value (entV B v)) w' ∧ K v h' ∧ Wd B β h' f w' := by
  have hargs : args = #[d, x] := by rw [← Array.toArray_toList (xs := args), ha]
  subst hargs
  rw [run_builtin ho]
  have harr : (#[d, x] : Array Operand).map ρ = #[entV B ed, entV B ex] := by simp [hd, hx]
  rw [harr]
  unfold cpyK at hp
  split at hp
  · rename_i base dl dc m hm
    split at hp
    · cases hp
    · rename_i new hnew
      obtain ⟨hlen, hone, hp⟩ := hp
      have hmin : Nat.min m dl = min m dl := rfl
      split at hp
      · refine ⟨w, .v (.int .i64 (min m dl : Nat)), h, ?_, hp, hw⟩
        simp only [builtin, Builtin.copy_, h0, List.getElem?_toArray, List.getElem?_cons_zero, List.getElem?_cons_succ, Sem.run_bind, run_underlying' ht, Result.andThen_ok, entV_v, elen_run hm, hmin, run_sizeOf_c hi, src_run hw.rep hnew, Sem.run_pure, goInt]
      · rename_i b o'
        split at hp
        · rename_i c ty fz hb
          obtain ⟨hsz, hfz, hK⟩ := hp
          obtain ⟨w', hst, hw'⟩ := run_storeCells (P := P) (o := o') (z := fz) (ty := ty) new 0 c w (hw.rep.vis _ _ hb) (by rw [hlen]; omega) (by rw [hlen]; omega) hone
          refine ⟨w', .v (.int .i64 (min m dl : Nat)), _, ?_, hK, hw.set hb (by simpa using hw')⟩
          simp only [builtin, Builtin.copy_, h0, List.getElem?_toArray, List.getElem?_cons_zero, List.getElem?_cons_succ, Sem.run_bind, run_underlying' ht, Result.andThen_ok, entV_v, elen_run hm, hmin, run_sizeOf_c hi, src_run hw.rep hnew, hst, Sem.run_pure, goInt]
        · cases hp
      · cases hp
  · cases hp

/-! ### Ranging over a map -/

theorem ptr_entV {e : Ent} {b : Nat} (h : e = .v (.pointer (some ⟨b, 0, none⟩))) : entV B e = .pointer (some ⟨b, 0, none⟩) := by subst h; rfl

theorem rng_sound {o : Oper} {t kt et : TypeId} {m : Operand} {em : Ent} {K : Ent → Hp → Prop} (hw : Wd B β h f w) (ho : o.op = .range t m) (ht : P.underlying t = some (.map kt et)) (hm : ρ m = entV B em) (hp : rngK h em K) :
    ∃ w' v h', (execOp ρ o).run P w = .ok (.value (entV B v)) w' ∧ K v h' ∧ Wd B β h' f w' := by
  unfold rngK at hp
  split at hp
  · obtain ⟨hk, hwd⟩ := fresh_push hw hp (w' := { w with heap := w.heap.push (.mapIter none 0 #[] 0) }) rfl
    refine ⟨_, .v (.pointer (some ⟨w.heap.size, 0, none⟩)), _, ?_, hk, hwd⟩
    simp only [execOp, ho, hm, entV, Instr.range, Sem.run_bind, run_underlying' ht, Result.andThen_ok, Sem.run_pure, run_newObj]
  · rename_i r
    split at hp
    · rename_i es clock hb
      obtain ⟨hk, hwd⟩ := fresh_push hw hp (w' := { w with heap := w.heap.push (.mapIter (some r) clock #[] clock) }) rfl
      refine ⟨_, .v (.pointer (some ⟨w.heap.size, 0, none⟩)), _, ?_, hk, hwd⟩
      simp only [execOp, ho, hm, entV, Instr.range, Sem.run_bind, run_underlying' ht, Result.andThen_ok, run_getObj_map (hw.rep.vis _ _ hb), Sem.run_pure, run_newObj]
    · cases hp
  · cases hp

theorem getObj_iter {r : Nat} {m : Option Nat} {since last : Nat} {seen : Array Nat} (hb : w.heap[r]? = some (.mapIter m since seen last)) : (getObj r).run P w = .ok (.mapIter m since seen last) w := by
  simp [getObj, Sem.run, hb]

theorem setObj_iter {r : Nat} {m : Option Nat} {since last : Nat} {seen : Array Nat} {o' : Obj} (hb : w.heap[r]? = some (.mapIter m since seen last)) :
    ∃ w', (setObj r o').run P w = .ok () w' ∧ Upd w w' r o' := by
  refine ⟨{ w with heap := w.heap.setIfInBounds r o' }, by simp [setObj, Sem.run, hb], fun x => ?_, ⟨rfl, rfl, rfl⟩⟩
  have hlt : r < w.heap.size := by
    rcases Nat.lt_or_ge r w.heap.size with h | h
    · exact h
    · rw [Array.getElem?_eq_none h] at hb; cases hb
  rw [Array.getElem?_setIfInBounds]
  split
  · rename_i e; subst e; simp [hlt]
  · rename_i e; rw [if_neg (fun h => e h.symm)]

theorem nxt_sound {o : Oper} {it : Operand} {ei : Ent} {K : Ent → Hp → Prop} (hw : Wd B β h f w) (ho : o.op = .next it false) (hi : ρ it = entV B ei) (hp : nxtK h ei K) :
    ∃ w' v h', (execOp ρ o).run P w = .ok (.value (entV B v)) w' ∧ K v h' ∧ Wd B β h' f w' := by
  unfold nxtK at hp
  split at hp
  · rename_i r
    split at hp
    · rename_i hb
      refine ⟨w, _, h, ?_, hp, hw⟩
      simp only [execOp, ho, hi, entV, Instr.next, Sem.run_bind, getObj_iter (hw.rep.vis _ _ hb), Result.andThen_ok, Sem.run_pure]
    · rename_i m since seen last hb
      split at hp
      · rename_i es clock hbm
        obtain ⟨hno, hsome, hnone⟩ := hp
        obtain ⟨cands, hcd⟩ : ∃ x : Array (Option MapEntry), x = (if ((es.filter fun e => !seen.contains e.born).filter (·.born < since)).isEmpty then #[none] else #[]) ++ (((es.filter fun e => !seen.contains e.born).filter (·.born < since)) ++ ((es.filter fun e => !seen.contains e.born).filter (·.born ≥ since))).map some := ⟨_, rfl⟩
        obtain ⟨c, w1, hch, hw1⟩ : ∃ c w1, (choose (.mapNext cands.size)).run P w = .ok c w1 ∧ w1.heap = w.heap ∧ Still w w1 ∧ c < cands.size := by
          have hpos : 0 < cands.size := by
            rw [hcd]
            split
            · simp; omega
            · rename_i hne
              simp only [Array.isEmpty_iff_size_eq_zero] at hne
              simp only [Array.size_append, Array.size_map]
              omega
          rw [run_choose]
          split
          · exact ⟨0, w, rfl, rfl, ⟨rfl, rfl, rfl⟩, hpos⟩
          · exact ⟨_, _, rfl, rfl, ⟨rfl, rfl, rfl⟩, Nat.mod_lt _ hpos⟩
        obtain ⟨hheap, hstill, hlt⟩ := hw1
        have hwd1 : Wd B β h f w1 := hw.heap hheap hstill
        have hget : cands[c]? = some cands[c] := Array.getElem?_eq_getElem hlt
        have hmem : cands[c] ∈ cands := Array.getElem_mem hlt
        cases hcc : cands[c] with
        | none =>
          have hold : ((es.filter fun e => !seen.contains e.born).filter (·.born < since)).isEmpty = true := by
            rw [hcc, hcd] at hmem
            simp only [Array.mem_append] at hmem
            rcases hmem with hmem | hmem
            · split at hmem
              · assumption
              · simp at hmem
            · simp at hmem
          refine ⟨w1, .v (.tuple #[.bool false]), h, ?_, hnone ?_, hwd1⟩
          · simp only [execOp, ho, hi, entV, Instr.next, Sem.run_bind, getObj_iter (hw.rep.vis _ _ hb), run_getObj_map (hw.rep.vis _ _ hbm), Result.andThen_ok]
            rw [if_neg (by rw [hno]; simp)]
            rw [← hcd, Sem.run_bind, hch]
            simp only [Result.andThen_ok, hget, hcc, Sem.run_pure]
          · intro e he hse
            have : e ∉ ((es.filter fun e => !seen.contains e.born).filter (·.born < since)) := by
              intro hm
              rw [Array.isEmpty_iff] at hold
              rw [hold] at hm
              simp at hm
            simp only [Array.mem_filter, Bool.not_eq_true', decide_eq_true_eq, not_and, Nat.not_lt] at this
            exact this ⟨by simpa using he, hse⟩
        | some e =>
          have hin : e ∈ es ∧ seen.contains e.born = false := by
            rw [hcc, hcd] at hmem
            simp only [Array.mem_append] at hmem
            rcases hmem with hmem | hmem
            · split at hmem <;> simp at hmem
            · simp only [Array.mem_map, Option.some.injEq, Array.mem_append] at hmem
              obtain ⟨e', he', rfl⟩ := hmem
              simp only [Array.mem_filter, Bool.not_eq_true', decide_eq_true_eq] at he'
              rcases he' with he' | he' <;> exact he'.1
          obtain ⟨w', hset, hx'⟩ := setObj_iter (P := P) (w := w1) (o' := .mapIter (some m) since (seen.push e.born) clock) (hwd1.rep.vis _ _ hb)
          refine ⟨w', .v (.tuple #[.bool true, e.key, e.val]), _, ?_, hsome e (by simpa using hin.1) hin.2, hwd1.set hb hx'⟩
          simp only [execOp, ho, hi, entV, Instr.next, Sem.run_bind, getObj_iter (hw.rep.vis _ _ hb), run_getObj_map (hw.rep.vis _ _ hbm), Result.andThen_ok]
          rw [if_neg (by rw [hno]; simp)]
          rw [← hcd, Sem.run_bind, hch]
          simp only [Result.andThen_ok, hget, hcc, Sem.run_bind, hset, Sem.run_pure]
      · cases hp
    · cases hp
  · cases hp

theorem ent_run {o : Oper} {it : Operand} {ei e : Ent} (hw : Wd B β h f w) (ho : o.op = .entry it) (hi : ρ it = entV B ei) (hp : pEnt h ei = some e) : (execOp ρ o).run P w = .ok (.value (entV B e)) w := by
  unfold pEnt at hp
  split at hp
  · rename_i r
    split at hp
    · rename_i m since seen stepped hb
      split at hp
      · rename_i stamp es clock hs hbm
        split at hp
        · rename_i hcl
          split at hp
          · rename_i x hx
            cases hp
            simp only [execOp, ho, hi, entV, Instr.entry, Sem.run_bind, getObj_iter (hw.rep.vis _ _ hb), run_getObj_map (hw.rep.vis _ _ hbm), Result.andThen_ok, hs, hcl, bne_self_eq_false, Bool.false_eq_true, if_false, hx, Sem.run_pure]
          · cases hp
        · cases hp
      · cases hp
    · cases hp
  · cases hp

/-! ### Every deed -/

/-- What is known of the reader of operands. -/
def Fixed (ρ : Operand → Value) : Prop := ∀ k, ρ (.func k) = .func (.func k) #[] #[]

theorem maps1 {args : Array Operand} {m : Operand} (ha : args.toList = [m]) {es : List Ent} (hes : args.toList.map ρ = es.map (entV B)) : ∃ e, es = [e] ∧ ρ m = entV B e := by
  rw [ha] at hes; exact map1 hes

theorem ef_sound {o : Oper} {prom : List Nat} {ef : Ef} {xs : List Operand} {es : List Ent} {K : Ent → Hp → Bx → Prop} (hw : Wd B β h f w) (hρ : Fixed ρ) (hc : cef P prom o = some (ef, xs))
    (hes : xs.map ρ = es.map (entV B)) (hp : efK P h β K ef es) : stepW P o ρ w (fun v w' => ∃ e h' β', v = entV B e ∧ K e h' β' ∧ Wd B β' h' f w') := by
  unfold stepW
  unfold cef at hc
  split at hc
  · rename_i p xs' hpr
    cases hc
    simp only [efK] at hp
    obtain ⟨e, he, hp⟩ := optK_spec hp
    rw [run_pr hw.rep hw.boxes hpr hes he]
    exact ⟨e, h, β, rfl, hp, hw⟩
  · split at hc
    · -- store
      rename_i t a v ho
      split at hc
      · cases hc
      · rename_i hi
        cases hc
        obtain ⟨e1, e2, rfl, h1, h2⟩ := map2 hes
        simp only [efK] at hp
        obtain ⟨⟨h', β'⟩, hst, hp⟩ := optK_spec hp
        obtain ⟨w', hr, hwd⟩ := st_sound hw ho (by cases hq : P.info? t <;> simp [hq] at hi ⊢) h1 h2 hst
        rw [hr]
        exact ⟨undefE, h', β', rfl, hp, hwd⟩
    · -- alloc
      rename_i t ho
      split at hc
      · rename_i z hz
        split at hc
        · cases hc
        · split at hc
          · cases hc; cases es <;> simp [efK] at hp
          · cases hc
            cases es with
            | cons a b => simp at hes
            | nil =>
              simp only [efK] at hp
              obtain ⟨v, hv, hvc⟩ := zero_run (P := P) (w := w) hz
              have hrun : (execOp ρ o).run P w = .ok (.value (.pointer (some ⟨w.heap.size, 0, none⟩))) { w with heap := w.heap.push (.cells z.toArray t (0, 0)) } := by
                simp only [execOp, ho, Instr.alloc, Sem.run_bind, hv, Result.andThen_ok, newVar, newRow, hvc, run_newObj, Sem.run_pure]
              rw [hrun]
              obtain ⟨hk, hwd⟩ := fresh_push hw hp (w' := { w with heap := w.heap.push (.cells z.toArray t (0, 0)) }) rfl
              exact ⟨_, _, β, rfl, hk, hwd⟩
      · cases hc
    · -- box
      rename_i t v ho
      split at hc
      · cases hc; cases es <;> simp [efK] at hp
      · cases hc
        obtain ⟨e1, rfl, h1⟩ := map1 hes
        cases e1 with
        | l r q => simp [efK] at hp
        | v x =>
          simp only [efK] at hp
          have hrun : (execOp ρ o).run P w = .ok (.value (.pointer (some ⟨w.heap.size, 0, none⟩))) { w with heap := w.heap.push (.cells x.cells t (0, 0)) } := by
            simp only [execOp, ho, Instr.box, Sem.run_bind, Result.andThen_ok, newVar, newRow, h1, entV, run_newObj, Sem.run_pure]
          rw [hrun]
          obtain ⟨hk, hwd⟩ := fresh_push hw hp (w' := { w with heap := w.heap.push (.cells x.cells t (0, 0)) }) rfl
          exact ⟨_, _, β, rfl, hk, hwd⟩
    · -- makeSlice
      rename_i t l c ho
      split at hc
      · rename_i e ht
        split at hc
        · rename_i i z hi hz
          split at hc
          · rename_i hcond
            simp only [Bool.and_eq_true, decide_eq_true_eq, bne_iff_ne, ne_eq] at hcond
            cases hc
            obtain ⟨e1, e2, rfl, h1, h2⟩ := map2 hes
            simp only [efK, mksK] at hp
            split at hp
            · rename_i kl nl kc nc
              obtain ⟨g1, g2, g3, g4, hf⟩ := hp
              rw [mks_sound ho ht hi hz hcond.1 hcond.2 h1 h2 g1 g2 g3 g4]
              obtain ⟨hk, hwd⟩ := fresh_push hw hf (w' := { w with heap := w.heap.push (.cells (reps nc.toNat z).toArray e (0, 0)) }) rfl
              exact ⟨_, _, β, rfl, hk, hwd⟩
            · cases hp
          · cases hc
        · cases hc
      · cases hc
    · -- buildSlice
      rename_i t len parts ho
      split at hc
      · rename_i e ht
        split at hc
        · rename_i i z hi hz
          split at hc
          · rename_i hcond
            simp only [Bool.and_eq_true, decide_eq_true_eq, bne_iff_ne, ne_eq] at hcond
            cases hc
            simp only [efK] at hp
            obtain ⟨cs, hcs, hp⟩ := optK_spec hp
            rw [bsl_sound ho ht hi hz hcond.1.1 hcond.1.2 hcond.2 hes hcs]
            obtain ⟨hk, hwd⟩ := fresh_push hw hp (w' := { w with heap := w.heap.push (.cells cs.toArray e (0, 0)) }) rfl
            exact ⟨_, _, β, rfl, hk, hwd⟩
          · cases hc
        · cases hc
      · cases hc
    · -- makeMap
      rename_i t ho
      cases hc
      cases es with
      | cons a b => simp at hes
      | nil =>
        simp only [efK] at hp
        have hrun : (execOp ρ o).run P w = .ok (.value (.map (some w.heap.size))) { w with heap := w.heap.push (.map #[] 0) } := by
          simp only [execOp, ho, Instr.makeMap, Option.map_none, Sem.run_bind, Sem.run_pure, Result.andThen_ok, run_newObj]
        rw [hrun]
        obtain ⟨hk, hwd⟩ := fresh_push hw hp (w' := { w with heap := w.heap.push (.map #[] 0) }) rfl
        exact ⟨_, _, β, rfl, hk, hwd⟩
    · -- makeMap with a hint
      rename_i t r ho
      split at hc
      · rename_i kt et ht
        cases hc
        obtain ⟨e1, rfl, h1⟩ := map1 hes
        cases e1 with
        | l r q => simp [efK] at hp
        | v x => cases x with
          | int kk nn =>
            simp only [efK] at hp
            have hrun : (execOp ρ o).run P w = .ok (.value (.map (some w.heap.size))) { w with heap := w.heap.push (.map #[] 0) } := by
              simp only [execOp, ho, Instr.makeMap, Option.map_some, Sem.run_bind, Sem.run_pure, Result.andThen_ok, run_newObj, run_underlying' ht, h1, entV, asInt, asIntOf]
            rw [hrun]
            obtain ⟨hk, hwd⟩ := fresh_push hw hp (w' := { w with heap := w.heap.push (.map #[] 0) }) rfl
            exact ⟨_, _, β, rfl, hk, hwd⟩
          | _ => simp [efK] at hp
      · cases hc
    · -- range
      rename_i t m ho
      split at hc
      · rename_i kt et ht
        cases hc
        obtain ⟨e1, rfl, h1⟩ := map1 hes
        simp only [efK] at hp
        obtain ⟨w', v, h', hr, hk, hwd⟩ := rng_sound (K := fun e h' => K e h' β) hw ho ht h1 hp
        rw [hr]; exact ⟨v, h', β, rfl, hk, hwd⟩
      · cases hc
    · -- next
      rename_i it ho
      cases hc
      obtain ⟨e1, rfl, h1⟩ := map1 hes
      simp only [efK] at hp
      obtain ⟨w', v, h', hr, hk, hwd⟩ := nxt_sound (K := fun e h' => K e h' β) hw ho h1 hp
      rw [hr]; exact ⟨v, h', β, rfl, hk, hwd⟩
    · -- entry
      rename_i it ho
      cases hc
      obtain ⟨e1, rfl, h1⟩ := map1 hes
      simp only [efK] at hp
      obtain ⟨e, he, hp⟩ := optK_spec hp
      rw [ent_run hw ho h1 he]
      exact ⟨e, h, β, rfl, hp, hw⟩
    · -- mapUpdate
      rename_i t m k v ho
      split at hc
      · rename_i kt et ht
        split at hc
        · rename_i q hq
          cases hc
          obtain ⟨e1, e2, e3, rfl, h1, h2, h3⟩ := map3 hes
          simp only [efK] at hp
          obtain ⟨w', h', hr, hk, hwd⟩ := mup_sound (K := fun e h' => K e h' β) hw (.inl ho) ht hq h1 h2 h3 hp
          rw [hr]; exact ⟨_, _, β, rfl, hk, hwd⟩
        · cases hc
      · cases hc
    · -- insert
      rename_i t m k v ho
      split at hc
      · rename_i kt et ht
        split at hc
        · rename_i q hq
          cases hc
          obtain ⟨e1, e2, e3, rfl, h1, h2, h3⟩ := map3 hes
          simp only [efK] at hp
          obtain ⟨w', h', hr, hk, hwd⟩ := mup_sound (K := fun e h' => K e h' β) hw (.inr ho) ht hq h1 h2 h3 hp
          rw [hr]; exact ⟨_, _, β, rfl, hk, hwd⟩
        · cases hc
      · cases hc
    · -- call
      rename_i k args ts ho
      split at hc
      · rename_i hcall
        cases hc
        simp only [efK] at hp
        obtain ⟨vs, hvs, hp⟩ := optK_spec hp
        rw [call_run ho (hρ k) hcall]
        have hargs : (#[] ++ args.map ρ ++ #[] : Array Value) = vs.toArray := by
          apply Array.ext'
          rw [vals_entV hvs] at hes
          simp [← hes]
        rw [hargs]
        exact (hp.run w _ hw.frame).mono fun e w' ⟨v, h', he, hk, hr⟩ => ⟨v, he, .v v, h', β, rfl, hk, hw.back hr⟩
      · cases hc
    · -- callv
      rename_i t args ts ho
      cases hc
      cases es with
      | nil => simp at hes
      | cons g es =>
        simp only [List.map_cons, List.cons.injEq] at hes
        simp only [efK, callvK] at hp
        split at hp
        · rename_i k first cap vs hvs
          obtain ⟨hcall, hok⟩ := hp
          rw [call_run ho hes.1 hcall]
          have hargs : (first ++ args.map ρ ++ cap : Array Value) = (first.toList ++ vs ++ cap.toList).toArray := by
            apply Array.ext'
            rw [vals_entV hvs] at hes
            simp [← hes.2]
          rw [hargs]
          refine (hok.run w _ hw.frame).mono fun e w' ⟨v, h', he, hk, hr⟩ => ⟨v, he, .v v, h', β, rfl, hk, hw.back hr⟩
        · rename_i l first cap vs hvs
          obtain ⟨f', tmps, assign, body, w', hy, hround⟩ := hp.run w _ hw.frame
          have hargs : (first ++ args.map ρ : Array Value) = (first.toList ++ vs).toArray := by
            apply Array.ext'
            rw [vals_entV hvs] at hes
            simp [← hes.2]
          rw [call_run_y ho hes.1 (by rw [hargs]; exact hy)]
          exact hround.mono fun e w' ⟨v, h', he, hk, hr⟩ => ⟨v, he, .v v, h', β, rfl, hk, hw.back hr⟩
        · cases hp
    · -- append
      rename_i args ts ho
      split at hc
      · rename_i s x t u ha hts
        split at hc
        · rename_i e e2 ht hu
          split at hc
          · rename_i i z hi hz
            split at hc
            · rename_i hcond
              simp only [Bool.and_eq_true, decide_eq_true_eq, bne_iff_ne, ne_eq] at hcond
              cases hc
              obtain ⟨e1, e2', rfl, h1, h2⟩ := map2 hes
              simp only [efK] at hp
              obtain ⟨w', v, h', hr, hk, hwd⟩ := app_sound (K := fun e h' => K e h' β) hw ho ha hts ht hu hi hz hcond.1.1 hcond.1.2 hcond.2 h1 h2 hp
              rw [hr]; exact ⟨v, _, β, rfl, hk, hwd⟩
            · cases hc
          · cases hc
        · cases hc
      · cases hc
    · -- delete
      rename_i args ts ho
      split at hc
      · rename_i m k t ha h0
        split at hc
        · rename_i kt et ht
          split at hc
          · rename_i q hq
            cases hc
            obtain ⟨e1, e2, rfl, h1, h2⟩ := map2 hes
            simp only [efK] at hp
            obtain ⟨w', h', hr, hk, hwd⟩ := mdel_sound (K := fun e h' => K e h' β) hw ho ha h0 ht hq h1 h2 hp
            rw [hr]; exact ⟨_, _, β, rfl, hk, hwd⟩
          · cases hc
        · cases hc
      · cases hc
    · -- clear
      rename_i args ts ho
      split at hc
      · rename_i m t ha h0
        split at hc
        · rename_i kt et ht
          cases hc
          obtain ⟨e1, rfl, h1⟩ := map1 hes
          simp only [efK] at hp
          obtain ⟨w', h', hr, hk, hwd⟩ := clrM_sound (K := fun e h' => K e h' β) hw ho ha h0 ht h1 hp
          rw [hr]; exact ⟨_, _, β, rfl, hk, hwd⟩
        · rename_i e ht
          split at hc
          · rename_i i z hi hz
            split at hc
            · rename_i hcond
              simp only [Bool.and_eq_true, decide_eq_true_eq, bne_iff_ne, ne_eq] at hcond
              cases hc
              obtain ⟨e1, rfl, h1⟩ := map1 hes
              simp only [efK] at hp
              obtain ⟨w', h', hr, hk, hwd⟩ := clrS_sound (K := fun e h' => K e h' β) hw ho ha h0 ht hi hz hcond.1 hcond.2 h1 hp
              rw [hr]; exact ⟨_, _, β, rfl, hk, hwd⟩
            · cases hc
          · cases hc
        · cases hc
      · cases hc
    · -- copy
      rename_i args ts ho
      split at hc
      · rename_i d s t ha h0
        split at hc
        · rename_i e ht
          split at hc
          · cases hc
          · rename_i hi
            cases hc
            obtain ⟨e1, e2, rfl, h1, h2⟩ := map2 hes
            simp only [efK] at hp
            obtain ⟨w', v, h', hr, hk, hwd⟩ := cpy_sound (K := fun e h' => K e h' β) hw ho ha h0 ht (by cases hq : P.info? e <;> simp [hq] at hi ⊢) h1 h2 hp
            rw [hr]; exact ⟨v, _, β, rfl, hk, hwd⟩
        · cases hc
      · cases hc
    · cases hc

end

end Go.Proofs.YthpkgkoojhgedaaDoor.V

/- Frames; a region's operations, in a fixed order and in every order. -/
namespace Go.Proofs.YthpkgkoojhgedaaDoor.V
set_option linter.unusedSectionVars false
set_option linter.unusedVariables false
set_option linter.unusedSimpArgs false
open Go

/-- The frame's part of what is known. -/
structure Fr (n : Nat) (ds : List Deferred) (B : Nat → Nat) (ρ : Env) (a : Act) : Prop where
  size : a.tmps.size = n
  dfs : a.defers = ds
  env : ∀ t e, look ρ t = some e → a.tmps[t]? = some (entV B e)

def dstOk (n : Nat) : Option Nat → Bool
  | some d => decide (d < n)
  | none => true

/-- One operation with its guard and its temporary. -/
def cI (P : Program) (n : Nat) (prom : List Nat) (ops : Array Oper) (o : Oper) : Option I :=
  if dstOk n o.dst then
    match cef P prom o with
    | none => none
    | some (ef, xs) => match o.guard with
      | none => some ⟨none, o.dst, ef, xs.map cx⟩
      | some (j, want) => match (ops[j]?).bind (·.dst) with
        | some t => some ⟨some (t, want), o.dst, ef, xs.map cx⟩
        | none => none
  else none

section
variable {P : Program} {w : World} {h : Hp} {f : Fm} {B : Nat → Nat} {β : Bx} {ρ : Env} {n : Nat} {ds : List Deferred} {a : Act}

theorem Fr.ox (s : Fr n ds B ρ a) {x : Operand} {e : Ent} (hx : V.ox ρ (cx x) = some e) : a.eval x = entV B e := by
  cases x with
  | tmp t => have := s.env t e hx; simp [Act.eval, this]
  | const v => simp only [cx, V.ox, Option.some.injEq] at hx; subst hx; rfl
  | global g => simp only [cx, V.ox, Option.some.injEq] at hx; subst hx; rfl
  | func g => simp only [cx, V.ox, Option.some.injEq] at hx; subst hx; rfl

theorem Fr.oxs (s : Fr n ds B ρ a) : ∀ {xs : List Operand} {es : List Ent}, V.oxs ρ (xs.map cx) = some es → xs.map a.eval = es.map (entV B)
  | [], es, hx => by simp only [List.map_nil, V.oxs, Option.some.injEq] at hx; subst hx; rfl
  | x :: xs, es, hx => by
    simp only [List.map_cons, V.oxs] at hx
    cases h1 : V.ox ρ (cx x) with
    | none => simp [h1] at hx
    | some e =>
      cases h2 : V.oxs ρ (xs.map cx) with
      | none => simp [h1, h2] at hx
      | some es' =>
        simp [h1, h2] at hx
        subst hx
        simp [s.ox h1, s.oxs h2]

theorem Fr.put (s : Fr n ds B ρ a) {d : Option Nat} {e : Ent} (hd : dstOk n d = true) : Fr n ds B (putE d e ρ) (a.put d (entV B e)) := by
  cases d with
  | none => exact s
  | some d =>
    have hd : d < n := by simpa [dstOk] using hd
    refine ⟨by simp [Act.put, s.size], s.dfs, fun t e' ht => ?_⟩
    simp only [putE, look] at ht
    simp only [Act.put]
    rw [Array.getElem?_setIfInBounds]
    split at ht
    · rename_i h; subst h; cases ht; simp [s.size, hd]
    · rename_i h; rw [if_neg h]; exact s.env t e' ht

theorem Fr.undef (s : Fr n ds B ρ a) {d : Option Nat} (hd : dstOk n d = true) : Fr n ds B (putE d undefE ρ) (a.put d undef) := s.put hd

theorem noLoc_spec {d : Nat} : ∀ {ρ : Env}, noLoc d ρ = true → ∀ t r o, look ρ t = some (.l r o) → r ≠ d
  | [], _, t, r, o, h => by cases h
  | (k, .l r' o') :: ρ, hn, t, r, o, h => by
    simp only [noLoc] at hn
    split at hn
    · cases hn
    · rename_i hne
      simp only [look] at h
      split at h
      · cases h; exact hne
      · exact noLoc_spec hn t r o h
  | (k, .v x) :: ρ, hn, t, r, o, h => by
    simp only [noLoc] at hn
    simp only [look] at h
    split at h
    · cases h
    · exact noLoc_spec hn t r o h

/-- A new box, out of sight. -/
theorem newbox (s : Fr n ds B ρ a) (hw : Wd B β h f w) {d : Nat} {cs : List Value} {ty : TypeId} (hd : d < n) (hn : noLoc d ρ = true) {w' : World} (he : w'.heap = w.heap.push (.cells cs.toArray ty (0, 0))) (hs : Still w w' := by exact ⟨rfl, rfl, rfl⟩) :
    ∃ B', Fr n ds B' ((d, .l d 0) :: ρ) (a.put (some d) (.pointer (some ⟨w.heap.size, 0, none⟩))) ∧ Wd B' ((d, cs) :: β) h f w' ∧ (∀ r, r ≠ d → B' r = B r) := by
  refine ⟨fun r => if r = d then w.heap.size else B r, ?_, ?_, fun r hr => by simp [hr]⟩
  · refine ⟨by simp [Act.put, s.size], s.dfs, fun t e' ht => ?_⟩
    simp only [look] at ht
    simp only [Act.put]
    rw [Array.getElem?_setIfInBounds]
    split at ht
    · rename_i h; subst h; cases ht; simp [s.size, hd, entV]
    · rename_i h
      rw [if_neg h]
      rw [s.env t e' ht]
      cases e' with
      | v x => rfl
      | l r o => simp [entV, noLoc_spec hn t r o ht]
  · have hlt : ∀ r es, lookB β r = some es → B r ≠ w.heap.size := fun r es hl e => by
      obtain ⟨ty, h1, _⟩ := hw.box r es hl
      rw [e] at h1; simp at h1
    refine ⟨fun r es hl => ?_, fun r u es es' hr hu hB => ?_, ?_⟩
    · simp only [lookB] at hl
      split at hl
      · rename_i e; subst e; cases hl
        exact ⟨ty, by simp [he], by simp [hw.rep.fresh_vis], by simp [hw.rep.fresh_hid]⟩
      · rename_i e
        have e' : r ≠ d := fun h => e h.symm
        obtain ⟨ty', g1, g2, g3⟩ := hw.box r es hl
        refine ⟨ty', ?_, by simpa [e'] using g2, by simpa [e'] using g3⟩
        simp only [e', if_false]
        rw [he, push_get, if_neg (hlt r es hl)]; exact g1
    · simp only [lookB] at hr hu
      split at hr <;> split at hu
      · rename_i e1 e2; rw [← e1, ← e2]
      · rename_i e1 e2
        subst e1
        rw [if_pos rfl, if_neg (fun h => e2 h.symm)] at hB
        exact absurd hB.symm (hlt u es' hu)
      · rename_i e1 e2
        subst e2
        rw [if_neg (fun h => e1 h.symm), if_pos rfl] at hB
        exact absurd hB (hlt r es hr)
      · rename_i e1 e2
        simp only [show ¬ r = d from fun h => e1 h.symm, show ¬ u = d from fun h => e2 h.symm, if_false] at hB
        exact hw.inj r u es es' hr hu hB
    · refine ⟨fun c p hc => ?_, fun c p hc => ?_, hw.rep.dis, hw.rep.kp.trans hs⟩
      · rw [he, push_get, if_neg (fun e => by subst e; rw [hw.rep.fresh_vis] at hc; cases hc)]; exact hw.rep.vis c p hc
      · rw [he, push_get, if_neg (fun e => by subst e; rw [hw.rep.fresh_hid] at hc; cases hc)]; exact hw.rep.hid c p hc

theorem act_fixed (a : Act) : Fixed a.eval := fun _ => rfl

theorem noDefer_cef {o : Oper} {prom : List Nat} {r : Ef × List Operand} (hc : cef P prom o = some r) : noDefer o = true := by
  unfold noDefer
  cases ho : o.op <;> try rfl
  · simp [cef, cpr, ho] at hc
  · simp [cef, cpr, ho] at hc

theorem guard_eq {ops : Array Oper} {o : Oper} {j : Nat} {want : Bool} {t : Nat} {b : Bool} (s : Fr n ds B ρ a) (hg : o.guard = some (j, want)) (ht : (ops[j]?).bind (·.dst) = some t) (hl : look ρ t = some (.v (.bool b))) :
    Region.wanted o (yielded ops a.tmps) = (b == want) := by
  have h1 := s.env t _ hl
  simp only [Region.wanted, hg, yielded, ht, Option.bind_some, h1, entV]
  cases b <;> cases want <;> rfl

theorem guard_off {ops : Array Oper} {o : Oper} {j : Nat} {want : Bool} {t : Nat} {vs : Array Value} (s : Fr n ds B ρ a) (hg : o.guard = some (j, want)) (ht : (ops[j]?).bind (·.dst) = some t) (hl : look ρ t = some (.v (.tuple vs))) :
    Region.wanted o (yielded ops a.tmps) = false := by
  have h1 := s.env t _ hl
  simp only [Region.wanted, hg, yielded, ht, Option.bind_some, h1, entV]
  cases want <;> rfl

/-- A guard looked at. -/
theorem guard_gn {ops : Array Oper} {o : Oper} {j : Nat} {want : Bool} {t : Nat} {b : Bool} (s : Fr n ds B ρ a) (hg : o.guard = some (j, want)) (ht : (ops[j]?).bind (·.dst) = some t) (hl : gn (!want) (look ρ t) = some (.v (.bool b))) :
    Region.wanted o (yielded ops a.tmps) = (b == want) := by
  rcases gn_spec hl with h | ⟨⟨vs, h⟩, e⟩
  · exact guard_eq s hg ht h
  · rw [guard_off s hg ht h, e]; cases want <;> rfl

/-- What is known behind an operation. -/
def After (n : Nat) (ds : List Deferred) (f : Fm) (K : Env → Bx → Hp → Prop) (a : Act) (w : World) : Prop :=
  ∃ B ρ β h, Fr n ds B ρ a ∧ Wd B β h f w ∧ K ρ β h

def newAt (i : I) (r : Nat) : Prop := match i.o, i.d with
  | .al _, some d => r = d
  | .bx, some d => r = d
  | _, _ => False

/-- The same, and which boxes are where they were. -/
def AfterB (n : Nat) (ds : List Deferred) (f : Fm) (B : Nat → Nat) (i : I) (K : Env → Bx → Hp → Prop) (a : Act) (w : World) : Prop :=
  ∃ B' ρ β h, Fr n ds B' ρ a ∧ Wd B' β h f w ∧ K ρ β h ∧ ∀ r, ¬ newAt i r → B' r = B r

theorem AfterB.after {i : I} {K : Env → Bx → Hp → Prop} (h : AfterB n ds f B i K a w) : After n ds f K a w :=
  let ⟨B', ρ, β, h, h1, h2, h3, _⟩ := h; ⟨B', ρ, β, h, h1, h2, h3⟩

theorem doI_sound {o : Oper} {prom : List Nat} {ef : Ef} {xs : List Operand} {g : Option (Nat × Bool)} {K : Env → Bx → Hp → Prop} (s : Fr n ds B ρ a) (hw : Wd B β h f w)
    (hc : cef P prom o = some (ef, xs)) (hd : dstOk n o.dst = true) (hk : doI P ⟨g, o.dst, ef, xs.map cx⟩ ρ β h K) :
    stepW P o a.eval w (fun v w' => AfterB n ds f B ⟨g, o.dst, ef, xs.map cx⟩ K (a.put o.dst v) w') := by
  unfold doI at hk
  simp only at hk
  · replace hk := optK_spec hk
    obtain ⟨es, hes, hk⟩ := hk
    have hmap := s.oxs hes
    split at hk
    · -- a box for a new variable
      rename_i z d hdst
      obtain ⟨hn, hK⟩ := ifK_spec hk
      have hrun : ∃ t, (execOp a.eval o).run P w = .ok (.value (.pointer (some ⟨w.heap.size, 0, none⟩))) { w with heap := w.heap.push (.cells z.toArray t (0, 0)) } := by
        unfold cef at hc
        split at hc
        · cases hc
        · split at hc
          all_goals first
            | (rename_i t ho
               split at hc
               · rename_i z' hz
                 split at hc
                 · cases hc
                 · split at hc
                   · cases hc
                     obtain ⟨v, hv, hvc⟩ := zero_run (P := P) (w := w) hz
                     exact ⟨t, by simp only [execOp, ho, Instr.alloc, Sem.run_bind, hv, Result.andThen_ok, newVar, newRow, hvc, run_newObj, Sem.run_pure]⟩
                   · cases hc
               · cases hc)
            | (exfalso; (repeat' split at hc) <;> cases hc)
      obtain ⟨t, hrun⟩ := hrun
      unfold stepW
      rw [hrun]
      rw [hdst] at hd
      obtain ⟨B', hf', hw', hB⟩ := newbox s hw (by simpa [dstOk] using hd) hn (cs := z) (ty := t) (w' := { w with heap := w.heap.push (.cells z.toArray t (0, 0)) }) rfl
      exact ⟨B', _, _, h, by rw [hdst]; exact hf', hw', hK, fun r hr => hB r (fun e => hr (by simp only [newAt, hdst]; exact e))⟩
    · -- a box for a value
      rename_i d x hdst
      obtain ⟨hn, hK⟩ := ifK_spec hk
      have hrun : ∃ t, (execOp a.eval o).run P w = .ok (.value (.pointer (some ⟨w.heap.size, 0, none⟩))) { w with heap := w.heap.push (.cells x.cells.toList.toArray t (0, 0)) } := by
        unfold cef at hc
        split at hc
        · cases hc
        · split at hc
          all_goals first
            | (rename_i t v ho
               split at hc
               · cases hc
                 obtain ⟨e1, he1, h1⟩ := map1 hmap
                 simp only [List.cons.injEq, and_true] at he1
                 subst he1
                 exact ⟨t, by simp only [execOp, ho, Instr.box, Sem.run_bind, Result.andThen_ok, newVar, newRow, h1, entV, run_newObj, Sem.run_pure, Array.toArray_toList]⟩
               · cases hc)
            | (exfalso; (repeat' split at hc) <;> cases hc)
      obtain ⟨t, hrun⟩ := hrun
      unfold stepW
      rw [hrun]
      rw [hdst] at hd
      obtain ⟨B', hf', hw', hB⟩ := newbox s hw (by simpa [dstOk] using hd) hn (cs := x.cells.toList) (ty := t) (w' := { w with heap := w.heap.push (.cells x.cells.toList.toArray t (0, 0)) }) rfl
      exact ⟨B', _, _, h, by rw [hdst]; exact hf', hw', hK, fun r hr => hB r (fun e => hr (by simp only [newAt, hdst]; exact e))⟩
    · refine upW_mono ?_ (ef_sound hw (act_fixed a) hc hmap hk)
      rintro v w' ⟨e, h', β', rfl, hK, hw'⟩
      rw [putK_eq] at hK
      exact ⟨B, _, β', h', s.put hd, hw', hK, fun _ _ => rfl⟩

theorem stI_sound {ops : Array Oper} {o : Oper} {prom : List Nat} {i : I} {K : Env → Bx → Hp → Prop} (s : Fr n ds B ρ a) (hw : Wd B β h f w) (hc : cI P n prom ops o = some i) (hk : stI P i ρ β h K) :
    stepO P ops o a w (AfterB n ds f B i K) := by
  unfold cI at hc
  split at hc
  · rename_i hd
    split at hc
    · cases hc
    · rename_i ef xs hcef
      split at hc
      · rename_i hg
        cases hc
        simp only [stI] at hk
        unfold stepO
        rw [if_pos (by simp [Region.wanted, hg])]
        exact doI_sound s hw hcef hd hk
      · rename_i j want hg
        split at hc
        · rename_i t ht
          cases hc
          cases want <;> simp only [stI] at hk <;> rcases condK_spec hk with ⟨hl, hk⟩ | ⟨hl, hk⟩ <;> have hgu := guard_gn s hg ht hl <;> unfold stepO
          · rw [if_neg (by rw [hgu]; decide)]
            rw [putK_eq] at hk
            exact ⟨B, _, β, h, s.undef hd, hw, hk, fun _ _ => rfl⟩
          · rw [if_pos (by rw [hgu]; decide)]
            exact doI_sound s hw hcef hd hk
          · rw [if_pos (by rw [hgu]; decide)]
            exact doI_sound s hw hcef hd hk
          · rw [if_neg (by rw [hgu]; decide)]
            rw [putK_eq] at hk
            exact ⟨B, _, β, h, s.undef hd, hw, hk, fun _ _ => rfl⟩
        · cases hc
  · cases hc

def cIs (P : Program) (n : Nat) (prom : List Nat) (ops : Array Oper) : List Oper → Option (List I)
  | [] => some []
  | o :: l => match cI P n prom ops o, cIs P n prom ops l with
    | some i, some r => some (i :: r)
    | _, _ => none

theorem After.mono {K K' : Env → Bx → Hp → Prop} (hk : ∀ ρ β h, K ρ β h → K' ρ β h) {a : Act} {w : World} (ha : After n ds f K a w) : After n ds f K' a w :=
  let ⟨B, ρ, β, h, h1, h2, h3⟩ := ha; ⟨B, ρ, β, h, h1, h2, hk _ _ _ h3⟩

theorem opsK_sound {ops : Array Oper} {prom : List Nat} {K : Env → Bx → Hp → Prop} {Q : Act → World → Prop} (hq : ∀ a w, After n ds f K a w → Q a w) : ∀ (l : List Oper) (il : List I) (a : Act) (w : World),
    cIs P n prom ops l = some il → After n ds f (opsK P K il) a w → wpS P ops Q l a w
  | [], il, a, w, hc, ha => by
    simp only [cIs, Option.some.injEq] at hc; subst hc
    exact hq a w ha
  | o :: l, il, a, w, hc, ha => by
    simp only [cIs] at hc
    split at hc
    · rename_i i r hi hr
      cases hc
      obtain ⟨B, ρ, β, h, s, hw, hk⟩ := ha
      simp only [opsK] at hk
      exact stepO_mono (fun a w ha => opsK_sound hq l r a w hr ha.after) (stI_sound s hw hi hk)
    · cases hc

theorem cIs_noDefer {ops : Array Oper} {prom : List Nat} : ∀ {l : List Oper} {il : List I}, cIs P n prom ops l = some il → ∀ o ∈ l, noDefer o = true
  | [], _, _, o, ho => by cases ho
  | x :: l, il, hc, o, ho => by
    simp only [cIs] at hc
    split at hc
    · rename_i i r hi hr
      rcases List.mem_cons.1 ho with rfl | ho
      · unfold cI at hi
        split at hi
        · split at hi
          · cases hi
          · rename_i hcef; exact noDefer_cef hcef
        · cases hi
      · exact cIs_noDefer hr o ho
    · cases hc

end

end Go.Proofs.YthpkgkoojhgedaaDoor.V

/- Regions in every order, read off a plan. -/
namespace Go.Proofs.YthpkgkoojhgedaaDoor.V
set_option linter.unusedSectionVars false
set_option linter.unusedVariables false
set_option linter.unusedSimpArgs false
open Go

def anyP (P : Program) (ops : Array Oper) (late : Nat → Bool) (K : Act → World → Prop) : Nat → Array Bool → (World → Prop) → Act → World → Prop
  | 0, listed, _, a, w => Region.ready .any ops listed = [] ∧ K a w
  | fuel + 1, listed, S, a, w =>
    (Region.ready .any ops listed = [] → K a w) ∧
    ∀ i ∈ Region.ready .any ops listed, opAny P ops i (fun a w => ∃ S' : World → Prop, S' w ∧ (late i = true → ∀ w, S' w → S w) ∧ anyP P ops late K fuel (listed.setIfInBounds i true) S' a w) a w

section
variable {P : Program} {ops : Array Oper} {late : Nat → Bool} {K : Act → World → Prop}

theorem noDefer_at (hd : ops.all noDefer = true) {j : Nat} {o : Oper} (ho : ops[j]? = some o) : noDefer o = true := by
  have := Array.all_eq_true.1 hd
  obtain ⟨hj', rfl⟩ := Array.getElem?_eq_some_iff.1 ho
  exact this j hj'

theorem anyP_sound {r : Option Nat} {n : Nat} {Q : Exit → Act → World → Prop} (hd : ops.all noDefer = true) :
    ∀ (fuel : Nat) (listed : Array Bool) (S : World → Prop) (a : Act) (w : World), anyP P ops late (fun a w => Q .normal a w) fuel listed S a w → wpAnyIn (FW r) n P .any ops Q fuel listed a w
  | 0, _, _, _, _, h => h
  | fuel + 1, listed, S, a, w, h => by
    refine ⟨h.1, fun i hi => ?_⟩
    have h2 := h.2 i hi
    unfold opAny at h2
    unfold wpOpIn
    cases ho : ops[i]? with
    | none => simp only [ho] at h2 ⊢; obtain ⟨S', _, _, h3⟩ := h2; exact anyP_sound hd fuel _ _ _ _ h3
    | some o =>
      simp only [ho, stepO] at h2 ⊢
      have hno : noDefer o = true := noDefer_at hd ho
      split
      · rename_i hw
        rw [if_pos hw] at h2
        exact stepW_wpIn hno (upW_mono (fun v w' ⟨S', _, _, h3⟩ => anyP_sound hd fuel _ _ _ _ h3) h2)
      · rename_i hw
        rw [if_neg hw] at h2
        obtain ⟨S', _, _, h3⟩ := h2
        exact ⟨fun _ _ => trivial, anyP_sound hd fuel _ _ _ _ h3⟩

theorem region_plan_wpIn {id : Nat} {S : World → Prop} {r : Option Nat} {n : Nat} {Q : Exit → Act → World → Prop} {a : Act} {w : World}
    (hm : P.follows .mixedOrders = true) (hd : ops.all noDefer = true)
    (h : anyP P ops late (fun a w => Q .normal a w) ops.size (Array.replicate ops.size false) S a { w with drawn := w.drawn + 1 }) : (Code.region id ops true).wpIn (FW r) n P Q a w :=
  wpIn_region_any hm (anyP_sound hd _ _ _ _ _ h)

theorem Yl.weaken {S T : World → Prop} {o : Oper} {v : Value} {a : Act} (hy : Yl P ops T o v a) (h : ∀ w, S w → T w) : Yl P ops S o v a := by
  rcases hy with ⟨h1, h2⟩ | h1
  · exact .inl ⟨h1, fun w hw => h2 w (h w hw)⟩
  · exact .inr h1

theorem getD_set_false {listed : Array Bool} {i k : Nat} (h : (listed.setIfInBounds i true).getD k false = true) : k = i ∨ listed.getD k false = true := by
  by_cases hk : i = k
  · exact .inl hk.symm
  · right
    simp only [Array.getD_eq_getD_getElem?, Array.getElem?_setIfInBounds, if_neg hk] at h ⊢
    exact h

/-- What may come up while i is not listed yet. -/
def Cl (ops : Array Oper) (late : Nat → Bool) (i : Nat) (R : Nat → Bool) (listed : Array Bool) : Prop :=
  (∀ j, R j = true → late j = true) ∧ ∀ j oj, ops[j]? = some oj → j ≠ i → listed.getD j true = false →
    (∀ e ∈ oj.after, Region.binds .any e = true → listed.getD e.on false = true ∨ R e.on = true) → R j = true

theorem anyP_first {T : World → Prop} {R : Nat → Bool} {i : Nat} {oi : Oper} {v : Value} (hi : ops[i]? = some oi) (hd : ops.all noDefer = true) :
    ∀ (fuel : Nat) (listed : Array Bool) (S : World → Prop) (a : Act) (w : World),
      (∀ j oj, ops[j]? = some oj → j ≠ i → listed.getD j true = false → (∀ e ∈ oj.after, Region.binds .any e = true → e.on ≠ i) → oi.apart ops oj = true) →
      ((∀ w, T w) ∨ Cl ops late i R listed) → (∀ w, S w → T w) →
      i ∈ Region.ready .any ops listed → Yl P ops T oi v a → S w →
      anyP P ops late K fuel (listed.setIfInBounds i true) S (a.put oi.dst v) w → anyP P ops late K (fuel + 1) listed S a w := by
  intro fuel
  induction fuel with
  | zero =>
    intro listed S a w _ _ hST hr hy hS H
    refine ⟨fun h => (by rw [h] at hr; cases hr), fun j hj => ?_⟩
    by_cases hji : j = i
    · subst hji; exact (hy.weaken hST).opAny hi hS ⟨S, hS, fun _ _ h => h, H⟩
    · have := ready_mono hj hji
      rw [H.1] at this
      cases this
  | succ fuel ih =>
    intro listed S a w hfree hcl hST hr hy hS H
    refine ⟨fun h => (by rw [h] at hr; cases hr), fun j hj => ?_⟩
    by_cases hji : j = i
    · subst hji; exact (hy.weaken hST).opAny hi hS ⟨S, hS, fun _ _ h => h, H⟩
    · have h1 := H.2 j (ready_mono hj hji)
      obtain ⟨hjun, oj, hoj, hall⟩ := mem_ready.1 hj
      have hnot : ∀ e ∈ oj.after, Region.binds .any e = true → e.on ≠ i := fun e he hb heq => by
        have h1 := hall e he hb
        have h0 := (mem_ready.1 hr).1
        rw [heq] at h1
        rcases Nat.lt_or_ge i listed.size with h' | h'
        · simp [h'] at h0 h1; rw [h0] at h1; cases h1
        · simp [Array.getElem?_eq_none h'] at h1
      have h2 := opAny_put hoj (hfree j oj hoj hji hjun hnot) (noDefer_at hd hi) (noDefer_at hd hoj) hy h1
      have hun' : ∀ k, (listed.setIfInBounds j true).getD k true = false → listed.getD k true = false := fun k hun => by
        by_cases hjk : j = k
        · subst hjk; exact hjun
        · rw [getD_set_ne true hjk] at hun; exact hun
      have hfree' : ∀ k ok, ops[k]? = some ok → k ≠ i → (listed.setIfInBounds j true).getD k true = false →
          (∀ e ∈ ok.after, Region.binds .any e = true → e.on ≠ i) → oi.apart ops ok = true := fun k ok hk hki hun hno => hfree k ok hk hki (hun' k hun) hno
      have hcl' : (∀ w, T w) ∨ Cl ops late i R (listed.setIfInBounds j true) := by
        refine hcl.imp id fun hc => ⟨hc.1, fun k ok hk hki hun hpr => hc.2 k ok hk hki (hun' k hun) fun e he hb => ?_⟩
        rcases hpr e he hb with h | h
        · rcases getD_set_false h with h | h
          · right
            rw [h]
            exact hc.2 j oj hoj hji hjun fun e he hb => .inl (hall e he hb)
          · exact .inl h
        · exact .inr h
      refine opAny_mono (fun a' w' h3 => ?_) h2
      obtain ⟨hy', S', hS', hl, h4⟩ := h3
      refine ⟨S', hS', hl, ih (listed.setIfInBounds j true) S' a' w' hfree' hcl' ?_ (ready_mono hr (Ne.symm hji)) hy' hS' ?_⟩
      · intro w hw
        rcases hcl with hT | hc
        · exact hT w
        · exact hST w (hl (hc.1 j (hc.2 j oj hoj hji hjun fun e he hb => .inl (hall e he hb))) w hw)
      · rw [Array.setIfInBounds_comm _ _ hji]
        exact h4

end

/-! ### Plans -/

mutual
inductive Plan where
  | done
  | q (i : I) (p : Plan)
  | br (l : PlanL)
inductive PlanL where
  | nil
  | cons (late cut : Bool) (i : I) (p : Plan) (l : PlanL)
end

def SubH (h h' : Hp) : Prop := ∀ b o, h b = some o → h' b = some o
def SubB (β β' : Bx) : Prop := ∀ r cs, lookB β r = some cs → lookB β' r = some cs

theorem SubH.refl (h : Hp) : SubH h h := fun _ _ h => h
theorem SubB.refl (β : Bx) : SubB β β := fun _ _ h => h

def nextK : Bool → Bool → Hp → Bx → Bx → Hp → (Hp → Bx → Prop) → Prop
  | false, false, _, _, β, h, M => M h β
  | true, false, hr, βr, β, h, M => (SubH hr h ∧ SubB βr β) ∧ M h β
  | false, true, _, _, β, h, M => ∃ hr' βr', SubH hr' h ∧ SubB βr' β ∧ M hr' βr'
  | true, true, hr, βr, β, h, M => ∃ hr' βr', (SubH hr hr' ∧ SubB βr βr') ∧ SubH hr' h ∧ SubB βr' β ∧ M hr' βr'

def andNil : PlanL → Prop → Prop → Prop
  | .nil, p, _ => p
  | .cons .., p, q => p ∧ q

def newD (i : I) (βr : Bx) : Prop := match i.o, i.d with
  | .al _, some d => lookB βr d = none
  | .bx, some d => lookB βr d = none
  | _, _ => True

def newK (late : Bool) (i : I) (βr : Bx) (X : Prop) : Prop := match late, i.o, i.d with
  | true, .al _, some d => lookB βr d = none ∧ X
  | true, .bx, some d => lookB βr d = none ∧ X
  | _, _, _ => X

theorem newK_spec {late : Bool} {i : I} {βr : Bx} {X : Prop} (h : newK late i βr X) : (late = true → newD i βr) ∧ X := by
  obtain ⟨g, d, o, xs⟩ := i
  cases late
  · exact ⟨fun h => (by cases h), h⟩
  · cases d <;> cases o <;> first | exact ⟨fun _ => trivial, h⟩ | exact ⟨fun _ => h.1, h.2⟩

mutual
def planK (P : Program) (K : Env → Bx → Hp → Prop) : Plan → Hp → Bx → Env → Bx → Hp → Prop
  | .done, _, _, ρ, β, h => K ρ β h
  | .q i p, hr, βr, ρ, β, h => stI P i ρ βr hr (fun ρ' _ _ => planK P K p hr βr ρ' β h)
  | .br l, hr, βr, ρ, β, h => planLK P K l hr βr ρ β h
def planLK (P : Program) (K : Env → Bx → Hp → Prop) : PlanL → Hp → Bx → Env → Bx → Hp → Prop
  | .nil, _, _, _, _, _ => True
  | .cons late cut i p l, hr, βr, ρ, β, h =>
    andNil l (newK late i βr (stI P i ρ β h (fun ρ' β' h' => nextK late cut hr βr β' h' fun hr' βr' => planK P K p hr' βr' ρ' β' h'))) (planLK P K l hr βr ρ β h)
end

mutual
def Plan.late : Plan → Bool
  | .done => false
  | .q _ p => p.late
  | .br l => l.late
def PlanL.late : PlanL → Bool
  | .nil => false
  | .cons l _ _ p r => l || p.late || r.late
end

def regK (P : Program) (K : Env → Bx → Hp → Prop) (p : Plan) (ρ : Env) (β : Bx) (h : Hp) : Prop :=
  nextK false p.late h β β h fun hr βr => planK P K p hr βr ρ β h

def reads : Pr → Bool
  | .ld .. | .eq .. | .lenM | .look .. | .b2s => true
  | _ => false

def lateOf (P : Program) (ops : Array Oper) (m : Array Nat) (j : Nat) : Bool :=
  match ops[j]? with
  | none => true
  | some oj => (cpr P oj).isSome || (List.range ops.size).any fun i => i != j && !(Nat.testBit (m.getD j 0) i) && !(Nat.testBit (m.getD i 0) j) &&
      (match ops[i]? with | some oi => (match cpr P oi with | some (p, _) => reads p | none => false) | none => false)

def lates (P : Program) (ops : Array Oper) : List Bool := (List.range ops.size).map (lateOf P ops (Region.before ops))

def predsIn (ops : Array Oper) (listed : Array Bool) (R : List Nat) (j : Nat) : Bool :=
  match ops[j]? with
  | none => false
  | some oj => oj.after.all fun e => !Region.binds .any e || listed.getD e.on false || R.contains e.on

def reach (ops : Array Oper) (listed : Array Bool) (i : Nat) : Nat → List Nat → List Nat
  | 0, R => R
  | n + 1, R => reach ops listed i n ((List.range ops.size).filter fun j => j != i && !listed.getD j true && predsIn ops listed R j)

def okR (ops : Array Oper) (late : List Bool) (listed : Array Bool) (i : Nat) (R : List Nat) : Bool :=
  R.all (fun j => late.getD j true) && (List.range ops.size).all fun j => j == i || listed.getD j true || !(predsIn ops listed R j) || R.contains j

def okTake (P : Program) (ops : Array Oper) (late : List Bool) (listed : Array Bool) (j : Nat) : Bool :=
  match ops[j]? with
  | none => false
  | some oj => match cpr P oj with
    | none => false
    | some (p, _) => Region.free .any ops listed j && (!reads p || late.all id || okR ops late listed j (reach ops listed j ops.size []))

def mkBr (late : List Bool) (f : Nat → Option I) (g : Nat → Option Plan) : List Nat → Option PlanL
  | [] => some .nil
  | j :: js => match f j, g j, mkBr late f g js with
    | some i, some p, some l => some (.cons (late.getD j true) p.late i p l)
    | _, _, _ => none

def mkPlan (P : Program) (n : Nat) (prom : List Nat) (ops : Array Oper) (late : List Bool) : Nat → Array Bool → Option Plan
  | 0, listed => match Region.ready .any ops listed with
    | [] => some .done
    | _ => none
  | fuel + 1, listed => match Region.ready .any ops listed with
    | [] => some .done
    | rs => match rs.find? (okTake P ops late listed) with
      | some j => (match (ops[j]?).bind (cI P n prom ops), mkPlan P n prom ops late fuel (listed.setIfInBounds j true) with
        | some i, some p => some (.q i p)
        | _, _ => none)
      | none => (match mkBr late (fun j => (ops[j]?).bind (cI P n prom ops)) (fun j => mkPlan P n prom ops late fuel (listed.setIfInBounds j true)) rs with
        | some l => some (.br l)
        | none => none)

end Go.Proofs.YthpkgkoojhgedaaDoor.V

/- Plans tell what a drawn region does. -/
namespace Go.Proofs.YthpkgkoojhgedaaDoor.V
set_option linter.unusedSectionVars false
set_option linter.unusedVariables false
set_option linter.unusedSimpArgs false
open Go

section
variable {P : Program} {ops : Array Oper} {n : Nat} {ds : List Deferred} {f : Fm} {prom : List Nat} {late : List Bool}

theorem cI_spec {o : Oper} {i : I} (hc : cI P n prom ops o = some i) : ∃ ef xs, cef P prom o = some (ef, xs) ∧ i.d = o.dst ∧ dstOk n o.dst = true ∧ i.o = ef ∧ i.xs = xs.map cx ∧
    ((o.guard = none ∧ i.g = none) ∨ ∃ j want t, o.guard = some (j, want) ∧ (ops[j]?).bind (·.dst) = some t ∧ i.g = some (t, want)) := by
  unfold cI at hc
  split at hc
  · rename_i hd
    split at hc
    · cases hc
    · rename_i ef xs hcef
      split at hc
      · rename_i hg
        cases hc
        exact ⟨ef, xs, hcef, rfl, hd, rfl, rfl, .inl ⟨hg, rfl⟩⟩
      · rename_i j want hg
        split at hc
        · rename_i t ht
          cases hc
          exact ⟨ef, xs, hcef, rfl, hd, rfl, rfl, .inr ⟨j, want, t, hg, ht, rfl⟩⟩
        · cases hc
  · cases hc

theorem cef_pr {o : Oper} {p : Pr} {xs : List Operand} (h : cpr P o = some (p, xs)) : cef P prom o = some (.pr p, xs) := by
  unfold cef; rw [h]

theorem prv_quiet {p : Pr} (h : reads p = false) (hp : Hp) (β : Bx) (es : List Ent) : prv (fun _ => none) [] p es = prv hp β p es := by
  cases p <;> first | (cases h; done) | rfl | (rcases es with _ | ⟨a, _ | ⟨b, _ | ⟨c, _ | _⟩⟩⟩ <;> first | rfl | (cases a <;> rfl))

def Fm.bare (f : Fm) : Fm := { f with hid := fun _ => none }

theorem rep_none (w : World) : Rep w (fun _ => none) ⟨fun _ => none, w⟩ := ⟨fun _ _ h => (by cases h), fun _ _ h => (by cases h), fun _ _ h => (by cases h), ⟨rfl, rfl, rfl⟩⟩

theorem look_Yl {o : Oper} {p : Pr} {xs : List Operand} {i : I} {B : Nat → Nat} {ρ : Env} {βr : Bx} {hr : Hp} {a : Act} {M : Env → Prop} (s : Fr n ds B ρ a) (hp : cpr P o = some (p, xs)) (hc : cI P n prom ops o = some i)
    (hk : stI P i ρ βr hr (fun ρ' _ _ => M ρ')) :
    ∃ e, Yl P ops (fun w => reads p = true → Wd B βr hr f.bare w) o (entV B e) a ∧ M (putE o.dst e ρ) ∧ dstOk n o.dst = true := by
  obtain ⟨ef, xs', hcef, hid, hd, ho, hxs, hg⟩ := cI_spec hc
  rw [cef_pr hp] at hcef
  cases hcef
  have hdo : ∀ {M' : Env → Bx → Hp → Prop}, doI P i ρ βr hr M' → ∃ e es, oxs ρ (xs.map cx) = some es ∧ prv hr βr p es = some e ∧ M' (putE o.dst e ρ) βr hr := fun {M'} h => by
    unfold doI at h
    rw [hxs] at h
    obtain ⟨es, hes, h⟩ := optK_spec h
    simp only [ho, efK] at h
    obtain ⟨e, he, h⟩ := optK_spec h
    rw [putK_eq, hid] at h
    exact ⟨e, es, hes, he, h⟩
  have hyl : ∀ {e : Ent} {es : List Ent}, oxs ρ (xs.map cx) = some es → prv hr βr p es = some e → ∀ w, (reads p = true → Wd B βr hr f.bare w) → (execOp a.eval o).run P w = .ok (.value (entV B e)) w := fun {e es} hes he w hw => by
    cases hrd : reads p with
    | true =>
      have := hw hrd
      exact run_pr this.rep this.boxes hp (s.oxs hes) he
    | false =>
      rw [← prv_quiet hrd] at he
      exact run_pr (β := []) (rep_none w) (fun _ _ h => by cases h) hp (s.oxs hes) he
  unfold stI at hk
  rcases hg with ⟨hg, hig⟩ | ⟨j, want, t, hg, ht, hig⟩
  · simp only [hig] at hk
    obtain ⟨e, es, hes, he, hM⟩ := hdo hk
    exact ⟨e, .inl ⟨by simp [Region.wanted, hg], hyl hes he⟩, hM, hd⟩
  · simp only [hig] at hk
    cases want <;> simp only at hk <;> rcases condK_spec hk with ⟨hl, hk⟩ | ⟨hl, hk⟩ <;> have hgu := guard_gn s hg ht hl
    · rw [putK_eq, hid] at hk
      exact ⟨undefE, .inr ⟨by rw [hgu]; decide, rfl⟩, hk, hd⟩
    · obtain ⟨e, es, hes, he, hM⟩ := hdo hk
      exact ⟨e, .inl ⟨by rw [hgu]; decide, hyl hes he⟩, hM, hd⟩
    · obtain ⟨e, es, hes, he, hM⟩ := hdo hk
      exact ⟨e, .inl ⟨by rw [hgu]; decide, hyl hes he⟩, hM, hd⟩
    · rw [putK_eq, hid] at hk
      exact ⟨undefE, .inr ⟨by rw [hgu]; decide, rfl⟩, hk, hd⟩

theorem Wd.part {B B' : Nat → Nat} {β β' : Bx} {h h' : Hp} {w : World} (hw : Wd B' β' h' f.bare w) (h1 : SubH h h') (h2 : SubB β β') (hB : ∀ r cs, lookB β r = some cs → B' r = B r) : Wd B β h f.bare w := by
  refine ⟨fun r cs hl => ?_, fun r s cs es hr hs e => ?_, ⟨fun b o hb => hw.rep.vis b o (h1 b o hb), fun b o hb => (by cases hb), fun b o hb => rfl, hw.rep.kp⟩⟩
  · obtain ⟨ty, g1, g2, _⟩ := hw.box r cs (h2 r cs hl)
    rw [hB r cs hl] at g1 g2
    refine ⟨ty, g1, ?_, rfl⟩
    cases hh : h (B r) with
    | none => rfl
    | some o => rw [h1 _ _ hh] at g2; cases g2
  · exact hw.inj r s cs es (h2 r cs hr) (h2 s es hs) (by rw [hB r cs hr, hB s es hs]; exact e)

theorem Wd.unframe {B : Nat → Nat} {β : Bx} {h : Hp} {w : World} (hw : Wd B β h f w) : Wd B β h f.bare w :=
  ⟨fun r cs hl => let ⟨ty, g1, g2, _⟩ := hw.box r cs hl; ⟨ty, g1, g2, rfl⟩, hw.inj, ⟨hw.rep.vis, fun _ _ h => (by cases h), fun _ _ _ => rfl, hw.rep.kp⟩⟩

theorem nextK.after {B B' : Nat → Nat} {lt cut : Bool} {i : I} {hr : Hp} {βr β : Bx} {h : Hp} {M : Hp → Bx → Prop} {w : World} (hk : nextK lt cut hr βr β h M) (hw : Wd B' β h f w) (hnd : lt = true → newD i βr)
    (hB : ∀ r, ¬ newAt i r → B' r = B r) :
    ∃ hr' βr', SubH hr' h ∧ SubB βr' β ∧ M hr' βr' ∧ Wd B' βr' hr' f.bare w ∧ (lt = true → ∀ w, Wd B' βr' hr' f.bare w → Wd B βr hr f.bare w) := by
  have hBr : lt = true → ∀ r cs, lookB βr r = some cs → B' r = B r := fun hl r cs hb => hB r fun hn => by
    have := hnd hl
    unfold newD at this
    unfold newAt at hn
    split at hn
    · rename_i z d h1 h2; subst hn; simp only [h1, h2] at this; rw [this] at hb; cases hb
    · rename_i d h1 h2; subst hn; simp only [h1, h2] at this; rw [this] at hb; cases hb
    · cases hn
  cases lt <;> cases cut <;> simp only [nextK] at hk
  · exact ⟨h, β, SubH.refl h, SubB.refl β, hk, hw.unframe, fun hl => by cases hl⟩
  · obtain ⟨hr', βr', h2, h3, h4⟩ := hk
    exact ⟨hr', βr', h2, h3, h4, hw.unframe.part h2 h3 (fun _ _ _ => rfl), fun hl => by cases hl⟩
  · exact ⟨h, β, SubH.refl h, SubB.refl β, hk.2, hw.unframe, fun hl w hw => hw.part hk.1.1 hk.1.2 (hBr hl)⟩
  · obtain ⟨hr', βr', h1, h2, h3, h4⟩ := hk
    exact ⟨hr', βr', h2, h3, h4, hw.unframe.part h2 h3 (fun _ _ _ => rfl), fun hl w hw => hw.part h1.1 h1.2 (hBr hl)⟩

theorem mkBr_spec {fI : Nat → Option I} {fP : Nat → Option Plan} {K : Env → Bx → Hp → Prop} {hr : Hp} {βr : Bx} {ρ : Env} {β : Bx} {h : Hp} : ∀ {js : List Nat} {l : PlanL}, mkBr late fI fP js = some l → planLK P K l hr βr ρ β h → ∀ j ∈ js,
    ∃ i p, fI j = some i ∧ fP j = some p ∧ (late.getD j true = true → newD i βr) ∧ stI P i ρ β h (fun ρ' β' h' => nextK (late.getD j true) p.late hr βr β' h' fun hr' βr' => planK P K p hr' βr' ρ' β' h')
  | [], _, _, _, j, hj => by cases hj
  | k :: js, l, hm, hk, j, hj => by
    simp only [mkBr] at hm
    split at hm
    · rename_i i p l' h1 h2 h3
      cases hm
      simp only [planLK] at hk
      rcases List.mem_cons.1 hj with rfl | hj
      · have hx : newK (late.getD j true) i βr (stI P i ρ β h (fun ρ' β' h' => nextK (late.getD j true) p.late hr βr β' h' fun hr' βr' => planK P K p hr' βr' ρ' β' h')) := by
          cases l' with
          | nil => exact hk
          | cons => exact hk.1
        exact ⟨i, p, h1, h2, newK_spec hx⟩
      · cases l' with
        | nil => cases js with
          | nil => cases hj
          | cons => exfalso; simp only [mkBr] at h3; split at h3 <;> cases h3
        | cons => exact mkBr_spec h3 hk.2 j hj
    · cases hm

theorem okR_spec {listed : Array Bool} {i : Nat} {R : List Nat} (h : okR ops late listed i R = true) : Cl ops (fun j => late.getD j true) i (fun j => R.contains j) listed := by
  unfold okR at h
  rw [Bool.and_eq_true] at h
  refine ⟨fun j hj => List.all_eq_true.1 h.1 j (by simpa using hj), fun j oj hoj hji hun hpr => ?_⟩
  have h2 := List.all_eq_true.1 h.2 j (List.mem_range.2 (Array.getElem?_eq_some_iff.1 hoj).1)
  have hp : predsIn ops listed R j = true := by
    unfold predsIn
    rw [hoj]
    simp only [Array.all_eq_true, Bool.or_eq_true, Bool.not_eq_true']
    intro k hk
    by_cases hb : Region.binds .any oj.after[k] = true
    · rcases hpr _ (Array.getElem_mem hk) hb with h | h
      · exact .inl (.inr h)
      · exact .inr h
    · exact .inl (.inl (by simpa using hb))
  rw [hp, hun] at h2
  simpa [hji] using h2

theorem all_late (h : late.all id = true) (j : Nat) : late.getD j true = true := by
  rw [List.getD_eq_getElem?_getD]
  cases hj : late[j]? with
  | none => rfl
  | some b => exact List.all_eq_true.1 h b (List.mem_of_getElem? hj)

theorem plan_sound (hd : ops.all noDefer = true) {K : Env → Bx → Hp → Prop} {Q : Act → World → Prop} (hq : ∀ a w, After n ds f K a w → Q a w) :
    ∀ (fuel : Nat) (listed : Array Bool) (pl : Plan), mkPlan P n prom ops late fuel listed = some pl → ∀ (hr : Hp) (βr : Bx) (B : Nat → Nat) (ρ : Env) (β : Bx) (h : Hp) (a : Act) (w : World), Fr n ds B ρ a → Wd B β h f w → SubH hr h → SubB βr β →
      planK P K pl hr βr ρ β h → anyP P ops (fun j => late.getD j true) Q fuel listed (Wd B βr hr f.bare) a w
  | 0, listed, pl, hm, hr, βr, B, ρ, β, h, a, w, s, hw, h1, h2, hk => by
    unfold mkPlan at hm
    split at hm
    · rename_i hrd
      cases hm
      exact ⟨hrd, hq a w ⟨B, ρ, β, h, s, hw, by simpa only [planK] using hk⟩⟩
    · cases hm
  | fuel + 1, listed, pl, hm, hr, βr, B, ρ, β, h, a, w, s, hw, h1, h2, hk => by
    unfold mkPlan at hm
    split at hm
    · rename_i hrd
      cases hm
      exact ⟨fun _ => hq a w ⟨B, ρ, β, h, s, hw, by simpa only [planK] using hk⟩, fun i hi => (by rw [hrd] at hi; cases hi)⟩
    · rename_i hrne
      split at hm
      · rename_i j hfind
        split at hm
        · rename_i i p hi hp
          cases hm
          simp only [planK] at hk
          have hj := List.mem_of_find?_eq_some hfind
          have hok := List.find?_some hfind
          unfold okTake at hok
          split at hok
          · cases hok
          · rename_i oj hoj
            split at hok
            · cases hok
            · rename_i p' xs hcp
              rw [Bool.and_eq_true] at hok
              rw [hoj] at hi
              simp only [Option.bind_some] at hi
              obtain ⟨e, hy, hM, hdd⟩ := look_Yl s hcp hi hk
              have hS : Wd B βr hr f.bare w := hw.unframe.part h1 h2 (fun _ _ _ => rfl)
              have hrest := plan_sound hd hq fuel (listed.setIfInBounds j true) p hp hr βr B _ β h _ w (s.put hdd) hw h1 h2 hM
              have hcl : ∃ R : Nat → Bool, (∀ w, reads p' = true → Wd B βr hr f.bare w) ∨ Cl ops (fun j => late.getD j true) j R listed := by
                have h3 := hok.2
                rw [Bool.or_eq_true, Bool.or_eq_true] at h3
                rcases h3 with (h3 | h3) | h3
                · exact ⟨fun _ => true, .inl fun w hc => by rw [hc] at h3; cases h3⟩
                · exact ⟨fun _ => true, .inr ⟨fun j _ => all_late h3 j, fun _ _ _ _ _ _ => rfl⟩⟩
                · exact ⟨_, .inr (okR_spec h3)⟩
              obtain ⟨R, hcl⟩ := hcl
              exact anyP_first (R := R) hoj hd fuel listed _ a w (Region.free_spec hoj hok.1) hcl (fun w hw _ => hw) hj hy hS hrest
        · cases hm
      · split at hm
        · rename_i l hl
          cases hm
          simp only [planK] at hk
          refine ⟨fun hn => absurd hn hrne, fun j hj => ?_⟩
          obtain ⟨i, p, hfi, hfp, hnd, hst⟩ := mkBr_spec hl hk j hj
          unfold opAny
          cases hoj : ops[j]? with
          | none => rw [hoj] at hfi; cases hfi
          | some oj =>
            rw [hoj] at hfi
            simp only [Option.bind_some] at hfi
            refine stepO_mono (fun a' w' hA => ?_) (stI_sound s hw hfi hst)
            obtain ⟨B', ρ', β', h', s', hw', hn, hB⟩ := hA
            obtain ⟨hr', βr', g1, g2, g3, g4, g5⟩ := hn.after hw' hnd hB
            exact ⟨Wd B' βr' hr' f.bare, g4, g5, plan_sound hd hq fuel _ p hfp hr' βr' B' ρ' β' h' a' w' s' hw' g1 g2 g3⟩
        · cases hm

theorem regK_sound {id : Nat} {r : Option Nat} {k : Nat} {Q : Exit → Act → World → Prop} {a : Act} {w : World} {pl : Plan} {K : Env → Bx → Hp → Prop} (hm : P.follows .mixedOrders = true) (hd : ops.all noDefer = true)
    (hc : mkPlan P n prom ops late ops.size (Array.replicate ops.size false) = some pl) (ha : After n ds f (regK P K pl) a w) (hq : ∀ a w, After n ds f K a w → Q .normal a w) : (Code.region id ops true).wpIn (FW r) k P Q a w := by
  obtain ⟨B, ρ, β, h, s, hw, hk⟩ := ha
  obtain ⟨hr, βr, g1, g2, g3, g4, _⟩ := nextK.after (i := ⟨none, none, .bx, []⟩) (B := B) (f := f) (w := { w with drawn := w.drawn + 1 }) hk (hw.heap rfl) (fun h => by cases h) (fun _ _ => rfl)
  exact region_plan_wpIn hm hd (plan_sound hd hq _ _ pl hc hr βr B ρ β h a _ s (hw.heap rfl) g1 g2 g3)

end
end Go.Proofs.YthpkgkoojhgedaaDoor.V

/- Code, resolved; what it does, told backwards. -/
namespace Go.Proofs.YthpkgkoojhgedaaDoor.V
set_option linter.unusedSectionVars false
set_option linter.unusedVariables false
set_option linter.unusedSimpArgs false
open Go

inductive IC where
  | skip
  | ops (l : List I)
  | plan (p : Plan)
  | seq (a b : IC)
  | cut (a b : IC)
  | cond (x : X) (a b : IC)
  | block (id : Nat) (c : IC)
  | loop (c : IC)
  | exit (id : Nat)
  | ret
  | rf (x : X) (ps : List Nat) (a b : IC)

def first : Code → Nat
  | .region id _ _ => id + 1
  | .seq a b => if first a = 0 then first b else first a
  | .cond _ a b => if first a = 0 then first b else first a
  | .block _ c => first c
  | .loop c => first c
  | .rangeFunc _ _ _ b => first b
  | _ => 0

def comp (P : Program) (n : Nat) (prom cuts : List Nat) : Code → Option IC
  | .skip => some .skip
  | .label _ => some .skip
  | .region _ ops draw => match draw with
    | true => if ops.all noDefer then (match mkPlan P n prom ops (lates P ops) ops.size (Array.replicate ops.size false) with | some p => some (.plan p) | none => none) else none
    | false => match cIs P n prom ops ops.toList with | some l => some (.ops l) | none => none
  | .seq a b => match comp P n prom cuts a, comp P n prom cuts b with | some x, some y => some (if cuts.contains (first b - 1) && first b != 0 then .cut x y else .seq x y) | _, _ => none
  | .cond c a b => match comp P n prom cuts a, comp P n prom cuts b with | some x, some y => some (.cond (cx c) x y) | _, _ => none
  | .block id c => match comp P n prom cuts c with | some x => some (.block id x) | none => none
  | .loop c => match comp P n prom cuts c with | some x => some (.loop x) | none => none
  | .exit id => some (.exit id)
  | .ret => some .ret
  | .rangeFunc g ps a b => match comp P n prom cuts a, comp P n prom cuts b with | some x, some y => if ps.toList.all (· < n) then some (.rf (cx g) ps.toList x y) else none | _, _ => none
  | _ => none

abbrev Kont := Env → Bx → Hp → Prop

/-- A loop's round, from what is kept of the frame. -/
@[irreducible] def loopK (body : Kont → Kont) (ρ : Env) (β : Bx) (h : Hp) : Prop :=
  ∃ (σ : Type) (E : σ → Env) (X : σ → Bx) (H : σ → Hp) (Inv : σ → Prop) (μ : σ → Nat) (s : σ), Inv s ∧ subE (E s) ρ ∧ subB (X s) β ∧ h = H s ∧
    ∀ s, Inv s → body (fun ρ' β' h' => ∃ s', Inv s' ∧ μ s' < μ s ∧ subE (E s') ρ' ∧ subB (X s') β' ∧ h' = H s') (E s) (X s) (H s)

/-- A place where only so much is kept. -/
@[irreducible] def cutK (a : Kont → Kont) (b : Kont) (ρ : Env) (β : Bx) (h : Hp) : Prop :=
  ∃ (σ : Type) (E : σ → Env) (X : σ → Bx) (H : σ → Hp) (Inv : σ → Prop), a (fun ρ' β' h' => ∃ s, Inv s ∧ subE (E s) ρ' ∧ subB (X s) β' ∧ h' = H s) ρ β h ∧ ∀ s, Inv s → b (E s) (X s) (H s)

/-- How a round was left. -/
inductive Jmp where
  | ret
  | exit (id : Nat)

/-- Where a loop over a function stands. -/
inductive LS where
  | ready
  | busy
  | done (j : Jmp)

def zipE : List Nat → List Value → Env → Env
  | p :: ps, v :: vs, ρ => zipE ps vs ((p, .v v) :: ρ)
  | _, _, ρ => ρ

def rdOk (rd : Option Nat) (h : Hp) : Prop := match rd with
  | none => True
  | some l0 => ∃ r0, h l0 = some (.loop r0)

abbrev Tr := Kont → (Nat → Kont) → Kont → Kont

/-- A loop over a function: R tells the loop's record by where it stands. -/
@[irreducible] def rfK (P : Program) (rd : Option Nat) (ps : List Nat) (assign body : Nat → Tr) (g : Option Ent) (kn : Kont) (ke : Nat → Kont) (kr : Kont) (ρ : Env) (β : Bx) (h : Hp) : Prop :=
  β = [] ∧ rdOk rd h ∧ match g with
  | some (.v (.func (.func gf) first cap)) => callable P gf = true ∧ ∀ (l : Nat) (R : LS → Obj), h l = none → (∀ s, ∃ r, R s = .loop r) →
      (∀ vs h0 Q, vs.length = ps.length → h0 l = some (R .ready) →
        assign l (fun ρ' β' h' => h' l = some (R .ready) ∧
          body l (fun _ _ h' => h' l = some (R .busy) ∧ Q (.bool true) (upd h' l (R .ready)))
            (fun id _ _ h' => h' l = some (R .busy) ∧ Q (.bool false) (upd h' l (R (.done (.exit id)))))
            (fun _ _ h' => h' l = some (R .busy) ∧ Q (.bool false) (upd h' l (R (.done .ret)))) ρ' β' (upd h' l (R .busy)))
          (fun _ _ _ _ => False) (fun _ _ _ => False) (zipE ps vs ρ) [] h0 → OkY P l vs h0 Q) →
      Ok P gf (first.toList ++ [.func (.yield l) #[] #[]] ++ cap.toList) (upd h l (R .ready)) (fun _ h' => ∃ s, h' l = some (R s) ∧ ∀ o, match s with
        | .ready => kn ρ [] (upd h' l o)
        | .done (.exit id) => ke id ρ [] (upd h' l o)
        | .done .ret => kr ρ [] (upd h' l o)
        | .busy => False)
  | _ => False

def codeK (P : Program) : Option Nat → IC → Kont → (Nat → Kont) → Kont → Kont
  | _, .skip, kn, _, _ => kn
  | _, .ops l, kn, _, _ => opsK P kn l
  | _, .plan p, kn, _, _ => regK P kn p
  | rd, .seq a b, kn, ke, kr => codeK P rd a (codeK P rd b kn ke kr) ke kr
  | rd, .cut a b, kn, ke, kr => cutK (fun kn => codeK P rd a kn ke kr) (codeK P rd b kn ke kr)
  | rd, .cond x a b, kn, ke, kr => fun ρ β h => condK (ox ρ x) (codeK P rd a kn ke kr ρ β h) (codeK P rd b kn ke kr ρ β h)
  | rd, .block id c, kn, ke, kr => codeK P rd c kn (fun i => if i = id then kn else ke i) kr
  | rd, .loop c, _, ke, kr => loopK (fun kn => codeK P rd c kn ke kr)
  | _, .exit id, _, ke, _ => ke id
  | _, .ret, _, _, kr => kr
  | rd, .rf x ps a b, kn, ke, kr => fun ρ β h => rfK P rd ps (fun l => codeK P (some l) a) (fun l => codeK P (some l) b) (ox ρ x) kn ke kr ρ β h

section
variable {P : Program} {n : Nat} {ds : List Deferred} {f : Fm} {prom cuts : List Nat}

theorem least (p : Nat → Prop) (h : ∃ m, p m) : ∃ m, p m ∧ ∀ k, p k → m ≤ k := by
  obtain ⟨m, hm⟩ := h
  induction m using Nat.strongRecOn with
  | _ m ih =>
    by_cases hk : ∃ k, k < m ∧ p k
    · obtain ⟨k, h1, h2⟩ := hk; exact ih k h1 h2
    · exact ⟨m, hm, fun k hp => Nat.le_of_not_lt fun hlt => hk ⟨k, hlt, hp⟩⟩

theorem wpIn_loop_rel {F : Fence} {k : Nat} {c : Code} {Q : Exit → Act → World → Prop} {a : Act} {w : World} (G : Nat → Act → World → Prop) (h0 : ∃ m, G m a w)
    (round : ∀ m a w, G m a w → c.wpIn F k P (Exit.then (fun a' w' => ∃ m', m' < m ∧ G m' a' w') Q) a w) : (Code.loop c).wpIn F k P Q a w := by
  classical
  let μ : Act → World → Nat := fun a w => if h : ∃ m, G m a w then Classical.choose (least _ h) else 0
  have hμ : ∀ a w, (∃ m, G m a w) → G (μ a w) a w ∧ ∀ k, G k a w → μ a w ≤ k := fun a w h => by
    have := Classical.choose_spec (least _ h)
    simp only [μ, dif_pos h]
    exact this
  refine wpIn_loop (fun a w => ∃ m, G m a w) μ h0 fun a w hI => ?_
  refine wpIn_mono (round _ a w (hμ a w hI).1) fun e a' w' he => ?_
  cases e <;> try exact he
  obtain ⟨m', hlt, hG⟩ := he
  exact ⟨⟨m', hG⟩, Nat.lt_of_le_of_lt ((hμ a' w' ⟨m', hG⟩).2 m' hG) hlt⟩

theorem subE_look : ∀ {ρ ρ' : Env}, subE ρ ρ' → ∀ t e, look ρ t = some e → look ρ' t = some e
  | [], _, _, t, e, h => by cases h
  | (k, x) :: r, ρ', hs, t, e, h => by
    simp only [look] at h
    split at h
    · rename_i hk; subst hk; cases h; exact hs.1
    · exact subE_look hs.2 t e h

theorem subB_look : ∀ {β β' : Bx}, subB β β' → SubB β β'
  | [], _, _, t, e, h => by cases h
  | (k, x) :: r, ρ', hs, t, e, h => by
    simp only [lookB] at h
    split at h
    · rename_i hk; subst hk; cases h; exact hs.1
    · exact subB_look hs.2 t e h

theorem Fr.sub {B : Nat → Nat} {ρ ρ' : Env} {a : Act} (s : Fr n ds B ρ' a) (h : subE ρ ρ') : Fr n ds B ρ a := ⟨s.size, s.dfs, fun t e ht => s.env t e (subE_look h t e ht)⟩

theorem Wd.sub {B : Nat → Nat} {β β' : Bx} {h : Hp} {w : World} (hw : Wd B β' h f w) (hs : subB β β') : Wd B β h f w :=
  ⟨fun r cs hl => hw.box r cs (subB_look hs r cs hl), fun r s cs es h1 h2 => hw.inj r s cs es (subB_look hs r cs h1) (subB_look hs s es h2), hw.rep⟩

/-! ### Loops over functions: the blocks for deferred calls lie out of sight -/

def mark (D : Nat) : Deferred := { target := .collected D, args := #[] }

structure Mk (f f' : Fm) (Ds : List Nat) : Prop where
  base : f'.base = f.base
  old : ∀ b o, f b = some o → f' b = some o
  new : ∀ D ∈ Ds, f' D = some (.deferred (some []))
  out : ∀ D ∈ Ds, f D = none
  nd : Ds.Nodup

theorem Mk.nil (f : Fm) : Mk f f [] := ⟨rfl, fun _ _ h => h, by simp, by simp, by simp⟩

theorem Mk.rep {f f' : Fm} {Ds : List Nat} (hm : Mk f f' Ds) {w : World} {h : Hp} (hr : Rep w h f') : Rep w h f :=
  ⟨hr.vis, fun b o hb => hr.hid b o (hm.old b o hb), fun b o hb => (by
    cases hf : f b with
    | none => rfl
    | some p => have := hr.dis b o hb; rw [hm.old b p hf] at this; cases this), (by rw [← hm.base]; exact hr.kp)⟩

/-- What is known behind a stretch of code: marks may have come. -/
def AfterD (n : Nat) (ds : List Deferred) (f : Fm) (K : Env → Bx → Hp → Prop) (a : Act) (w : World) : Prop :=
  ∃ Ds f', Mk f f' Ds ∧ After n (Ds.map mark ++ ds) f' K a w

theorem After.toD {K : Env → Bx → Hp → Prop} {a : Act} {w : World} (h : After n ds f K a w) : AfterD n ds f K a w := ⟨[], f, Mk.nil f, h⟩

theorem upd_putObj {w : World} {l : Nat} {o : Obj} (o' : Obj) (hl : w.heap[l]? = some o) : Upd w (w.putObj l o') l o' := by
  refine ⟨fun x => ?_, ⟨rfl, rfl, rfl⟩⟩
  have hlt : l < w.heap.size := (Array.getElem?_eq_some_iff.1 hl).1
  split
  · rename_i e; subst e; exact World.putObj_heap_same hlt
  · rename_i e; exact World.putObj_heap_other e

theorem foldl_size : ∀ (ps : List (Nat × Value)) (t : Array Value), (ps.foldl (fun tmps (x : Nat × Value) => tmps.setIfInBounds x.1 x.2) t).size = t.size
  | [], _ => rfl
  | p :: ps, t => by rw [List.foldl_cons, foldl_size ps]; simp

theorem zipE_env {B : Nat → Nat} : ∀ (ps : List Nat) (vs : List Value) (ρ : Env) (t : Array Value), (∀ p ∈ ps, p < t.size) → (∀ i e, look ρ i = some e → t[i]? = some (entV B e)) →
    ∀ i e, look (zipE ps vs ρ) i = some e → ((ps.zip vs).foldl (fun tmps (x : Nat × Value) => tmps.setIfInBounds x.1 x.2) t)[i]? = some (entV B e)
  | [], _, ρ, t, _, h => by simpa [zipE] using h
  | _ :: _, [], ρ, t, _, h => by simpa [zipE] using h
  | p :: ps, v :: vs, ρ, t, hp, h => by
    simp only [zipE, List.zip_cons_cons, List.foldl_cons]
    refine zipE_env ps vs _ _ (fun q hq => by simpa using hp q (List.mem_cons_of_mem _ hq)) fun i e hi => ?_
    simp only [look] at hi
    have hlt : p < t.size := hp p (List.mem_cons_self ..)
    split at hi
    · rename_i hk; subst hk; cases hi; simp [hlt, entV]
    · rename_i hk; rw [Array.getElem?_setIfInBounds_ne hk]; exact h i e hi

def jcode : Jmp → Code
  | .ret => .ret
  | .exit id => .exit id

def recOf (fn : FuncId) (tmps : Array Value) (ps : Array Tmp) (assign body : Code) (D : Nat) : LS → Loop
  | .ready => { state := .ready, pending := none, fn, tmps, params := ps, assign, body, defers := D }
  | .busy => { state := .busy, pending := none, fn, tmps, params := ps, assign, body, defers := D }
  | .done j => { state := .done, pending := some (jcode j), fn, tmps, params := ps, assign, body, defers := D }

/-- What codeK_sound says of one stretch of code. -/
def Sound (P : Program) (n : Nat) (c : Code) (ic : IC) : Prop :=
  ∀ (rd : Option Nat) (k : Nat) (ds : List Deferred) (f : Fm) (kn : Kont) (ke : Nat → Kont) (kr : Kont) (Q : Exit → Act → World → Prop),
    (∀ a w, AfterD n ds f kn a w → Q .normal a w) → (∀ id a w, AfterD n ds f (ke id) a w → Q (.exit id) a w) → (∀ a w, AfterD n ds f kr a w → Q .ret a w) →
    ∀ a w, AfterD n ds f (codeK P rd ic kn ke kr) a w → c.wpIn (FW rd) k P Q a w

/-- One round. -/
theorem round_ok {fn : FuncId} {tmps : Array Value} {ps : Array Tmp} {ca cb : Code} {ia ib : IC} {D l : Nat} {B : Nat → Nat} {ρ : Env} (hsa : Sound P n ca ia) (hsb : Sound P n cb ib) (hsz : tmps.size = n)
    (hps : ∀ p ∈ ps.toList, p < n) (henv : ∀ i e, look ρ i = some e → tmps[i]? = some (entV B e)) {vs : List Value} {h0 : Hp} {Q : Value → Hp → Prop} (hlen : vs.length = ps.toList.length)
    (hl : h0 l = some (.loop (recOf fn tmps ps ca cb D .ready)))
    (hk : codeK P (some l) ia (fun ρ' β' h' => h' l = some (.loop (recOf fn tmps ps ca cb D .ready)) ∧
          codeK P (some l) ib (fun _ _ h' => h' l = some (.loop (recOf fn tmps ps ca cb D .busy)) ∧ Q (.bool true) (upd h' l (.loop (recOf fn tmps ps ca cb D .ready))))
            (fun id _ _ h' => h' l = some (.loop (recOf fn tmps ps ca cb D .busy)) ∧ Q (.bool false) (upd h' l (.loop (recOf fn tmps ps ca cb D (.done (.exit id))))))
            (fun _ _ h' => h' l = some (.loop (recOf fn tmps ps ca cb D .busy)) ∧ Q (.bool false) (upd h' l (.loop (recOf fn tmps ps ca cb D (.done .ret))))) ρ' β' (upd h' l (.loop (recOf fn tmps ps ca cb D .busy))))
          (fun _ _ _ _ => False) (fun _ _ _ => False) (zipE ps.toList vs ρ) [] h0) : OkY P l vs h0 Q := by
  refine .intro fun w fr hrep => ?_
  have hlw := hrep.vis _ _ hl
  refine ⟨fn, _, ca, cb, w, run_yield hlw (by simp [recOf]; simpa using hlen), ?_⟩
  refine roundIn_of_wpIn (F := FW none) (n := 0) trivial ?_
  have hfold : (ps.zip vs.toArray).foldl (fun tmps (x : Tmp × Value) => tmps.setIfInBounds x.1 x.2) tmps = (ps.toList.zip vs).foldl (fun tmps (x : Nat × Value) => tmps.setIfInBounds x.1 x.2) tmps := by
    rw [← Array.foldl_toList]
    simp
  have hin : AfterD n [] fr (codeK P (some l) ia _ (fun _ _ _ _ => False) (fun _ _ _ => False)) { tmps := (ps.zip vs.toArray).foldl (fun tmps (x : Tmp × Value) => tmps.setIfInBounds x.1 x.2) tmps, defers := [] } w :=
    After.toD ⟨B, _, [], h0, ⟨by rw [hfold]; exact (foldl_size _ _).trans hsz, rfl, by
      intro i e hi
      simp only [hfold]
      exact zipE_env _ _ _ _ (by rw [hsz]; exact hps) henv i e hi⟩, ⟨fun _ _ h => (by cases h), fun _ _ _ _ h => (by cases h), hrep⟩, hk⟩
  have fin : ∀ {kn : Kont} {a : Act} {w : World} (jump : Option Code) (s : LS), (s ≠ .busy) → (recOf fn tmps ps ca cb D s).state = (if jump.isNone then .ready else .done) → (recOf fn tmps ps ca cb D s).pending = jump →
      AfterD n [] fr (fun _ _ h' => h' l = some (.loop (recOf fn tmps ps ca cb D .busy)) ∧ Q (.bool jump.isNone) (upd h' l (.loop (recOf fn tmps ps ca cb D s)))) a w →
      ∃ v w', (Instr.endRound l jump).run P w = .ok v w' ∧ ∃ v' h', Ending.returned v = .returned v' ∧ Q v' h' ∧ Rep w' h' fr := by
    intro kn a w jump s hs h1 h2 ⟨Ds, f', hm, B, ρ, β, h, hf, hw, hlb, hq⟩
    have hr := hm.rep hw.rep
    refine ⟨_, _, run_endRound jump (hr.vis _ _ hlb), _, _, rfl, hq, hr.set hlb ?_⟩
    have he : ({ recOf fn tmps ps ca cb D .busy with state := if jump.isNone then .ready else .done, pending := jump } : Loop) = recOf fn tmps ps ca cb D s := by
      rw [← h1, ← h2]; cases s <;> rfl
    rw [he]
    exact upd_putObj _ (hr.vis _ _ hlb)
  refine hsa (some l) 0 [] fr _ _ _ _ ?_ ?_ ?_ _ _ hin
  · rintro a1 w1 ⟨Ds, f', hm, B', ρ', β', h', hf', hw', hl', hk'⟩
    have hlw' := hw'.rep.vis _ _ hl'
    refine ⟨_, run_beginRound hlw' rfl, ?_⟩
    have hup := upd_putObj (.loop (recOf fn tmps ps ca cb D .busy)) hlw'
    refine hsb (some l) 0 [] fr _ _ _ _ ?_ ?_ ?_ _ _ ⟨Ds, f', hm, B', ρ', β', _, hf', hw'.set hl' hup, hk'⟩
    · intro a w ha; exact fin (kn := fun _ _ _ => True) none .ready (by simp) rfl rfl ha
    · intro id a w ha; exact fin (kn := fun _ _ _ => True) (some (.exit id)) (.done (.exit id)) (by simp) rfl rfl ha
    · intro a w ha; exact fin (kn := fun _ _ _ => True) (some .ret) (.done .ret) (by simp) rfl rfl ha
  · rintro id a w ⟨_, _, _, _, _, _, _, _, _, h⟩; cases h
  · rintro a w ⟨_, _, _, _, _, _, _, _, _, h⟩; cases h

theorem run_enterLoop_in {w : World} {l₀ : Nat} {r₀ : Loop} (h : w.heap[l₀]? = some (.loop r₀)) (fn : FuncId) (tmps : Array Value) (ps : Array Tmp) (assign body : Code) :
    (Instr.enterLoop fn tmps ps assign body (some l₀)).run P w =
      .ok (w.heap.size, []) (w.alloc (.loop { state := .ready, pending := none, fn, tmps, params := ps, assign, body, defers := r₀.defers })) := by
  unfold Instr.enterLoop
  simp only [Sem.run_bind, run_getLoop h, run_newObj_alloc, Result.andThen, Sem.run_pure]

theorem resolve_yield {a : Act} {g : Operand} {l : Nat} {gf : FuncId} {first cap : Array Value} {w : World} (hg : a.eval g = .func (.func gf) first cap) :
    (resolve a.eval (rangeCall g l) 0).run P w = .ok { target := .fn (.func gf) cap, args := first ++ #[.func (.yield l) #[] #[]] } w := by
  simp only [resolve, rangeCall, Deferred.ofValue, hg, Sem.run_pure]
  simp [go_sem]

theorem invoke_func {gf : FuncId} {args cap : Array Value} {w : World} (hc : callable P gf = true) : (invoke (.fn (.func gf) cap) args).run P w = .ok (.enter gf (args ++ cap)) w := by
  unfold callable at hc
  split at hc
  · rename_i fn hf
    simp only [Bool.and_eq_true, Bool.not_eq_true'] at hc
    have hb : fn.body.isNone = false := by cases hq : fn.body <;> simp [hq] at hc ⊢
    simp only [invoke, callFunc, Sem.run_bind, run_program, Result.andThen_ok, Sem.run_pure, hf, hc.1, Bool.false_eq_true, if_false, hb]
  · cases hc

theorem codeK_sound (hm : P.follows .mixedOrders = true) : ∀ (c : Code) (ic : IC), comp P n prom cuts c = some ic → Sound P n c ic := by
  intro c
  induction c with
  | skip => intro ic hc rd k ds f kn ke kr Q qn qe qr a w ha; cases hc; exact wpIn_skip (qn a w ha)
  | label l => intro ic hc rd k ds f kn ke kr Q qn qe qr a w ha; cases hc; exact wpIn_label (qn a w ha)
  | region id ops draw =>
    intro ic hc rd k ds f kn ke kr Q qn qe qr a w ha
    obtain ⟨Ds, f', hmk, ha⟩ := ha
    simp only [comp] at hc
    split at hc
    · split at hc
      · rename_i hd
        split at hc
        · rename_i p hp
          cases hc
          exact regK_sound hm hd hp ha fun a w ha => qn a w ⟨Ds, f', hmk, ha⟩
        · cases hc
      · cases hc
    · split at hc
      · rename_i l hl
        cases hc
        refine region_wpIn (Array.all_eq_true_iff_forall_mem.2 fun o ho => cIs_noDefer hl o (by simpa using ho)) ?_
        exact opsK_sound (fun a w ha => qn a w ⟨Ds, f', hmk, ha⟩) _ l a w hl ha
      · cases hc
  | seq x y ihx ihy =>
    intro ic hc rd k ds f kn ke kr Q qn qe qr a w ha
    simp only [comp] at hc
    split at hc
    · rename_i x' y' hx hy
      cases hc
      split at ha
      · obtain ⟨Ds, f', hmk, B, ρ, β, h, s, hw, hk⟩ := ha
        simp only [codeK] at hk
        unfold cutK at hk
        obtain ⟨σ, E, X, H, Inv, ha, hb⟩ := hk
        refine wpIn_seq (ihx x' hx rd k ds f _ ke kr (Exit.then (y.wpIn (FW rd) k P Q) Q) (fun a w ha => ?_) qe qr a w ⟨Ds, f', hmk, B, ρ, β, h, s, hw, ha⟩)
        obtain ⟨Ds', f'', hmk', B', ρ', β', h', hf', hw', s', hi', g1, g2, rfl⟩ := ha
        exact ihy y' hy rd k ds f kn ke kr Q qn qe qr a w ⟨Ds', f'', hmk', B', _, _, _, hf'.sub g1, hw'.sub g2, hb s' hi'⟩
      · exact wpIn_seq (ihx x' hx rd k ds f _ ke kr (Exit.then (y.wpIn (FW rd) k P Q) Q) (fun a w ha => ihy y' hy rd k ds f kn ke kr Q qn qe qr a w ha) qe qr a w ha)
    · cases hc
  | cond c x y ihx ihy =>
    intro ic hc rd k ds f kn ke kr Q qn qe qr a w ha
    simp only [comp] at hc
    split at hc
    · rename_i x' y' hx hy
      cases hc
      obtain ⟨Ds, f', hmk, B, ρ, β, h, s, hw, hk⟩ := ha
      simp only [codeK] at hk
      rcases condK_spec hk with ⟨ht, hk⟩ | ⟨ht, hk⟩
      · exact wpIn_cond_true (s.ox ht) (ihx x' hx rd k ds f kn ke kr Q qn qe qr a w ⟨Ds, f', hmk, B, ρ, β, h, s, hw, hk⟩)
      · exact wpIn_cond_false (s.ox ht) (ihy y' hy rd k ds f kn ke kr Q qn qe qr a w ⟨Ds, f', hmk, B, ρ, β, h, s, hw, hk⟩)
    · cases hc
  | block id c ih =>
    intro ic hc rd k ds f kn ke kr Q qn qe qr a w ha
    simp only [comp] at hc
    split at hc
    · rename_i x hx
      cases hc
      refine wpIn_block (ih x hx rd k ds f kn _ kr (Exit.inBlock id Q) qn (fun i a w ha => ?_) qr a w ha)
      simp only [Exit.inBlock]
      split
      · rename_i e; subst e; rw [if_pos rfl] at ha; exact qn a w ha
      · rename_i e; rw [if_neg e] at ha; exact qe i a w ha
    · cases hc
  | loop c ih =>
    intro ic hc rd k ds f kn ke kr Q qn qe qr a w ha
    simp only [comp] at hc
    split at hc
    · rename_i x hx
      cases hc
      obtain ⟨Ds, f', hmk, B, ρ, β, h, s, hw, hk⟩ := ha
      simp only [codeK] at hk
      unfold loopK at hk
      obtain ⟨σ, E, X, H, Inv, μ, s0, h0, h1, h2, rfl, hround⟩ := hk
      refine wpIn_loop_rel (fun m a w => ∃ Ds f' B s, Mk f f' Ds ∧ Inv s ∧ m = μ s ∧ Fr n (Ds.map mark ++ ds) B (E s) a ∧ Wd B (X s) (H s) f' w) ⟨_, Ds, f', B, s0, hmk, h0, rfl, s.sub h1, hw.sub h2⟩ ?_
      rintro m a w ⟨Ds, f', B, s, hmk, hi, rfl, hf, hw⟩
      refine ih x hx rd k ds f _ ke kr (Exit.then _ Q) (fun a w ha => ?_) qe qr a w ⟨Ds, f', hmk, B, _, _, _, hf, hw, hround s hi⟩
      obtain ⟨Ds', f'', hmk', B', ρ', β', h', hf', hw', s', hi', hlt, g1, g2, rfl⟩ := ha
      exact ⟨μ s', hlt, Ds', f'', B', s', hmk', hi', rfl, hf'.sub g1, hw'.sub g2⟩
    · cases hc
  | exit id => intro ic hc rd k ds f kn ke kr Q qn qe qr a w ha; cases hc; exact wpIn_exit (qe id a w ha)
  | ret => intro ic hc rd k ds f kn ke kr Q qn qe qr a w ha; cases hc; exact wpIn_ret (qr a w ha)
  | rangeFunc g ps ca cb iha ihb =>
    intro ic hc rd k ds f kn ke kr Q qn qe qr a w ha
    simp only [comp] at hc
    split at hc
    · rename_i x' y' hx hy
      split at hc
      · rename_i hps
        cases hc
        obtain ⟨Ds, f', hmk, B, ρ, β, h, s, hw, hk⟩ := ha
        simp only [codeK] at hk
        unfold rfK at hk
        obtain ⟨rfl, hrd, hk⟩ := hk
        split at hk
        · rename_i gf first cap hox
          obtain ⟨hcall, hk⟩ := hk
          have hg : a.eval g = .func (.func gf) first cap := s.ox hox
          have hlt : ∀ p ∈ ps.toList, p < n := fun p hp => by
            rw [List.all_eq_true] at hps
            simpa using hps p hp
          refine wpIn_rangeFunc fun fn _ => ?_
          -- the record, wherever it lies
          have core : ∀ (l D : Nat) (W1 : World) (mk : List Deferred) (Ds1 : List Nat) (f1 : Fm), Mk f f1 Ds1 → mk ++ a.defers = Ds1.map mark ++ ds → h l = none →
              Rep W1 (upd h l (.loop (recOf fn a.tmps ps ca cb D .ready))) f1 →
              CallsIn (FW rd) (k - 1) P gf (first ++ #[.func (.yield l) #[] #[]] ++ cap) W1 (rangePost (FW rd) k P l Q { a with defers := mk ++ a.defers }) := by
            intro l D W1 mk Ds1 f1 hm1 hdf hl hr1
            have hok := hk l (fun s => .loop (recOf fn a.tmps ps ca cb D s)) hl (fun s => ⟨_, rfl⟩) fun vs h0 Q' hlen hl0 hk0 =>
              round_ok (iha x' hx) (ihb y' hy) s.size hlt s.env hlen hl0 hk0
            refine callsIn_FW.2 ?_
            have harg : (first ++ #[Value.func (.yield l) #[] #[]] ++ cap : Array Value) = (first.toList ++ [Value.func (.yield l) #[] #[]] ++ cap.toList).toArray := by
              apply Array.ext'; simp
            rw [harg]
            refine (hok.run W1 f1 hr1).mono ?_
            rintro e W2 ⟨v, h', rfl, ⟨st, hst, hkk⟩, hr2⟩
            have hlw := hr2.vis _ _ hst
            have hnb : st ≠ .busy := fun e => by subst e; exact hkk (.map #[] 0)
            refine ⟨_, _, run_endLoop hlw (by cases st <;> simp_all [recOf]), ?_⟩
            have hr3 := hr2.set hst (upd_putObj (.loop { recOf fn a.tmps ps ca cb D st with state := .exhausted }) hlw)
            have hfr : Fr n (Ds1.map mark ++ ds) B ρ { a with defers := mk ++ a.defers } := ⟨s.size, hdf, s.env⟩
            have aft : ∀ {K : Kont}, K ρ [] (upd h' l (.loop { recOf fn a.tmps ps ca cb D st with state := .exhausted })) → AfterD n ds f K { a with defers := mk ++ a.defers } (W2.putObj l (.loop { recOf fn a.tmps ps ca cb D st with state := .exhausted })) := fun {K} hK =>
              ⟨Ds1, f1, hm1, B, ρ, [], _, hfr, ⟨fun _ _ h => (by cases h), fun _ _ _ _ h => (by cases h), hr3⟩, hK⟩
            cases st with
            | ready => exact qn _ _ (aft (hkk _))
            | busy => exact absurd rfl hnb
            | done j => cases j with
              | ret => exact wpIn_ret (qr _ _ (aft (hkk _)))
              | exit id => exact wpIn_exit (qe id _ _ (aft (hkk _)))
          cases rd with
          | none =>
            have hr1 : Rep (w.alloc (.deferred (some []))) h { f' with hid := upd f'.hid w.heap.size (.deferred (some [])) } := hw.rep.push_hid rfl
            have hsz : (w.alloc (.deferred (some []))).heap.size = w.heap.size + 1 := World.size_alloc ..
            have hr2 := hr1.push (w' := (w.alloc (.deferred (some []))).alloc (.loop (recOf fn a.tmps ps ca cb w.heap.size .ready))) (o := .loop (recOf fn a.tmps ps ca cb w.heap.size .ready)) rfl
            rw [hsz] at hr2
            refine ⟨w.heap.size + 1, [mark w.heap.size], _, _, _, gf, _, _, run_enterLoop_outer _ _ _ _ _, resolve_yield hg, fun _ _ => trivial, invoke_func hcall, fun hs => by simp [FW] at hs, ?_⟩
            have hfresh : f' w.heap.size = none := hw.rep.fresh_hid
            refine core _ w.heap.size _ _ (w.heap.size :: Ds) { f' with hid := upd f'.hid w.heap.size (.deferred (some [])) } ⟨hmk.base, fun b o hb => ?_, fun D hD => ?_, fun D hD => ?_, ?_⟩ (by rw [s.dfs]; rfl) ?_ hr2
            · show upd f'.hid w.heap.size _ b = some o
              have := hmk.old b o hb
              rw [upd_other (fun e => by subst e; rw [hfresh] at this; cases this)]; exact this
            · show upd f'.hid w.heap.size _ D = _
              rcases List.mem_cons.1 hD with rfl | hD
              · rw [upd_same]
              · have := hmk.new D hD
                rw [upd_other (fun e => by subst e; rw [hfresh] at this; cases this)]; exact this
            · rcases List.mem_cons.1 hD with rfl | hD
              · cases hf : f w.heap.size with
                | none => rfl
                | some o => have := hmk.old _ o hf; rw [hfresh] at this; cases this
              · exact hmk.out D hD
            · refine List.nodup_cons.2 ⟨fun hD => ?_, hmk.nd⟩
              have := hmk.new _ hD
              rw [hfresh] at this; cases this
            · have := hr1.fresh_vis; rw [hsz] at this; exact this
          | some l0 =>
            obtain ⟨r0, hr0⟩ := hrd
            have hr2 := hw.rep.push (w' := w.alloc (.loop (recOf fn a.tmps ps ca cb r0.defers .ready))) (o := .loop (recOf fn a.tmps ps ca cb r0.defers .ready)) rfl
            refine ⟨w.heap.size, [], _, _, _, gf, _, _, run_enterLoop_in (hw.rep.vis _ _ hr0) _ _ _ _ _, resolve_yield hg, fun _ _ => trivial, invoke_func hcall, fun hs => by simp [FW] at hs, ?_⟩
            exact core _ r0.defers _ _ Ds f' hmk (by rw [s.dfs]; rfl) hw.rep.fresh_vis hr2
        · cases hk
      · cases hc
    · cases hc
  | _ => intro ic hc; simp [comp] at hc

/-- The way out past the marks. -/
theorem leaves_marks {fn : Func} {tmps : Array Value} {R : Ending → World → Prop} {h : Hp} {f : Fm} {B : Nat → Nat} {β : Bx} : ∀ (Ds : List Nat) (f' : Fm) (w : World), Mk f f' Ds → Wd B β h f' w →
    (∀ w', Wd B β h f w' → ∃ v, (results fn tmps).run P w' = .ok v w' ∧ R (.returned v) w') → LeavesInM (FW none) 0 P fn tmps R (Ds.map mark) .returning w
  | [], f', w, hm, hw, hR => by
    refine hR w ⟨fun r cs hl => ?_, hw.inj, hm.rep hw.rep⟩
    obtain ⟨ty, h1, h2, h3⟩ := hw.box r cs hl
    refine ⟨ty, h1, h2, ?_⟩
    cases hf : f (B r) with
    | none => rfl
    | some o => rw [hm.old _ o hf] at h3; cases h3
  | D :: Ds, f', w, hm, hw, hR => by
    simp only [List.map_cons]
    have hD := hm.new D (List.mem_cons_self ..)
    have hDw := hw.rep.hid _ _ hD
    refine ⟨by simp, .inl ⟨D, _, rfl, run_takeDeferred hDw, ?_⟩⟩
    have hup := upd_putObj (.deferred none) hDw
    have hne : ∀ b, f' b = none → b ≠ D := fun b hb e => by subst e; rw [hD] at hb; cases hb
    have hnd := List.nodup_cons.1 hm.nd
    refine leaves_marks Ds { f' with hid := fun b => if b = D then none else f' b } _ ⟨hm.base, fun b o hb => ?_, fun E hE => ?_, fun E hE => hm.out E (List.mem_cons_of_mem _ hE), hnd.2⟩ ⟨fun r cs hl => ?_, hw.inj, ?_⟩ hR
    · have : b ≠ D := fun e => by subst e; rw [hm.out b (List.mem_cons_self ..)] at hb; cases hb
      show (if b = D then none else f' b) = some o
      rw [if_neg this]; exact hm.old b o hb
    · have : E ≠ D := fun e => by subst e; exact hnd.1 hE
      show (if E = D then none else f' E) = _
      rw [if_neg this]; exact hm.new E (List.mem_cons_of_mem _ hE)
    · obtain ⟨ty, h1, h2, h3⟩ := hw.box r cs hl
      refine ⟨ty, ?_, h2, ?_⟩
      · rw [hup.get, if_neg (hne _ h3)]; exact h1
      · show (if B r = D then none else f' (B r)) = none
        split
        · rfl
        · exact h3
    · refine ⟨fun b o hb => ?_, fun b o hb => ?_, fun b o hb => ?_, hw.rep.kp.trans hup.still⟩
      · have := hw.rep.dis b o hb
        rw [hup.get, if_neg (hne _ this)]; exact hw.rep.vis b o hb
      · replace hb : (if b = D then none else f' b) = some o := hb
        split at hb
        · cases hb
        · rename_i e; rw [hup.get, if_neg e]; exact hw.rep.hid b o hb
      · show (if b = D then none else f' b) = none
        split
        · rfl
        · exact hw.rep.dis b o hb

/-! ### Calls -/

inductive RV where
  | t (n : Nat)
  | c (n sz : Nat) (ag : Bool)

def cRV (P : Program) : ResultVar → Option RV
  | .tmp t => some (.t t)
  | .cell a t => if (P.info? t).isSome && (P.underlying t).isSome then some (.c a (P.cellsOf t) (isAg P t)) else none

def cRVs (P : Program) : List ResultVar → Option (List RV)
  | [] => some []
  | x :: l => match cRV P x, cRVs P l with
    | some y, some r => some (y :: r)
    | _, _ => none

def rv (h : Hp) (β : Bx) (ρ : Env) : RV → Option Ent
  | .t n => look ρ n
  | .c n sz ag => match look ρ n with
    | some e => pLd sz ag h β e
    | none => none

def rvs (h : Hp) (β : Bx) (ρ : Env) : List RV → Option (List Value)
  | [] => some []
  | x :: l => match rv h β ρ x, rvs h β ρ l with
    | some (.v y), some r => some (y :: r)
    | _, _ => none

def one1 : List Value → Value
  | [x] => x
  | l => .tuple l.toArray

/-- The end of a function. -/
def retK (Q : Value → Hp → Prop) (rs : List RV) (ρ : Env) (β : Bx) (h : Hp) : Prop := match rvs h β ρ rs with
  | some vs => Q (one1 vs) h
  | none => False

theorem mapM_rvs (g : ResultVar → Sem Value) {B : Nat → Nat} {ρ : Env} {β : Bx} {h : Hp} {a : Act} {w : World} (s : Fr n ds B ρ a) (hw : Wd B β h f w) (g1 : ∀ t, g (.tmp t) = pure (a.tmps.getD t undef)) (g2 : ∀ x t, g (.cell x t) = do loadVar t (← asAddr (a.tmps.getD x undef))) :
    ∀ (l : List ResultVar) (rs : List RV) (vs : List Value), cRVs P l = some rs → rvs h β ρ rs = some vs → (l.mapM g).run P w = .ok vs w
  | [], rs, vs, h1, h2 => by
    cases h1; cases h2; rfl
  | x :: l, rs, vs, h1, h2 => by
    simp only [cRVs] at h1
    split at h1
    · rename_i y r hy hr
      cases h1
      simp only [rvs] at h2
      split at h2
      · rename_i v vs' hv hvs
        cases h2
        have ih := mapM_rvs g s hw g1 g2 l r vs' hr hvs
        rw [List.mapM_cons, Sem.run_bind]
        cases x with
        | tmp t =>
          simp only [cRV, Option.some.injEq] at hy
          subst hy
          simp only [rv] at hv
          have := s.env t _ hv
          have h3 : a.tmps.getD t undef = v := by simp [Array.getD_eq_getD_getElem?, this, entV]
          simp only [g1, h3, Sem.run_pure, Result.andThen_ok, Sem.run_bind, ih]
        | cell x t =>
          simp only [cRV] at hy
          split at hy
          · rename_i hi
            simp only [Option.some.injEq] at hy
            subst hy
            rw [Bool.and_eq_true] at hi
            simp only [rv] at hv
            split at hv
            · rename_i e he
              have h3 : a.tmps.getD x undef = entV B e := by simp [Array.getD_eq_getD_getElem?, s.env x _ he]
              obtain ⟨d, hd⟩ := Option.isSome_iff_exists.1 hi.2
              have key : (do loadVar t (← asAddr (a.tmps.getD x undef)) : Sem Value).run P w = .ok v w := by
                rw [h3]
                unfold pLd at hv
                split at hv
                · rename_i b o
                  cases hl : ldO o (P.cellsOf t) (isAg P t) (h b) with
                  | none => simp [hl, toE] at hv
                  | some u =>
                    simp only [hl, toE, Option.some.injEq, Ent.v.injEq] at hv
                    subst hv
                    unfold ldO at hl
                    split at hl
                    · rename_i c ty z hb
                      simp only [entV, asAddr, Sem.run_bind, Sem.run_pure, Result.andThen_ok, run_loadVar' hd hi.1 (hw.rep.vis _ _ hb) hl]
                    · cases hl
                · rename_i r o
                  cases hl : ldL o (P.cellsOf t) (isAg P t) (lookB β r) with
                  | none => simp [hl, toE] at hv
                  | some u =>
                    simp only [hl, toE, Option.some.injEq, Ent.v.injEq] at hv
                    subst hv
                    unfold ldL at hl
                    split at hl
                    · rename_i cs hb
                      obtain ⟨ty, hB⟩ := hw.boxes _ _ hb
                      simp only [entV, asAddr, Sem.run_bind, Sem.run_pure, Result.andThen_ok, run_loadVar' hd hi.1 hB hl]
                    · cases hl
                · cases hv
              simp only [g2, key, Result.andThen_ok, Sem.run_bind, ih, Sem.run_pure]
            · cases hv
          · cases hy
      · cases h2
    · cases h1

theorem results_run {B : Nat → Nat} {ρ : Env} {β : Bx} {h : Hp} {a : Act} {w : World} {fn : Func} {rs : List RV} {Q : Value → Hp → Prop} (s : Fr n ds B ρ a) (hw : Wd B β h f w) (hc : cRVs P fn.results.toList = some rs)
    (hk : retK Q rs ρ β h) : ∃ v, (results fn a.tmps).run P w = .ok v w ∧ Q v h := by
  unfold retK at hk
  split at hk
  · rename_i vs hvs
    refine ⟨_, ?_, hk⟩
    unfold results
    rw [Sem.run_bind, Array.mapM_eq_mapM_toList, Sem.run_map, mapM_rvs (P := P) _ s hw (fun _ => rfl) (fun _ _ => rfl) fn.results.toList rs vs hc hvs]
    simp only [Result.andThen_ok, Sem.run_pure]
    rcases vs with _ | ⟨x, _ | ⟨y, l⟩⟩ <;> rfl
  · cases hk

def argsE : Nat → List Value → Env
  | _, [] => []
  | i, v :: vs => (i, .v v) :: argsE (i + 1) vs

theorem look_argsE : ∀ (vs : List Value) (i t : Nat) (e : Ent), look (argsE i vs) t = some e → ∃ v, e = .v v ∧ i ≤ t ∧ vs[t - i]? = some v
  | [], _, _, _, h => by cases h
  | v :: vs, i, t, e, h => by
    simp only [argsE, look] at h
    split at h
    · rename_i hk; subst hk; cases h; exact ⟨v, rfl, Nat.le_refl _, by simp⟩
    · obtain ⟨v', h1, h2, h3⟩ := look_argsE vs (i + 1) t e h
      refine ⟨v', h1, by omega, ?_⟩
      rw [show t - i = (t - (i + 1)) + 1 by omega]
      simpa using h3

/-- A function's contract, from its code. -/
theorem Ok.of_code (hm : P.follows .mixedOrders = true) {g : FuncId} {fn : Func} {c : Code} {ic : IC} {rs : List RV} {args : List Value} {h : Hp} {Q : Value → Hp → Prop}
    (hf : P.funcs[g]? = some fn) (hb : fn.body = some c) (hn : fn.ntmps = n) (hc : comp P n prom cuts c = some ic) (hr : cRVs P fn.results.toList = some rs) (hl : args.length ≤ n)
    (hk : codeK P none ic (retK Q rs) (fun _ _ _ _ => False) (retK Q rs) (argsE 0 args) [] h) : Ok P g args h Q := by
  refine .intro fun w fr hrep => ?_
  refine (callsIn_FW (r := none) (n := 0)).1 (callsIn_of_wp_marks hf hb trivial ?_)
  subst hn
  have hret : ∀ a w, AfterD fn.ntmps [] fr (retK Q rs) a w → LeavesInM (FW none) 0 P fn a.tmps (fun e w' => ∃ v' h', e = .returned v' ∧ Q v' h' ∧ Rep w' h' fr) a.defers .returning w := by
    rintro a w ⟨Ds, f', hmk, B, ρ, β, h, s, hw, hk⟩
    rw [s.dfs, List.append_nil]
    refine leaves_marks Ds f' w hmk hw fun w' hw' => ?_
    obtain ⟨v, h1, h2⟩ := results_run (ds := Ds.map mark ++ []) s hw' hr hk
    exact ⟨v, h1, v, h, rfl, h2, hw'.rep⟩
  refine codeK_sound hm c ic hc none 0 [] fr _ _ _ _ hret ?_ hret _ w (After.toD ⟨fun _ => 0, argsE 0 args, [], h, ?_, ⟨fun _ _ h => (by cases h), fun _ _ _ _ h => (by cases h), hrep⟩, hk⟩)
  · rintro id a w ⟨_, _, _, _, _, _, _, _, _, h⟩; cases h
  · refine ⟨by simp; omega, rfl, fun t e ht => ?_⟩
    obtain ⟨v, rfl, _, h3⟩ := look_argsE args 0 t e ht
    simp only [Nat.sub_zero] at h3
    have hlt : t < args.length := (List.getElem?_eq_some_iff.1 h3).1
    simp only [entV]
    rw [Array.getElem?_append_left (by simpa using hlt)]
    simpa using h3

theorem Ok.of (hm : P.follows .mixedOrders = true) {g : FuncId} {fn : Func} {ic : IC} {rs : List RV} {args : List Value} {h : Hp} {Q : Value → Hp → Prop}
    (hf : P.funcs[g]? = some fn) (hn : fn.ntmps = n) (hc : fn.body.bind (comp P n prom cuts) = some ic) (hr : cRVs P fn.results.toList = some rs) (hl : Nat.ble args.length n = true)
    (hk : codeK P none ic (retK Q rs) (fun _ _ _ _ => False) (retK Q rs) (argsE 0 args) [] h) : Ok P g args h Q := by
  cases hb : fn.body with
  | none => rw [hb] at hc; cases hc
  | some c => rw [hb] at hc; exact Ok.of_code hm hf hb hn hc hr (Nat.le_of_ble_eq_true hl) hk

end
end Go.Proofs.YthpkgkoojhgedaaDoor.V

/- Steps where the running stops. -/
namespace Go.Proofs.YthpkgkoojhgedaaDoor.V
set_option linter.unusedSectionVars false
set_option linter.unusedVariables false
set_option linter.unusedSimpArgs false
open Go

theorem cond_split {t : Bool} {x y : Prop} (ht : t = true → x) (hf : t = false → y) : condK (some (.v (.bool t))) x y := by
  cases t
  · exact hf rfl
  · exact ht rfl

theorem cond_dec {c : Prop} [Decidable c] {x y : Prop} (ht : c → x) (hf : ¬ c → y) : condK (some (.v (.bool (decide c)))) x y :=
  cond_split (fun h => ht (of_decide_eq_true h)) (fun h => hf (of_decide_eq_false h))

theorem cond_beq {α : Type} [BEq α] [LawfulBEq α] {a b : α} {x y : Prop} (ht : a = b → x) (hf : a ≠ b → y) : condK (some (.v (.bool (a == b)))) x y :=
  cond_split (fun h => ht (by simpa using h)) (fun h => hf (by simpa using h))

theorem cond_bne {α : Type} [BEq α] [LawfulBEq α] {a b : α} {x y : Prop} (ht : a ≠ b → x) (hf : a = b → y) : condK (some (.v (.bool (a != b)))) x y :=
  cond_split (fun h => ht (by simpa using h)) (fun h => hf (by simpa using h))

theorem opt_if {α : Type} {c : Prop} [Decidable c] {a b : Option α} {K : α → Prop} (hc : c) (h : optK a K) : optK (if c then a else b) K := by rw [if_pos hc]; exact h

theorem opt_some {α : Type} {o : Option α} {x : α} {K : α → Prop} (ho : o = some x) (h : K x) : optK o K := by rw [ho]; exact h

theorem opt_ld {h : Hp} {b o sz : Nat} {ag : Bool} {c : Array Value} {ty : TypeId} {z : Nat × Nat} {v : Value} {K : Ent → Prop} (hb : h b = some (.cells c ty z)) (hv : rd c o sz ag = some v) (hk : K (.v v)) :
    optK (toE (ldO o sz ag (h b))) K := by
  rw [hb]; simp only [ldO, hv, toE, optK]; exact hk

theorem opt_st {h : Hp} {b o sz : Nat} {β : Bx} {x : Value} {c : Array Value} {ty : TypeId} {z : Nat × Nat} {K : Hp × Bx → Prop} (hb : h b = some (.cells c ty z)) (h1 : x.cells.size = sz) (h2 : o + sz ≤ c.size) (h3 : z.2 ≤ o ∨ o + sz ≤ z.1)
    (h4 : x.cells.toList.all one = true) (hk : K (upd h b (.cells (wr c o x.cells.toList) ty z), β)) :
    optK (pSt sz h β (.v (.pointer (some ⟨b, o, none⟩))) (.v x)) K := by
  simp only [pSt, stO, hb]
  rw [if_pos ⟨h1, h2, h3, h4⟩]
  exact hk

theorem subE_cons {t : Nat} {e : Ent} {r ρ : Env} (h : look ρ t = some e) (hr : subE r ρ) : subE ((t, e) :: r) ρ := ⟨h, hr⟩
theorem subE_nil {ρ : Env} : subE [] ρ := trivial
theorem subB_cons {t : Nat} {e : List Value} {r ρ : Bx} (h : lookB ρ t = some e) (hr : subB r ρ) : subB ((t, e) :: r) ρ := ⟨h, hr⟩
theorem subB_nil {ρ : Bx} : subB [] ρ := trivial

theorem wrap_nat {n : Nat} (h : n + 1 < 2 ^ 63) : IntKind.i64.wrap ((n : Int) + 1) = ((n + 1 : Nat) : Int) := by
  rw [wrap_i64 (by omega) (by omega)]; rfl

theorem int_eq {t : Nat} {x y : Int} {ρ : Env} {k : IntKind} (h : x = y) (hl : look ρ t = some (.v (.int k x))) : look ρ t = some (.v (.int k y)) := by rw [hl, h]

theorem cut_intro {a : Kont → Kont} {b : Kont} {ρ : Env} {β : Bx} {h : Hp} {σ : Type} (E : σ → Env) (X : σ → Bx) (H : σ → Hp) (Inv : σ → Prop)
    (ha : a (fun ρ' β' h' => ∃ s, Inv s ∧ subE (E s) ρ' ∧ subB (X s) β' ∧ h' = H s) ρ β h) (hb : ∀ s, Inv s → b (E s) (X s) (H s)) : cutK a b ρ β h := by
  unfold cutK
  exact ⟨σ, E, X, H, Inv, ha, hb⟩

/-- A loop over i : what it keeps, what shrinks. -/
theorem loop_intro {body : Kont → Kont} {ρ : Env} {β : Bx} {h : Hp} {σ : Type} (E : σ → Env) (X : σ → Bx) (H : σ → Hp) (Inv : σ → Prop) (μ : σ → Nat) (s : σ) (h0 : Inv s) (h1 : subE (E s) ρ) (h2 : subB (X s) β) (h3 : h = H s)
    (hr : ∀ s, Inv s → body (fun ρ' β' h' => ∃ s', Inv s' ∧ μ s' < μ s ∧ subE (E s') ρ' ∧ subB (X s') β' ∧ h' = H s') (E s) (X s) (H s)) : loopK body ρ β h := by
  unfold loopK
  exact ⟨σ, E, X, H, Inv, μ, s, h0, h1, h2, h3, hr⟩

/-- A loop over a function: the iterator's contract, given what a round does. -/
theorem rf_intro {P : Program} {rd : Option Nat} {ps : List Nat} {assign body : Nat → Tr} {gf : FuncId} {first cap : Array Value} {kn : Kont} {ke : Nat → Kont} {kr : Kont} {ρ : Env} {h : Hp} (hrd : rdOk rd h) (hc : callable P gf = true)
    (hk : ∀ (l : Nat) (R : LS → Obj), h l = none → (∀ s, ∃ r, R s = .loop r) →
      (∀ vs h0 Q, vs.length = ps.length → h0 l = some (R .ready) →
        assign l (fun ρ' β' h' => h' l = some (R .ready) ∧
          body l (fun _ _ h' => h' l = some (R .busy) ∧ Q (.bool true) (upd h' l (R .ready)))
            (fun id _ _ h' => h' l = some (R .busy) ∧ Q (.bool false) (upd h' l (R (.done (.exit id)))))
            (fun _ _ h' => h' l = some (R .busy) ∧ Q (.bool false) (upd h' l (R (.done .ret)))) ρ' β' (upd h' l (R .busy)))
          (fun _ _ _ _ => False) (fun _ _ _ => False) (zipE ps vs ρ) [] h0 → OkY P l vs h0 Q) →
      Ok P gf (first.toList ++ [.func (.yield l) #[] #[]] ++ cap.toList) (upd h l (R .ready)) (fun _ h' => ∃ s, h' l = some (R s) ∧ ∀ o, match s with
        | .ready => kn ρ [] (upd h' l o)
        | .done (.exit id) => ke id ρ [] (upd h' l o)
        | .done .ret => kr ρ [] (upd h' l o)
        | .busy => False)) : rfK P rd ps assign body (some (.v (.func (.func gf) first cap))) kn ke kr ρ [] h := by
  unfold rfK
  exact ⟨rfl, hrd, hc, hk⟩

end Go.Proofs.YthpkgkoojhgedaaDoor.V
