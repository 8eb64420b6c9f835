/- The looks: each is the program's own operation, and leaves the world. -/
import Derived.Test.YtkmknolkblcbeaaV5
namespace Go.Proofs.Ytkmknolkblcbeaa.V
set_option linter.unusedSectionVars false
set_option linter.unusedVariables false
set_option linter.unusedSimpArgs false
open Go

section
variable {P : Program} {w : World} {h : Hp} {f : Fm} {B : Nat → Nat} {β : Bx} {ρ : Operand → Value}

theorem map1 {x : Operand} {es : List Ent} (hm : [x].map ρ = es.map (entV B)) : ∃ e, es = [e] ∧ ρ x = entV B e := by
  cases es with
  | nil => simp at hm
  | cons e es => cases es with
    | nil => simp at hm; exact ⟨e, rfl, hm⟩
    | cons a b => simp at hm
theorem map2 {x y : Operand} {es : List Ent} (hm : [x, y].map ρ = es.map (entV B)) : ∃ e u, es = [e, u] ∧ ρ x = entV B e ∧ ρ y = entV B u := by
  cases es with
  | nil => simp at hm
  | cons e es =>
    simp only [List.map_cons, List.cons.injEq] at hm
    obtain ⟨u, rfl, hu⟩ := map1 (x := y) (ρ := ρ) (B := B) (es := es) (by simpa using hm.2)
    exact ⟨e, u, rfl, hm.1, hu⟩
theorem map3 {x y z : Operand} {es : List Ent} (hm : [x, y, z].map ρ = es.map (entV B)) : ∃ e u v, es = [e, u, v] ∧ ρ x = entV B e ∧ ρ y = entV B u ∧ ρ z = entV B v := by
  cases es with
  | nil => simp at hm
  | cons e es =>
    simp only [List.map_cons, List.cons.injEq] at hm
    obtain ⟨u, v, rfl, hu⟩ := map2 (x := y) (y := z) (ρ := ρ) (B := B) (es := es) (by simpa using hm.2)
    exact ⟨e, u, v, rfl, hm.1, hu⟩

theorem run_nilc {o : Oper} {x : Operand} {e e' : Ent} (ho : o.op = .nilCheck x) (hx : ρ x = entV B e) (hp : pNil e = some e') :
    (execOp ρ o).run P w = .ok (.value (entV B e')) w := by
  unfold pNil at hp
  split at hp <;> cases hp <;> simp [execOp, ho, hx, entV]

theorem run_fa {o : Oper} {s : TypeId} {x : Operand} {k : Nat} {fs : Array Field} {fl : Field} {e e' : Ent} (ho : o.op = .fieldAddr s x k) (hs : P.underlying s = some (.struct fs)) (hk : fs[k]? = some fl)
    (hz : P.cellsOf fl.type ≠ 0) (hx : ρ x = entV B e) (hp : pFa fl.offset e = some e') : (execOp ρ o).run P w = .ok (.value (entV B e')) w := by
  have key : ∀ b o, (Instr.fieldAt s (.pointer (some ⟨b, o, none⟩)) k).run P w = .ok (.pointer (some ⟨b, o + fl.offset, none⟩)) w := fun b o => by
    simp only [Instr.fieldAt, Sem.run_bind, run_underlying' hs, Result.andThen_ok, hk, Instr.sureAddr, Sem.run_pure, fieldPlace, run_sizeOf_c (info_of_cells hz), hz, if_false, Sem.run_ite, add_mk]
  unfold pFa at hp
  split at hp <;> cases hp <;> simp [execOp, ho, hx, entV, key]

theorem run_iaS {o : Oper} {t el : TypeId} {x i : Operand} {e u e' : Ent} (ho : o.op = .indexAddr t x i) (ht : P.underlying t = some (.slice el)) (hi : (P.info? el).isSome = true)
    (hx : ρ x = entV B e) (hu : ρ i = entV B u) (hp : pIaS (P.cellsOf el) e u = some e') : (execOp ρ o).run P w = .ok (.value (entV B e')) w := by
  unfold pIaS at hp
  split at hp
  · rename_i b o' len cap k n
    split at hp
    · rename_i hn
      cases hp
      simp only [execOp, ho, hx, hu, entV, Instr.indexAt, asIntOf, Sem.run_bind, Sem.run_pure, run_underlying' ht, Result.andThen_ok, Bool.and_false, Sem.run_ite, if_pos hn, run_sizeOf_c hi, add_mk]
    · cases hp
  · cases hp

theorem run_iaA {o : Oper} {t el : TypeId} {n : Nat} {x i : Operand} {e u e' : Ent} (ho : o.op = .indexAddr t x i) (ht : P.underlying t = some (.array n el)) (hi : (P.info? el).isSome = true)
    (hx : ρ x = entV B e) (hu : ρ i = entV B u) (hp : pIaA n (P.cellsOf el) e u = some e') : (execOp ρ o).run P w = .ok (.value (entV B e')) w := by
  have key : ∀ b o k (j : Int), 0 ≤ j ∧ j < (n : Int) → (Instr.indexAt t (.pointer (some ⟨b, o, none⟩)) (.int k j)).run P w = .ok (.pointer (some ⟨b, o + j.toNat * P.cellsOf el, none⟩)) w := fun b o k j hj => by
    simp only [Instr.indexAt, asIntOf, Sem.run_bind, Sem.run_pure, run_underlying' ht, Result.andThen_ok, Instr.sureAddr, Sem.run_ite, if_pos hj, run_sizeOf_c hi, add_mk]
  unfold pIaA at hp
  split at hp
  · split at hp <;> cases hp
    rename_i hn
    simp only [execOp, ho, hx, hu, entV, Sem.run_bind, key _ _ _ _ hn, Result.andThen_ok, Sem.run_pure]
  · split at hp <;> cases hp
    rename_i hn
    simp only [execOp, ho, hx, hu, entV, Sem.run_bind, key _ _ _ _ hn, Result.andThen_ok, Sem.run_pure]
  · cases hp

theorem run_ld {o : Oper} {t : TypeId} {d : TypeDesc} {x : Operand} {e e' : Ent} (hr : Rep w h f) (hβ : ∀ r cs, lookB β r = some cs → ∃ ty, w.heap[B r]? = some (.cells cs.toArray ty (0, 0)))
    (ho : o.op = .load t x) (ht : P.underlying t = some d) (hi : (P.info? t).isSome = true) (hx : ρ x = entV B e) (hp : pLd (P.cellsOf t) (isAg P t) h β e = some e') :
    (execOp ρ o).run P w = .ok (.value (entV B e')) w := by
  unfold pLd at hp
  split at hp
  · rename_i b o'
    cases hl : ldO o' (P.cellsOf t) (isAg P t) (h b) with
    | none => simp [hl, toE] at hp
    | some v =>
      simp only [hl, toE, Option.some.injEq] at hp
      subst hp
      unfold ldO at hl
      split at hl
      · rename_i c ty z hb
        simp only [execOp, ho, hx, entV, Instr.loadAt, Instr.sureAddr, Sem.run_bind, Sem.run_pure, Result.andThen_ok, run_loadVar' ht hi (hr.vis _ _ hb) hl]
      · cases hl
  · rename_i r o'
    cases hl : ldL o' (P.cellsOf t) (isAg P t) (lookB β r) with
    | none => simp [hl, toE] at hp
    | some v =>
      simp only [hl, toE, Option.some.injEq] at hp
      subst hp
      unfold ldL at hl
      split at hl
      · rename_i cs hb
        obtain ⟨ty, hB⟩ := hβ _ _ hb
        simp only [execOp, ho, hx, entV, Instr.loadAt, Instr.sureAddr, Sem.run_bind, Sem.run_pure, Result.andThen_ok, run_loadVar' ht hi hB hl]
      · cases hl
  · cases hp

theorem run_fld {o : Oper} {t : TypeId} {d : TypeDesc} {x : Operand} {k : Nat} {fs : Array Field} {fl : Field} {e e' : Ent} (ho : o.op = .field t x k) (hs : P.underlying t = some (.struct fs)) (hk : fs[k]? = some fl)
    (hi : (P.info? fl.type).isSome = true) (hd : P.underlying fl.type = some d) (hx : ρ x = entV B e) (hp : pFld fl.offset (P.cellsOf fl.type) (isAg P fl.type) e = some e') :
    (execOp ρ o).run P w = .ok (.value (entV B e')) w := by
  unfold pFld at hp
  split at hp
  · rename_i cs
    generalize hl : (if isAg P fl.type then some (.agg (sub cs fl.offset (P.cellsOf fl.type))) else cs[fl.offset]?) = r at hp
    rw [sub_eq] at hl
    cases r with
    | none => simp [toE] at hp
    | some v =>
      simp only [toE, Option.some.injEq] at hp
      subst hp
      simp only [execOp, ho, hx, entV, Instr.field, asAgg, Sem.run_bind, Sem.run_pure, run_underlying' hs, hk, Result.andThen_ok, run_part' hd hi hl]
  · cases hp

theorem run_bin {o : Oper} {op : BinOp} {t yt : TypeId} {x y : Operand} {e u : Ent} {v : Value} (ho : o.op = .binOp op t x y yt) (hx : ρ x = entV B e) (hu : ρ y = entV B u)
    (hg : (eqGuard op t x y (entV B e) (entV B u)).run P w = .ok () w) (hb : (binOp op t (entV B e) (entV B u)).run P w = .ok v w) : (execOp ρ o).run P w = .ok (.value v) w := by
  simp only [execOp, ho, hx, hu, Sem.run_bind, hg, hb, Result.andThen_ok, Sem.run_pure]

theorem guard_int {op : BinOp} {t : TypeId} {x y : Operand} {k k' : IntKind} {a b : Int} : (eqGuard op t x y (.int k a) (.int k' b)).run P w = .ok () w := by cases op <;> simp [eqGuard]
theorem guard_str {op : BinOp} {t : TypeId} {x y : Operand} {a b : ByteArray} : (eqGuard op t x y (.string a) (.string b)).run P w = .ok () w := by cases op <;> simp [eqGuard]

theorem run_ar {o : Oper} {op : BinOp} {t yt : TypeId} {x y : Operand} {e u e' : Ent} (ho : o.op = .binOp op t x y yt) (hx : ρ x = entV B e) (hu : ρ y = entV B u) (hp : pAr op e u = some e') :
    (execOp ρ o).run P w = .ok (.value (entV B e')) w := by
  unfold pAr at hp
  split at hp
  · split at hp
    · rename_i hk; subst hk
      split at hp <;> cases hp <;> exact run_bin ho hx hu guard_int (by simp [binOp, entV, Op.intArith])
    · cases hp
  · cases hp

theorem run_cm {o : Oper} {op : BinOp} {t yt : TypeId} {x y : Operand} {e u e' : Ent} (ho : o.op = .binOp op t x y yt) (hx : ρ x = entV B e) (hu : ρ y = entV B u) (hp : pCm op e u = some e') :
    (execOp ρ o).run P w = .ok (.value (entV B e')) w := by
  unfold pCm at hp
  split at hp
  · split at hp
    · rename_i hk; subst hk
      split at hp <;> cases hp <;> exact run_bin ho hx hu guard_int (by simp [binOp, entV, Op.intCmp])
    · cases hp
  · cases hp

theorem run_bt {o : Oper} {op : BinOp} {t yt : TypeId} {x y : Operand} {e u e' : Ent} (ho : o.op = .binOp op t x y yt) (hx : ρ x = entV B e) (hu : ρ y = entV B u) (hp : pBt op e u = some e') :
    (execOp ρ o).run P w = .ok (.value (entV B e')) w := by
  unfold pBt at hp
  split at hp
  · split at hp
    · rename_i hk; subst hk
      split at hp
      · rename_i n hn
        cases hp
        unfold bits2 at hn
        split at hn <;> cases hn <;> exact run_bin ho hx hu guard_int (by simp [binOp, entV, Op.intBits])
      · cases hp
    · cases hp
  · cases hp

theorem run_dv {o : Oper} {op : BinOp} {t yt : TypeId} {x y : Operand} {e u e' : Ent} (ho : o.op = .binOp op t x y yt) (hx : ρ x = entV B e) (hu : ρ y = entV B u) (hp : pDv op e u = some e') :
    (execOp ρ o).run P w = .ok (.value (entV B e')) w := by
  unfold pDv at hp
  split at hp
  · split at hp
    · rename_i hk; obtain ⟨hk, hb⟩ := hk; subst hk
      split at hp <;> cases hp <;> exact run_bin ho hx hu guard_int (by simp [binOp, entV, Op.intDiv, hb])
    · cases hp
  · cases hp

theorem run_sh {o : Oper} {op : BinOp} {t yt : TypeId} {x y : Operand} {e u e' : Ent} (ho : o.op = .binOp op t x y yt) (hx : ρ x = entV B e) (hu : ρ y = entV B u) (hp : pSh op e u = some e') :
    (execOp ρ o).run P w = .ok (.value (entV B e')) w := by
  unfold pSh at hp
  split at hp
  · split at hp
    · rename_i hb
      have hb' : ¬ (_ : Int) < 0 := Int.not_lt.2 hb
      split at hp <;> cases hp <;> exact run_bin ho hx hu guard_int (by simp [binOp, entV, Op.shift, hb'])
    · cases hp
  · cases hp

theorem run_sop {o : Oper} {op : BinOp} {t yt : TypeId} {x y : Operand} {e u e' : Ent} (ho : o.op = .binOp op t x y yt) (hx : ρ x = entV B e) (hu : ρ y = entV B u) (hp : pSop op e u = some e') :
    (execOp ρ o).run P w = .ok (.value (entV B e')) w := by
  unfold pSop at hp
  split at hp
  · split at hp <;> cases hp <;> exact run_bin ho hx hu guard_str (by simp [binOp, entV, Op.stringOp, beq_toListBytes])
  · cases hp

theorem bin_eql {t : TypeId} {a b : Value} {e : EqT} {r : Bool} (hr : Rep w h f) (hn : isIntT P t = false) (hs : isStrT P t = false) (ht : eqT P t = some e) (he : eqV h e a b = some r) :
    (binOp .eql t a b).run P w = .ok (.bool r) w ∧ (binOp .neq t a b).run P w = .ok (.bool (!r)) w := by
  have hq := eqT_run hr ht he
  have hne : (∀ k n, a ≠ .int k n) ∧ (∀ s, a ≠ .string s) ∧ (∀ k n, a ≠ .float k n) ∧ (∀ k n m, a ≠ .complex k n m) := by
    have notint : e ≠ .one .i := fun hc => by
      subst hc
      unfold eqT at ht
      split at ht
      · split at ht
        · cases ht
        · cases hf : flat P 40 t 0 (P.cellsOf t) <;> simp [hf] at ht
      · cases hsc : sc P t with
        | none => simp [hsc] at ht
        | some q =>
          simp [hsc] at ht; subst ht
          obtain ⟨k, hk⟩ := sc_inv hsc
          simp [isIntT, hk] at hn
    have notstr : e ≠ .one .s := fun hc => by
      subst hc
      unfold eqT at ht
      split at ht
      · split at ht
        · cases ht
        · cases hf : flat P 40 t 0 (P.cellsOf t) <;> simp [hf] at ht
      · cases hsc : sc P t with
        | none => simp [hsc] at ht
        | some q =>
          simp [hsc] at ht; subst ht
          have hk := sc_inv hsc
          simp [isStrT, hk] at hs
    unfold eqV at he
    split at he
    · rename_i q x y
      unfold eqS at he
      split at he <;> first | exact absurd rfl notint | exact absurd rfl notstr | (cases he; done) | exact ⟨fun _ _ => by simp, fun _ => by simp, fun _ _ => by simp, fun _ _ _ => by simp⟩
    · exact ⟨fun _ _ => by simp, fun _ => by simp, fun _ _ => by simp, fun _ _ _ => by simp⟩
    · cases he
  obtain ⟨h1, h2, h3, h4⟩ := hne
  constructor
  · cases a <;> first | exact absurd rfl (h1 _ _) | exact absurd rfl (h2 _) | exact absurd rfl (h3 _ _) | exact absurd rfl (h4 _ _ _) | (cases b <;> simp [binOp, hq])
  · cases a <;> first | exact absurd rfl (h1 _ _) | exact absurd rfl (h2 _) | exact absurd rfl (h3 _ _) | exact absurd rfl (h4 _ _ _) | (cases b <;> simp [binOp, hq])

theorem run_eq {o : Oper} {op : BinOp} {t yt : TypeId} {x y : Operand} {e u e' : Ent} {q : EqT} (hr : Rep w h f) (ho : o.op = .binOp op t x y yt) (hop : isEq op = true) (hn : isIntT P t = false) (hs : isStrT P t = false)
    (ht : eqT P t = some q) (hx : ρ x = entV B e) (hu : ρ y = entV B u) (hp : pEq (isNeq op) q h e u = some e') : (execOp ρ o).run P w = .ok (.value (entV B e')) w := by
  unfold pEq at hp
  split at hp
  · rename_i a b
    split at hp
    · rename_i r he
      cases hp
      refine run_bin ho hx hu (eqGuard_run ht he) ?_
      obtain ⟨h1, h2⟩ := bin_eql (w := w) hr hn hs ht he
      cases op <;> simp [isEq] at hop
      · simpa [entV, isNeq] using h1
      · simpa [entV, isNeq] using h2
    · cases hp
  · cases hp

theorem run_un {o : Oper} {op : UnOp} {t : TypeId} {x : Operand} {e e' : Ent} (ho : o.op = .unOp op t x) (hx : ρ x = entV B e) (hp : pUn op e = some e') :
    (execOp ρ o).run P w = .ok (.value (entV B e')) w := by
  unfold pUn at hp
  split at hp
  · split at hp <;> cases hp
    simp [execOp, ho, hx, entV, Op.unary]
  · split at hp
    · cases hp; simp [execOp, ho, hx, entV, Op.unary, Op.intArith]
    · split at hp
      · rename_i m hm
        cases hp
        simp only [bits2, Option.some.injEq] at hm
        rw [← hm]
        simp only [execOp, ho, hx, entV, Op.unary, Op.intBits, Sem.run_bind, Sem.run_pure, Result.andThen_ok]
      · cases hp
    · cases hp
  · cases hp

theorem run_cv {o : Oper} {s d : TypeId} {k : IntKind} {x : Operand} {e e' : Ent} (ho : o.op = .convert s d x) (hs : isIntT P s = true) (hd : P.underlying d = some (.int k)) (hx : ρ x = entV B e) (hp : pCv k e = some e') :
    (execOp ρ o).run P w = .ok (.value (entV B e')) w := by
  unfold isIntT at hs
  split at hs
  · rename_i k' hk
    unfold pCv at hp
    split at hp <;> cases hp
    simp only [execOp, ho, hx, entV, convert, Sem.run_bind, run_underlying' hk, run_underlying' hd, Result.andThen_ok, Conv.intToInt, Sem.run_pure]
  · cases hs

theorem run_ext {o : Oper} {x : Operand} {i : Nat} {e e' : Ent} (ho : o.op = .extract x i) (hx : ρ x = entV B e) (hp : pExt i e = some e') :
    (execOp ρ o).run P w = .ok (.value (entV B e')) w := by
  unfold pExt at hp
  split at hp
  · rename_i vs
    cases hv : vs[i]? with
    | none => simp [hv, toE] at hp
    | some v => simp only [hv, toE, Option.some.injEq] at hp; subst hp; simp [execOp, ho, hx, entV, Instr.extract, hv]
  · cases hp

theorem run_builtin {o : Oper} {b : Builtin} {args : Array Operand} {ts : Array TypeId} (ho : o.op = .call { callee := .builtin b, args := args, argTypes := ts }) :
    (execOp ρ o).run P w = (builtin b ts o.type (args.map fun | .const _ => true | _ => false) (args.map ρ)).run P w := by
  simp only [execOp, ho, resolve, Sem.run_bind, Sem.run_pure, Result.andThen_ok, invoke]
  rfl

theorem mapO_spec {ob : Option Obj} {es : List MapEntry} (hm : mapO ob = some es) : ∃ a c, ob = some (.map a c) ∧ es = a.toList := by
  unfold mapO at hm
  split at hm
  · rename_i a c; cases hm; exact ⟨a, c, rfl, rfl⟩
  · cases hm

theorem run_getObj_map {r : Nat} {a : Array MapEntry} {c : Nat} (hb : w.heap[r]? = some (.map a c)) : (getObj r).run P w = .ok (.map a c) w := by
  simp [getObj, Sem.run, hb]

theorem run_lenS {o : Oper} {t el : TypeId} {x : Operand} {args : Array Operand} {ts : Array TypeId} {e e' : Ent} (ho : o.op = .call { callee := .builtin .len, args := args, argTypes := ts })
    (ha : args.toList = [x]) (ht : ts[0]? = some t) (hu : P.underlying t = some (.slice el)) (hx : ρ x = entV B e) (hp : pLenS e = some e') :
    (execOp ρ o).run P w = .ok (.value (entV B e')) w := by
  have hargs : args = #[x] := by rw [← Array.toArray_toList (xs := args), ha]
  subst hargs
  rw [run_builtin ho]
  unfold pLenS at hp
  split at hp <;> cases hp
  simp [builtin, Builtin.len_, ht, hx, entV, run_underlying' hu, goInt]

theorem run_lenT {o : Oper} {t : TypeId} {x : Operand} {args : Array Operand} {ts : Array TypeId} {e e' : Ent} (ho : o.op = .call { callee := .builtin .len, args := args, argTypes := ts })
    (ha : args.toList = [x]) (ht : ts[0]? = some t) (hu : P.underlying t = some .string) (hx : ρ x = entV B e) (hp : pLenT e = some e') :
    (execOp ρ o).run P w = .ok (.value (entV B e')) w := by
  have hargs : args = #[x] := by rw [← Array.toArray_toList (xs := args), ha]
  subst hargs
  rw [run_builtin ho]
  unfold pLenT at hp
  split at hp <;> cases hp
  simp [builtin, Builtin.len_, ht, hx, entV, run_underlying' hu, goInt]

theorem run_lenM {o : Oper} {t k el : TypeId} {x : Operand} {args : Array Operand} {ts : Array TypeId} {e e' : Ent} (hr : Rep w h f) (ho : o.op = .call { callee := .builtin .len, args := args, argTypes := ts })
    (ha : args.toList = [x]) (ht : ts[0]? = some t) (hu : P.underlying t = some (.map k el)) (hx : ρ x = entV B e) (hp : pLenM h e = some e') :
    (execOp ρ o).run P w = .ok (.value (entV B e')) w := by
  have hargs : args = #[x] := by rw [← Array.toArray_toList (xs := args), ha]
  subst hargs
  rw [run_builtin ho]
  unfold pLenM at hp
  split at hp
  · cases hp
    simp [builtin, Builtin.len_, ht, hx, entV, run_underlying' hu, goInt]
  · split at hp
    · rename_i r es hm
      cases hp
      obtain ⟨a, c, hob, rfl⟩ := mapO_spec hm
      simp [builtin, Builtin.len_, ht, hx, entV, run_underlying' hu, goInt, run_getObj_map (hr.vis _ _ hob)]
    · cases hp
  · cases hp

theorem run_minmax {o : Oper} {x y : Operand} {args : Array Operand} {ts : Array TypeId} {e u e' : Ent} {mx : Bool} (ho : o.op = .call { callee := .builtin (if mx then .max else .min), args := args, argTypes := ts })
    (ha : args.toList = [x, y]) (hx : ρ x = entV B e) (hu : ρ y = entV B u) (hp : (if mx then pMax2 e u else pMin2 e u) = some e') :
    (execOp ρ o).run P w = .ok (.value (entV B e')) w := by
  have hargs : args = #[x, y] := by rw [← Array.toArray_toList (xs := args), ha]
  subst hargs
  rw [run_builtin ho]
  cases mx
  · simp only [Bool.false_eq_true, if_false] at hp ⊢
    unfold pMin2 at hp
    split at hp
    · split at hp
      · rename_i hk; subst hk; cases hp
        simp [builtin, Builtin.min_, hx, hu, entV, Builtin.min2]
      · cases hp
    · cases hp
  · simp only [if_true] at hp ⊢
    unfold pMax2 at hp
    split at hp
    · split at hp
      · rename_i hk; subst hk; cases hp
        simp [builtin, Builtin.max_, hx, hu, entV, Builtin.max2]
      · cases hp
    · cases hp

theorem run_minmax3 {o : Oper} {x y z : Operand} {args : Array Operand} {ts : Array TypeId} {e u v e1 e' : Ent} {mx : Bool} (ho : o.op = .call { callee := .builtin (if mx then .max else .min), args := args, argTypes := ts })
    (ha : args.toList = [x, y, z]) (hx : ρ x = entV B e) (hu : ρ y = entV B u) (hv : ρ z = entV B v) (hp1 : (if mx then pMax2 e u else pMin2 e u) = some e1) (hp : (if mx then pMax2 e1 v else pMin2 e1 v) = some e') :
    (execOp ρ o).run P w = .ok (.value (entV B e')) w := by
  have hargs : args = #[x, y, z] := by rw [← Array.toArray_toList (xs := args), ha]
  subst hargs
  rw [run_builtin ho]
  cases mx
  · simp only [Bool.false_eq_true, if_false] at hp hp1 ⊢
    unfold pMin2 at hp1
    split at hp1
    · split at hp1
      · rename_i hk; subst hk; cases hp1
        unfold pMin2 at hp
        split at hp
        · split at hp
          · rename_i hk; subst hk; cases hp; have heq := ‹Ent.v (Value.int _ (ite _ _ _)) = _›; cases heq
            simp [builtin, Builtin.min_, hx, hu, hv, entV, Builtin.min2]
          · cases hp
        · cases hp
      · cases hp1
    · cases hp1
  · simp only [if_true] at hp hp1 ⊢
    unfold pMax2 at hp1
    split at hp1
    · split at hp1
      · rename_i hk; subst hk; cases hp1
        unfold pMax2 at hp
        split at hp
        · split at hp
          · rename_i hk; subst hk; cases hp; have heq := ‹Ent.v (Value.int _ (ite _ _ _)) = _›; cases heq
            simp [builtin, Builtin.max_, hx, hu, hv, entV, Builtin.max2]
          · cases hp
        · cases hp
      · cases hp1
    · cases hp1

end

end Go.Proofs.Ytkmknolkblcbeaa.V
