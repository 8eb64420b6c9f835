/- The language's operations out of the program's own, and that each does what is said of it. -/
import Derived.Test.YtkmknolkblcbeaaV3
import Derived.Laws.StructEq
namespace Go.Proofs.Ytkmknolkblcbeaa.V
set_option linter.unusedSectionVars false
set_option linter.unusedVariables false
set_option linter.unusedSimpArgs false
open Go

def cx : Operand → X
  | .tmp t => .t t
  | .const v => .c v
  | .global g => .c (.pointer (some ⟨g, 0, none⟩))
  | .func f => .c (.func (.func f) #[] #[])

def entV (B : Nat → Nat) : Ent → Value
  | .v x => x
  | .l r o => .pointer (some ⟨B r, o, none⟩)

structure St (n : Nat) (ds : List Deferred) (B : Nat → Nat) (ρ : Env) (β : Bx) (h : Hp) (f : Fm) (a : Act) (w : World) : Prop where
  size : a.tmps.size = n
  dfs : a.defers = ds
  env : ∀ t e, look ρ t = some e → a.tmps[t]? = some (entV B e)
  box : ∀ r cs, lookB β r = some cs → ∃ ty, w.heap[B r]? = some (.cells cs.toArray ty (0, 0)) ∧ h (B r) = none ∧ f (B r) = none
  inj : ∀ r s cs es, lookB β r = some cs → lookB β s = some es → B r = B s → r = s
  rep : Rep w h f

theorem St.ox {n : Nat} {ds : List Deferred} {B : Nat → Nat} {ρ : Env} {β : Bx} {h : Hp} {f : Fm} {a : Act} {w : World} (s : St n ds B ρ β h f a w) {x : Operand} {e : Ent}
    (hx : ox ρ (cx x) = some e) : a.eval x = entV B e := by
  cases x with
  | tmp t => have := s.env t e hx; simp [Act.eval, this]
  | const v => simp only [cx, V.ox, Option.some.injEq] at hx; subst hx; rfl
  | global g => simp only [cx, V.ox, Option.some.injEq] at hx; subst hx; rfl
  | func g => simp only [cx, V.ox, Option.some.injEq] at hx; subst hx; rfl

theorem St.oxs {n : Nat} {ds : List Deferred} {B : Nat → Nat} {ρ : Env} {β : Bx} {h : Hp} {f : Fm} {a : Act} {w : World} (s : St n ds B ρ β h f a w) : ∀ {xs : List Operand} {es : List Ent},
    oxs ρ (xs.map cx) = some es → xs.map a.eval = es.map (entV B)
  | [], es, hx => by simp only [List.map_nil, V.oxs, Option.some.injEq] at hx; subst hx; rfl
  | x :: xs, es, hx => by
    simp only [List.map_cons, V.oxs] at hx
    cases h1 : V.ox ρ (cx x) with
    | none => simp [h1] at hx
    | some e =>
      cases h2 : V.oxs ρ (xs.map cx) with
      | none => simp [h1, h2] at hx
      | some es' =>
        simp [h1, h2] at hx
        subst hx
        simp [s.ox h1, s.oxs h2]

/-! ### Types -/

def sc (P : Program) (t : TypeId) : Option EqS :=
  match P.underlying t with
  | some .bool => some .b
  | some (.int _) => some .i
  | some .string => some .s
  | some (.pointer e) => if P.cellsOf e = 0 then none else some .p
  | some (.slice _) => some .sl
  | some (.map _ _) => some .mp
  | some (.func _ _ _) => some .fn
  | _ => none

def allSome {α β : Type} (f : α → Option (List β)) : List α → Option (List β)
  | [] => some []
  | x :: xs => match f x, allSome f xs with
    | some l, some r => some (l ++ r)
    | _, _ => none

/-- The plain parts of a type, with their places; 'sz': what there is room for. -/
def flat (P : Program) : Nat → TypeId → Nat → Nat → Option (List (Nat × EqS))
  | 0, _, _, _ => none
  | d + 1, t, off, sz =>
    match P.underlying t with
    | some (.struct fs) => if P.stoodInHeld t then none else
        allSome (fun f : Field => if f.name = "_" || sz < f.offset + P.cellsOf f.type then none else flat P d f.type (off + f.offset) (P.cellsOf f.type)) fs.toList
    | some (.array n e) => if (P.info? e).isNone then none else
        allSome (fun i : Nat => if sz < i * P.cellsOf e + P.cellsOf e then none else flat P d e (off + i * P.cellsOf e) (P.cellsOf e)) (List.range n)
    | _ => if sz = 0 then none else match sc P t with
      | some e => some [(off, e)]
      | none => none

def isAg (P : Program) (t : TypeId) : Bool := match P.underlying t with
  | some (.struct _) | some (.array _ _) => true
  | _ => false

def eqT (P : Program) (t : TypeId) : Option EqT :=
  if isAg P t then (if P.eqGuardType P.depth t then none else (flat P 40 t 0 (P.cellsOf t)).map .ag) else (sc P t).map .one

def isIntT (P : Program) (t : TypeId) : Bool := match P.underlying t with | some (.int _) => true | _ => false
def isStrT (P : Program) (t : TypeId) : Bool := match P.underlying t with | some .string => true | _ => false

def isArith : BinOp → Bool | .add | .sub | .mul => true | _ => false
def isDiv : BinOp → Bool | .quo | .rem => true | _ => false
def isBits : BinOp → Bool | .and | .or | .xor | .andNot => true | _ => false
def isShift : BinOp → Bool | .shl | .shr => true | _ => false
def isCmp : BinOp → Bool | .eql | .neq | .lss | .leq | .gtr | .geq => true | _ => false
def isNeq : BinOp → Bool | .neq => true | _ => false
def isEq : BinOp → Bool | .eql | .neq => true | _ => false

def zeroCells (P : Program) (t : TypeId) : Option (List Value) := match P.info? t with
  | some i => (match i.zero with | some v => some v.cells.toList | none => none)
  | none => none

def plOf (P : Program) (t : TypeId) (i : Nat) : Option (Nat × Nat) := match P.underlying t with
  | some (.struct fs) => (match fs[i]? with | some f => if (P.info? f.type).isNone then none else some (f.offset, P.cellsOf f.type) | none => none)
  | some (.array _ e) => if (P.info? e).isNone then none else some (i * P.cellsOf e, P.cellsOf e)
  | _ => none

/-- Bounds that are there. -/
def optL (o : Option Operand) : List Operand := match o with | some x => [x] | none => []

def allPl (f : Nat → Option (Nat × Nat)) : List Nat → Option (List (Nat × Nat))
  | [] => some []
  | x :: xs => match f x, allPl f xs with
    | some l, some r => some (l :: r)
    | _, _ => none

/-- The looks. -/
def cpr (P : Program) (o : Oper) : Option (Pr × List Operand) :=
  match o.op with
  | .move x | .assign x => some (.mv, [x])
  | .pick c a b => some (.pick, [c, a, b])
  | .nilCheck x => some (.nilc, [x])
  | .fieldAddr s x k => (match P.underlying s with
    | some (.struct fs) => (match fs[k]? with
      | some f => if P.cellsOf f.type = 0 then none else some (.fa f.offset, [x])
      | none => none)
    | _ => none)
  | .indexAddr t x i => (match P.underlying t with
    | some (.slice e) => if (P.info? e).isNone then none else some (.iaS (P.cellsOf e), [x, i])
    | some (.array n e) => if (P.info? e).isNone then none else some (.iaA n (P.cellsOf e), [x, i])
    | _ => none)
  | .load t x => (match P.underlying t with
    | none => none
    | some _ => if (P.info? t).isNone then none else some (.ld (P.cellsOf t) (isAg P t), [x]))
  | .binOp op t x y _ =>
    if isIntT P t then
      (if isArith op then some (.ar op, [x, y]) else if isDiv op then some (.dv op, [x, y]) else if isBits op then some (.bt op, [x, y])
       else if isShift op then some (.sh op, [x, y]) else some (.cm op, [x, y]))
    else if isStrT P t then (if isEq op then some (.sop op, [x, y]) else none)
    else if isEq op then (match eqT P t with | some e => some (.eq (isNeq op) e, [x, y]) | none => none) else none
  | .unOp op _ x => some (.un op, [x])
  | .convert s d x => (match P.underlying d with
    | some (.int k) => if isIntT P s then some (.cv k, [x]) else none
    | some .string => (match P.underlying s with
      | some (.slice e) => (match P.underlying e with | some (.int .u8) => some (.b2s, [x]) | _ => none)
      | _ => none)
    | _ => none)
  | .slice t x lo hi mx => (match P.underlying t with
    | some (.array n e) => if mx.isSome || (P.info? e).isNone then none else some (.slA n (P.cellsOf e) lo.isSome hi.isSome, x :: (optL lo ++ optL hi))
    | some (.slice e) => if (P.info? e).isNone then none else some (.slS (P.cellsOf e) lo.isSome hi.isSome mx.isSome, x :: (optL lo ++ optL hi ++ optL mx))
    | some .string => if mx.isSome then none else some (.slT lo.isSome hi.isSome, x :: (optL lo ++ optL hi))
    | _ => none)
  | .call { callee := .builtin .cap, args, argTypes } => (match args.toList, argTypes[0]? with
    | [x], some t => (match P.underlying t with
      | some (.slice _) => some (.cap, [x])
      | _ => none)
    | _, _ => none)
  | .extract x i => some (.ext i, [x])
  | .field t x k => (match P.underlying t with
    | some (.struct fs) => (match fs[k]? with
      | some f => if (P.info? f.type).isNone || (P.underlying f.type).isNone then none else some (.fld f.offset (P.cellsOf f.type) (isAg P f.type), [x])
      | none => none)
    | _ => none)
  | .call { callee := .builtin .len, args, argTypes } => (match args.toList, argTypes[0]? with
    | [x], some t => (match P.underlying t with
      | some (.slice _) => some (.lenS, [x])
      | some .string => some (.lenT, [x])
      | some (.map _ _) => some (.lenM, [x])
      | _ => none)
    | _, _ => none)
  | .call { callee := .builtin .min, args, argTypes := _ } => (match args.toList with
    | [x, y] => some (.min2, [x, y])
    | [x, y, z] => some (.min3, [x, y, z])
    | _ => none)
  | .call { callee := .builtin .max, args, argTypes := _ } => (match args.toList with
    | [x, y] => some (.max2, [x, y])
    | [x, y, z] => some (.max3, [x, y, z])
    | _ => none)
  | .lookup t m k ok => (match P.underlying t with
    | some (.map kt et) => (match eqT P kt, P.info? et with
      | some e, some i => (match i.zero with | some z => some (.look e z ok, [m, k]) | none => none)
      | _, _ => none)
    | _ => none)
  | .build t parts => (match P.underlying t with
    | some (.struct fs) => if fs.all (fun f => (P.info? f.type).isSome) then (match zeroCells P t, allPl (plOf P t) (parts.toList.map (·.1)) with
      | some z, some pl => some (.bld z pl, parts.toList.map (·.2))
      | _, _ => none) else none
    | some (.array _ e) => if (P.info? e).isSome then (match zeroCells P t, allPl (plOf P t) (parts.toList.map (·.1)) with
      | some z, some pl => some (.bld z pl, parts.toList.map (·.2))
      | _, _ => none) else none
    | _ => none)
  | .makeFunc (.func fn) first cap => some (.mkf (.func fn) first.size, first.toList ++ cap.toList)
  | .makeInterface t x => (match P.underlying t with
    | some (.interface _) | none => none
    | _ => some (.mki t, [x]))
  | _ => none

/-! ### Each look is what it says -/

section
variable {P : Program} {w : World} {h : Hp} {f : Fm} {B : Nat → Nat} {β : Bx}

theorem run_typeInfo' {t : TypeId} {i : TypeInfo} (hi : P.info? t = some i) : (typeInfo t).run P w = .ok i w := by simp [typeInfo, hi]
theorem run_underlying' {t : TypeId} {d : TypeDesc} (hi : P.underlying t = some d) : (underlying t).run P w = .ok d w := by simp [underlying, hi]
theorem run_sizeOf' {t : TypeId} {i : TypeInfo} (hi : P.info? t = some i) : (sizeOf t).run P w = .ok i.size w := by simp [sizeOf, run_typeInfo' hi]
theorem run_sizeOf_c {t : TypeId} (hi : (P.info? t).isSome = true) : (sizeOf t).run P w = .ok (P.cellsOf t) w := by
  obtain ⟨i, hi⟩ := Option.isSome_iff_exists.1 hi
  rw [run_sizeOf' hi]; simp [Program.cellsOf, hi]
theorem run_isAgg' {t : TypeId} {d : TypeDesc} (hi : P.underlying t = some d) : (isAgg t).run P w = .ok (isAg P t) w := by
  simp only [isAgg, Sem.run_bind, run_underlying' hi, Result.andThen_ok, isAg, hi]
  cases d <;> rfl
theorem info_of_cells {t : TypeId} (hc : P.cellsOf t ≠ 0) : (P.info? t).isSome = true := by
  cases hi : P.info? t with
  | none => simp [Program.cellsOf, hi] at hc
  | some i => rfl

theorem add_mk (b o n : Nat) : (Addr.mk b o none).add n = ⟨b, o + n, none⟩ := by
  unfold Addr.add; split
  · rename_i e; subst e; rfl
  · rfl

theorem extract_toList (c : Array Value) (o n : Nat) : (c.extract o (o + n)).toList = (c.toList.drop o).take n := by
  simp

theorem sub_eq (c : Array Value) (o n : Nat) : sub c o n = c.extract o (o + n) := by
  unfold sub; rw [← extract_toList]

theorem run_loadCells_row {b o n : Nat} {c : Array Value} {ty : TypeId} {z : Nat × Nat} (hb : w.heap[b]? = some (.cells c ty z)) (hn : o + n ≤ c.size) :
    (loadCells ⟨b, o, none⟩ n).run P w = .ok (c.extract o (o + n)) w := by
  have hl : ((c.toList.drop o).take n).length = n := by simp; omega
  have := run_loadCells_list (P := P) (w := w) (a := ⟨b, o, none⟩) (cs := (c.toList.drop o).take n) (fun j v hj => by
    rw [add_mk, cell_of hb]
    rw [List.getElem?_take] at hj
    split at hj
    · rw [List.getElem?_drop] at hj; simpa using hj
    · cases hj)
  rw [hl] at this
  rw [this]
  congr 1
  rw [← extract_toList]

theorem run_load_cell {b o : Nat} {c : Array Value} {ty : TypeId} {z : Nat × Nat} {v : Value} (hb : w.heap[b]? = some (.cells c ty z)) (hv : c[o]? = some v) :
    (load ⟨b, o, none⟩).run P w = .ok v w := by
  rw [run_load, cell_of hb, hv]

theorem run_loadVar' {t : TypeId} {d : TypeDesc} {b o : Nat} {c : Array Value} {ty : TypeId} {z : Nat × Nat} {v : Value} (hd : P.underlying t = some d) (hi : (P.info? t).isSome = true)
    (hb : w.heap[b]? = some (.cells c ty z)) (hv : rd c o (P.cellsOf t) (isAg P t) = some v) : (loadVar t ⟨b, o, none⟩).run P w = .ok v w := by
  simp only [loadVar, Sem.run_bind, run_isAgg' hd, Result.andThen_ok]
  unfold rd at hv
  cases ha : isAg P t with
  | true =>
    rw [ha] at hv
    simp only [if_true] at hv ⊢
    split at hv
    · rename_i hn
      simp only [Option.some.injEq] at hv; subst hv
      simp only [Sem.run_bind, run_sizeOf_c hi, Result.andThen_ok, run_loadCells_row hb hn, Sem.run_pure, sub_eq]
    · cases hv
  | false =>
    rw [ha] at hv
    simp only [Bool.false_eq_true, if_false] at hv ⊢
    exact run_load_cell hb hv

theorem run_part' {t : TypeId} {d : TypeDesc} {cs : Array Value} {off : Nat} {v : Value} (hd : P.underlying t = some d) (hi : (P.info? t).isSome = true)
    (hv : (if isAg P t then some (.agg (cs.extract off (off + P.cellsOf t))) else cs[off]?) = some v) : (part t cs off).run P w = .ok v w := by
  simp only [part, Sem.run_bind, run_isAgg' hd, Result.andThen_ok]
  cases ha : isAg P t with
  | true =>
    rw [ha] at hv
    simp only [if_true, Option.some.injEq] at hv ⊢
    subst hv
    simp [run_sizeOf_c hi]
  | false =>
    rw [ha] at hv
    simp only [Bool.false_eq_true, if_false] at hv ⊢
    simp [hv]

theorem plainO_spec {o : Option Obj} (hp : plainO o = true) : ∃ c ty, o = some (.cells c ty (0, 0)) := by
  unfold plainO at hp
  split at hp
  · rename_i c ty; exact ⟨c, ty, rfl⟩
  · cases hp

theorem run_sameAddr {a b : Addr} (hr : Rep w h f) (ha : plainO (h a.block) = true) (hb : plainO (h b.block) = true) : (sameAddr a b).run P w = .ok (decide (a = b)) w := by
  obtain ⟨c, ty, ha⟩ := plainO_spec ha
  obtain ⟨c', ty', hb⟩ := plainO_spec hb
  have ha := hr.vis _ _ ha
  have hb := hr.vis _ _ hb
  by_cases e : a.block = b.block
  · simp [sameAddr, e]
    rfl
  · have hne : a ≠ b := fun h => e (by rw [h])
    have fa : ∀ o s, w.frozen? ⟨a.block, o, s⟩ = false := fun o s => by simp [World.frozen?, ha]
    have fb : ∀ o s, w.frozen? ⟨b.block, o, s⟩ = false := fun o s => by simp [World.frozen?, hb]
    have fa' : w.frozen? a = false := fa a.off a.spot
    have fb' : w.frozen? b = false := fb b.off b.spot
    have sa : w.shape? a.block = some (ty, c.size) := by simp [World.shape?, ha]
    have sb : w.shape? b.block = some (ty', c'.size) := by simp [World.shape?, hb]
    simp [sameAddr, e, fa', fb', noView, viewAt, sa, sb, mayBeOne, stringish, fa, fb, hne]

theorem sc_inv {t : TypeId} {e : EqS} (ht : sc P t = some e) : match e with
    | .b => P.underlying t = some .bool
    | .i => ∃ k, P.underlying t = some (.int k)
    | .s => P.underlying t = some .string
    | .p => ∃ el, P.underlying t = some (.pointer el) ∧ P.cellsOf el ≠ 0
    | .sl => ∃ el, P.underlying t = some (.slice el)
    | .mp => ∃ k el, P.underlying t = some (.map k el)
    | .fn => ∃ a b c, P.underlying t = some (.func a b c) := by
  unfold sc at ht
  split at ht <;> try (cases ht; done)
  all_goals first
    | (rename_i hu; cases ht; exact hu)
    | (rename_i k hu; cases ht; exact ⟨k, hu⟩)
    | (rename_i k l hu; cases ht; exact ⟨k, l, hu⟩)
    | (rename_i k l m hu; cases ht; exact ⟨k, l, m, hu⟩)
    | (rename_i el hu; split at ht <;> cases ht; rename_i hc; exact ⟨el, hu, hc⟩)

theorem eqS_run {t : TypeId} {e : EqS} {x y : Value} {r : Bool} {d : Nat} (hr : Rep w h f) (ht : sc P t = some e) (he : eqS h e x y = some r) : (Op.equalIn (d + 1) t x y).run P w = .ok r w := by
  have hi := sc_inv ht
  unfold eqS at he
  split at he
  · cases he; simp [Op.equalIn, run_underlying' hi]
  · obtain ⟨k, hi⟩ := hi
    split at he <;> cases he
    rename_i e; subst e; simp [Op.equalIn, run_underlying' hi]
  · cases he; simp [Op.equalIn, run_underlying' hi]
  · obtain ⟨k, hi, _⟩ := hi
    cases he; simp [Op.equalIn, run_underlying' hi]
  · obtain ⟨k, hi, _⟩ := hi
    cases he; simp [Op.equalIn, run_underlying' hi]
  · obtain ⟨k, hi, hc⟩ := hi
    split at he <;> cases he
    rename_i hpl
    simp only [Bool.and_eq_true] at hpl
    simp only [Op.equalIn, Sem.run_bind, run_underlying' hi, Result.andThen_ok, run_sizeOf_c (info_of_cells hc), ne_eq, hc, not_false_eq_true, if_true, run_sameAddr hr hpl.1 hpl.2]
  · obtain ⟨k, hi⟩ := hi
    cases he; simp [Op.equalIn, run_underlying' hi]
  · obtain ⟨k, hi⟩ := hi
    cases he; simp [Op.equalIn, run_underlying' hi]
  · obtain ⟨k, l, hi⟩ := hi
    cases he; simp [Op.equalIn, run_underlying' hi]
  · obtain ⟨k, l, hi⟩ := hi
    cases he; simp [Op.equalIn, run_underlying' hi]
  · obtain ⟨k, l, m, hi⟩ := hi
    cases he; simp [Op.equalIn, run_underlying' hi]
  · obtain ⟨k, l, m, hi⟩ := hi
    cases he; simp [Op.equalIn, run_underlying' hi]
  · obtain ⟨k, l, m, hi⟩ := hi
    cases he; simp [Op.equalIn, run_underlying' hi]
  · cases he

end

end Go.Proofs.Ytkmknolkblcbeaa.V
