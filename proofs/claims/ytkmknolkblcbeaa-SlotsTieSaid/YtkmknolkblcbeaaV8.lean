/- Structs and slices of values, functions as values; and all looks together. -/
import Derived.Test.YtkmknolkblcbeaaV7
namespace Go.Proofs.Ytkmknolkblcbeaa.V
set_option linter.unusedSectionVars false
set_option linter.unusedVariables false
set_option linter.unusedSimpArgs false
open Go

section
variable {P : Program} {w : World} {h : Hp} {f : Fm} {B : Nat → Nat} {β : Bx} {ρ : Operand → Value}

theorem wrL_length : ∀ (l : List Value) (c : List Value) (o : Nat), (wrL c o l).length = c.length
  | [], _, _ => rfl
  | v :: l, c, o => by simp [wrL, wrL_length l]

theorem foldl_wrL : ∀ (l : List Value) (c : Array Value) (o : Nat), l.zipIdx.foldl (fun cs (p : Value × Nat) => cs.setIfInBounds (o + p.2) p.1) c = (wrL c.toList o l).toArray
  | [], c, o => by simp [wrL]
  | v :: l, c, o => by
    have key : ∀ (l : List Value) (k : Nat) (c : Array Value) (o : Nat), (l.zipIdx (k + 1)).foldl (fun cs (p : Value × Nat) => cs.setIfInBounds (o + p.2) p.1) c =
        (l.zipIdx k).foldl (fun cs (p : Value × Nat) => cs.setIfInBounds (o + 1 + p.2) p.1) c := by
      intro l
      induction l with
      | nil => intros; rfl
      | cons a l ih =>
        intro k c o
        simp only [List.zipIdx_cons, List.foldl_cons]
        rw [show o + (k + 1) = o + 1 + k from by omega, ih]
    simp only [List.zipIdx_cons, List.foldl_cons, Nat.add_zero]
    rw [key l 0, foldl_wrL l _ (o + 1)]
    simp [wrL]

theorem fill_fillL {place : Nat → Option (Nat × Nat)} : ∀ (ps : List (Nat × Value)) (pl : List (Nat × Nat)) (es : List Ent) (c l : List Value),
    allPl place (ps.map (·.1)) = some pl → ps.map (·.2) = es.map (entV B) → fillL c pl es = some l → Instr.fill place c.toArray ps = some l.toArray
  | [], pl, es, c, l, h1, h2, h3 => by
    simp only [List.map_nil, allPl, Option.some.injEq] at h1
    subst h1
    cases es with
    | nil => simp only [fillL, Option.some.injEq] at h3; subst h3; rfl
    | cons a b => simp at h2
  | (i, v) :: ps, pl, es, c, l, h1, h2, h3 => by
    simp only [List.map_cons, allPl] at h1
    split at h1
    · rename_i p pl' hp hpl
      cases h1
      obtain ⟨o, sz⟩ := p
      cases es with
      | nil => simp at h2
      | cons e es =>
        simp only [List.map_cons, List.cons.injEq] at h2
        cases e with
        | l r q => simp [fillL] at h3
        | v x =>
          simp only [fillL] at h3
          split at h3
          · rename_i hc
            have hx : v = x := h2.1
            subst hx
            simp only [Instr.fill, hp]
            rw [if_neg (by simp [hc.1]; omega)]
            have := fill_fillL ps pl' es _ _ hpl h2.2 h3
            rw [← this]
            congr 1
            rw [← Array.foldl_toList, Array.toList_zipIdx, foldl_wrL]
          · cases h3
    · cases h1

theorem run_mapM_pure {α β : Type} {g : α → Sem β} {k : α → β} : ∀ (l : List α), (∀ x ∈ l, (g x).run P w = .ok (k x) w) → (l.mapM g).run P w = .ok (l.map k) w
  | [], _ => rfl
  | x :: l, hx => by
    rw [List.mapM_cons]
    simp only [Sem.run_bind, hx x (by simp), run_mapM_pure l (fun y hy => hx y (by simp [hy])), Result.andThen_ok, Sem.run_pure, List.map_cons]

theorem run_mapM_pureA {α β : Type} {g : α → Sem β} {k : α → β} (l : Array α) (hx : ∀ x ∈ l.toList, (g x).run P w = .ok (k x) w) : (l.mapM g).run P w = .ok (l.map k) w := by
  rw [Array.mapM_eq_mapM_toList]
  simp only [Sem.run_map, run_mapM_pure l.toList hx, Result.andThen_ok]
  exact congrArg (fun q => Result.ok q w) (by apply Array.ext'; rw [Array.toList_map])

theorem zero_run {t : TypeId} {z : List Value} (hz : zeroCells P t = some z) : ∃ v, (zeroValue t).run P w = .ok v w ∧ v.cells = z.toArray := by
  unfold zeroCells at hz
  split at hz
  · rename_i i hi
    split at hz
    · rename_i v hv
      cases hz
      exact ⟨v, run_zero hi hv, by simp⟩
    · cases hz
  · cases hz

theorem run_bld {o : Oper} {t : TypeId} {parts : Array (Nat × Operand)} {z : List Value} {pl : List (Nat × Nat)} {es : List Ent} {l : List Value}
    (ho : o.op = .build t parts) (ht : (∃ fs, P.underlying t = some (.struct fs) ∧ fs.all (fun f => (P.info? f.type).isSome) = true) ∨ ∃ n e, P.underlying t = some (.array n e) ∧ (P.info? e).isSome = true)
    (hz : zeroCells P t = some z) (hpl : allPl (plOf P t) (parts.toList.map (·.1)) = some pl) (hes : (parts.toList.map (·.2)).map ρ = es.map (entV B)) (hf : fillL z pl es = some l) :
    (execOp ρ o).run P w = .ok (.value (.agg l.toArray)) w := by
  obtain ⟨v, hv, hvc⟩ := zero_run (w := w) hz
  have hps : ∀ place : Nat → Option (Nat × Nat), allPl place (parts.toList.map (·.1)) = some pl → Instr.fill place v.cells (parts.map fun (i, x) => (i, ρ x)).toList = some l.toArray := by
    intro place hp
    rw [hvc]
    refine fill_fillL (B := B) _ pl es z l ?_ ?_ hf
    · rw [← hp]; congr 1; simp
    · rw [← hes]; simp
  have hexec : (execOp ρ o).run P w = ((Instr.build t (parts.map fun (i, x) => (i, ρ x))).run P w).andThen fun a w' => .ok (.value a) w' := by
    simp only [execOp, ho, Sem.run_bind, Sem.run_pure]
  rw [hexec]
  simp only [Instr.build, Sem.run_bind, hv, Result.andThen_ok]
  rcases ht with ⟨fs, hu, hall⟩ | ⟨n, e, hu, hie⟩
  · rw [run_underlying' hu]
    simp only [Result.andThen_ok, Sem.run_bind]
    rw [run_mapM_pureA (k := fun fl : Field => (fl.offset, P.cellsOf fl.type)) fs (fun fl hfl => by
      have : (P.info? fl.type).isSome = true := by
        have := Array.all_eq_true.1 hall
        obtain ⟨i, hi, rfl⟩ := List.mem_iff_getElem.1 hfl
        exact this i (by simpa using hi)
      simp [run_sizeOf_c this])]
    simp only [Result.andThen_ok]
    have h1 : allPl (fun i => (fs.map fun fl : Field => (fl.offset, P.cellsOf fl.type))[i]?) (parts.toList.map (·.1)) = some pl := by
      have key : ∀ (L : List Nat) (pl : List (Nat × Nat)), allPl (plOf P t) L = some pl → allPl (fun i => (fs.map fun fl : Field => (fl.offset, P.cellsOf fl.type))[i]?) L = some pl := by
        intro L
        induction L with
        | nil => intro pl hpl; exact hpl
        | cons i L ih =>
          intro pl hpl
          simp only [allPl] at hpl ⊢
          split at hpl
          · rename_i a b ha hb
            cases hpl
            have hh : (fs.map fun fl : Field => (fl.offset, P.cellsOf fl.type))[i]? = some a := by
              simp only [plOf, hu] at ha
              split at ha
              · rename_i fl hfl
                split at ha
                · cases ha
                · cases ha; simp [hfl]
              · cases ha
            rw [hh, ih _ hb]
          · cases hpl
      exact key _ _ hpl
    rw [hps _ h1]
    rfl
  · rw [run_underlying' hu]
    simp only [Result.andThen_ok, Sem.run_bind]
    rw [run_sizeOf_c hie]
    simp only [Result.andThen_ok]
    have h1 : allPl (fun i => some (i * P.cellsOf e, P.cellsOf e)) (parts.toList.map (·.1)) = some pl := by
      have key : ∀ (L : List Nat) (pl : List (Nat × Nat)), allPl (plOf P t) L = some pl → allPl (fun i => some (i * P.cellsOf e, P.cellsOf e)) L = some pl := by
        intro L
        induction L with
        | nil => intro pl hpl; exact hpl
        | cons i L ih =>
          intro pl hpl
          simp only [allPl] at hpl ⊢
          split at hpl
          · rename_i a b ha hb
            cases hpl
            have hn : (P.info? e).isNone = false := by cases hx : P.info? e with | none => simp [hx] at hie | some _ => rfl
            simp only [plOf, hu, hn, Bool.false_eq_true, if_false, Option.some.injEq] at ha
            rw [ha, ih _ hb]
          · cases hpl
      exact key _ _ hpl
    rw [hps _ h1]
    rfl

theorem vals_spec : ∀ {es : List Ent} {l : List Value}, vals es = some l → es = l.map .v
  | [], l, h => by simp only [vals, Option.some.injEq] at h; subst h; rfl
  | .v x :: es, l, h => by
    simp only [vals] at h
    split at h
    · rename_i l' hl; cases h; rw [vals_spec hl]; rfl
    · cases h
  | .l _ _ :: es, l, h => by simp [vals] at h

theorem vals_entV {es : List Ent} {l : List Value} (h : vals es = some l) : es.map (entV B) = l := by
  rw [vals_spec h]; simp [entV, Function.comp_def]

theorem run_mkf {o : Oper} {fn : FuncId} {first cap : Array Operand} {es : List Ent} {e' : Ent} (ho : o.op = .makeFunc (.func fn) first cap) (hes : (first.toList ++ cap.toList).map ρ = es.map (entV B))
    (hp : pMkf (.func fn) first.size es = some e') : (execOp ρ o).run P w = .ok (.value (entV B e')) w := by
  unfold pMkf at hp
  split at hp
  · rename_i l hl
    cases hp
    rw [vals_entV hl] at hes
    have hlen : (first.toList.map ρ).length = first.size := by simp
    have h1 : (l.take first.size).toArray = first.map ρ := by
      rw [← hes, List.map_append, List.take_left' hlen]; apply Array.ext'; rw [Array.toList_map]
    have h2 : (l.drop first.size).toArray = cap.map ρ := by
      rw [← hes, List.map_append, List.drop_left' hlen]; apply Array.ext'; rw [Array.toList_map]
    simp only [execOp, ho, Instr.makeFunc, Sem.run_bind, Sem.run_pure, Result.andThen_ok, entV, h1, h2]
  · cases hp

theorem run_mki {o : Oper} {t : TypeId} {x : Operand} {d : TypeDesc} {v : Value} (ho : o.op = .makeInterface t x) (hd : P.underlying t = some d) (hn : ∀ ms, d ≠ .interface ms) (hx : ρ x = v) :
    (execOp ρ o).run P w = .ok (.value (.iface t v)) w := by
  simp only [execOp, ho, Instr.makeInterface, Sem.run_bind, run_underlying' hd, Result.andThen_ok, hx]
  cases d <;> first | exact absurd rfl (hn _) | rfl

/-! ### Slices of slices, arrays and strings -/

theorem bnd_some {y d n : Nat} {e : Ent} (hb : bnd y d (some e) = some n) : ∃ k i, e = .v (.int k i) ∧ 0 ≤ i ∧ i ≤ (y : Int) ∧ n = i.toNat := by
  unfold bnd at hb
  split at hb
  · rename_i hn; cases hn
  · rename_i hn
    cases hn
    split at hb
    · rename_i hc; cases hb; exact ⟨_, _, rfl, hc.1, hc.2, rfl⟩
    · cases hb
  · cases hb

theorem sb_run {y : Nat} {k : IntKind} {i : Int} {code : BoundsCode} (h0 : 0 ≤ i) (h1 : i ≤ (y : Int)) : (Instr.sliceBound (.int k i) y code).run P w = .ok i.toNat w := by
  simp [Instr.sliceBound, asIntOf, h0, h1]

theorem bounds_run {isS : Bool} {len cap l u m : Nat} {lo hi mx : Option Ent} {lo' hi' mx' : Option Value} (h1 : lo' = lo.map (entV B)) (h2 : hi' = hi.map (entV B)) (h3 : mx' = mx.map (entV B))
    (hm : bnd cap cap mx = some m) (hh : bnd m (if mx.isSome then m else len) hi = some u) (hmh : (mx.isSome && hi.isNone) = false) (hl : bnd u 0 lo = some l) :
    (Instr.sliceBounds isS len cap lo' hi' mx').run P w = .ok (l, u, m) w := by
  subst h1; subst h2; subst h3
  cases mx with
  | none =>
    simp only [bnd, Option.some.injEq] at hm
    subst hm
    cases hi with
    | none =>
      simp only [bnd, Option.isSome_none, Bool.false_eq_true, if_false, Option.some.injEq] at hh
      subst hh
      cases lo with
      | none => simp only [bnd, Option.some.injEq] at hl; subst hl; rfl
      | some e =>
        obtain ⟨k, i, rfl, g0, g1, rfl⟩ := bnd_some hl
        simp only [Instr.sliceBounds, Option.map_none, Option.map_some, entV, Sem.run_bind, Sem.run_pure, Result.andThen_ok, sb_run g0 g1]
    | some a =>
      obtain ⟨k, i, rfl, g0, g1, rfl⟩ := bnd_some hh
      cases lo with
      | none => simp only [bnd, Option.some.injEq] at hl; subst hl; simp only [Instr.sliceBounds, Option.map_none, Option.map_some, entV, Sem.run_bind, Sem.run_pure, Result.andThen_ok, sb_run g0 g1]
      | some e =>
        obtain ⟨k', i', rfl, g2, g3, rfl⟩ := bnd_some hl
        simp only [Instr.sliceBounds, Option.map_none, Option.map_some, entV, Sem.run_bind, Sem.run_pure, Result.andThen_ok, sb_run g0 g1, sb_run g2 g3]
  | some b =>
    obtain ⟨k0, i0, rfl, f0, f1, rfl⟩ := bnd_some hm
    cases hi with
    | none => simp at hmh
    | some a =>
      obtain ⟨k, i, rfl, g0, g1, rfl⟩ := bnd_some hh
      cases lo with
      | none => simp only [bnd, Option.some.injEq] at hl; subst hl; simp only [Instr.sliceBounds, Option.map_none, Option.map_some, entV, Sem.run_bind, Sem.run_pure, Result.andThen_ok, sb_run f0 f1, sb_run g0 g1]
      | some e =>
        obtain ⟨k', i', rfl, g2, g3, rfl⟩ := bnd_some hl
        simp only [Instr.sliceBounds, Option.map_none, Option.map_some, entV, Sem.run_bind, Sem.run_pure, Result.andThen_ok, sb_run f0 f1, sb_run g0 g1, sb_run g2 g3]

theorem opt_split {x : Option Operand} {rest : List Operand} {es : List Ent} (hes : (optL x ++ rest).map ρ = es.map (entV B)) {u : Option Ent} {r : List Ent} (ho : opt1 x.isSome es = some (u, r)) :
    x.map ρ = u.map (entV B) ∧ rest.map ρ = r.map (entV B) := by
  cases x with
  | none => simp only [Option.isSome_none, opt1, Bool.false_eq_true, if_false, Option.some.injEq, Prod.mk.injEq] at ho; obtain ⟨rfl, rfl⟩ := ho; exact ⟨rfl, by simpa [optL] using hes⟩
  | some x =>
    simp only [Option.isSome_some, opt1, if_true] at ho
    cases es with
    | nil => cases ho
    | cons e es =>
      simp only [Option.some.injEq, Prod.mk.injEq] at ho
      obtain ⟨rfl, rfl⟩ := ho
      simp only [optL, List.cons_append, List.nil_append, List.map_cons, List.cons.injEq] at hes
      exact ⟨by simp [hes.1], hes.2⟩

theorem opt1_isSome {b : Bool} {es r : List Ent} {u : Option Ent} (ho : opt1 b es = some (u, r)) : u.isSome = b := by
  cases b with
  | false => simp [opt1] at ho; rw [← ho.1]; rfl
  | true =>
    cases es with
    | nil => simp [opt1] at ho
    | cons e es => simp [opt1] at ho; rw [← ho.1]; rfl

theorem run_slS {o : Oper} {t el : TypeId} {x : Operand} {lo hi mx : Option Operand} {e e' : Ent} {lo' hi' mx' : Option Ent} (ho : o.op = .slice t x lo hi mx) (ht : P.underlying t = some (.slice el)) (hi0 : (P.info? el).isSome = true)
    (hx : ρ x = entV B e) (h1 : lo.map ρ = lo'.map (entV B)) (h2 : hi.map ρ = hi'.map (entV B)) (h3 : mx.map ρ = mx'.map (entV B)) (hp : pSlS (P.cellsOf el) lo' hi' mx' e = some e') :
    (execOp ρ o).run P w = .ok (.value (entV B e')) w := by
  unfold pSlS at hp
  split at hp
  · rename_i a len cap
    split at hp
    · cases hp
    · rename_i m hm
      split at hp
      · cases hp
      · rename_i u hu
        split at hp
        · cases hp
        · rename_i hmh
          split at hp
          · cases hp
          · rename_i l hl
            have hb := bounds_run (P := P) (w := w) (B := B) (isS := true) h1 h2 h3 hm hu (by simpa only [Bool.not_eq_true] using hmh) hl
            split at hp
            · cases hp
              simp only [execOp, ho, hx, entV, Instr.sliceAt, Instr.slice, Sem.run_bind, run_underlying' ht, Result.andThen_ok, hb, run_sizeOf_c hi0, Sem.run_pure, Option.map_none, ite_self]
            · cases hp
              simp only [execOp, ho, hx, entV, Instr.sliceAt, Instr.slice, Sem.run_bind, run_underlying' ht, Result.andThen_ok, hb, run_sizeOf_c hi0, Sem.run_pure, Option.map_some, add_mk]
              split <;> rfl
            · cases hp
  · cases hp

theorem run_slA {o : Oper} {t el : TypeId} {n : Nat} {x : Operand} {lo hi : Option Operand} {e e' : Ent} {lo' hi' : Option Ent} (ho : o.op = .slice t x lo hi none) (ht : P.underlying t = some (.array n el)) (hi0 : (P.info? el).isSome = true)
    (hx : ρ x = entV B e) (h1 : lo.map ρ = lo'.map (entV B)) (h2 : hi.map ρ = hi'.map (entV B)) (hp : pSlA n (P.cellsOf el) lo' hi' e = some e') :
    (execOp ρ o).run P w = .ok (.value (entV B e')) w := by
  unfold pSlA at hp
  split at hp
  · split at hp
    · cases hp
    · rename_i u hu
      split at hp
      · cases hp
      · rename_i l hl
        cases hp
        have hb := bounds_run (P := P) (w := w) (B := B) (isS := false) (mx := none) (mx' := none) (m := n) (len := n) (cap := n) h1 h2 rfl rfl (by simpa using hu) rfl hl
        simp only [execOp, ho, hx, entV, Instr.sliceAt, Instr.sureAddr, Sem.run_bind, Sem.run_pure, run_underlying' ht, Result.andThen_ok, Option.map_none, hb, run_sizeOf_c hi0, add_mk]
        split <;> rfl
  · cases hp

theorem run_slT {o : Oper} {t : TypeId} {x : Operand} {lo hi : Option Operand} {e e' : Ent} {lo' hi' : Option Ent} (ho : o.op = .slice t x lo hi none) (ht : P.underlying t = some .string)
    (hx : ρ x = entV B e) (h1 : lo.map ρ = lo'.map (entV B)) (h2 : hi.map ρ = hi'.map (entV B)) (hp : pSlT lo' hi' e = some e') :
    (execOp ρ o).run P w = .ok (.value (entV B e')) w := by
  unfold pSlT at hp
  split at hp
  · rename_i s
    split at hp
    · cases hp
    · rename_i u hu
      split at hp
      · cases hp
      · rename_i l hl
        cases hp
        have hb := bounds_run (P := P) (w := w) (B := B) (isS := false) (mx := none) (mx' := none) (m := s.size) (len := s.size) (cap := s.size) h1 h2 rfl rfl (by simpa using hu) rfl hl
        simp only [execOp, ho, hx, entV, Instr.sliceAt, Instr.slice, Sem.run_bind, Sem.run_pure, run_underlying' ht, Result.andThen_ok, Option.map_none, Option.isSome_none, Bool.false_eq_true, if_false, hb]
  · cases hp

theorem run_cap {o : Oper} {t el : TypeId} {x : Operand} {args : Array Operand} {ts : Array TypeId} {e e' : Ent} (ho : o.op = .call { callee := .builtin .cap, args := args, argTypes := ts })
    (ha : args.toList = [x]) (ht : ts[0]? = some t) (hu : P.underlying t = some (.slice el)) (hx : ρ x = entV B e) (hp : pCap e = some e') :
    (execOp ρ o).run P w = .ok (.value (entV B e')) w := by
  have hargs : args = #[x] := by rw [← Array.toArray_toList (xs := args), ha]
  subst hargs
  rw [run_builtin ho]
  unfold pCap at hp
  split at hp <;> cases hp
  simp [builtin, Builtin.cap_, ht, hx, entV, run_underlying' hu, goInt]

theorem bytes_run : ∀ (l : List Value) (r : List UInt8) (s : ByteArray), bytesOf l = some r →
    (forIn l s (fun (c : Value) (s : ByteArray) => match c with | .int .u8 n => (pure (ForInStep.yield (s.push (UInt8.ofNat n.toNat))) : Sem (ForInStep ByteArray)) | _ => stuck "bytesToString: byte expected")).run P w = .ok ⟨s.data ++ r.toArray⟩ w
  | [], r, s, h => by
    simp only [bytesOf, Option.some.injEq] at h; subst h
    simp
  | v :: l, r, s, h => by
    unfold bytesOf at h
    split at h
    · rename_i hc; cases hc
    · rename_i n l' hc
      cases hc
      split at h
      · rename_i r' hr
        cases h
        have := bytes_run l r' (s.push (UInt8.ofNat n.toNat)) hr
        simp only [List.forIn_cons, Sem.run_bind, Sem.run_pure, Result.andThen_ok]
        rw [this]
        congr 2
        apply Array.ext'
        simp [ByteArray.push]
      · cases h
    · cases h

theorem run_b2s {o : Oper} {s d el : TypeId} {x : Operand} {e e' : Ent} (hr : Rep w h f) (ho : o.op = .convert s d x) (hs : P.underlying s = some (.slice el)) (hel : P.underlying el = some (.int .u8)) (hd : P.underlying d = some .string)
    (hx : ρ x = entV B e) (hp : pB2s h e = some e') : (execOp ρ o).run P w = .ok (.value (entV B e')) w := by
  unfold pB2s at hp
  split at hp
  · cases hp
    simp only [execOp, ho, hx, entV, convert, Sem.run_bind, run_underlying' hs, run_underlying' hd, run_underlying' hel, Result.andThen_ok, Conv.bytesToString, Sem.run_pure]
  · split at hp
    · rename_i b o' len cap c ty z hb
      split at hp
      · rename_i hn
        split at hp
        · rename_i l hl
          cases hp
          have hlc := run_loadCells_row (P := P) (w := w) (hr.vis _ _ hb) hn
          simp only [execOp, ho, hx, entV, convert, Sem.run_bind, run_underlying' hs, run_underlying' hd, run_underlying' hel, Result.andThen_ok, Conv.bytesToString, hlc]
          rw [← Array.forIn_toList]
          have := bytes_run (P := P) (w := w) _ _ ByteArray.empty hl
          erw [this]
          simp [ByteArray.empty, ByteArray.emptyWithCapacity]
          rfl
        · cases hp
      · cases hp
    · cases hp
  · cases hp

/-- ALL LOOKS TOGETHER. -/
theorem run_pr {o : Oper} {p : Pr} {xs : List Operand} {es : List Ent} {e : Ent} (hr : Rep w h f) (hβ : ∀ r cs, lookB β r = some cs → ∃ ty, w.heap[B r]? = some (.cells cs.toArray ty (0, 0)))
    (hc : cpr P o = some (p, xs)) (hes : xs.map ρ = es.map (entV B)) (hp : prv h β p es = some e) : (execOp ρ o).run P w = .ok (.value (entV B e)) w := by
  unfold cpr at hc
  split at hc
  · rename_i x ho; cases hc
    obtain ⟨e1, rfl, h1⟩ := map1 hes
    simp only [prv, Option.some.injEq] at hp; subst hp
    simp [execOp, ho, h1]
  · rename_i x ho; cases hc
    obtain ⟨e1, rfl, h1⟩ := map1 hes
    simp only [prv, Option.some.injEq] at hp; subst hp
    simp [execOp, ho, h1]
  · rename_i c a b ho; cases hc
    obtain ⟨e1, e2, e3, rfl, h1, h2, h3⟩ := map3 hes
    simp only [prv] at hp
    unfold pPick at hp
    split at hp <;> cases hp
    rename_i t
    cases t <;> simp [execOp, ho, h1, h2, h3, entV, asBool]
  · rename_i x ho; cases hc
    obtain ⟨e1, rfl, h1⟩ := map1 hes
    exact run_nilc ho h1 hp
  · rename_i s x k ho
    split at hc
    · rename_i fs hs
      split at hc
      · rename_i fl hk
        split at hc
        · cases hc
        · rename_i hz
          cases hc
          obtain ⟨e1, rfl, h1⟩ := map1 hes
          exact run_fa ho hs hk hz h1 hp
      · cases hc
    · cases hc
  · rename_i t x i ho
    split at hc
    · rename_i el ht
      split at hc
      · cases hc
      · rename_i hi
        cases hc
        obtain ⟨e1, e2, rfl, h1, h2⟩ := map2 hes
        exact run_iaS ho ht (by cases hq : P.info? el <;> simp [hq] at hi ⊢) h1 h2 hp
    · rename_i n el ht
      split at hc
      · cases hc
      · rename_i hi
        cases hc
        obtain ⟨e1, e2, rfl, h1, h2⟩ := map2 hes
        exact run_iaA ho ht (by cases hq : P.info? el <;> simp [hq] at hi ⊢) h1 h2 hp
    · cases hc
  · rename_i t x ho
    split at hc
    · cases hc
    · rename_i d ht
      split at hc
      · cases hc
      · rename_i hi
        cases hc
        obtain ⟨e1, rfl, h1⟩ := map1 hes
        exact run_ld hr hβ ho ht (by cases hq : P.info? t <;> simp [hq] at hi ⊢) h1 hp
  · rename_i op t x y yt ho
    split at hc
    · split at hc
      · cases hc; obtain ⟨e1, e2, rfl, h1, h2⟩ := map2 hes; exact run_ar ho h1 h2 hp
      · split at hc
        · cases hc; obtain ⟨e1, e2, rfl, h1, h2⟩ := map2 hes; exact run_dv ho h1 h2 hp
        · split at hc
          · cases hc; obtain ⟨e1, e2, rfl, h1, h2⟩ := map2 hes; exact run_bt ho h1 h2 hp
          · split at hc
            · cases hc; obtain ⟨e1, e2, rfl, h1, h2⟩ := map2 hes; exact run_sh ho h1 h2 hp
            · cases hc; obtain ⟨e1, e2, rfl, h1, h2⟩ := map2 hes; exact run_cm ho h1 h2 hp
    · rename_i hn
      split at hc
      · split at hc
        · cases hc; obtain ⟨e1, e2, rfl, h1, h2⟩ := map2 hes; exact run_sop ho h1 h2 hp
        · cases hc
      · rename_i hs
        split at hc
        · rename_i hq
          split at hc
          · rename_i q ht
            cases hc; obtain ⟨e1, e2, rfl, h1, h2⟩ := map2 hes
            exact run_eq hr ho hq (by simpa using hn) (by simpa using hs) ht h1 h2 hp
          · cases hc
        · cases hc
  · rename_i op t x ho; cases hc
    obtain ⟨e1, rfl, h1⟩ := map1 hes
    exact run_un ho h1 hp
  · rename_i s d x ho
    split at hc
    · rename_i k hd
      split at hc
      · rename_i hs
        cases hc
        obtain ⟨e1, rfl, h1⟩ := map1 hes
        exact run_cv ho hs hd h1 hp
      · cases hc
    · rename_i hd
      split at hc
      · rename_i el hs
        split at hc
        · rename_i hel
          cases hc
          obtain ⟨e1, rfl, h1⟩ := map1 hes
          exact run_b2s hr ho hs hel hd h1 hp
        · cases hc
      · cases hc
    · cases hc
  · rename_i t x lo hi mx ho
    split at hc
    · rename_i n el ht
      split at hc
      · cases hc
      · rename_i hcond
        simp only [Bool.or_eq_true, not_or, Bool.not_eq_true] at hcond
        cases hc
        cases es with
        | nil => simp at hes
        | cons e1 es =>
          simp only [List.map_cons, List.cons.injEq] at hes
          simp only [prv] at hp
          split at hp
          · rename_i l r hl
            split at hp
            · rename_i u hu
              obtain ⟨h1, hr1⟩ := opt_split hes.2 hl
              obtain ⟨h2, hr2⟩ := opt_split (x := hi) (rest := []) (by simpa using hr1) hu
              have hmx : mx = none := by cases mx <;> simp at hcond ⊢
              subst hmx
              exact run_slA ho ht (by cases hq : P.info? el <;> simp [hq] at hcond ⊢) hes.1 h1 h2 hp
            · cases hp
          · cases hp
    · rename_i el ht
      split at hc
      · cases hc
      · rename_i hcond
        cases hc
        cases es with
        | nil => simp at hes
        | cons e1 es =>
          simp only [List.map_cons, List.cons.injEq] at hes
          simp only [prv] at hp
          split at hp
          · rename_i l r hl
            split at hp
            · rename_i u r2 hu
              split at hp
              · rename_i m hm
                obtain ⟨h1, hr1⟩ := opt_split (x := lo) (rest := optL hi ++ optL mx) (by simpa using hes.2) hl
                obtain ⟨h2, hr2⟩ := opt_split hr1 hu
                obtain ⟨h3, hr3⟩ := opt_split (x := mx) (rest := []) (by simpa using hr2) hm
                exact run_slS ho ht (by cases hq : P.info? el <;> simp [hq] at hcond ⊢) hes.1 h1 h2 h3 hp
              · cases hp
            · cases hp
          · cases hp
    · rename_i ht
      split at hc
      · cases hc
      · rename_i hcond
        cases hc
        cases es with
        | nil => simp at hes
        | cons e1 es =>
          simp only [List.map_cons, List.cons.injEq] at hes
          simp only [prv] at hp
          split at hp
          · rename_i l r hl
            split at hp
            · rename_i u hu
              obtain ⟨h1, hr1⟩ := opt_split hes.2 hl
              obtain ⟨h2, hr2⟩ := opt_split (x := hi) (rest := []) (by simpa using hr1) hu
              have hmx : mx = none := by cases mx <;> simp at hcond ⊢
              subst hmx
              exact run_slT ho ht hes.1 h1 h2 hp
            · cases hp
          · cases hp
    · cases hc
  · rename_i args ts ho
    split at hc
    · rename_i x t ha ht
      split at hc
      · rename_i el hu
        cases hc
        obtain ⟨e1, rfl, h1⟩ := map1 hes
        exact run_cap ho ha ht hu h1 hp
      · cases hc
    · cases hc
  · rename_i x i ho; cases hc
    obtain ⟨e1, rfl, h1⟩ := map1 hes
    exact run_ext ho h1 hp
  · rename_i t x k ho
    split at hc
    · rename_i fs hs
      split at hc
      · rename_i fl hk
        split at hc
        · cases hc
        · rename_i hi
          simp only [Bool.or_eq_true, not_or, Bool.not_eq_true] at hi
          cases hc
          obtain ⟨e1, rfl, h1⟩ := map1 hes
          obtain ⟨d, hd⟩ := Option.isSome_iff_exists.1 (by cases hq : P.underlying fl.type <;> simp [hq] at hi ⊢ : (P.underlying fl.type).isSome = true)
          exact run_fld ho hs hk (by cases hq : P.info? fl.type <;> simp [hq] at hi ⊢) hd h1 hp
      · cases hc
    · cases hc
  · rename_i args ts ho
    split at hc
    · rename_i x t ha ht
      split at hc
      · rename_i el hu; cases hc; obtain ⟨e1, rfl, h1⟩ := map1 hes; exact run_lenS ho ha ht hu h1 hp
      · rename_i hu; cases hc; obtain ⟨e1, rfl, h1⟩ := map1 hes; exact run_lenT ho ha ht hu h1 hp
      · rename_i k el hu; cases hc; obtain ⟨e1, rfl, h1⟩ := map1 hes; exact run_lenM hr ho ha ht hu h1 hp
      · cases hc
    · cases hc
  · rename_i args ts ho
    split at hc
    · rename_i x y ha; cases hc; obtain ⟨e1, e2, rfl, h1, h2⟩ := map2 hes; exact run_minmax (mx := false) ho ha h1 h2 hp
    · rename_i x y z ha; cases hc; obtain ⟨e1, e2, e3, rfl, h1, h2, h3⟩ := map3 hes
      simp only [prv] at hp
      split at hp
      · rename_i u hu; exact run_minmax3 (mx := false) ho ha h1 h2 h3 hu hp
      · cases hp
    · cases hc
  · rename_i args ts ho
    split at hc
    · rename_i x y ha; cases hc; obtain ⟨e1, e2, rfl, h1, h2⟩ := map2 hes; exact run_minmax (mx := true) ho ha h1 h2 hp
    · rename_i x y z ha; cases hc; obtain ⟨e1, e2, e3, rfl, h1, h2, h3⟩ := map3 hes
      simp only [prv] at hp
      split at hp
      · rename_i u hu; exact run_minmax3 (mx := true) ho ha h1 h2 h3 hu hp
      · cases hp
    · cases hc
  · rename_i t m k ok ho
    split at hc
    · rename_i kt et ht
      split at hc
      · rename_i q i hq hi
        split at hc
        · rename_i z hz
          cases hc
          obtain ⟨e1, e2, rfl, h1, h2⟩ := map2 hes
          exact run_look hr ho ht hq hi hz h1 h2 hp
        · cases hc
      · cases hc
    · cases hc
  · rename_i t parts ho
    split at hc
    · rename_i fs hu
      split at hc
      · rename_i hall
        split at hc
        · rename_i z pl hz hpl
          cases hc
          simp only [prv] at hp
          split at hp
          · rename_i l hl; cases hp; exact run_bld ho (.inl ⟨fs, hu, hall⟩) hz hpl hes hl
          · cases hp
        · cases hc
      · cases hc
    · rename_i n el hu
      split at hc
      · rename_i hie
        split at hc
        · rename_i z pl hz hpl
          cases hc
          simp only [prv] at hp
          split at hp
          · rename_i l hl; cases hp; exact run_bld ho (.inr ⟨n, el, hu, hie⟩) hz hpl hes hl
          · cases hp
        · cases hc
      · cases hc
    · cases hc
  · rename_i fn first cap ho; cases hc
    exact run_mkf ho hes hp
  · rename_i t x ho
    split at hc
    · cases hc
    · cases hc
    · rename_i hn1 hn2
      cases hc
      obtain ⟨e1, rfl, h1⟩ := map1 hes
      cases e1 with
      | l r q => simp [prv] at hp
      | v y =>
        simp only [prv, Option.some.injEq] at hp
        subst hp
        cases hd : P.underlying t with
        | none => exact absurd hd hn2
        | some d => exact run_mki ho hd (fun ms hms => hn1 ms (by rw [hd, hms])) h1
  · cases hc

end

end Go.Proofs.Ytkmknolkblcbeaa.V
