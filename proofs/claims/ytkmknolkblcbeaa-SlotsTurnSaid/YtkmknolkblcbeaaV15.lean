/- Code, resolved; what it does, told backwards. -/
import Derived.Test.YtkmknolkblcbeaaV14
namespace Go.Proofs.Ytkmknolkblcbeaa.V
set_option linter.unusedSectionVars false
set_option linter.unusedVariables false
set_option linter.unusedSimpArgs false
open Go

inductive IC where
  | skip
  | ops (l : List I)
  | plan (p : Plan)
  | seq (a b : IC)
  | cut (a b : IC)
  | cond (x : X) (a b : IC)
  | block (id : Nat) (c : IC)
  | loop (c : IC)
  | exit (id : Nat)
  | ret

def first : Code → Nat
  | .region id _ _ => id + 1
  | .seq a b => if first a = 0 then first b else first a
  | .cond _ a b => if first a = 0 then first b else first a
  | .block _ c => first c
  | .loop c => first c
  | _ => 0

def comp (P : Program) (n : Nat) (prom cuts : List Nat) : Code → Option IC
  | .skip => some .skip
  | .label _ => some .skip
  | .region _ ops draw => match draw with
    | true => if ops.all noDefer then (match mkPlan P n prom ops (lates P ops) ops.size (Array.replicate ops.size false) with | some p => some (.plan p) | none => none) else none
    | false => match cIs P n prom ops ops.toList with | some l => some (.ops l) | none => none
  | .seq a b => match comp P n prom cuts a, comp P n prom cuts b with | some x, some y => some (if cuts.contains (first b - 1) && first b != 0 then .cut x y else .seq x y) | _, _ => none
  | .cond c a b => match comp P n prom cuts a, comp P n prom cuts b with | some x, some y => some (.cond (cx c) x y) | _, _ => none
  | .block id c => match comp P n prom cuts c with | some x => some (.block id x) | none => none
  | .loop c => match comp P n prom cuts c with | some x => some (.loop x) | none => none
  | .exit id => some (.exit id)
  | .ret => some .ret
  | _ => none

abbrev Kont := Env → Bx → Hp → Prop

/-- A loop's round, from what is kept of the frame. -/
@[irreducible] def loopK (body : Kont → Kont) (ρ : Env) (β : Bx) (h : Hp) : Prop :=
  ∃ (σ : Type) (E : σ → Env) (X : σ → Bx) (H : σ → Hp) (Inv : σ → Prop) (μ : σ → Nat) (s : σ), Inv s ∧ subE (E s) ρ ∧ subB (X s) β ∧ h = H s ∧
    ∀ s, Inv s → body (fun ρ' β' h' => ∃ s', Inv s' ∧ μ s' < μ s ∧ subE (E s') ρ' ∧ subB (X s') β' ∧ h' = H s') (E s) (X s) (H s)

/-- A place where only so much is kept. -/
@[irreducible] def cutK (a : Kont → Kont) (b : Kont) (ρ : Env) (β : Bx) (h : Hp) : Prop :=
  ∃ (σ : Type) (E : σ → Env) (X : σ → Bx) (H : σ → Hp) (Inv : σ → Prop), a (fun ρ' β' h' => ∃ s, Inv s ∧ subE (E s) ρ' ∧ subB (X s) β' ∧ h' = H s) ρ β h ∧ ∀ s, Inv s → b (E s) (X s) (H s)

def codeK (P : Program) : IC → Kont → (Nat → Kont) → Kont → Kont
  | .skip, kn, _, _ => kn
  | .ops l, kn, _, _ => opsK P kn l
  | .plan p, kn, _, _ => regK P kn p
  | .seq a b, kn, ke, kr => codeK P a (codeK P b kn ke kr) ke kr
  | .cut a b, kn, ke, kr => cutK (fun kn => codeK P a kn ke kr) (codeK P b kn ke kr)
  | .cond x a b, kn, ke, kr => fun ρ β h => condK (ox ρ x) (codeK P a kn ke kr ρ β h) (codeK P b kn ke kr ρ β h)
  | .block id c, kn, ke, kr => codeK P c kn (fun i => if i = id then kn else ke i) kr
  | .loop c, _, ke, kr => loopK (fun kn => codeK P c kn ke kr)
  | .exit id, _, ke, _ => ke id
  | .ret, _, _, kr => kr

section
variable {P : Program} {n : Nat} {ds : List Deferred} {f : Fm} {prom cuts : List Nat}

theorem least (p : Nat → Prop) (h : ∃ m, p m) : ∃ m, p m ∧ ∀ k, p k → m ≤ k := by
  obtain ⟨m, hm⟩ := h
  induction m using Nat.strongRecOn with
  | _ m ih =>
    by_cases hk : ∃ k, k < m ∧ p k
    · obtain ⟨k, h1, h2⟩ := hk; exact ih k h1 h2
    · exact ⟨m, hm, fun k hp => Nat.le_of_not_lt fun hlt => hk ⟨k, hlt, hp⟩⟩

theorem wpIn_loop_rel {F : Fence} {k : Nat} {c : Code} {Q : Exit → Act → World → Prop} {a : Act} {w : World} (G : Nat → Act → World → Prop) (h0 : ∃ m, G m a w)
    (round : ∀ m a w, G m a w → c.wpIn F k P (Exit.then (fun a' w' => ∃ m', m' < m ∧ G m' a' w') Q) a w) : (Code.loop c).wpIn F k P Q a w := by
  classical
  let μ : Act → World → Nat := fun a w => if h : ∃ m, G m a w then Classical.choose (least _ h) else 0
  have hμ : ∀ a w, (∃ m, G m a w) → G (μ a w) a w ∧ ∀ k, G k a w → μ a w ≤ k := fun a w h => by
    have := Classical.choose_spec (least _ h)
    simp only [μ, dif_pos h]
    exact this
  refine wpIn_loop (fun a w => ∃ m, G m a w) μ h0 fun a w hI => ?_
  refine wpIn_mono (round _ a w (hμ a w hI).1) fun e a' w' he => ?_
  cases e <;> try exact he
  obtain ⟨m', hlt, hG⟩ := he
  exact ⟨⟨m', hG⟩, Nat.lt_of_le_of_lt ((hμ a' w' ⟨m', hG⟩).2 m' hG) hlt⟩

theorem subE_look : ∀ {ρ ρ' : Env}, subE ρ ρ' → ∀ t e, look ρ t = some e → look ρ' t = some e
  | [], _, _, t, e, h => by cases h
  | (k, x) :: r, ρ', hs, t, e, h => by
    simp only [look] at h
    split at h
    · rename_i hk; subst hk; cases h; exact hs.1
    · exact subE_look hs.2 t e h

theorem subB_look : ∀ {β β' : Bx}, subB β β' → SubB β β'
  | [], _, _, t, e, h => by cases h
  | (k, x) :: r, ρ', hs, t, e, h => by
    simp only [lookB] at h
    split at h
    · rename_i hk; subst hk; cases h; exact hs.1
    · exact subB_look hs.2 t e h

theorem Fr.sub {B : Nat → Nat} {ρ ρ' : Env} {a : Act} (s : Fr n ds B ρ' a) (h : subE ρ ρ') : Fr n ds B ρ a := ⟨s.size, s.dfs, fun t e ht => s.env t e (subE_look h t e ht)⟩

theorem Wd.sub {B : Nat → Nat} {β β' : Bx} {h : Hp} {w : World} (hw : Wd B β' h f w) (hs : subB β β') : Wd B β h f w :=
  ⟨fun r cs hl => hw.box r cs (subB_look hs r cs hl), fun r s cs es h1 h2 => hw.inj r s cs es (subB_look hs r cs h1) (subB_look hs s es h2), hw.rep⟩

theorem codeK_sound (hm : P.follows .mixedOrders = true) {r : Option Nat} {k : Nat} : ∀ (c : Code) (ic : IC), comp P n prom cuts c = some ic → ∀ (kn : Kont) (ke : Nat → Kont) (kr : Kont) (Q : Exit → Act → World → Prop),
    (∀ a w, After n ds f kn a w → Q .normal a w) → (∀ id a w, After n ds f (ke id) a w → Q (.exit id) a w) → (∀ a w, After n ds f kr a w → Q .ret a w) →
    ∀ a w, After n ds f (codeK P ic kn ke kr) a w → c.wpIn (FW r) k P Q a w := by
  intro c
  induction c with
  | skip => intro ic hc kn ke kr Q qn qe qr a w ha; cases hc; exact wpIn_skip (qn a w ha)
  | label l => intro ic hc kn ke kr Q qn qe qr a w ha; cases hc; exact wpIn_label (qn a w ha)
  | region id ops draw =>
    intro ic hc kn ke kr Q qn qe qr a w ha
    simp only [comp] at hc
    split at hc
    · split at hc
      · rename_i hd
        split at hc
        · rename_i p hp
          cases hc
          exact regK_sound hm hd hp ha qn
        · cases hc
      · cases hc
    · split at hc
      · rename_i l hl
        cases hc
        refine region_wpIn (Array.all_eq_true_iff_forall_mem.2 fun o ho => cIs_noDefer hl o (by simpa using ho)) ?_
        exact opsK_sound qn _ l a w hl ha
      · cases hc
  | seq x y ihx ihy =>
    intro ic hc kn ke kr Q qn qe qr a w ha
    simp only [comp] at hc
    split at hc
    · rename_i x' y' hx hy
      cases hc
      split at ha
      · obtain ⟨B, ρ, β, h, s, hw, hk⟩ := ha
        simp only [codeK] at hk
        unfold cutK at hk
        obtain ⟨σ, E, X, H, Inv, ha, hb⟩ := hk
        refine wpIn_seq (ihx x' hx _ ke kr (Exit.then (y.wpIn (FW r) k P Q) Q) (fun a w ha => ?_) qe qr a w ⟨B, ρ, β, h, s, hw, ha⟩)
        obtain ⟨B', ρ', β', h', hf', hw', s', hi', g1, g2, rfl⟩ := ha
        exact ihy y' hy kn ke kr Q qn qe qr a w ⟨B', _, _, _, hf'.sub g1, hw'.sub g2, hb s' hi'⟩
      · exact wpIn_seq (ihx x' hx _ ke kr (Exit.then (y.wpIn (FW r) k P Q) Q) (fun a w ha => ihy y' hy kn ke kr Q qn qe qr a w ha) qe qr a w ha)
    · cases hc
  | cond c x y ihx ihy =>
    intro ic hc kn ke kr Q qn qe qr a w ha
    simp only [comp] at hc
    split at hc
    · rename_i x' y' hx hy
      cases hc
      obtain ⟨B, ρ, β, h, s, hw, hk⟩ := ha
      simp only [codeK] at hk
      rcases condK_spec hk with ⟨ht, hk⟩ | ⟨ht, hk⟩
      · exact wpIn_cond_true (s.ox ht) (ihx x' hx kn ke kr Q qn qe qr a w ⟨B, ρ, β, h, s, hw, hk⟩)
      · exact wpIn_cond_false (s.ox ht) (ihy y' hy kn ke kr Q qn qe qr a w ⟨B, ρ, β, h, s, hw, hk⟩)
    · cases hc
  | block id c ih =>
    intro ic hc kn ke kr Q qn qe qr a w ha
    simp only [comp] at hc
    split at hc
    · rename_i x hx
      cases hc
      refine wpIn_block (ih x hx kn _ kr (Exit.inBlock id Q) qn (fun i a w ha => ?_) qr a w ha)
      simp only [Exit.inBlock]
      split
      · rename_i e; subst e; rw [if_pos rfl] at ha; exact qn a w ha
      · rename_i e; rw [if_neg e] at ha; exact qe i a w ha
    · cases hc
  | loop c ih =>
    intro ic hc kn ke kr Q qn qe qr a w ha
    simp only [comp] at hc
    split at hc
    · rename_i x hx
      cases hc
      obtain ⟨B, ρ, β, h, s, hw, hk⟩ := ha
      simp only [codeK] at hk
      unfold loopK at hk
      obtain ⟨σ, E, X, H, Inv, μ, s0, h0, h1, h2, rfl, hround⟩ := hk
      refine wpIn_loop_rel (fun m a w => ∃ B s, Inv s ∧ m = μ s ∧ Fr n ds B (E s) a ∧ Wd B (X s) (H s) f w) ⟨_, B, s0, h0, rfl, s.sub h1, hw.sub h2⟩ ?_
      rintro m a w ⟨B, s, hi, rfl, hf, hw⟩
      refine ih x hx _ ke kr (Exit.then _ Q) (fun a w ha => ?_) qe qr a w ⟨B, _, _, _, hf, hw, hround s hi⟩
      obtain ⟨B', ρ', β', h', hf', hw', s', hi', hlt, g1, g2, rfl⟩ := ha
      exact ⟨μ s', hlt, B', s', hi', rfl, hf'.sub g1, hw'.sub g2⟩
    · cases hc
  | exit id => intro ic hc kn ke kr Q qn qe qr a w ha; cases hc; exact wpIn_exit (qe id a w ha)
  | ret => intro ic hc kn ke kr Q qn qe qr a w ha; cases hc; exact wpIn_ret (qr a w ha)
  | _ => intro ic hc; simp [comp] at hc

/-! ### Calls -/

inductive RV where
  | t (n : Nat)
  | c (n sz : Nat) (ag : Bool)

def cRV (P : Program) : ResultVar → Option RV
  | .tmp t => some (.t t)
  | .cell a t => if (P.info? t).isSome && (P.underlying t).isSome then some (.c a (P.cellsOf t) (isAg P t)) else none

def cRVs (P : Program) : List ResultVar → Option (List RV)
  | [] => some []
  | x :: l => match cRV P x, cRVs P l with
    | some y, some r => some (y :: r)
    | _, _ => none

def rv (h : Hp) (β : Bx) (ρ : Env) : RV → Option Ent
  | .t n => look ρ n
  | .c n sz ag => match look ρ n with
    | some e => pLd sz ag h β e
    | none => none

def rvs (h : Hp) (β : Bx) (ρ : Env) : List RV → Option (List Value)
  | [] => some []
  | x :: l => match rv h β ρ x, rvs h β ρ l with
    | some (.v y), some r => some (y :: r)
    | _, _ => none

def one1 : List Value → Value
  | [x] => x
  | l => .tuple l.toArray

/-- The end of a function. -/
def retK (Q : Value → Hp → Prop) (rs : List RV) (ρ : Env) (β : Bx) (h : Hp) : Prop := match rvs h β ρ rs with
  | some vs => Q (one1 vs) h
  | none => False

theorem mapM_rvs (g : ResultVar → Sem Value) {B : Nat → Nat} {ρ : Env} {β : Bx} {h : Hp} {a : Act} {w : World} (s : Fr n ds B ρ a) (hw : Wd B β h f w) (g1 : ∀ t, g (.tmp t) = pure (a.tmps.getD t undef)) (g2 : ∀ x t, g (.cell x t) = do loadVar t (← asAddr (a.tmps.getD x undef))) :
    ∀ (l : List ResultVar) (rs : List RV) (vs : List Value), cRVs P l = some rs → rvs h β ρ rs = some vs → (l.mapM g).run P w = .ok vs w
  | [], rs, vs, h1, h2 => by
    cases h1; cases h2; rfl
  | x :: l, rs, vs, h1, h2 => by
    simp only [cRVs] at h1
    split at h1
    · rename_i y r hy hr
      cases h1
      simp only [rvs] at h2
      split at h2
      · rename_i v vs' hv hvs
        cases h2
        have ih := mapM_rvs g s hw g1 g2 l r vs' hr hvs
        rw [List.mapM_cons, Sem.run_bind]
        cases x with
        | tmp t =>
          simp only [cRV, Option.some.injEq] at hy
          subst hy
          simp only [rv] at hv
          have := s.env t _ hv
          have h3 : a.tmps.getD t undef = v := by simp [Array.getD_eq_getD_getElem?, this, entV]
          simp only [g1, h3, Sem.run_pure, Result.andThen_ok, Sem.run_bind, ih]
        | cell x t =>
          simp only [cRV] at hy
          split at hy
          · rename_i hi
            simp only [Option.some.injEq] at hy
            subst hy
            rw [Bool.and_eq_true] at hi
            simp only [rv] at hv
            split at hv
            · rename_i e he
              have h3 : a.tmps.getD x undef = entV B e := by simp [Array.getD_eq_getD_getElem?, s.env x _ he]
              obtain ⟨d, hd⟩ := Option.isSome_iff_exists.1 hi.2
              have key : (do loadVar t (← asAddr (a.tmps.getD x undef)) : Sem Value).run P w = .ok v w := by
                rw [h3]
                unfold pLd at hv
                split at hv
                · rename_i b o
                  cases hl : ldO o (P.cellsOf t) (isAg P t) (h b) with
                  | none => simp [hl, toE] at hv
                  | some u =>
                    simp only [hl, toE, Option.some.injEq, Ent.v.injEq] at hv
                    subst hv
                    unfold ldO at hl
                    split at hl
                    · rename_i c ty z hb
                      simp only [entV, asAddr, Sem.run_bind, Sem.run_pure, Result.andThen_ok, run_loadVar' hd hi.1 (hw.rep.vis _ _ hb) hl]
                    · cases hl
                · rename_i r o
                  cases hl : ldL o (P.cellsOf t) (isAg P t) (lookB β r) with
                  | none => simp [hl, toE] at hv
                  | some u =>
                    simp only [hl, toE, Option.some.injEq, Ent.v.injEq] at hv
                    subst hv
                    unfold ldL at hl
                    split at hl
                    · rename_i cs hb
                      obtain ⟨ty, hB⟩ := hw.boxes _ _ hb
                      simp only [entV, asAddr, Sem.run_bind, Sem.run_pure, Result.andThen_ok, run_loadVar' hd hi.1 hB hl]
                    · cases hl
                · cases hv
              simp only [g2, key, Result.andThen_ok, Sem.run_bind, ih, Sem.run_pure]
            · cases hv
          · cases hy
      · cases h2
    · cases h1

theorem results_run {B : Nat → Nat} {ρ : Env} {β : Bx} {h : Hp} {a : Act} {w : World} {fn : Func} {rs : List RV} {Q : Value → Hp → Prop} (s : Fr n ds B ρ a) (hw : Wd B β h f w) (hc : cRVs P fn.results.toList = some rs)
    (hk : retK Q rs ρ β h) : ∃ v, (results fn a.tmps).run P w = .ok v w ∧ Q v h := by
  unfold retK at hk
  split at hk
  · rename_i vs hvs
    refine ⟨_, ?_, hk⟩
    unfold results
    rw [Sem.run_bind, Array.mapM_eq_mapM_toList, Sem.run_map, mapM_rvs (P := P) _ s hw (fun _ => rfl) (fun _ _ => rfl) fn.results.toList rs vs hc hvs]
    simp only [Result.andThen_ok, Sem.run_pure]
    rcases vs with _ | ⟨x, _ | ⟨y, l⟩⟩ <;> rfl
  · cases hk

def argsE : Nat → List Value → Env
  | _, [] => []
  | i, v :: vs => (i, .v v) :: argsE (i + 1) vs

theorem look_argsE : ∀ (vs : List Value) (i t : Nat) (e : Ent), look (argsE i vs) t = some e → ∃ v, e = .v v ∧ i ≤ t ∧ vs[t - i]? = some v
  | [], _, _, _, h => by cases h
  | v :: vs, i, t, e, h => by
    simp only [argsE, look] at h
    split at h
    · rename_i hk; subst hk; cases h; exact ⟨v, rfl, Nat.le_refl _, by simp⟩
    · obtain ⟨v', h1, h2, h3⟩ := look_argsE vs (i + 1) t e h
      refine ⟨v', h1, by omega, ?_⟩
      rw [show t - i = (t - (i + 1)) + 1 by omega]
      simpa using h3

/-- A function's contract, from its code. -/
theorem Ok.of_code (hm : P.follows .mixedOrders = true) {g : FuncId} {fn : Func} {c : Code} {ic : IC} {rs : List RV} {args : List Value} {h : Hp} {Q : Value → Hp → Prop}
    (hf : P.funcs[g]? = some fn) (hb : fn.body = some c) (hn : fn.ntmps = n) (hc : comp P n prom cuts c = some ic) (hr : cRVs P fn.results.toList = some rs) (hl : args.length ≤ n)
    (hk : codeK P ic (retK Q rs) (fun _ _ _ _ => False) (retK Q rs) (argsE 0 args) [] h) : Ok P g args h Q := by
  refine .intro fun w fr hrep => ?_
  refine (callsIn_FW (r := none) (n := 0)).1 (callsIn_of_wp hf hb trivial ?_)
  subst hn
  have hret : ∀ a w, After fn.ntmps [] fr (retK Q rs) a w → a.defers = [] ∧ ∃ v, (results fn a.tmps).run P w = .ok v w ∧ ∃ v' h', Ending.returned v = .returned v' ∧ Q v' h' ∧ Rep w h' fr := by
    rintro a w ⟨B, ρ, β, h, s, hw, hk⟩
    obtain ⟨v, h1, h2⟩ := results_run s hw hr hk
    exact ⟨s.dfs, v, h1, v, h, rfl, h2, hw.rep⟩
  refine codeK_sound (ds := []) (f := fr) hm c ic hc _ _ _ _ hret ?_ hret _ w ⟨fun _ => 0, argsE 0 args, [], h, ?_, ⟨fun _ _ h => (by cases h), fun _ _ _ _ h => (by cases h), hrep⟩, hk⟩
  · rintro id a w ⟨_, _, _, _, _, _, h⟩; cases h
  · refine ⟨by simp; omega, rfl, fun t e ht => ?_⟩
    obtain ⟨v, rfl, _, h3⟩ := look_argsE args 0 t e ht
    simp only [Nat.sub_zero] at h3
    have hlt : t < args.length := (List.getElem?_eq_some_iff.1 h3).1
    simp only [entV]
    rw [Array.getElem?_append_left (by simpa using hlt)]
    simpa using h3

theorem Ok.of (hm : P.follows .mixedOrders = true) {g : FuncId} {fn : Func} {ic : IC} {rs : List RV} {args : List Value} {h : Hp} {Q : Value → Hp → Prop}
    (hf : P.funcs[g]? = some fn) (hn : fn.ntmps = n) (hc : fn.body.bind (comp P n prom cuts) = some ic) (hr : cRVs P fn.results.toList = some rs) (hl : Nat.ble args.length n = true)
    (hk : codeK P ic (retK Q rs) (fun _ _ _ _ => False) (retK Q rs) (argsE 0 args) [] h) : Ok P g args h Q := by
  cases hb : fn.body with
  | none => rw [hb] at hc; cases hc
  | some c => rw [hb] at hc; exact Ok.of_code hm hf hb hn hc hr (Nat.le_of_ble_eq_true hl) hk

end
end Go.Proofs.Ytkmknolkblcbeaa.V
