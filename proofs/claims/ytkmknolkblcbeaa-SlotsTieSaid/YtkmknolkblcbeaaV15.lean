/- Code, resolved; what it does, told backwards. -/
import Derived.Test.YtkmknolkblcbeaaV14
namespace Go.Proofs.Ytkmknolkblcbeaa.V
set_option linter.unusedSectionVars false
set_option linter.unusedVariables false
set_option linter.unusedSimpArgs false
open Go

inductive IC where
  | skip
  | ops (l : List I)
  | plan (p : Plan)
  | seq (a b : IC)
  | cut (a b : IC)
  | cond (x : X) (a b : IC)
  | block (id : Nat) (c : IC)
  | loop (c : IC)
  | exit (id : Nat)
  | ret
  | rf (x : X) (ps : List Nat) (a b : IC)

def first : Code → Nat
  | .region id _ _ => id + 1
  | .seq a b => if first a = 0 then first b else first a
  | .cond _ a b => if first a = 0 then first b else first a
  | .block _ c => first c
  | .loop c => first c
  | .rangeFunc _ _ _ b => first b
  | _ => 0

def comp (P : Program) (n : Nat) (prom cuts : List Nat) : Code → Option IC
  | .skip => some .skip
  | .label _ => some .skip
  | .region _ ops draw => match draw with
    | true => if ops.all noDefer then (match mkPlan P n prom ops (lates P ops) ops.size (Array.replicate ops.size false) with | some p => some (.plan p) | none => none) else none
    | false => match cIs P n prom ops ops.toList with | some l => some (.ops l) | none => none
  | .seq a b => match comp P n prom cuts a, comp P n prom cuts b with | some x, some y => some (if cuts.contains (first b - 1) && first b != 0 then .cut x y else .seq x y) | _, _ => none
  | .cond c a b => match comp P n prom cuts a, comp P n prom cuts b with | some x, some y => some (.cond (cx c) x y) | _, _ => none
  | .block id c => match comp P n prom cuts c with | some x => some (.block id x) | none => none
  | .loop c => match comp P n prom cuts c with | some x => some (.loop x) | none => none
  | .exit id => some (.exit id)
  | .ret => some .ret
  | .rangeFunc g ps a b => match comp P n prom cuts a, comp P n prom cuts b with | some x, some y => if ps.toList.all (· < n) then some (.rf (cx g) ps.toList x y) else none | _, _ => none
  | _ => none

abbrev Kont := Env → Bx → Hp → Prop

/-- A loop's round, from what is kept of the frame. -/
@[irreducible] def loopK (body : Kont → Kont) (ρ : Env) (β : Bx) (h : Hp) : Prop :=
  ∃ (σ : Type) (E : σ → Env) (X : σ → Bx) (H : σ → Hp) (Inv : σ → Prop) (μ : σ → Nat) (s : σ), Inv s ∧ subE (E s) ρ ∧ subB (X s) β ∧ h = H s ∧
    ∀ s, Inv s → body (fun ρ' β' h' => ∃ s', Inv s' ∧ μ s' < μ s ∧ subE (E s') ρ' ∧ subB (X s') β' ∧ h' = H s') (E s) (X s) (H s)

/-- A place where only so much is kept. -/
@[irreducible] def cutK (a : Kont → Kont) (b : Kont) (ρ : Env) (β : Bx) (h : Hp) : Prop :=
  ∃ (σ : Type) (E : σ → Env) (X : σ → Bx) (H : σ → Hp) (Inv : σ → Prop), a (fun ρ' β' h' => ∃ s, Inv s ∧ subE (E s) ρ' ∧ subB (X s) β' ∧ h' = H s) ρ β h ∧ ∀ s, Inv s → b (E s) (X s) (H s)

/-- How a round was left. -/
inductive Jmp where
  | ret
  | exit (id : Nat)

/-- Where a loop over a function stands. -/
inductive LS where
  | ready
  | busy
  | done (j : Jmp)

def zipE : List Nat → List Value → Env → Env
  | p :: ps, v :: vs, ρ => zipE ps vs ((p, .v v) :: ρ)
  | _, _, ρ => ρ

def rdOk (rd : Option Nat) (h : Hp) : Prop := match rd with
  | none => True
  | some l0 => ∃ r0, h l0 = some (.loop r0)

abbrev Tr := Kont → (Nat → Kont) → Kont → Kont

/-- A loop over a function: R tells the loop's record by where it stands. -/
@[irreducible] def rfK (P : Program) (rd : Option Nat) (ps : List Nat) (assign body : Nat → Tr) (g : Option Ent) (kn : Kont) (ke : Nat → Kont) (kr : Kont) (ρ : Env) (β : Bx) (h : Hp) : Prop :=
  β = [] ∧ rdOk rd h ∧ match g with
  | some (.v (.func (.func gf) first cap)) => callable P gf = true ∧ ∀ (l : Nat) (R : LS → Obj), h l = none → (∀ s, ∃ r, R s = .loop r) →
      (∀ vs h0 Q, vs.length = ps.length → h0 l = some (R .ready) →
        assign l (fun ρ' β' h' => h' l = some (R .ready) ∧
          body l (fun _ _ h' => h' l = some (R .busy) ∧ Q (.bool true) (upd h' l (R .ready)))
            (fun id _ _ h' => h' l = some (R .busy) ∧ Q (.bool false) (upd h' l (R (.done (.exit id)))))
            (fun _ _ h' => h' l = some (R .busy) ∧ Q (.bool false) (upd h' l (R (.done .ret)))) ρ' β' (upd h' l (R .busy)))
          (fun _ _ _ _ => False) (fun _ _ _ => False) (zipE ps vs ρ) [] h0 → OkY P l vs h0 Q) →
      Ok P gf (first.toList ++ [.func (.yield l) #[] #[]] ++ cap.toList) (upd h l (R .ready)) (fun _ h' => ∃ s, h' l = some (R s) ∧ ∀ o, match s with
        | .ready => kn ρ [] (upd h' l o)
        | .done (.exit id) => ke id ρ [] (upd h' l o)
        | .done .ret => kr ρ [] (upd h' l o)
        | .busy => False)
  | _ => False

def codeK (P : Program) : Option Nat → IC → Kont → (Nat → Kont) → Kont → Kont
  | _, .skip, kn, _, _ => kn
  | _, .ops l, kn, _, _ => opsK P kn l
  | _, .plan p, kn, _, _ => regK P kn p
  | rd, .seq a b, kn, ke, kr => codeK P rd a (codeK P rd b kn ke kr) ke kr
  | rd, .cut a b, kn, ke, kr => cutK (fun kn => codeK P rd a kn ke kr) (codeK P rd b kn ke kr)
  | rd, .cond x a b, kn, ke, kr => fun ρ β h => condK (ox ρ x) (codeK P rd a kn ke kr ρ β h) (codeK P rd b kn ke kr ρ β h)
  | rd, .block id c, kn, ke, kr => codeK P rd c kn (fun i => if i = id then kn else ke i) kr
  | rd, .loop c, _, ke, kr => loopK (fun kn => codeK P rd c kn ke kr)
  | _, .exit id, _, ke, _ => ke id
  | _, .ret, _, _, kr => kr
  | rd, .rf x ps a b, kn, ke, kr => fun ρ β h => rfK P rd ps (fun l => codeK P (some l) a) (fun l => codeK P (some l) b) (ox ρ x) kn ke kr ρ β h

section
variable {P : Program} {n : Nat} {ds : List Deferred} {f : Fm} {prom cuts : List Nat}

theorem least (p : Nat → Prop) (h : ∃ m, p m) : ∃ m, p m ∧ ∀ k, p k → m ≤ k := by
  obtain ⟨m, hm⟩ := h
  induction m using Nat.strongRecOn with
  | _ m ih =>
    by_cases hk : ∃ k, k < m ∧ p k
    · obtain ⟨k, h1, h2⟩ := hk; exact ih k h1 h2
    · exact ⟨m, hm, fun k hp => Nat.le_of_not_lt fun hlt => hk ⟨k, hlt, hp⟩⟩

theorem wpIn_loop_rel {F : Fence} {k : Nat} {c : Code} {Q : Exit → Act → World → Prop} {a : Act} {w : World} (G : Nat → Act → World → Prop) (h0 : ∃ m, G m a w)
    (round : ∀ m a w, G m a w → c.wpIn F k P (Exit.then (fun a' w' => ∃ m', m' < m ∧ G m' a' w') Q) a w) : (Code.loop c).wpIn F k P Q a w := by
  classical
  let μ : Act → World → Nat := fun a w => if h : ∃ m, G m a w then Classical.choose (least _ h) else 0
  have hμ : ∀ a w, (∃ m, G m a w) → G (μ a w) a w ∧ ∀ k, G k a w → μ a w ≤ k := fun a w h => by
    have := Classical.choose_spec (least _ h)
    simp only [μ, dif_pos h]
    exact this
  refine wpIn_loop (fun a w => ∃ m, G m a w) μ h0 fun a w hI => ?_
  refine wpIn_mono (round _ a w (hμ a w hI).1) fun e a' w' he => ?_
  cases e <;> try exact he
  obtain ⟨m', hlt, hG⟩ := he
  exact ⟨⟨m', hG⟩, Nat.lt_of_le_of_lt ((hμ a' w' ⟨m', hG⟩).2 m' hG) hlt⟩

theorem subE_look : ∀ {ρ ρ' : Env}, subE ρ ρ' → ∀ t e, look ρ t = some e → look ρ' t = some e
  | [], _, _, t, e, h => by cases h
  | (k, x) :: r, ρ', hs, t, e, h => by
    simp only [look] at h
    split at h
    · rename_i hk; subst hk; cases h; exact hs.1
    · exact subE_look hs.2 t e h

theorem subB_look : ∀ {β β' : Bx}, subB β β' → SubB β β'
  | [], _, _, t, e, h => by cases h
  | (k, x) :: r, ρ', hs, t, e, h => by
    simp only [lookB] at h
    split at h
    · rename_i hk; subst hk; cases h; exact hs.1
    · exact subB_look hs.2 t e h

theorem Fr.sub {B : Nat → Nat} {ρ ρ' : Env} {a : Act} (s : Fr n ds B ρ' a) (h : subE ρ ρ') : Fr n ds B ρ a := ⟨s.size, s.dfs, fun t e ht => s.env t e (subE_look h t e ht)⟩

theorem Wd.sub {B : Nat → Nat} {β β' : Bx} {h : Hp} {w : World} (hw : Wd B β' h f w) (hs : subB β β') : Wd B β h f w :=
  ⟨fun r cs hl => hw.box r cs (subB_look hs r cs hl), fun r s cs es h1 h2 => hw.inj r s cs es (subB_look hs r cs h1) (subB_look hs s es h2), hw.rep⟩

/-! ### Loops over functions: the blocks for deferred calls lie out of sight -/

def mark (D : Nat) : Deferred := { target := .collected D, args := #[] }

structure Mk (f f' : Fm) (Ds : List Nat) : Prop where
  base : f'.base = f.base
  old : ∀ b o, f b = some o → f' b = some o
  new : ∀ D ∈ Ds, f' D = some (.deferred (some []))
  out : ∀ D ∈ Ds, f D = none
  nd : Ds.Nodup

theorem Mk.nil (f : Fm) : Mk f f [] := ⟨rfl, fun _ _ h => h, by simp, by simp, by simp⟩

theorem Mk.rep {f f' : Fm} {Ds : List Nat} (hm : Mk f f' Ds) {w : World} {h : Hp} (hr : Rep w h f') : Rep w h f :=
  ⟨hr.vis, fun b o hb => hr.hid b o (hm.old b o hb), fun b o hb => (by
    cases hf : f b with
    | none => rfl
    | some p => have := hr.dis b o hb; rw [hm.old b p hf] at this; cases this), (by rw [← hm.base]; exact hr.kp)⟩

/-- What is known behind a stretch of code: marks may have come. -/
def AfterD (n : Nat) (ds : List Deferred) (f : Fm) (K : Env → Bx → Hp → Prop) (a : Act) (w : World) : Prop :=
  ∃ Ds f', Mk f f' Ds ∧ After n (Ds.map mark ++ ds) f' K a w

theorem After.toD {K : Env → Bx → Hp → Prop} {a : Act} {w : World} (h : After n ds f K a w) : AfterD n ds f K a w := ⟨[], f, Mk.nil f, h⟩

theorem upd_putObj {w : World} {l : Nat} {o : Obj} (o' : Obj) (hl : w.heap[l]? = some o) : Upd w (w.putObj l o') l o' := by
  refine ⟨fun x => ?_, ⟨rfl, rfl, rfl⟩⟩
  have hlt : l < w.heap.size := (Array.getElem?_eq_some_iff.1 hl).1
  split
  · rename_i e; subst e; exact World.putObj_heap_same hlt
  · rename_i e; exact World.putObj_heap_other e

theorem foldl_size : ∀ (ps : List (Nat × Value)) (t : Array Value), (ps.foldl (fun tmps (x : Nat × Value) => tmps.setIfInBounds x.1 x.2) t).size = t.size
  | [], _ => rfl
  | p :: ps, t => by rw [List.foldl_cons, foldl_size ps]; simp

theorem zipE_env {B : Nat → Nat} : ∀ (ps : List Nat) (vs : List Value) (ρ : Env) (t : Array Value), (∀ p ∈ ps, p < t.size) → (∀ i e, look ρ i = some e → t[i]? = some (entV B e)) →
    ∀ i e, look (zipE ps vs ρ) i = some e → ((ps.zip vs).foldl (fun tmps (x : Nat × Value) => tmps.setIfInBounds x.1 x.2) t)[i]? = some (entV B e)
  | [], _, ρ, t, _, h => by simpa [zipE] using h
  | _ :: _, [], ρ, t, _, h => by simpa [zipE] using h
  | p :: ps, v :: vs, ρ, t, hp, h => by
    simp only [zipE, List.zip_cons_cons, List.foldl_cons]
    refine zipE_env ps vs _ _ (fun q hq => by simpa using hp q (List.mem_cons_of_mem _ hq)) fun i e hi => ?_
    simp only [look] at hi
    have hlt : p < t.size := hp p (List.mem_cons_self ..)
    split at hi
    · rename_i hk; subst hk; cases hi; simp [hlt, entV]
    · rename_i hk; rw [Array.getElem?_setIfInBounds_ne hk]; exact h i e hi

def jcode : Jmp → Code
  | .ret => .ret
  | .exit id => .exit id

def recOf (fn : FuncId) (tmps : Array Value) (ps : Array Tmp) (assign body : Code) (D : Nat) : LS → Loop
  | .ready => { state := .ready, pending := none, fn, tmps, params := ps, assign, body, defers := D }
  | .busy => { state := .busy, pending := none, fn, tmps, params := ps, assign, body, defers := D }
  | .done j => { state := .done, pending := some (jcode j), fn, tmps, params := ps, assign, body, defers := D }

/-- What codeK_sound says of one stretch of code. -/
def Sound (P : Program) (n : Nat) (c : Code) (ic : IC) : Prop :=
  ∀ (rd : Option Nat) (k : Nat) (ds : List Deferred) (f : Fm) (kn : Kont) (ke : Nat → Kont) (kr : Kont) (Q : Exit → Act → World → Prop),
    (∀ a w, AfterD n ds f kn a w → Q .normal a w) → (∀ id a w, AfterD n ds f (ke id) a w → Q (.exit id) a w) → (∀ a w, AfterD n ds f kr a w → Q .ret a w) →
    ∀ a w, AfterD n ds f (codeK P rd ic kn ke kr) a w → c.wpIn (FW rd) k P Q a w

/-- One round. -/
theorem round_ok {fn : FuncId} {tmps : Array Value} {ps : Array Tmp} {ca cb : Code} {ia ib : IC} {D l : Nat} {B : Nat → Nat} {ρ : Env} (hsa : Sound P n ca ia) (hsb : Sound P n cb ib) (hsz : tmps.size = n)
    (hps : ∀ p ∈ ps.toList, p < n) (henv : ∀ i e, look ρ i = some e → tmps[i]? = some (entV B e)) {vs : List Value} {h0 : Hp} {Q : Value → Hp → Prop} (hlen : vs.length = ps.toList.length)
    (hl : h0 l = some (.loop (recOf fn tmps ps ca cb D .ready)))
    (hk : codeK P (some l) ia (fun ρ' β' h' => h' l = some (.loop (recOf fn tmps ps ca cb D .ready)) ∧
          codeK P (some l) ib (fun _ _ h' => h' l = some (.loop (recOf fn tmps ps ca cb D .busy)) ∧ Q (.bool true) (upd h' l (.loop (recOf fn tmps ps ca cb D .ready))))
            (fun id _ _ h' => h' l = some (.loop (recOf fn tmps ps ca cb D .busy)) ∧ Q (.bool false) (upd h' l (.loop (recOf fn tmps ps ca cb D (.done (.exit id))))))
            (fun _ _ h' => h' l = some (.loop (recOf fn tmps ps ca cb D .busy)) ∧ Q (.bool false) (upd h' l (.loop (recOf fn tmps ps ca cb D (.done .ret))))) ρ' β' (upd h' l (.loop (recOf fn tmps ps ca cb D .busy))))
          (fun _ _ _ _ => False) (fun _ _ _ => False) (zipE ps.toList vs ρ) [] h0) : OkY P l vs h0 Q := by
  refine .intro fun w fr hrep => ?_
  have hlw := hrep.vis _ _ hl
  refine ⟨fn, _, ca, cb, w, run_yield hlw (by simp [recOf]; simpa using hlen), ?_⟩
  refine roundIn_of_wpIn (F := FW none) (n := 0) trivial ?_
  have hfold : (ps.zip vs.toArray).foldl (fun tmps (x : Tmp × Value) => tmps.setIfInBounds x.1 x.2) tmps = (ps.toList.zip vs).foldl (fun tmps (x : Nat × Value) => tmps.setIfInBounds x.1 x.2) tmps := by
    rw [← Array.foldl_toList]
    simp
  have hin : AfterD n [] fr (codeK P (some l) ia _ (fun _ _ _ _ => False) (fun _ _ _ => False)) { tmps := (ps.zip vs.toArray).foldl (fun tmps (x : Tmp × Value) => tmps.setIfInBounds x.1 x.2) tmps, defers := [] } w :=
    After.toD ⟨B, _, [], h0, ⟨by rw [hfold]; exact (foldl_size _ _).trans hsz, rfl, by
      intro i e hi
      simp only [hfold]
      exact zipE_env _ _ _ _ (by rw [hsz]; exact hps) henv i e hi⟩, ⟨fun _ _ h => (by cases h), fun _ _ _ _ h => (by cases h), hrep⟩, hk⟩
  have fin : ∀ {kn : Kont} {a : Act} {w : World} (jump : Option Code) (s : LS), (s ≠ .busy) → (recOf fn tmps ps ca cb D s).state = (if jump.isNone then .ready else .done) → (recOf fn tmps ps ca cb D s).pending = jump →
      AfterD n [] fr (fun _ _ h' => h' l = some (.loop (recOf fn tmps ps ca cb D .busy)) ∧ Q (.bool jump.isNone) (upd h' l (.loop (recOf fn tmps ps ca cb D s)))) a w →
      ∃ v w', (Instr.endRound l jump).run P w = .ok v w' ∧ ∃ v' h', Ending.returned v = .returned v' ∧ Q v' h' ∧ Rep w' h' fr := by
    intro kn a w jump s hs h1 h2 ⟨Ds, f', hm, B, ρ, β, h, hf, hw, hlb, hq⟩
    have hr := hm.rep hw.rep
    refine ⟨_, _, run_endRound jump (hr.vis _ _ hlb), _, _, rfl, hq, hr.set hlb ?_⟩
    have he : ({ recOf fn tmps ps ca cb D .busy with state := if jump.isNone then .ready else .done, pending := jump } : Loop) = recOf fn tmps ps ca cb D s := by
      rw [← h1, ← h2]; cases s <;> rfl
    rw [he]
    exact upd_putObj _ (hr.vis _ _ hlb)
  refine hsa (some l) 0 [] fr _ _ _ _ ?_ ?_ ?_ _ _ hin
  · rintro a1 w1 ⟨Ds, f', hm, B', ρ', β', h', hf', hw', hl', hk'⟩
    have hlw' := hw'.rep.vis _ _ hl'
    refine ⟨_, run_beginRound hlw' rfl, ?_⟩
    have hup := upd_putObj (.loop (recOf fn tmps ps ca cb D .busy)) hlw'
    refine hsb (some l) 0 [] fr _ _ _ _ ?_ ?_ ?_ _ _ ⟨Ds, f', hm, B', ρ', β', _, hf', hw'.set hl' hup, hk'⟩
    · intro a w ha; exact fin (kn := fun _ _ _ => True) none .ready (by simp) rfl rfl ha
    · intro id a w ha; exact fin (kn := fun _ _ _ => True) (some (.exit id)) (.done (.exit id)) (by simp) rfl rfl ha
    · intro a w ha; exact fin (kn := fun _ _ _ => True) (some .ret) (.done .ret) (by simp) rfl rfl ha
  · rintro id a w ⟨_, _, _, _, _, _, _, _, _, h⟩; cases h
  · rintro a w ⟨_, _, _, _, _, _, _, _, _, h⟩; cases h

theorem run_enterLoop_in {w : World} {l₀ : Nat} {r₀ : Loop} (h : w.heap[l₀]? = some (.loop r₀)) (fn : FuncId) (tmps : Array Value) (ps : Array Tmp) (assign body : Code) :
    (Instr.enterLoop fn tmps ps assign body (some l₀)).run P w =
      .ok (w.heap.size, []) (w.alloc (.loop { state := .ready, pending := none, fn, tmps, params := ps, assign, body, defers := r₀.defers })) := by
  unfold Instr.enterLoop
  simp only [Sem.run_bind, run_getLoop h, run_newObj_alloc, Result.andThen, Sem.run_pure]

theorem resolve_yield {a : Act} {g : Operand} {l : Nat} {gf : FuncId} {first cap : Array Value} {w : World} (hg : a.eval g = .func (.func gf) first cap) :
    (resolve a.eval (rangeCall g l) 0).run P w = .ok { target := .fn (.func gf) cap, args := first ++ #[.func (.yield l) #[] #[]] } w := by
  simp only [resolve, rangeCall, Deferred.ofValue, hg, Sem.run_pure]
  simp [go_sem]

theorem invoke_func {gf : FuncId} {args cap : Array Value} {w : World} (hc : callable P gf = true) : (invoke (.fn (.func gf) cap) args).run P w = .ok (.enter gf (args ++ cap)) w := by
  unfold callable at hc
  split at hc
  · rename_i fn hf
    simp only [Bool.and_eq_true, Bool.not_eq_true'] at hc
    have hb : fn.body.isNone = false := by cases hq : fn.body <;> simp [hq] at hc ⊢
    simp only [invoke, callFunc, Sem.run_bind, run_program, Result.andThen_ok, Sem.run_pure, hf, hc.1, Bool.false_eq_true, if_false, hb]
  · cases hc

theorem codeK_sound (hm : P.follows .mixedOrders = true) : ∀ (c : Code) (ic : IC), comp P n prom cuts c = some ic → Sound P n c ic := by
  intro c
  induction c with
  | skip => intro ic hc rd k ds f kn ke kr Q qn qe qr a w ha; cases hc; exact wpIn_skip (qn a w ha)
  | label l => intro ic hc rd k ds f kn ke kr Q qn qe qr a w ha; cases hc; exact wpIn_label (qn a w ha)
  | region id ops draw =>
    intro ic hc rd k ds f kn ke kr Q qn qe qr a w ha
    obtain ⟨Ds, f', hmk, ha⟩ := ha
    simp only [comp] at hc
    split at hc
    · split at hc
      · rename_i hd
        split at hc
        · rename_i p hp
          cases hc
          exact regK_sound hm hd hp ha fun a w ha => qn a w ⟨Ds, f', hmk, ha⟩
        · cases hc
      · cases hc
    · split at hc
      · rename_i l hl
        cases hc
        refine region_wpIn (Array.all_eq_true_iff_forall_mem.2 fun o ho => cIs_noDefer hl o (by simpa using ho)) ?_
        exact opsK_sound (fun a w ha => qn a w ⟨Ds, f', hmk, ha⟩) _ l a w hl ha
      · cases hc
  | seq x y ihx ihy =>
    intro ic hc rd k ds f kn ke kr Q qn qe qr a w ha
    simp only [comp] at hc
    split at hc
    · rename_i x' y' hx hy
      cases hc
      split at ha
      · obtain ⟨Ds, f', hmk, B, ρ, β, h, s, hw, hk⟩ := ha
        simp only [codeK] at hk
        unfold cutK at hk
        obtain ⟨σ, E, X, H, Inv, ha, hb⟩ := hk
        refine wpIn_seq (ihx x' hx rd k ds f _ ke kr (Exit.then (y.wpIn (FW rd) k P Q) Q) (fun a w ha => ?_) qe qr a w ⟨Ds, f', hmk, B, ρ, β, h, s, hw, ha⟩)
        obtain ⟨Ds', f'', hmk', B', ρ', β', h', hf', hw', s', hi', g1, g2, rfl⟩ := ha
        exact ihy y' hy rd k ds f kn ke kr Q qn qe qr a w ⟨Ds', f'', hmk', B', _, _, _, hf'.sub g1, hw'.sub g2, hb s' hi'⟩
      · exact wpIn_seq (ihx x' hx rd k ds f _ ke kr (Exit.then (y.wpIn (FW rd) k P Q) Q) (fun a w ha => ihy y' hy rd k ds f kn ke kr Q qn qe qr a w ha) qe qr a w ha)
    · cases hc
  | cond c x y ihx ihy =>
    intro ic hc rd k ds f kn ke kr Q qn qe qr a w ha
    simp only [comp] at hc
    split at hc
    · rename_i x' y' hx hy
      cases hc
      obtain ⟨Ds, f', hmk, B, ρ, β, h, s, hw, hk⟩ := ha
      simp only [codeK] at hk
      rcases condK_spec hk with ⟨ht, hk⟩ | ⟨ht, hk⟩
      · exact wpIn_cond_true (s.ox ht) (ihx x' hx rd k ds f kn ke kr Q qn qe qr a w ⟨Ds, f', hmk, B, ρ, β, h, s, hw, hk⟩)
      · exact wpIn_cond_false (s.ox ht) (ihy y' hy rd k ds f kn ke kr Q qn qe qr a w ⟨Ds, f', hmk, B, ρ, β, h, s, hw, hk⟩)
    · cases hc
  | block id c ih =>
    intro ic hc rd k ds f kn ke kr Q qn qe qr a w ha
    simp only [comp] at hc
    split at hc
    · rename_i x hx
      cases hc
      refine wpIn_block (ih x hx rd k ds f kn _ kr (Exit.inBlock id Q) qn (fun i a w ha => ?_) qr a w ha)
      simp only [Exit.inBlock]
      split
      · rename_i e; subst e; rw [if_pos rfl] at ha; exact qn a w ha
      · rename_i e; rw [if_neg e] at ha; exact qe i a w ha
    · cases hc
  | loop c ih =>
    intro ic hc rd k ds f kn ke kr Q qn qe qr a w ha
    simp only [comp] at hc
    split at hc
    · rename_i x hx
      cases hc
      obtain ⟨Ds, f', hmk, B, ρ, β, h, s, hw, hk⟩ := ha
      simp only [codeK] at hk
      unfold loopK at hk
      obtain ⟨σ, E, X, H, Inv, μ, s0, h0, h1, h2, rfl, hround⟩ := hk
      refine wpIn_loop_rel (fun m a w => ∃ Ds f' B s, Mk f f' Ds ∧ Inv s ∧ m = μ s ∧ Fr n (Ds.map mark ++ ds) B (E s) a ∧ Wd B (X s) (H s) f' w) ⟨_, Ds, f', B, s0, hmk, h0, rfl, s.sub h1, hw.sub h2⟩ ?_
      rintro m a w ⟨Ds, f', B, s, hmk, hi, rfl, hf, hw⟩
      refine ih x hx rd k ds f _ ke kr (Exit.then _ Q) (fun a w ha => ?_) qe qr a w ⟨Ds, f', hmk, B, _, _, _, hf, hw, hround s hi⟩
      obtain ⟨Ds', f'', hmk', B', ρ', β', h', hf', hw', s', hi', hlt, g1, g2, rfl⟩ := ha
      exact ⟨μ s', hlt, Ds', f'', B', s', hmk', hi', rfl, hf'.sub g1, hw'.sub g2⟩
    · cases hc
  | exit id => intro ic hc rd k ds f kn ke kr Q qn qe qr a w ha; cases hc; exact wpIn_exit (qe id a w ha)
  | ret => intro ic hc rd k ds f kn ke kr Q qn qe qr a w ha; cases hc; exact wpIn_ret (qr a w ha)
  | rangeFunc g ps ca cb iha ihb =>
    intro ic hc rd k ds f kn ke kr Q qn qe qr a w ha
    simp only [comp] at hc
    split at hc
    · rename_i x' y' hx hy
      split at hc
      · rename_i hps
        cases hc
        obtain ⟨Ds, f', hmk, B, ρ, β, h, s, hw, hk⟩ := ha
        simp only [codeK] at hk
        unfold rfK at hk
        obtain ⟨rfl, hrd, hk⟩ := hk
        split at hk
        · rename_i gf first cap hox
          obtain ⟨hcall, hk⟩ := hk
          have hg : a.eval g = .func (.func gf) first cap := s.ox hox
          have hlt : ∀ p ∈ ps.toList, p < n := fun p hp => by
            rw [List.all_eq_true] at hps
            simpa using hps p hp
          refine wpIn_rangeFunc fun fn _ => ?_
          -- the record, wherever it lies
          have core : ∀ (l D : Nat) (W1 : World) (mk : List Deferred) (Ds1 : List Nat) (f1 : Fm), Mk f f1 Ds1 → mk ++ a.defers = Ds1.map mark ++ ds → h l = none →
              Rep W1 (upd h l (.loop (recOf fn a.tmps ps ca cb D .ready))) f1 →
              CallsIn (FW rd) (k - 1) P gf (first ++ #[.func (.yield l) #[] #[]] ++ cap) W1 (rangePost (FW rd) k P l Q { a with defers := mk ++ a.defers }) := by
            intro l D W1 mk Ds1 f1 hm1 hdf hl hr1
            have hok := hk l (fun s => .loop (recOf fn a.tmps ps ca cb D s)) hl (fun s => ⟨_, rfl⟩) fun vs h0 Q' hlen hl0 hk0 =>
              round_ok (iha x' hx) (ihb y' hy) s.size hlt s.env hlen hl0 hk0
            refine callsIn_FW.2 ?_
            have harg : (first ++ #[Value.func (.yield l) #[] #[]] ++ cap : Array Value) = (first.toList ++ [Value.func (.yield l) #[] #[]] ++ cap.toList).toArray := by
              apply Array.ext'; simp
            rw [harg]
            refine (hok.run W1 f1 hr1).mono ?_
            rintro e W2 ⟨v, h', rfl, ⟨st, hst, hkk⟩, hr2⟩
            have hlw := hr2.vis _ _ hst
            have hnb : st ≠ .busy := fun e => by subst e; exact hkk (.map #[] 0)
            refine ⟨_, _, run_endLoop hlw (by cases st <;> simp_all [recOf]), ?_⟩
            have hr3 := hr2.set hst (upd_putObj (.loop { recOf fn a.tmps ps ca cb D st with state := .exhausted }) hlw)
            have hfr : Fr n (Ds1.map mark ++ ds) B ρ { a with defers := mk ++ a.defers } := ⟨s.size, hdf, s.env⟩
            have aft : ∀ {K : Kont}, K ρ [] (upd h' l (.loop { recOf fn a.tmps ps ca cb D st with state := .exhausted })) → AfterD n ds f K { a with defers := mk ++ a.defers } (W2.putObj l (.loop { recOf fn a.tmps ps ca cb D st with state := .exhausted })) := fun {K} hK =>
              ⟨Ds1, f1, hm1, B, ρ, [], _, hfr, ⟨fun _ _ h => (by cases h), fun _ _ _ _ h => (by cases h), hr3⟩, hK⟩
            cases st with
            | ready => exact qn _ _ (aft (hkk _))
            | busy => exact absurd rfl hnb
            | done j => cases j with
              | ret => exact wpIn_ret (qr _ _ (aft (hkk _)))
              | exit id => exact wpIn_exit (qe id _ _ (aft (hkk _)))
          cases rd with
          | none =>
            have hr1 : Rep (w.alloc (.deferred (some []))) h { f' with hid := upd f'.hid w.heap.size (.deferred (some [])) } := hw.rep.push_hid rfl
            have hsz : (w.alloc (.deferred (some []))).heap.size = w.heap.size + 1 := World.size_alloc ..
            have hr2 := hr1.push (w' := (w.alloc (.deferred (some []))).alloc (.loop (recOf fn a.tmps ps ca cb w.heap.size .ready))) (o := .loop (recOf fn a.tmps ps ca cb w.heap.size .ready)) rfl
            rw [hsz] at hr2
            refine ⟨w.heap.size + 1, [mark w.heap.size], _, _, _, gf, _, _, run_enterLoop_outer _ _ _ _ _, resolve_yield hg, fun _ _ => trivial, invoke_func hcall, fun hs => by simp [FW] at hs, ?_⟩
            have hfresh : f' w.heap.size = none := hw.rep.fresh_hid
            refine core _ w.heap.size _ _ (w.heap.size :: Ds) { f' with hid := upd f'.hid w.heap.size (.deferred (some [])) } ⟨hmk.base, fun b o hb => ?_, fun D hD => ?_, fun D hD => ?_, ?_⟩ (by rw [s.dfs]; rfl) ?_ hr2
            · show upd f'.hid w.heap.size _ b = some o
              have := hmk.old b o hb
              rw [upd_other (fun e => by subst e; rw [hfresh] at this; cases this)]; exact this
            · show upd f'.hid w.heap.size _ D = _
              rcases List.mem_cons.1 hD with rfl | hD
              · rw [upd_same]
              · have := hmk.new D hD
                rw [upd_other (fun e => by subst e; rw [hfresh] at this; cases this)]; exact this
            · rcases List.mem_cons.1 hD with rfl | hD
              · cases hf : f w.heap.size with
                | none => rfl
                | some o => have := hmk.old _ o hf; rw [hfresh] at this; cases this
              · exact hmk.out D hD
            · refine List.nodup_cons.2 ⟨fun hD => ?_, hmk.nd⟩
              have := hmk.new _ hD
              rw [hfresh] at this; cases this
            · have := hr1.fresh_vis; rw [hsz] at this; exact this
          | some l0 =>
            obtain ⟨r0, hr0⟩ := hrd
            have hr2 := hw.rep.push (w' := w.alloc (.loop (recOf fn a.tmps ps ca cb r0.defers .ready))) (o := .loop (recOf fn a.tmps ps ca cb r0.defers .ready)) rfl
            refine ⟨w.heap.size, [], _, _, _, gf, _, _, run_enterLoop_in (hw.rep.vis _ _ hr0) _ _ _ _ _, resolve_yield hg, fun _ _ => trivial, invoke_func hcall, fun hs => by simp [FW] at hs, ?_⟩
            exact core _ r0.defers _ _ Ds f' hmk (by rw [s.dfs]; rfl) hw.rep.fresh_vis hr2
        · cases hk
      · cases hc
    · cases hc
  | _ => intro ic hc; simp [comp] at hc

/-- The way out past the marks. -/
theorem leaves_marks {fn : Func} {tmps : Array Value} {R : Ending → World → Prop} {h : Hp} {f : Fm} {B : Nat → Nat} {β : Bx} : ∀ (Ds : List Nat) (f' : Fm) (w : World), Mk f f' Ds → Wd B β h f' w →
    (∀ w', Wd B β h f w' → ∃ v, (results fn tmps).run P w' = .ok v w' ∧ R (.returned v) w') → LeavesInM (FW none) 0 P fn tmps R (Ds.map mark) .returning w
  | [], f', w, hm, hw, hR => by
    refine hR w ⟨fun r cs hl => ?_, hw.inj, hm.rep hw.rep⟩
    obtain ⟨ty, h1, h2, h3⟩ := hw.box r cs hl
    refine ⟨ty, h1, h2, ?_⟩
    cases hf : f (B r) with
    | none => rfl
    | some o => rw [hm.old _ o hf] at h3; cases h3
  | D :: Ds, f', w, hm, hw, hR => by
    simp only [List.map_cons]
    have hD := hm.new D (List.mem_cons_self ..)
    have hDw := hw.rep.hid _ _ hD
    refine ⟨by simp, .inl ⟨D, _, rfl, run_takeDeferred hDw, ?_⟩⟩
    have hup := upd_putObj (.deferred none) hDw
    have hne : ∀ b, f' b = none → b ≠ D := fun b hb e => by subst e; rw [hD] at hb; cases hb
    have hnd := List.nodup_cons.1 hm.nd
    refine leaves_marks Ds { f' with hid := fun b => if b = D then none else f' b } _ ⟨hm.base, fun b o hb => ?_, fun E hE => ?_, fun E hE => hm.out E (List.mem_cons_of_mem _ hE), hnd.2⟩ ⟨fun r cs hl => ?_, hw.inj, ?_⟩ hR
    · have : b ≠ D := fun e => by subst e; rw [hm.out b (List.mem_cons_self ..)] at hb; cases hb
      show (if b = D then none else f' b) = some o
      rw [if_neg this]; exact hm.old b o hb
    · have : E ≠ D := fun e => by subst e; exact hnd.1 hE
      show (if E = D then none else f' E) = _
      rw [if_neg this]; exact hm.new E (List.mem_cons_of_mem _ hE)
    · obtain ⟨ty, h1, h2, h3⟩ := hw.box r cs hl
      refine ⟨ty, ?_, h2, ?_⟩
      · rw [hup.get, if_neg (hne _ h3)]; exact h1
      · show (if B r = D then none else f' (B r)) = none
        split
        · rfl
        · exact h3
    · refine ⟨fun b o hb => ?_, fun b o hb => ?_, fun b o hb => ?_, hw.rep.kp.trans hup.still⟩
      · have := hw.rep.dis b o hb
        rw [hup.get, if_neg (hne _ this)]; exact hw.rep.vis b o hb
      · replace hb : (if b = D then none else f' b) = some o := hb
        split at hb
        · cases hb
        · rename_i e; rw [hup.get, if_neg e]; exact hw.rep.hid b o hb
      · show (if b = D then none else f' b) = none
        split
        · rfl
        · exact hw.rep.dis b o hb

/-! ### Calls -/

inductive RV where
  | t (n : Nat)
  | c (n sz : Nat) (ag : Bool)

def cRV (P : Program) : ResultVar → Option RV
  | .tmp t => some (.t t)
  | .cell a t => if (P.info? t).isSome && (P.underlying t).isSome then some (.c a (P.cellsOf t) (isAg P t)) else none

def cRVs (P : Program) : List ResultVar → Option (List RV)
  | [] => some []
  | x :: l => match cRV P x, cRVs P l with
    | some y, some r => some (y :: r)
    | _, _ => none

def rv (h : Hp) (β : Bx) (ρ : Env) : RV → Option Ent
  | .t n => look ρ n
  | .c n sz ag => match look ρ n with
    | some e => pLd sz ag h β e
    | none => none

def rvs (h : Hp) (β : Bx) (ρ : Env) : List RV → Option (List Value)
  | [] => some []
  | x :: l => match rv h β ρ x, rvs h β ρ l with
    | some (.v y), some r => some (y :: r)
    | _, _ => none

def one1 : List Value → Value
  | [x] => x
  | l => .tuple l.toArray

/-- The end of a function. -/
def retK (Q : Value → Hp → Prop) (rs : List RV) (ρ : Env) (β : Bx) (h : Hp) : Prop := match rvs h β ρ rs with
  | some vs => Q (one1 vs) h
  | none => False

theorem mapM_rvs (g : ResultVar → Sem Value) {B : Nat → Nat} {ρ : Env} {β : Bx} {h : Hp} {a : Act} {w : World} (s : Fr n ds B ρ a) (hw : Wd B β h f w) (g1 : ∀ t, g (.tmp t) = pure (a.tmps.getD t undef)) (g2 : ∀ x t, g (.cell x t) = do loadVar t (← asAddr (a.tmps.getD x undef))) :
    ∀ (l : List ResultVar) (rs : List RV) (vs : List Value), cRVs P l = some rs → rvs h β ρ rs = some vs → (l.mapM g).run P w = .ok vs w
  | [], rs, vs, h1, h2 => by
    cases h1; cases h2; rfl
  | x :: l, rs, vs, h1, h2 => by
    simp only [cRVs] at h1
    split at h1
    · rename_i y r hy hr
      cases h1
      simp only [rvs] at h2
      split at h2
      · rename_i v vs' hv hvs
        cases h2
        have ih := mapM_rvs g s hw g1 g2 l r vs' hr hvs
        rw [List.mapM_cons, Sem.run_bind]
        cases x with
        | tmp t =>
          simp only [cRV, Option.some.injEq] at hy
          subst hy
          simp only [rv] at hv
          have := s.env t _ hv
          have h3 : a.tmps.getD t undef = v := by simp [Array.getD_eq_getD_getElem?, this, entV]
          simp only [g1, h3, Sem.run_pure, Result.andThen_ok, Sem.run_bind, ih]
        | cell x t =>
          simp only [cRV] at hy
          split at hy
          · rename_i hi
            simp only [Option.some.injEq] at hy
            subst hy
            rw [Bool.and_eq_true] at hi
            simp only [rv] at hv
            split at hv
            · rename_i e he
              have h3 : a.tmps.getD x undef = entV B e := by simp [Array.getD_eq_getD_getElem?, s.env x _ he]
              obtain ⟨d, hd⟩ := Option.isSome_iff_exists.1 hi.2
              have key : (do loadVar t (← asAddr (a.tmps.getD x undef)) : Sem Value).run P w = .ok v w := by
                rw [h3]
                unfold pLd at hv
                split at hv
                · rename_i b o
                  cases hl : ldO o (P.cellsOf t) (isAg P t) (h b) with
                  | none => simp [hl, toE] at hv
                  | some u =>
                    simp only [hl, toE, Option.some.injEq, Ent.v.injEq] at hv
                    subst hv
                    unfold ldO at hl
                    split at hl
                    · rename_i c ty z hb
                      simp only [entV, asAddr, Sem.run_bind, Sem.run_pure, Result.andThen_ok, run_loadVar' hd hi.1 (hw.rep.vis _ _ hb) hl]
                    · cases hl
                · rename_i r o
                  cases hl : ldL o (P.cellsOf t) (isAg P t) (lookB β r) with
                  | none => simp [hl, toE] at hv
                  | some u =>
                    simp only [hl, toE, Option.some.injEq, Ent.v.injEq] at hv
                    subst hv
                    unfold ldL at hl
                    split at hl
                    · rename_i cs hb
                      obtain ⟨ty, hB⟩ := hw.boxes _ _ hb
                      simp only [entV, asAddr, Sem.run_bind, Sem.run_pure, Result.andThen_ok, run_loadVar' hd hi.1 hB hl]
                    · cases hl
                · cases hv
              simp only [g2, key, Result.andThen_ok, Sem.run_bind, ih, Sem.run_pure]
            · cases hv
          · cases hy
      · cases h2
    · cases h1

theorem results_run {B : Nat → Nat} {ρ : Env} {β : Bx} {h : Hp} {a : Act} {w : World} {fn : Func} {rs : List RV} {Q : Value → Hp → Prop} (s : Fr n ds B ρ a) (hw : Wd B β h f w) (hc : cRVs P fn.results.toList = some rs)
    (hk : retK Q rs ρ β h) : ∃ v, (results fn a.tmps).run P w = .ok v w ∧ Q v h := by
  unfold retK at hk
  split at hk
  · rename_i vs hvs
    refine ⟨_, ?_, hk⟩
    unfold results
    rw [Sem.run_bind, Array.mapM_eq_mapM_toList, Sem.run_map, mapM_rvs (P := P) _ s hw (fun _ => rfl) (fun _ _ => rfl) fn.results.toList rs vs hc hvs]
    simp only [Result.andThen_ok, Sem.run_pure]
    rcases vs with _ | ⟨x, _ | ⟨y, l⟩⟩ <;> rfl
  · cases hk

def argsE : Nat → List Value → Env
  | _, [] => []
  | i, v :: vs => (i, .v v) :: argsE (i + 1) vs

theorem look_argsE : ∀ (vs : List Value) (i t : Nat) (e : Ent), look (argsE i vs) t = some e → ∃ v, e = .v v ∧ i ≤ t ∧ vs[t - i]? = some v
  | [], _, _, _, h => by cases h
  | v :: vs, i, t, e, h => by
    simp only [argsE, look] at h
    split at h
    · rename_i hk; subst hk; cases h; exact ⟨v, rfl, Nat.le_refl _, by simp⟩
    · obtain ⟨v', h1, h2, h3⟩ := look_argsE vs (i + 1) t e h
      refine ⟨v', h1, by omega, ?_⟩
      rw [show t - i = (t - (i + 1)) + 1 by omega]
      simpa using h3

/-- A function's contract, from its code. -/
theorem Ok.of_code (hm : P.follows .mixedOrders = true) {g : FuncId} {fn : Func} {c : Code} {ic : IC} {rs : List RV} {args : List Value} {h : Hp} {Q : Value → Hp → Prop}
    (hf : P.funcs[g]? = some fn) (hb : fn.body = some c) (hn : fn.ntmps = n) (hc : comp P n prom cuts c = some ic) (hr : cRVs P fn.results.toList = some rs) (hl : args.length ≤ n)
    (hk : codeK P none ic (retK Q rs) (fun _ _ _ _ => False) (retK Q rs) (argsE 0 args) [] h) : Ok P g args h Q := by
  refine .intro fun w fr hrep => ?_
  refine (callsIn_FW (r := none) (n := 0)).1 (callsIn_of_wp_marks hf hb trivial ?_)
  subst hn
  have hret : ∀ a w, AfterD fn.ntmps [] fr (retK Q rs) a w → LeavesInM (FW none) 0 P fn a.tmps (fun e w' => ∃ v' h', e = .returned v' ∧ Q v' h' ∧ Rep w' h' fr) a.defers .returning w := by
    rintro a w ⟨Ds, f', hmk, B, ρ, β, h, s, hw, hk⟩
    rw [s.dfs, List.append_nil]
    refine leaves_marks Ds f' w hmk hw fun w' hw' => ?_
    obtain ⟨v, h1, h2⟩ := results_run (ds := Ds.map mark ++ []) s hw' hr hk
    exact ⟨v, h1, v, h, rfl, h2, hw'.rep⟩
  refine codeK_sound hm c ic hc none 0 [] fr _ _ _ _ hret ?_ hret _ w (After.toD ⟨fun _ => 0, argsE 0 args, [], h, ?_, ⟨fun _ _ h => (by cases h), fun _ _ _ _ h => (by cases h), hrep⟩, hk⟩)
  · rintro id a w ⟨_, _, _, _, _, _, _, _, _, h⟩; cases h
  · refine ⟨by simp; omega, rfl, fun t e ht => ?_⟩
    obtain ⟨v, rfl, _, h3⟩ := look_argsE args 0 t e ht
    simp only [Nat.sub_zero] at h3
    have hlt : t < args.length := (List.getElem?_eq_some_iff.1 h3).1
    simp only [entV]
    rw [Array.getElem?_append_left (by simpa using hlt)]
    simpa using h3

theorem Ok.of (hm : P.follows .mixedOrders = true) {g : FuncId} {fn : Func} {ic : IC} {rs : List RV} {args : List Value} {h : Hp} {Q : Value → Hp → Prop}
    (hf : P.funcs[g]? = some fn) (hn : fn.ntmps = n) (hc : fn.body.bind (comp P n prom cuts) = some ic) (hr : cRVs P fn.results.toList = some rs) (hl : Nat.ble args.length n = true)
    (hk : codeK P none ic (retK Q rs) (fun _ _ _ _ => False) (retK Q rs) (argsE 0 args) [] h) : Ok P g args h Q := by
  cases hb : fn.body with
  | none => rw [hb] at hc; cases hc
  | some c => rw [hb] at hc; exact Ok.of_code hm hf hb hn hc hr (Nat.le_of_ble_eq_true hl) hk

end
end Go.Proofs.Ytkmknolkblcbeaa.V
