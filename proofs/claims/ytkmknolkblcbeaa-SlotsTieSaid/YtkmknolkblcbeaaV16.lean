/- Steps where the running stops. -/
import Derived.Test.YtkmknolkblcbeaaV15
namespace Go.Proofs.Ytkmknolkblcbeaa.V
set_option linter.unusedSectionVars false
set_option linter.unusedVariables false
set_option linter.unusedSimpArgs false
open Go

theorem cond_split {t : Bool} {x y : Prop} (ht : t = true → x) (hf : t = false → y) : condK (some (.v (.bool t))) x y := by
  cases t
  · exact hf rfl
  · exact ht rfl

theorem cond_dec {c : Prop} [Decidable c] {x y : Prop} (ht : c → x) (hf : ¬ c → y) : condK (some (.v (.bool (decide c)))) x y :=
  cond_split (fun h => ht (of_decide_eq_true h)) (fun h => hf (of_decide_eq_false h))

theorem cond_beq {α : Type} [BEq α] [LawfulBEq α] {a b : α} {x y : Prop} (ht : a = b → x) (hf : a ≠ b → y) : condK (some (.v (.bool (a == b)))) x y :=
  cond_split (fun h => ht (by simpa using h)) (fun h => hf (by simpa using h))

theorem cond_bne {α : Type} [BEq α] [LawfulBEq α] {a b : α} {x y : Prop} (ht : a ≠ b → x) (hf : a = b → y) : condK (some (.v (.bool (a != b)))) x y :=
  cond_split (fun h => ht (by simpa using h)) (fun h => hf (by simpa using h))

theorem opt_if {α : Type} {c : Prop} [Decidable c] {a b : Option α} {K : α → Prop} (hc : c) (h : optK a K) : optK (if c then a else b) K := by rw [if_pos hc]; exact h

theorem opt_some {α : Type} {o : Option α} {x : α} {K : α → Prop} (ho : o = some x) (h : K x) : optK o K := by rw [ho]; exact h

theorem opt_ld {h : Hp} {b o sz : Nat} {ag : Bool} {c : Array Value} {ty : TypeId} {z : Nat × Nat} {v : Value} {K : Ent → Prop} (hb : h b = some (.cells c ty z)) (hv : rd c o sz ag = some v) (hk : K (.v v)) :
    optK (toE (ldO o sz ag (h b))) K := by
  rw [hb]; simp only [ldO, hv, toE, optK]; exact hk

theorem opt_st {h : Hp} {b o sz : Nat} {β : Bx} {x : Value} {c : Array Value} {ty : TypeId} {z : Nat × Nat} {K : Hp × Bx → Prop} (hb : h b = some (.cells c ty z)) (h1 : x.cells.size = sz) (h2 : o + sz ≤ c.size) (h3 : z.2 ≤ o ∨ o + sz ≤ z.1)
    (h4 : x.cells.toList.all one = true) (hk : K (upd h b (.cells (wr c o x.cells.toList) ty z), β)) :
    optK (pSt sz h β (.v (.pointer (some ⟨b, o, none⟩))) (.v x)) K := by
  simp only [pSt, stO, hb]
  rw [if_pos ⟨h1, h2, h3, h4⟩]
  exact hk

theorem subE_cons {t : Nat} {e : Ent} {r ρ : Env} (h : look ρ t = some e) (hr : subE r ρ) : subE ((t, e) :: r) ρ := ⟨h, hr⟩
theorem subE_nil {ρ : Env} : subE [] ρ := trivial
theorem subB_cons {t : Nat} {e : List Value} {r ρ : Bx} (h : lookB ρ t = some e) (hr : subB r ρ) : subB ((t, e) :: r) ρ := ⟨h, hr⟩
theorem subB_nil {ρ : Bx} : subB [] ρ := trivial

theorem wrap_nat {n : Nat} (h : n + 1 < 2 ^ 63) : IntKind.i64.wrap ((n : Int) + 1) = ((n + 1 : Nat) : Int) := by
  rw [wrap_i64 (by omega) (by omega)]; rfl

theorem int_eq {t : Nat} {x y : Int} {ρ : Env} {k : IntKind} (h : x = y) (hl : look ρ t = some (.v (.int k x))) : look ρ t = some (.v (.int k y)) := by rw [hl, h]

theorem cut_intro {a : Kont → Kont} {b : Kont} {ρ : Env} {β : Bx} {h : Hp} {σ : Type} (E : σ → Env) (X : σ → Bx) (H : σ → Hp) (Inv : σ → Prop)
    (ha : a (fun ρ' β' h' => ∃ s, Inv s ∧ subE (E s) ρ' ∧ subB (X s) β' ∧ h' = H s) ρ β h) (hb : ∀ s, Inv s → b (E s) (X s) (H s)) : cutK a b ρ β h := by
  unfold cutK
  exact ⟨σ, E, X, H, Inv, ha, hb⟩

/-- A loop over i : what it keeps, what shrinks. -/
theorem loop_intro {body : Kont → Kont} {ρ : Env} {β : Bx} {h : Hp} {σ : Type} (E : σ → Env) (X : σ → Bx) (H : σ → Hp) (Inv : σ → Prop) (μ : σ → Nat) (s : σ) (h0 : Inv s) (h1 : subE (E s) ρ) (h2 : subB (X s) β) (h3 : h = H s)
    (hr : ∀ s, Inv s → body (fun ρ' β' h' => ∃ s', Inv s' ∧ μ s' < μ s ∧ subE (E s') ρ' ∧ subB (X s') β' ∧ h' = H s') (E s) (X s) (H s)) : loopK body ρ β h := by
  unfold loopK
  exact ⟨σ, E, X, H, Inv, μ, s, h0, h1, h2, h3, hr⟩

/-- A loop over a function: the iterator's contract, given what a round does. -/
theorem rf_intro {P : Program} {rd : Option Nat} {ps : List Nat} {assign body : Nat → Tr} {gf : FuncId} {first cap : Array Value} {kn : Kont} {ke : Nat → Kont} {kr : Kont} {ρ : Env} {h : Hp} (hrd : rdOk rd h) (hc : callable P gf = true)
    (hk : ∀ (l : Nat) (R : LS → Obj), h l = none → (∀ s, ∃ r, R s = .loop r) →
      (∀ vs h0 Q, vs.length = ps.length → h0 l = some (R .ready) →
        assign l (fun ρ' β' h' => h' l = some (R .ready) ∧
          body l (fun _ _ h' => h' l = some (R .busy) ∧ Q (.bool true) (upd h' l (R .ready)))
            (fun id _ _ h' => h' l = some (R .busy) ∧ Q (.bool false) (upd h' l (R (.done (.exit id)))))
            (fun _ _ h' => h' l = some (R .busy) ∧ Q (.bool false) (upd h' l (R (.done .ret)))) ρ' β' (upd h' l (R .busy)))
          (fun _ _ _ _ => False) (fun _ _ _ => False) (zipE ps vs ρ) [] h0 → OkY P l vs h0 Q) →
      Ok P gf (first.toList ++ [.func (.yield l) #[] #[]] ++ cap.toList) (upd h l (R .ready)) (fun _ h' => ∃ s, h' l = some (R s) ∧ ∀ o, match s with
        | .ready => kn ρ [] (upd h' l o)
        | .done (.exit id) => ke id ρ [] (upd h' l o)
        | .done .ret => kr ρ [] (upd h' l o)
        | .busy => False)) : rfK P rd ps assign body (some (.v (.func (.func gf) first cap))) kn ke kr ρ [] h := by
  unfold rfK
  exact ⟨rfl, hrd, hc, hk⟩

end Go.Proofs.Ytkmknolkblcbeaa.V
