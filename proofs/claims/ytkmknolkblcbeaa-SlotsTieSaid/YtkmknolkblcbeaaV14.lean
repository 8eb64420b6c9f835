/- Plans tell what a drawn region does. -/
import Derived.Test.YtkmknolkblcbeaaV13
namespace Go.Proofs.Ytkmknolkblcbeaa.V
set_option linter.unusedSectionVars false
set_option linter.unusedVariables false
set_option linter.unusedSimpArgs false
open Go

section
variable {P : Program} {ops : Array Oper} {n : Nat} {ds : List Deferred} {f : Fm} {prom : List Nat} {late : List Bool}

theorem cI_spec {o : Oper} {i : I} (hc : cI P n prom ops o = some i) : ∃ ef xs, cef P prom o = some (ef, xs) ∧ i.d = o.dst ∧ dstOk n o.dst = true ∧ i.o = ef ∧ i.xs = xs.map cx ∧
    ((o.guard = none ∧ i.g = none) ∨ ∃ j want t, o.guard = some (j, want) ∧ (ops[j]?).bind (·.dst) = some t ∧ i.g = some (t, want)) := by
  unfold cI at hc
  split at hc
  · rename_i hd
    split at hc
    · cases hc
    · rename_i ef xs hcef
      split at hc
      · rename_i hg
        cases hc
        exact ⟨ef, xs, hcef, rfl, hd, rfl, rfl, .inl ⟨hg, rfl⟩⟩
      · rename_i j want hg
        split at hc
        · rename_i t ht
          cases hc
          exact ⟨ef, xs, hcef, rfl, hd, rfl, rfl, .inr ⟨j, want, t, hg, ht, rfl⟩⟩
        · cases hc
  · cases hc

theorem cef_pr {o : Oper} {p : Pr} {xs : List Operand} (h : cpr P o = some (p, xs)) : cef P prom o = some (.pr p, xs) := by
  unfold cef; rw [h]

theorem prv_quiet {p : Pr} (h : reads p = false) (hp : Hp) (β : Bx) (es : List Ent) : prv (fun _ => none) [] p es = prv hp β p es := by
  cases p <;> first | (cases h; done) | rfl | (rcases es with _ | ⟨a, _ | ⟨b, _ | ⟨c, _ | _⟩⟩⟩ <;> first | rfl | (cases a <;> rfl))

def Fm.bare (f : Fm) : Fm := { f with hid := fun _ => none }

theorem rep_none (w : World) : Rep w (fun _ => none) ⟨fun _ => none, w⟩ := ⟨fun _ _ h => (by cases h), fun _ _ h => (by cases h), fun _ _ h => (by cases h), ⟨rfl, rfl, rfl⟩⟩

theorem look_Yl {o : Oper} {p : Pr} {xs : List Operand} {i : I} {B : Nat → Nat} {ρ : Env} {βr : Bx} {hr : Hp} {a : Act} {M : Env → Prop} (s : Fr n ds B ρ a) (hp : cpr P o = some (p, xs)) (hc : cI P n prom ops o = some i)
    (hk : stI P i ρ βr hr (fun ρ' _ _ => M ρ')) :
    ∃ e, Yl P ops (fun w => reads p = true → Wd B βr hr f.bare w) o (entV B e) a ∧ M (putE o.dst e ρ) ∧ dstOk n o.dst = true := by
  obtain ⟨ef, xs', hcef, hid, hd, ho, hxs, hg⟩ := cI_spec hc
  rw [cef_pr hp] at hcef
  cases hcef
  have hdo : ∀ {M' : Env → Bx → Hp → Prop}, doI P i ρ βr hr M' → ∃ e es, oxs ρ (xs.map cx) = some es ∧ prv hr βr p es = some e ∧ M' (putE o.dst e ρ) βr hr := fun {M'} h => by
    unfold doI at h
    rw [hxs] at h
    obtain ⟨es, hes, h⟩ := optK_spec h
    simp only [ho, efK] at h
    obtain ⟨e, he, h⟩ := optK_spec h
    rw [putK_eq, hid] at h
    exact ⟨e, es, hes, he, h⟩
  have hyl : ∀ {e : Ent} {es : List Ent}, oxs ρ (xs.map cx) = some es → prv hr βr p es = some e → ∀ w, (reads p = true → Wd B βr hr f.bare w) → (execOp a.eval o).run P w = .ok (.value (entV B e)) w := fun {e es} hes he w hw => by
    cases hrd : reads p with
    | true =>
      have := hw hrd
      exact run_pr this.rep this.boxes hp (s.oxs hes) he
    | false =>
      rw [← prv_quiet hrd] at he
      exact run_pr (β := []) (rep_none w) (fun _ _ h => by cases h) hp (s.oxs hes) he
  unfold stI at hk
  rcases hg with ⟨hg, hig⟩ | ⟨j, want, t, hg, ht, hig⟩
  · simp only [hig] at hk
    obtain ⟨e, es, hes, he, hM⟩ := hdo hk
    exact ⟨e, .inl ⟨by simp [Region.wanted, hg], hyl hes he⟩, hM, hd⟩
  · simp only [hig] at hk
    cases want <;> simp only at hk <;> rcases condK_spec hk with ⟨hl, hk⟩ | ⟨hl, hk⟩ <;> have hgu := guard_gn s hg ht hl
    · rw [putK_eq, hid] at hk
      exact ⟨undefE, .inr ⟨by rw [hgu]; decide, rfl⟩, hk, hd⟩
    · obtain ⟨e, es, hes, he, hM⟩ := hdo hk
      exact ⟨e, .inl ⟨by rw [hgu]; decide, hyl hes he⟩, hM, hd⟩
    · obtain ⟨e, es, hes, he, hM⟩ := hdo hk
      exact ⟨e, .inl ⟨by rw [hgu]; decide, hyl hes he⟩, hM, hd⟩
    · rw [putK_eq, hid] at hk
      exact ⟨undefE, .inr ⟨by rw [hgu]; decide, rfl⟩, hk, hd⟩

theorem Wd.part {B B' : Nat → Nat} {β β' : Bx} {h h' : Hp} {w : World} (hw : Wd B' β' h' f.bare w) (h1 : SubH h h') (h2 : SubB β β') (hB : ∀ r cs, lookB β r = some cs → B' r = B r) : Wd B β h f.bare w := by
  refine ⟨fun r cs hl => ?_, fun r s cs es hr hs e => ?_, ⟨fun b o hb => hw.rep.vis b o (h1 b o hb), fun b o hb => (by cases hb), fun b o hb => rfl, hw.rep.kp⟩⟩
  · obtain ⟨ty, g1, g2, _⟩ := hw.box r cs (h2 r cs hl)
    rw [hB r cs hl] at g1 g2
    refine ⟨ty, g1, ?_, rfl⟩
    cases hh : h (B r) with
    | none => rfl
    | some o => rw [h1 _ _ hh] at g2; cases g2
  · exact hw.inj r s cs es (h2 r cs hr) (h2 s es hs) (by rw [hB r cs hr, hB s es hs]; exact e)

theorem Wd.unframe {B : Nat → Nat} {β : Bx} {h : Hp} {w : World} (hw : Wd B β h f w) : Wd B β h f.bare w :=
  ⟨fun r cs hl => let ⟨ty, g1, g2, _⟩ := hw.box r cs hl; ⟨ty, g1, g2, rfl⟩, hw.inj, ⟨hw.rep.vis, fun _ _ h => (by cases h), fun _ _ _ => rfl, hw.rep.kp⟩⟩

theorem nextK.after {B B' : Nat → Nat} {lt cut : Bool} {i : I} {hr : Hp} {βr β : Bx} {h : Hp} {M : Hp → Bx → Prop} {w : World} (hk : nextK lt cut hr βr β h M) (hw : Wd B' β h f w) (hnd : lt = true → newD i βr)
    (hB : ∀ r, ¬ newAt i r → B' r = B r) :
    ∃ hr' βr', SubH hr' h ∧ SubB βr' β ∧ M hr' βr' ∧ Wd B' βr' hr' f.bare w ∧ (lt = true → ∀ w, Wd B' βr' hr' f.bare w → Wd B βr hr f.bare w) := by
  have hBr : lt = true → ∀ r cs, lookB βr r = some cs → B' r = B r := fun hl r cs hb => hB r fun hn => by
    have := hnd hl
    unfold newD at this
    unfold newAt at hn
    split at hn
    · rename_i z d h1 h2; subst hn; simp only [h1, h2] at this; rw [this] at hb; cases hb
    · rename_i d h1 h2; subst hn; simp only [h1, h2] at this; rw [this] at hb; cases hb
    · cases hn
  cases lt <;> cases cut <;> simp only [nextK] at hk
  · exact ⟨h, β, SubH.refl h, SubB.refl β, hk, hw.unframe, fun hl => by cases hl⟩
  · obtain ⟨hr', βr', h2, h3, h4⟩ := hk
    exact ⟨hr', βr', h2, h3, h4, hw.unframe.part h2 h3 (fun _ _ _ => rfl), fun hl => by cases hl⟩
  · exact ⟨h, β, SubH.refl h, SubB.refl β, hk.2, hw.unframe, fun hl w hw => hw.part hk.1.1 hk.1.2 (hBr hl)⟩
  · obtain ⟨hr', βr', h1, h2, h3, h4⟩ := hk
    exact ⟨hr', βr', h2, h3, h4, hw.unframe.part h2 h3 (fun _ _ _ => rfl), fun hl w hw => hw.part h1.1 h1.2 (hBr hl)⟩

theorem mkBr_spec {fI : Nat → Option I} {fP : Nat → Option Plan} {K : Env → Bx → Hp → Prop} {hr : Hp} {βr : Bx} {ρ : Env} {β : Bx} {h : Hp} : ∀ {js : List Nat} {l : PlanL}, mkBr late fI fP js = some l → planLK P K l hr βr ρ β h → ∀ j ∈ js,
    ∃ i p, fI j = some i ∧ fP j = some p ∧ (late.getD j true = true → newD i βr) ∧ stI P i ρ β h (fun ρ' β' h' => nextK (late.getD j true) p.late hr βr β' h' fun hr' βr' => planK P K p hr' βr' ρ' β' h')
  | [], _, _, _, j, hj => by cases hj
  | k :: js, l, hm, hk, j, hj => by
    simp only [mkBr] at hm
    split at hm
    · rename_i i p l' h1 h2 h3
      cases hm
      simp only [planLK] at hk
      rcases List.mem_cons.1 hj with rfl | hj
      · have hx : newK (late.getD j true) i βr (stI P i ρ β h (fun ρ' β' h' => nextK (late.getD j true) p.late hr βr β' h' fun hr' βr' => planK P K p hr' βr' ρ' β' h')) := by
          cases l' with
          | nil => exact hk
          | cons => exact hk.1
        exact ⟨i, p, h1, h2, newK_spec hx⟩
      · cases l' with
        | nil => cases js with
          | nil => cases hj
          | cons => exfalso; simp only [mkBr] at h3; split at h3 <;> cases h3
        | cons => exact mkBr_spec h3 hk.2 j hj
    · cases hm

theorem okR_spec {listed : Array Bool} {i : Nat} {R : List Nat} (h : okR ops late listed i R = true) : Cl ops (fun j => late.getD j true) i (fun j => R.contains j) listed := by
  unfold okR at h
  rw [Bool.and_eq_true] at h
  refine ⟨fun j hj => List.all_eq_true.1 h.1 j (by simpa using hj), fun j oj hoj hji hun hpr => ?_⟩
  have h2 := List.all_eq_true.1 h.2 j (List.mem_range.2 (Array.getElem?_eq_some_iff.1 hoj).1)
  have hp : predsIn ops listed R j = true := by
    unfold predsIn
    rw [hoj]
    simp only [Array.all_eq_true, Bool.or_eq_true, Bool.not_eq_true']
    intro k hk
    by_cases hb : Region.binds .any oj.after[k] = true
    · rcases hpr _ (Array.getElem_mem hk) hb with h | h
      · exact .inl (.inr h)
      · exact .inr h
    · exact .inl (.inl (by simpa using hb))
  rw [hp, hun] at h2
  simpa [hji] using h2

theorem all_late (h : late.all id = true) (j : Nat) : late.getD j true = true := by
  rw [List.getD_eq_getElem?_getD]
  cases hj : late[j]? with
  | none => rfl
  | some b => exact List.all_eq_true.1 h b (List.mem_of_getElem? hj)

theorem plan_sound (hd : ops.all noDefer = true) {K : Env → Bx → Hp → Prop} {Q : Act → World → Prop} (hq : ∀ a w, After n ds f K a w → Q a w) :
    ∀ (fuel : Nat) (listed : Array Bool) (pl : Plan), mkPlan P n prom ops late fuel listed = some pl → ∀ (hr : Hp) (βr : Bx) (B : Nat → Nat) (ρ : Env) (β : Bx) (h : Hp) (a : Act) (w : World), Fr n ds B ρ a → Wd B β h f w → SubH hr h → SubB βr β →
      planK P K pl hr βr ρ β h → anyP P ops (fun j => late.getD j true) Q fuel listed (Wd B βr hr f.bare) a w
  | 0, listed, pl, hm, hr, βr, B, ρ, β, h, a, w, s, hw, h1, h2, hk => by
    unfold mkPlan at hm
    split at hm
    · rename_i hrd
      cases hm
      exact ⟨hrd, hq a w ⟨B, ρ, β, h, s, hw, by simpa only [planK] using hk⟩⟩
    · cases hm
  | fuel + 1, listed, pl, hm, hr, βr, B, ρ, β, h, a, w, s, hw, h1, h2, hk => by
    unfold mkPlan at hm
    split at hm
    · rename_i hrd
      cases hm
      exact ⟨fun _ => hq a w ⟨B, ρ, β, h, s, hw, by simpa only [planK] using hk⟩, fun i hi => (by rw [hrd] at hi; cases hi)⟩
    · rename_i hrne
      split at hm
      · rename_i j hfind
        split at hm
        · rename_i i p hi hp
          cases hm
          simp only [planK] at hk
          have hj := List.mem_of_find?_eq_some hfind
          have hok := List.find?_some hfind
          unfold okTake at hok
          split at hok
          · cases hok
          · rename_i oj hoj
            split at hok
            · cases hok
            · rename_i p' xs hcp
              rw [Bool.and_eq_true] at hok
              rw [hoj] at hi
              simp only [Option.bind_some] at hi
              obtain ⟨e, hy, hM, hdd⟩ := look_Yl s hcp hi hk
              have hS : Wd B βr hr f.bare w := hw.unframe.part h1 h2 (fun _ _ _ => rfl)
              have hrest := plan_sound hd hq fuel (listed.setIfInBounds j true) p hp hr βr B _ β h _ w (s.put hdd) hw h1 h2 hM
              have hcl : ∃ R : Nat → Bool, (∀ w, reads p' = true → Wd B βr hr f.bare w) ∨ Cl ops (fun j => late.getD j true) j R listed := by
                have h3 := hok.2
                rw [Bool.or_eq_true, Bool.or_eq_true] at h3
                rcases h3 with (h3 | h3) | h3
                · exact ⟨fun _ => true, .inl fun w hc => by rw [hc] at h3; cases h3⟩
                · exact ⟨fun _ => true, .inr ⟨fun j _ => all_late h3 j, fun _ _ _ _ _ _ => rfl⟩⟩
                · exact ⟨_, .inr (okR_spec h3)⟩
              obtain ⟨R, hcl⟩ := hcl
              exact anyP_first (R := R) hoj hd fuel listed _ a w (Region.free_spec hoj hok.1) hcl (fun w hw _ => hw) hj hy hS hrest
        · cases hm
      · split at hm
        · rename_i l hl
          cases hm
          simp only [planK] at hk
          refine ⟨fun hn => absurd hn hrne, fun j hj => ?_⟩
          obtain ⟨i, p, hfi, hfp, hnd, hst⟩ := mkBr_spec hl hk j hj
          unfold opAny
          cases hoj : ops[j]? with
          | none => rw [hoj] at hfi; cases hfi
          | some oj =>
            rw [hoj] at hfi
            simp only [Option.bind_some] at hfi
            refine stepO_mono (fun a' w' hA => ?_) (stI_sound s hw hfi hst)
            obtain ⟨B', ρ', β', h', s', hw', hn, hB⟩ := hA
            obtain ⟨hr', βr', g1, g2, g3, g4, g5⟩ := hn.after hw' hnd hB
            exact ⟨Wd B' βr' hr' f.bare, g4, g5, plan_sound hd hq fuel _ p hfp hr' βr' B' ρ' β' h' a' w' s' hw' g1 g2 g3⟩
        · cases hm

theorem regK_sound {id : Nat} {r : Option Nat} {k : Nat} {Q : Exit → Act → World → Prop} {a : Act} {w : World} {pl : Plan} {K : Env → Bx → Hp → Prop} (hm : P.follows .mixedOrders = true) (hd : ops.all noDefer = true)
    (hc : mkPlan P n prom ops late ops.size (Array.replicate ops.size false) = some pl) (ha : After n ds f (regK P K pl) a w) (hq : ∀ a w, After n ds f K a w → Q .normal a w) : (Code.region id ops true).wpIn (FW r) k P Q a w := by
  obtain ⟨B, ρ, β, h, s, hw, hk⟩ := ha
  obtain ⟨hr, βr, g1, g2, g3, g4, _⟩ := nextK.after (i := ⟨none, none, .bx, []⟩) (B := B) (f := f) (w := { w with drawn := w.drawn + 1 }) hk (hw.heap rfl) (fun h => by cases h) (fun _ _ => rfl)
  exact region_plan_wpIn hm hd (plan_sound hd hq _ _ pl hc hr βr B ρ β h a _ s (hw.heap rfl) g1 g2 g3)

end
end Go.Proofs.Ytkmknolkblcbeaa.V
