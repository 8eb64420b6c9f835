/- Seat 08: Purge; what lies below; Revoke. -/
import Derived.Test.YthpkgkoojhgedaaDoorK22
import Derived.Test.YthpkgkoojhgedaaDoorK10
namespace Go.Proofs.YthpkgkoojhgedaaDoor.V
set_option linter.unusedVariables false
set_option linter.unusedSimpArgs false
set_option linter.unusedSectionVars false
set_option linter.unusedSectionVars false
open Go

theorem onM_sim (kind obj : Int) : ∀ c d, Sim c d → onM kind obj c = onM kind obj d := fun c d h => by unfold onM; rw [h.2.2.2]

theorem callablePurge : callable PR 75 = true := by kernel_rfl
theorem callableRevoke : callable PR 48 = true := by kernel_rfl

/-- Below a cell, directly or through others. -/
inductive Bel (C : List Ce) (a : Nat) : Nat → Prop
  | kid {k : Ce} : k ∈ C → k.par = some a → Bel C a k.a
  | step {k : Ce} {p : Nat} : k ∈ C → k.par = some p → Bel C a p → Bel C a k.a

theorem Bel.trans {C : List Ce} {a b x : Nat} (h1 : Bel C a b) (h2 : Bel C b x) : Bel C a x := by
  induction h2 with
  | kid hk hp => exact .step hk hp h1
  | step hk hp _ ih => exact .step hk hp ih

theorem Bel.mem {C : List Ce} {a x : Nat} (h : Bel C a x) : ∃ d ∈ C, d.a = x := by
  cases h with
  | kid hk _ => exact ⟨_, hk, rfl⟩
  | step hk _ _ => exact ⟨_, hk, rfl⟩

section
variable {h : Hp} {Q : Value → Hp → Prop} {L : List As} {b : Nat} {S : Bs}

theorem Bel.kids (hw : WF S) {c : Ce} (hc : c ∈ S.cs) {x : Nat} : Bel S.cs c.a x ↔ ∃ k ∈ c.kids, x = k ∨ Bel S.cs k x := by
  constructor
  · intro h
    induction h with
    | kid hk hp =>
      obtain ⟨c', hc', e1, e2⟩ := hw.k2 _ hk _ hp
      have := one_a hw.nda hc' hc e1
      subst this
      exact ⟨_, e2, .inl rfl⟩
    | step hk hp _ ih =>
      obtain ⟨y, hy, h1⟩ := ih
      refine ⟨y, hy, .inr ?_⟩
      rcases h1 with rfl | h1
      · exact .kid hk hp
      · exact .step hk hp h1
  · rintro ⟨k, hk, h1⟩
    obtain ⟨d, hd, e1, e2⟩ := hw.k1 c hc k hk
    have hb : Bel S.cs c.a k := by rw [← e1]; exact .kid hd e2
    rcases h1 with rfl | h1
    · exact hb
    · exact hb.trans h1

set_option maxHeartbeats 1000000 in
theorem purge43 (hw : WF S) (hh : Has (CapsA b S :: L) h) (kind obj : Int) (hq : ∀ s h', Has (CapsA b (sw (onM kind obj) S 768) :: HsP s ((swL (onM kind obj) S 768).map hdOf) :: L) h' → Q s h') : Ok PR 43 [ptr b, iv kind, iv obj] h Q := by
  refine e43 rfl (seq_step fun K hK => ?_)
  repeat (first | ((with_reducible refine hK _ _ _ ?_); clear hK) | (with_reducible refine seq_step fun K hK => ?_) | (with_reducible refine block_step ?_) | ((with_reducible refine cond_t ?_ ?_); focus rfl) | ((with_reducible refine cond_f ?_ ?_); focus rfl) | ((with_reducible refine code_id ?_); conv => whnf) | (clear hK; (with_reducible refine hK _ _ _ ?_); clear hK) | (clear hK; clear hK; (with_reducible refine hK _ _ _ ?_); clear hK) | (clear hK; clear hK; clear hK; (with_reducible refine hK _ _ _ ?_); clear hK) | (clear hK; clear hK; clear hK; clear hK; (with_reducible refine hK _ _ _ ?_); clear hK) | (clear hK; clear hK; clear hK; clear hK; clear hK; (with_reducible refine hK _ _ _ ?_); clear hK) | (clear hK; clear hK; clear hK; clear hK; clear hK; clear hK; (with_reducible refine hK _ _ _ ?_); clear hK) | (clear hK; clear hK; clear hK; clear hK; clear hK; clear hK; clear hK; (with_reducible refine hK _ _ _ ?_); clear hK))
  refine fresh_has hh fun b4 h1 _ _ _ hh1 => ?_
  conv => whnf
  refine fresh_has hh1 fun b5 h2 _ _ _ hh2 => ?_
  conv => whnf
  repeat (first | ((with_reducible refine hK _ _ _ ?_); clear hK) | (with_reducible refine seq_step fun K hK => ?_) | (with_reducible refine block_step ?_) | ((with_reducible refine cond_t ?_ ?_); focus rfl) | ((with_reducible refine cond_f ?_ ?_); focus rfl) | ((with_reducible refine code_id ?_); conv => whnf) | (clear hK; (with_reducible refine hK _ _ _ ?_); clear hK) | (clear hK; clear hK; (with_reducible refine hK _ _ _ ?_); clear hK) | (clear hK; clear hK; clear hK; (with_reducible refine hK _ _ _ ?_); clear hK) | (clear hK; clear hK; clear hK; clear hK; (with_reducible refine hK _ _ _ ?_); clear hK) | (clear hK; clear hK; clear hK; clear hK; clear hK; (with_reducible refine hK _ _ _ ?_); clear hK) | (clear hK; clear hK; clear hK; clear hK; clear hK; clear hK; (with_reducible refine hK _ _ _ ?_); clear hK) | (clear hK; clear hK; clear hK; clear hK; clear hK; clear hK; clear hK; (with_reducible refine hK _ _ _ ?_); clear hK))
  have hh3 : Has (CapsA b S :: Has [Pt b5 (.cells #[iv obj] 3 (0, 0)), Pt b4 (.cells #[iv kind] 3 (0, 0))] :: L) h2 := (hh2.pull 2 rfl).map_tail fun g hg => Has.group (L1 := [_, _]) hg
  refine sweep47 hw (onM_sim kind obj) (kg := 75) (capg := [ptr b4, ptr b5]) callablePurge (XG := Has [Pt b5 (.cells #[iv obj] 3 (0, 0)), Pt b4 (.cells #[iv kind] 3 (0, 0))])
    (fun S' gl c L h Q hw' hc _ hh hq => ?_) hh3 fun s h4 hh4 => ?_
  · obtain ⟨sc, hcc, _⟩ := (CapsA.rd0 hh).cell c hc
    have hh1 : Has (Pt b5 (.cells #[iv obj] 3 (0, 0)) :: Pt b4 (.cells #[iv kind] 3 (0, 0)) :: CapsA b S' :: GoneP gl :: L) h := Has.flat (L1 := [_, _]) (hh.pull 2 rfl)
    refine e75 rfl (seq_step fun K hK => ?_)
    repeat (first | ((with_reducible refine hK _ _ _ ?_); clear hK) | (with_reducible refine seq_step fun K hK => ?_) | (with_reducible refine block_step ?_) | ((with_reducible refine cond_t ?_ ?_); focus rfl) | ((with_reducible refine cond_f ?_ ?_); focus rfl) | ((with_reducible refine code_id ?_); conv => whnf) | (clear hK; (with_reducible refine hK _ _ _ ?_); clear hK) | (clear hK; clear hK; (with_reducible refine hK _ _ _ ?_); clear hK) | (clear hK; clear hK; clear hK; (with_reducible refine hK _ _ _ ?_); clear hK) | (clear hK; clear hK; clear hK; clear hK; (with_reducible refine hK _ _ _ ?_); clear hK) | (clear hK; clear hK; clear hK; clear hK; clear hK; (with_reducible refine hK _ _ _ ?_); clear hK) | (clear hK; clear hK; clear hK; clear hK; clear hK; clear hK; (with_reducible refine hK _ _ _ ?_); clear hK) | (clear hK; clear hK; clear hK; clear hK; clear hK; clear hK; clear hK; (with_reducible refine hK _ _ _ ?_); clear hK))
    refine opt_ld (hh1.pt 1 rfl) (v := iv kind) rfl ?_
    conv => whnf
    refine opt_ld (hh1.pt 0 rfl) (v := iv obj) rfl ?_
    conv => whnf
    refine fresh_has hh1 fun bw h2 hbw _ hs2 hh2 => ?_
    conv => whnf
    refine fitsKO (hs2 _ _ hcc) hbw ?_
    conv => whnf
    repeat (first | ((with_reducible refine hK _ _ _ ?_); clear hK) | (with_reducible refine seq_step fun K hK => ?_) | (with_reducible refine block_step ?_) | ((with_reducible refine cond_t ?_ ?_); focus rfl) | ((with_reducible refine cond_f ?_ ?_); focus rfl) | ((with_reducible refine code_id ?_); conv => whnf) | (clear hK; (with_reducible refine hK _ _ _ ?_); clear hK) | (clear hK; clear hK; (with_reducible refine hK _ _ _ ?_); clear hK) | (clear hK; clear hK; clear hK; (with_reducible refine hK _ _ _ ?_); clear hK) | (clear hK; clear hK; clear hK; clear hK; (with_reducible refine hK _ _ _ ?_); clear hK) | (clear hK; clear hK; clear hK; clear hK; clear hK; (with_reducible refine hK _ _ _ ?_); clear hK) | (clear hK; clear hK; clear hK; clear hK; clear hK; clear hK; (with_reducible refine hK _ _ _ ?_); clear hK) | (clear hK; clear hK; clear hK; clear hK; clear hK; clear hK; clear hK; (with_reducible refine hK _ _ _ ?_); clear hK))
    exact hq _ ((Has.group (L1 := [_, _]) hh2.tail).pull 1 rfl |>.map_tail fun g hg => hg.swap)
  · conv => whnf
    repeat (first | ((with_reducible refine hK _ _ _ ?_); clear hK) | (with_reducible refine seq_step fun K hK => ?_) | (with_reducible refine block_step ?_) | ((with_reducible refine cond_t ?_ ?_); focus rfl) | ((with_reducible refine cond_f ?_ ?_); focus rfl) | ((with_reducible refine code_id ?_); conv => whnf) | (clear hK; (with_reducible refine hK _ _ _ ?_); clear hK) | (clear hK; clear hK; (with_reducible refine hK _ _ _ ?_); clear hK) | (clear hK; clear hK; clear hK; (with_reducible refine hK _ _ _ ?_); clear hK) | (clear hK; clear hK; clear hK; clear hK; (with_reducible refine hK _ _ _ ?_); clear hK) | (clear hK; clear hK; clear hK; clear hK; clear hK; (with_reducible refine hK _ _ _ ?_); clear hK) | (clear hK; clear hK; clear hK; clear hK; clear hK; clear hK; (with_reducible refine hK _ _ _ ?_); clear hK) | (clear hK; clear hK; clear hK; clear hK; clear hK; clear hK; clear hK; (with_reducible refine hK _ _ _ ?_); clear hK))
    exact hq s _ (hh4.map_tail fun g hg => hg.map_tail fun g hg => hg.tail)

/-- The cells as they can be read. -/
def CellR (S : Bs) (h : Hp) : Prop := ∀ c ∈ S.cs, ∃ s, h c.a = some (.cells (cellC c s).toArray 84 (0, 0)) ∧ Vw 1 h s c.kids.length (c.kids.map ptr)

theorem upd_cells {r : Nat} {o o' : Obj} {x : Nat} {c : Array Value} {ty : TypeId} {z : Nat × Nat} {es : Array MapEntry} {ck : Nat} (hr : h r = some (.map es ck)) (hx : h x = some (.cells c ty z)) : upd h r o' x = some (.cells c ty z) := by
  rw [upd_other (fun e => by rw [e, hr] at hx; cases hx)]; exact hx

theorem Vw.updM {r : Nat} {o' : Obj} {es : Array MapEntry} {ck : Nat} (hr : h r = some (.map es ck)) {s : Value} {n : Nat} {vs : List Value} (hv : Vw 1 h s n vs) : Vw 1 (upd h r o') s n vs := by
  obtain ⟨h1, base, cap, h2, h3, h4⟩ := hv
  refine ⟨h1, base, cap, h2, h3, ?_⟩
  rcases h4 with h4 | ⟨b, o, c, ty, z, g1, g2, g3⟩
  · exact .inl h4
  · exact .inr ⟨b, o, c, ty, z, g1, upd_cells (o := o') hr g2, g3⟩

theorem CellR.upd {r : Nat} {o' : Obj} {es : Array MapEntry} {ck : Nat} (hr : h r = some (.map es ck)) (hc : CellR S h) : CellR S (upd h r o') := fun c hm =>
  let ⟨s, h1, h2⟩ := hc c hm; ⟨s, upd_cells (o := o') hr h1, h2.updM hr⟩

theorem upd_self {r : Nat} {o : Obj} (hr : h r = some o) : upd h r o = h := by
  funext x
  by_cases hx : x = r
  · subst hx; rw [upd_same, hr]
  · rw [upd_other hx]

/-- A map of marks. -/
def MkS (S : Bs) (o : Option Obj) (Lm : List (Nat × Int)) : Prop := MapIs ptr iv o Lm ∧ ∀ p ∈ Lm, p.2 = 1 ∧ ∃ d ∈ S.cs, d.a = p.1

theorem mem_aput {Lm : List (Nat × Int)} {a : Nat} {v : Int} {p : Nat × Int} (h : p ∈ aput Lm a v) : p ∈ Lm ∨ p = (a, v) := by
  induction Lm with
  | nil => exact .inr (List.mem_singleton.1 h)
  | cons q Lm ih =>
    obtain ⟨k, w⟩ := q
    unfold aput at h
    split at h
    · rcases List.mem_cons.1 h with h | h
      · exact .inr h
      · exact .inl (List.mem_cons_of_mem _ h)
    · rcases List.mem_cons.1 h with h | h
      · exact .inl (by rw [h]; exact List.mem_cons_self ..)
      · rcases ih h with h | h
        · exact .inl (List.mem_cons_of_mem _ h)
        · exact .inr h

theorem CellR.plain (hc : CellR S h) {d : Ce} (hd : d ∈ S.cs) : plainO (h d.a) = true := by
  obtain ⟨s, h1, _⟩ := hc d hd
  exact plain_of h1

set_option maxHeartbeats 2000000 in
theorem below46 (hw : WF S) {r : Nat} {rk : Nat → Nat} {M : Nat} (hrk : ∀ c ∈ S.cs, ∀ p, c.par = some p → rk p < rk c.a) (hM : ∀ c ∈ S.cs, rk c.a ≤ M) : ∀ (n : Nat) (c : Ce), c ∈ S.cs → M - rk c.a < n → ∀ (h : Hp) (Q : Value → Hp → Prop) (L0 : List (Nat × Int)), CellR S h → MkS S (h r) L0 →
    (∀ o' L1, MkS S (some o') L1 → (∀ x, (aget L1 x).isSome = true ↔ ((aget L0 x).isSome = true ∨ Bel S.cs c.a x)) → Q (.tuple #[]) (upd h r o')) → Ok PR 46 [ptr c.a, .map (some r)] h Q := by
  intro n
  induction n with
  | zero => intro c hc hn; omega
  | succ n ih =>
    intro c hc hn h Q L0 hcr hmk hq
    obtain ⟨s, hcc, hv⟩ := hcr c hc
    have hv0 := hv
    obtain ⟨_, bi, ci, rfl, _, _⟩ := hv
    obtain ⟨⟨es0, ck0, ho0, hx0⟩, hk0⟩ := hmk
    refine e46 rfl (seq_step fun K hK => ?_)
    repeat (first | ((with_reducible refine hK _ _ _ ?_); clear hK) | (with_reducible refine seq_step fun K hK => ?_) | (with_reducible refine block_step ?_) | ((with_reducible refine cond_t ?_ ?_); focus rfl) | ((with_reducible refine cond_f ?_ ?_); focus rfl) | ((with_reducible refine code_id ?_); conv => whnf) | (clear hK; (with_reducible refine hK _ _ _ ?_); clear hK) | (clear hK; clear hK; (with_reducible refine hK _ _ _ ?_); clear hK) | (clear hK; clear hK; clear hK; (with_reducible refine hK _ _ _ ?_); clear hK) | (clear hK; clear hK; clear hK; clear hK; (with_reducible refine hK _ _ _ ?_); clear hK) | (clear hK; clear hK; clear hK; clear hK; clear hK; (with_reducible refine hK _ _ _ ?_); clear hK) | (clear hK; clear hK; clear hK; clear hK; clear hK; clear hK; (with_reducible refine hK _ _ _ ?_); clear hK) | (clear hK; clear hK; clear hK; clear hK; clear hK; clear hK; clear hK; (with_reducible refine hK _ _ _ ?_); clear hK))
    refine opt_ld hcc (v := .slice bi c.kids.length ci) rfl ?_
    conv => whnf
    repeat (first | ((with_reducible refine hK _ _ _ ?_); clear hK) | (with_reducible refine seq_step fun K hK => ?_) | (with_reducible refine block_step ?_) | ((with_reducible refine cond_t ?_ ?_); focus rfl) | ((with_reducible refine cond_f ?_ ?_); focus rfl) | ((with_reducible refine code_id ?_); conv => whnf) | (clear hK; (with_reducible refine hK _ _ _ ?_); clear hK) | (clear hK; clear hK; (with_reducible refine hK _ _ _ ?_); clear hK) | (clear hK; clear hK; clear hK; (with_reducible refine hK _ _ _ ?_); clear hK) | (clear hK; clear hK; clear hK; clear hK; (with_reducible refine hK _ _ _ ?_); clear hK) | (clear hK; clear hK; clear hK; clear hK; clear hK; (with_reducible refine hK _ _ _ ?_); clear hK) | (clear hK; clear hK; clear hK; clear hK; clear hK; clear hK; (with_reducible refine hK _ _ _ ?_); clear hK) | (clear hK; clear hK; clear hK; clear hK; clear hK; clear hK; clear hK; (with_reducible refine hK _ _ _ ?_); clear hK))
    refine loop_intro (σ := Nat × Obj) (fun s => [(0, .v (ptr c.a)), (1, .v (.map (some r))), (9, .v (.slice bi c.kids.length ci)), (10, .v (iv c.kids.length)), (11, .v (iv s.1))]) (fun _ => []) (fun s => upd h r s.2)
      (fun s => s.1 ≤ c.kids.length ∧ ∃ Li, MkS S (some s.2) Li ∧ ∀ x, (aget Li x).isSome = true ↔ ((aget L0 x).isSome = true ∨ ∃ k ∈ c.kids.take s.1, x = k ∨ Bel S.cs k x)) (fun s => c.kids.length - s.1) (0, .map es0 ck0)
      ⟨Nat.zero_le _, L0, ⟨⟨es0, ck0, rfl, hx0⟩, hk0⟩, fun x => ⟨fun h => .inl h, fun h => h.elim id fun ⟨k, hk, _⟩ => by cases hk⟩⟩
      (subE_cons rfl (subE_cons rfl (subE_cons rfl (subE_cons rfl (subE_cons rfl subE_nil))))) subB_nil (upd_self ho0).symm ?_
    rintro ⟨i, o⟩ ⟨hi, Li, hmi, hset⟩
    dsimp only at hi hmi hset ⊢
    have hks := hw.kids_small hc
    have hnext : IntKind.i64.wrap ((i : Int) + 1) = ((i + 1 : Nat) : Int) := wrap_nat (by omega)
    repeat (first | ((with_reducible refine hK _ _ _ ?_); clear hK) | (with_reducible refine seq_step fun K hK => ?_) | (with_reducible refine block_step ?_) | ((with_reducible refine cond_t ?_ ?_); focus rfl) | ((with_reducible refine cond_f ?_ ?_); focus rfl) | ((with_reducible refine code_id ?_); conv => whnf) | (clear hK; (with_reducible refine hK _ _ _ ?_); clear hK) | (clear hK; clear hK; (with_reducible refine hK _ _ _ ?_); clear hK) | (clear hK; clear hK; clear hK; (with_reducible refine hK _ _ _ ?_); clear hK) | (clear hK; clear hK; clear hK; clear hK; (with_reducible refine hK _ _ _ ?_); clear hK) | (clear hK; clear hK; clear hK; clear hK; clear hK; (with_reducible refine hK _ _ _ ?_); clear hK) | (clear hK; clear hK; clear hK; clear hK; clear hK; clear hK; (with_reducible refine hK _ _ _ ?_); clear hK) | (clear hK; clear hK; clear hK; clear hK; clear hK; clear hK; clear hK; (with_reducible refine hK _ _ _ ?_); clear hK))
    refine cond_dec (fun hlt => ?_) (fun hge => ?_)
    · have hil : i < c.kids.length := by omega
      obtain ⟨d, hd, e1, e2⟩ := hw.k1 c hc c.kids[i] (List.getElem_mem hil)
      have hcr1 : CellR S (upd h r o) := hcr.upd ho0
      obtain ⟨bb, oo, cc, ty, z, cap', hsl, hbb, _, hcc2⟩ := (hv0.updM (o' := o) ho0).at (i := i) hil
      have hx : cc[oo + (i : Int).toNat * 1]? = some (ptr d.a) := by
        have := hcc2 0 (ptr d.a) (by rw [Nat.add_zero, Nat.mul_one, List.getElem?_map, List.getElem?_eq_getElem hil, ← e1]; rfl)
        rwa [Nat.add_zero] at this
      rw [hsl]
      repeat (first | ((with_reducible refine hK _ _ _ ?_); clear hK) | (with_reducible refine seq_step fun K hK => ?_) | (with_reducible refine block_step ?_) | ((with_reducible refine cond_t ?_ ?_); focus rfl) | ((with_reducible refine cond_f ?_ ?_); focus rfl) | ((with_reducible refine code_id ?_); conv => whnf) | (clear hK; (with_reducible refine hK _ _ _ ?_); clear hK) | (clear hK; clear hK; (with_reducible refine hK _ _ _ ?_); clear hK) | (clear hK; clear hK; clear hK; (with_reducible refine hK _ _ _ ?_); clear hK) | (clear hK; clear hK; clear hK; clear hK; (with_reducible refine hK _ _ _ ?_); clear hK) | (clear hK; clear hK; clear hK; clear hK; clear hK; (with_reducible refine hK _ _ _ ?_); clear hK) | (clear hK; clear hK; clear hK; clear hK; clear hK; clear hK; (with_reducible refine hK _ _ _ ?_); clear hK) | (clear hK; clear hK; clear hK; clear hK; clear hK; clear hK; clear hK; (with_reducible refine hK _ _ _ ?_); clear hK))
      refine opt_if ⟨by omega, by omega⟩ ?_
      conv => whnf
      refine opt_ld hbb (v := ptr d.a) hx ?_
      conv => whnf
      repeat (first | ((with_reducible refine hK _ _ _ ?_); clear hK) | (with_reducible refine seq_step fun K hK => ?_) | (with_reducible refine block_step ?_) | ((with_reducible refine cond_t ?_ ?_); focus rfl) | ((with_reducible refine cond_f ?_ ?_); focus rfl) | ((with_reducible refine code_id ?_); conv => whnf) | (clear hK; (with_reducible refine hK _ _ _ ?_); clear hK) | (clear hK; clear hK; (with_reducible refine hK _ _ _ ?_); clear hK) | (clear hK; clear hK; clear hK; (with_reducible refine hK _ _ _ ?_); clear hK) | (clear hK; clear hK; clear hK; clear hK; (with_reducible refine hK _ _ _ ?_); clear hK) | (clear hK; clear hK; clear hK; clear hK; clear hK; (with_reducible refine hK _ _ _ ?_); clear hK) | (clear hK; clear hK; clear hK; clear hK; clear hK; clear hK; (with_reducible refine hK _ _ _ ?_); clear hK) | (clear hK; clear hK; clear hK; clear hK; clear hK; clear hK; clear hK; (with_reducible refine hK _ _ _ ?_); clear hK))
      refine mup_stepP (a := d.a) (b := (1 : Int)) (by rw [upd_same]; exact hmi.1) (hcr1.plain hd) (fun p hp => by
        obtain ⟨_, d', hd', e⟩ := hmi.2 p hp
        rw [← e]; exact hcr1.plain hd') fun o2 ho2 => ?_
      have hm2 : MkS S (some o2) (aput Li d.a 1) := ⟨ho2, fun p hp => by
        rcases mem_aput hp with hp | rfl
        · exact hmi.2 p hp
        · exact ⟨rfl, d, hd, rfl⟩⟩
      rw [upd_upd]
      conv => whnf
      repeat (first | ((with_reducible refine hK _ _ _ ?_); clear hK) | (with_reducible refine seq_step fun K hK => ?_) | (with_reducible refine block_step ?_) | ((with_reducible refine cond_t ?_ ?_); focus rfl) | ((with_reducible refine cond_f ?_ ?_); focus rfl) | ((with_reducible refine code_id ?_); conv => whnf) | (clear hK; (with_reducible refine hK _ _ _ ?_); clear hK) | (clear hK; clear hK; (with_reducible refine hK _ _ _ ?_); clear hK) | (clear hK; clear hK; clear hK; (with_reducible refine hK _ _ _ ?_); clear hK) | (clear hK; clear hK; clear hK; clear hK; (with_reducible refine hK _ _ _ ?_); clear hK) | (clear hK; clear hK; clear hK; clear hK; clear hK; (with_reducible refine hK _ _ _ ?_); clear hK) | (clear hK; clear hK; clear hK; clear hK; clear hK; clear hK; (with_reducible refine hK _ _ _ ?_); clear hK) | (clear hK; clear hK; clear hK; clear hK; clear hK; clear hK; clear hK; (with_reducible refine hK _ _ _ ?_); clear hK))
      have hrd := hrk d hd _ e2
      have hMd := hM d hd
      obtain ⟨es2, ck2, ho2', _⟩ := ho2
      cases ho2'
      refine ih d hd (by omega) _ _ _ (hcr.upd ho0) (by rw [upd_same]; exact hm2) fun o3 L3 hm3 hset3 => ?_
      rw [upd_upd]
      conv => whnf
      repeat (first | ((with_reducible refine hK _ _ _ ?_); clear hK) | (with_reducible refine seq_step fun K hK => ?_) | (with_reducible refine block_step ?_) | ((with_reducible refine cond_t ?_ ?_); focus rfl) | ((with_reducible refine cond_f ?_ ?_); focus rfl) | ((with_reducible refine code_id ?_); conv => whnf) | (clear hK; (with_reducible refine hK _ _ _ ?_); clear hK) | (clear hK; clear hK; (with_reducible refine hK _ _ _ ?_); clear hK) | (clear hK; clear hK; clear hK; (with_reducible refine hK _ _ _ ?_); clear hK) | (clear hK; clear hK; clear hK; clear hK; (with_reducible refine hK _ _ _ ?_); clear hK) | (clear hK; clear hK; clear hK; clear hK; clear hK; (with_reducible refine hK _ _ _ ?_); clear hK) | (clear hK; clear hK; clear hK; clear hK; clear hK; clear hK; (with_reducible refine hK _ _ _ ?_); clear hK) | (clear hK; clear hK; clear hK; clear hK; clear hK; clear hK; clear hK; (with_reducible refine hK _ _ _ ?_); clear hK))
      refine ⟨(i + 1, o3), ⟨hil, L3, hm3, fun x => (hset3 x).trans ?_⟩, by dsimp only; omega, subE_cons rfl (subE_cons rfl (subE_cons (by rw [hsl]; rfl) (subE_cons rfl (subE_cons (int_eq hnext rfl) subE_nil)))), subB_nil, rfl⟩
      rw [aget_aput]
      constructor
      · rintro (h1 | h1)
        · split at h1
          · rename_i hxd
            exact .inr ⟨c.kids[i], by rw [← List.take_append_getElem hil]; exact List.mem_append_right _ (List.mem_singleton.2 rfl), .inl (by rw [hxd, e1])⟩
          · rcases (hset x).1 h1 with h1 | ⟨k, hk, h1⟩
            · exact .inl h1
            · exact .inr ⟨k, by rw [← List.take_append_getElem hil]; exact List.mem_append_left _ hk, h1⟩
        · exact .inr ⟨c.kids[i], by rw [← List.take_append_getElem hil]; exact List.mem_append_right _ (List.mem_singleton.2 rfl), .inr (by rw [← e1]; exact h1)⟩
      · rintro (h1 | ⟨k, hk, h1⟩)
        · refine .inl ?_
          split
          · rfl
          · exact (hset x).2 (.inl h1)
        · rw [← List.take_append_getElem hil] at hk
          rcases List.mem_append.1 hk with hk | hk
          · refine .inl ?_
            split
            · rfl
            · exact (hset x).2 (.inr ⟨k, hk, h1⟩)
          · have hke := List.mem_singleton.1 hk
            rcases h1 with h1 | h1
            · refine .inl ?_
              rw [if_pos (by rw [h1, hke, e1])]; rfl
            · exact .inr (by rw [e1, ← hke]; exact h1)
    · have hie : i = c.kids.length := by omega
      rw [hie, List.take_length] at hset
      repeat (first | ((with_reducible refine hK _ _ _ ?_); clear hK) | (with_reducible refine seq_step fun K hK => ?_) | (with_reducible refine block_step ?_) | ((with_reducible refine cond_t ?_ ?_); focus rfl) | ((with_reducible refine cond_f ?_ ?_); focus rfl) | ((with_reducible refine code_id ?_); conv => whnf) | (clear hK; (with_reducible refine hK _ _ _ ?_); clear hK) | (clear hK; clear hK; (with_reducible refine hK _ _ _ ?_); clear hK) | (clear hK; clear hK; clear hK; (with_reducible refine hK _ _ _ ?_); clear hK) | (clear hK; clear hK; clear hK; clear hK; (with_reducible refine hK _ _ _ ?_); clear hK) | (clear hK; clear hK; clear hK; clear hK; clear hK; (with_reducible refine hK _ _ _ ?_); clear hK) | (clear hK; clear hK; clear hK; clear hK; clear hK; clear hK; (with_reducible refine hK _ _ _ ?_); clear hK) | (clear hK; clear hK; clear hK; clear hK; clear hK; clear hK; clear hK; (with_reducible refine hK _ _ _ ?_); clear hK))
      refine hq o Li hmi fun x => (hset x).trans ?_
      rw [Bel.kids hw hc]

def MpP (r : Nat) (S : Bs) (Lm : List (Nat × Int)) : As := fun h => ∃ o, h r = some o ∧ MkS S (some o) Lm

theorem max_rk (rk : Nat → Nat) : ∀ C : List Ce, ∃ M, ∀ c ∈ C, rk c.a ≤ M
  | [] => ⟨0, fun c hc => by cases hc⟩
  | x :: C => by
    obtain ⟨M, hM⟩ := max_rk rk C
    refine ⟨max M (rk x.a), fun c hc => ?_⟩
    rcases List.mem_cons.1 hc with rfl | hc
    · exact Nat.le_max_right ..
    · exact Nat.le_trans (hM c hc) (Nat.le_max_left ..)

/-- Marked or not. -/
def mkM (Lm : List (Nat × Int)) (c : Ce) : Bool := (aget Lm c.a).isSome
theorem mkM_sim (Lm : List (Nat × Int)) : ∀ c d, Sim c d → mkM Lm c = mkM Lm d := fun c d h => by unfold mkM; rw [h.1]

theorem aget_memS {Lm : List (Nat × Int)} {a : Nat} {v : Int} (h : aget Lm a = some v) : (a, v) ∈ Lm := by
  induction Lm with
  | nil => cases h
  | cons q Lm ih =>
    obtain ⟨k, w⟩ := q
    unfold aget at h
    split at h
    · rename_i hk; cases h; rw [hk]; exact List.mem_cons_self ..
    · exact List.mem_cons_of_mem _ (ih h)

set_option maxHeartbeats 2000000 in
theorem revoke20 (hw : WF S) (hh : Has (CapsA b S :: L) h) (e s : Int) (h1 : ∀ k, mLook S.tb e s = .inl k → Q (.tuple #[.slice none 0 0, iv k]) h)
    (h2 : ∀ c ∈ S.cs, e = c.env → s = c.slot → ∀ m : Ce → Bool, (∀ c d, Sim c d → m c = m d) → (∀ d ∈ S.cs, m d = true ↔ Bel S.cs c.a d.a) → ∀ sl h', Has (CapsA b (sw m S 768) :: HsP sl ((swL m S 768).map hdOf) :: L) h' → Q (.tuple #[sl, iv 0]) h') :
    Ok PR 20 [ptr b, iv e, iv s] h Q := by
  have hr := CapsA.rd0 hh
  refine e20 rfl (seq_step fun K hK => ?_)
  repeat (first | ((with_reducible refine hK _ _ _ ?_); clear hK) | (with_reducible refine seq_step fun K hK => ?_) | (with_reducible refine block_step ?_) | ((with_reducible refine cond_t ?_ ?_); focus rfl) | ((with_reducible refine cond_f ?_ ?_); focus rfl) | ((with_reducible refine code_id ?_); conv => whnf) | (clear hK; (with_reducible refine hK _ _ _ ?_); clear hK) | (clear hK; clear hK; (with_reducible refine hK _ _ _ ?_); clear hK) | (clear hK; clear hK; clear hK; (with_reducible refine hK _ _ _ ?_); clear hK) | (clear hK; clear hK; clear hK; clear hK; (with_reducible refine hK _ _ _ ?_); clear hK) | (clear hK; clear hK; clear hK; clear hK; clear hK; (with_reducible refine hK _ _ _ ?_); clear hK) | (clear hK; clear hK; clear hK; clear hK; clear hK; clear hK; (with_reducible refine hK _ _ _ ?_); clear hK) | (clear hK; clear hK; clear hK; clear hK; clear hK; clear hK; clear hK; (with_reducible refine hK _ _ _ ?_); clear hK))
  refine look38 hr hw.len e s ?_
  cases hm : mLook S.tb e s with
  | inl k =>
    rcases mLook_k hm with rfl | rfl
    · conv => whnf
      repeat (first | ((with_reducible refine hK _ _ _ ?_); clear hK) | (with_reducible refine seq_step fun K hK => ?_) | (with_reducible refine block_step ?_) | ((with_reducible refine cond_t ?_ ?_); focus rfl) | ((with_reducible refine cond_f ?_ ?_); focus rfl) | ((with_reducible refine code_id ?_); conv => whnf) | (clear hK; (with_reducible refine hK _ _ _ ?_); clear hK) | (clear hK; clear hK; (with_reducible refine hK _ _ _ ?_); clear hK) | (clear hK; clear hK; clear hK; (with_reducible refine hK _ _ _ ?_); clear hK) | (clear hK; clear hK; clear hK; clear hK; (with_reducible refine hK _ _ _ ?_); clear hK) | (clear hK; clear hK; clear hK; clear hK; clear hK; (with_reducible refine hK _ _ _ ?_); clear hK) | (clear hK; clear hK; clear hK; clear hK; clear hK; clear hK; (with_reducible refine hK _ _ _ ?_); clear hK) | (clear hK; clear hK; clear hK; clear hK; clear hK; clear hK; clear hK; (with_reducible refine hK _ _ _ ?_); clear hK))
      exact h1 83 hm
    · conv => whnf
      repeat (first | ((with_reducible refine hK _ _ _ ?_); clear hK) | (with_reducible refine seq_step fun K hK => ?_) | (with_reducible refine block_step ?_) | ((with_reducible refine cond_t ?_ ?_); focus rfl) | ((with_reducible refine cond_f ?_ ?_); focus rfl) | ((with_reducible refine code_id ?_); conv => whnf) | (clear hK; (with_reducible refine hK _ _ _ ?_); clear hK) | (clear hK; clear hK; (with_reducible refine hK _ _ _ ?_); clear hK) | (clear hK; clear hK; clear hK; (with_reducible refine hK _ _ _ ?_); clear hK) | (clear hK; clear hK; clear hK; clear hK; (with_reducible refine hK _ _ _ ?_); clear hK) | (clear hK; clear hK; clear hK; clear hK; clear hK; (with_reducible refine hK _ _ _ ?_); clear hK) | (clear hK; clear hK; clear hK; clear hK; clear hK; clear hK; (with_reducible refine hK _ _ _ ?_); clear hK) | (clear hK; clear hK; clear hK; clear hK; clear hK; clear hK; clear hK; (with_reducible refine hK _ _ _ ?_); clear hK))
      exact h1 80 hm
  | inr a =>
    obtain ⟨c, hc, rfl, he, hs⟩ := mLook_at hw hm
    conv => whnf
    repeat (first | ((with_reducible refine hK _ _ _ ?_); clear hK) | (with_reducible refine seq_step fun K hK => ?_) | (with_reducible refine block_step ?_) | ((with_reducible refine cond_t ?_ ?_); focus rfl) | ((with_reducible refine cond_f ?_ ?_); focus rfl) | ((with_reducible refine code_id ?_); conv => whnf) | (clear hK; (with_reducible refine hK _ _ _ ?_); clear hK) | (clear hK; clear hK; (with_reducible refine hK _ _ _ ?_); clear hK) | (clear hK; clear hK; clear hK; (with_reducible refine hK _ _ _ ?_); clear hK) | (clear hK; clear hK; clear hK; clear hK; (with_reducible refine hK _ _ _ ?_); clear hK) | (clear hK; clear hK; clear hK; clear hK; clear hK; (with_reducible refine hK _ _ _ ?_); clear hK) | (clear hK; clear hK; clear hK; clear hK; clear hK; clear hK; (with_reducible refine hK _ _ _ ?_); clear hK) | (clear hK; clear hK; clear hK; clear hK; clear hK; clear hK; clear hK; (with_reducible refine hK _ _ _ ?_); clear hK))
    refine fresh_has hh fun r h3 _ _ hs3 hh3 => ?_
    conv => whnf
    refine fresh_has hh3 fun b10 h4 _ _ hs4 hh4 => ?_
    conv => whnf
    refine st_has hh4 0 rfl rfl (by decide) rfl fun h5 _ _ hh5 => ?_
    conv => whnf
    repeat (first | ((with_reducible refine hK _ _ _ ?_); clear hK) | (with_reducible refine seq_step fun K hK => ?_) | (with_reducible refine block_step ?_) | ((with_reducible refine cond_t ?_ ?_); focus rfl) | ((with_reducible refine cond_f ?_ ?_); focus rfl) | ((with_reducible refine code_id ?_); conv => whnf) | (clear hK; (with_reducible refine hK _ _ _ ?_); clear hK) | (clear hK; clear hK; (with_reducible refine hK _ _ _ ?_); clear hK) | (clear hK; clear hK; clear hK; (with_reducible refine hK _ _ _ ?_); clear hK) | (clear hK; clear hK; clear hK; clear hK; (with_reducible refine hK _ _ _ ?_); clear hK) | (clear hK; clear hK; clear hK; clear hK; clear hK; (with_reducible refine hK _ _ _ ?_); clear hK) | (clear hK; clear hK; clear hK; clear hK; clear hK; clear hK; (with_reducible refine hK _ _ _ ?_); clear hK) | (clear hK; clear hK; clear hK; clear hK; clear hK; clear hK; clear hK; (with_reducible refine hK _ _ _ ?_); clear hK))
    refine opt_ld (hh5.pt 0 rfl) (v := .map (some r)) rfl ?_
    conv => whnf
    obtain ⟨rk, hrk⟩ := hw.ord
    obtain ⟨M, hM⟩ := max_rk rk S.cs
    have hcr : CellR S h5 := (CapsA.rd hh5 2 rfl).cell
    have hmk : MkS S (h5 r) [] := ⟨by rw [hh5.pt 1 rfl]; exact MapIs.nil _ _ _, fun p hp => by cases hp⟩
    refine below46 hw hrk hM (M - rk c.a + 1) c hc (Nat.lt_succ_self _) h5 _ [] hcr hmk fun o' L1 hm1 hset => ?_
    have hh6 := hh5.st 1 rfl o'
    have hh7 : Has (CapsA b S :: Has [Pt b10 (.cells #[.map (some r)] 90 (0, 0)), MpP r S L1] :: L) (upd h5 r o') := by
      have h8 : Has (CapsA b S :: Pt b10 (.cells #[.map (some r)] 90 (0, 0)) :: Pt r o' :: L) (upd h5 r o') := hh6.pull 2 rfl
      exact h8.map_tail fun g hg => Has.group (L1 := [_, _]) (hg.map_tail fun g hg => hg.mono1 fun g2 hg2 => ⟨o', hg2, hm1⟩)
    conv => whnf
    repeat (first | ((with_reducible refine hK _ _ _ ?_); clear hK) | (with_reducible refine seq_step fun K hK => ?_) | (with_reducible refine block_step ?_) | ((with_reducible refine cond_t ?_ ?_); focus rfl) | ((with_reducible refine cond_f ?_ ?_); focus rfl) | ((with_reducible refine code_id ?_); conv => whnf) | (clear hK; (with_reducible refine hK _ _ _ ?_); clear hK) | (clear hK; clear hK; (with_reducible refine hK _ _ _ ?_); clear hK) | (clear hK; clear hK; clear hK; (with_reducible refine hK _ _ _ ?_); clear hK) | (clear hK; clear hK; clear hK; clear hK; (with_reducible refine hK _ _ _ ?_); clear hK) | (clear hK; clear hK; clear hK; clear hK; clear hK; (with_reducible refine hK _ _ _ ?_); clear hK) | (clear hK; clear hK; clear hK; clear hK; clear hK; clear hK; (with_reducible refine hK _ _ _ ?_); clear hK) | (clear hK; clear hK; clear hK; clear hK; clear hK; clear hK; clear hK; (with_reducible refine hK _ _ _ ?_); clear hK))
    refine sweep47 hw (mkM_sim L1) (kg := 48) (capg := [ptr b10]) callableRevoke (XG := Has [Pt b10 (.cells #[.map (some r)] 90 (0, 0)), MpP r S L1])
      (fun S' gl d L h Q hw' hd hcov hh hq => ?_) hh7 fun sl h9 hh9 => ?_
    · have hh1 : Has (Pt b10 (.cells #[.map (some r)] 90 (0, 0)) :: MpP r S L1 :: CapsA b S' :: GoneP gl :: L) h := Has.flat (L1 := [_, _]) (hh.pull 2 rfl)
      obtain ⟨o, ho, hmo⟩ : MpP r S L1 h := Has.get hh1 1 rfl fun g g' ⟨o, ho, hm⟩ hs => ⟨o, hs _ _ ho, hm⟩
      have hpl : ∀ x, (∃ y ∈ S.cs, y.a = x) → plainO (h x) = true := fun x ⟨y, hy, e⟩ => by
        rcases hcov y hy with h1 | ⟨k, hk, e2⟩
        · rw [← e]; exact GoneP.rd hh1 3 rfl h1
        · obtain ⟨sk, hk1, _⟩ := (CapsA.rd hh1 2 rfl).cell k hk
          rw [← e, ← e2]; exact plain_of hk1
      obtain ⟨sd, hd1, _⟩ := (CapsA.rd hh1 2 rfl).cell d hd
      refine e48 rfl (seq_step fun K hK => ?_)
      repeat (first | ((with_reducible refine hK _ _ _ ?_); clear hK) | (with_reducible refine seq_step fun K hK => ?_) | (with_reducible refine block_step ?_) | ((with_reducible refine cond_t ?_ ?_); focus rfl) | ((with_reducible refine cond_f ?_ ?_); focus rfl) | ((with_reducible refine code_id ?_); conv => whnf) | (clear hK; (with_reducible refine hK _ _ _ ?_); clear hK) | (clear hK; clear hK; (with_reducible refine hK _ _ _ ?_); clear hK) | (clear hK; clear hK; clear hK; (with_reducible refine hK _ _ _ ?_); clear hK) | (clear hK; clear hK; clear hK; clear hK; (with_reducible refine hK _ _ _ ?_); clear hK) | (clear hK; clear hK; clear hK; clear hK; clear hK; (with_reducible refine hK _ _ _ ?_); clear hK) | (clear hK; clear hK; clear hK; clear hK; clear hK; clear hK; (with_reducible refine hK _ _ _ ?_); clear hK) | (clear hK; clear hK; clear hK; clear hK; clear hK; clear hK; clear hK; (with_reducible refine hK _ _ _ ?_); clear hK))
      refine opt_ld (hh1.pt 0 rfl) (v := .map (some r)) rfl ?_
      conv => whnf
      refine look1_stepP (a := d.a) (by rw [ho]; exact hmo.1) (plain_of hd1) (fun p hp => hpl _ (hmo.2 p hp).2) ?_
      have fin := hq _ hh
      unfold mkM at fin
      cases hg : aget L1 d.a with
      | none =>
        rw [hg] at fin
        conv => whnf
        repeat (first | ((with_reducible refine hK _ _ _ ?_); clear hK) | (with_reducible refine seq_step fun K hK => ?_) | (with_reducible refine block_step ?_) | ((with_reducible refine cond_t ?_ ?_); focus rfl) | ((with_reducible refine cond_f ?_ ?_); focus rfl) | ((with_reducible refine code_id ?_); conv => whnf) | (clear hK; (with_reducible refine hK _ _ _ ?_); clear hK) | (clear hK; clear hK; (with_reducible refine hK _ _ _ ?_); clear hK) | (clear hK; clear hK; clear hK; (with_reducible refine hK _ _ _ ?_); clear hK) | (clear hK; clear hK; clear hK; clear hK; (with_reducible refine hK _ _ _ ?_); clear hK) | (clear hK; clear hK; clear hK; clear hK; clear hK; (with_reducible refine hK _ _ _ ?_); clear hK) | (clear hK; clear hK; clear hK; clear hK; clear hK; clear hK; (with_reducible refine hK _ _ _ ?_); clear hK) | (clear hK; clear hK; clear hK; clear hK; clear hK; clear hK; clear hK; (with_reducible refine hK _ _ _ ?_); clear hK))
        exact fin
      | some v =>
        rw [hg] at fin
        have hv1 : v = 1 := (hmo.2 _ (aget_memS hg)).1
        subst hv1
        conv => whnf
        repeat (first | ((with_reducible refine hK _ _ _ ?_); clear hK) | (with_reducible refine seq_step fun K hK => ?_) | (with_reducible refine block_step ?_) | ((with_reducible refine cond_t ?_ ?_); focus rfl) | ((with_reducible refine cond_f ?_ ?_); focus rfl) | ((with_reducible refine code_id ?_); conv => whnf) | (clear hK; (with_reducible refine hK _ _ _ ?_); clear hK) | (clear hK; clear hK; (with_reducible refine hK _ _ _ ?_); clear hK) | (clear hK; clear hK; clear hK; (with_reducible refine hK _ _ _ ?_); clear hK) | (clear hK; clear hK; clear hK; clear hK; (with_reducible refine hK _ _ _ ?_); clear hK) | (clear hK; clear hK; clear hK; clear hK; clear hK; (with_reducible refine hK _ _ _ ?_); clear hK) | (clear hK; clear hK; clear hK; clear hK; clear hK; clear hK; (with_reducible refine hK _ _ _ ?_); clear hK) | (clear hK; clear hK; clear hK; clear hK; clear hK; clear hK; clear hK; (with_reducible refine hK _ _ _ ?_); clear hK))
        exact fin
    · conv => whnf
      repeat (first | ((with_reducible refine hK _ _ _ ?_); clear hK) | (with_reducible refine seq_step fun K hK => ?_) | (with_reducible refine block_step ?_) | ((with_reducible refine cond_t ?_ ?_); focus rfl) | ((with_reducible refine cond_f ?_ ?_); focus rfl) | ((with_reducible refine code_id ?_); conv => whnf) | (clear hK; (with_reducible refine hK _ _ _ ?_); clear hK) | (clear hK; clear hK; (with_reducible refine hK _ _ _ ?_); clear hK) | (clear hK; clear hK; clear hK; (with_reducible refine hK _ _ _ ?_); clear hK) | (clear hK; clear hK; clear hK; clear hK; (with_reducible refine hK _ _ _ ?_); clear hK) | (clear hK; clear hK; clear hK; clear hK; clear hK; (with_reducible refine hK _ _ _ ?_); clear hK) | (clear hK; clear hK; clear hK; clear hK; clear hK; clear hK; (with_reducible refine hK _ _ _ ?_); clear hK) | (clear hK; clear hK; clear hK; clear hK; clear hK; clear hK; clear hK; (with_reducible refine hK _ _ _ ?_); clear hK))
      refine h2 c hc he hs (mkM L1) (mkM_sim L1) (fun d hd => ?_) sl _ (hh9.map_tail fun g hg => hg.map_tail fun g hg => hg.tail)
      unfold mkM
      rw [hset]
      constructor
      · rintro (h | h)
        · cases h
        · exact h
      · exact .inr
end
end Go.Proofs.YthpkgkoojhgedaaDoor.V
