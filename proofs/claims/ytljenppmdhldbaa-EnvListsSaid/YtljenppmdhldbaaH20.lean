/- Seat 09: what is left when a tree ends, in plain words. -/
import Derived.Test.YtljenppmdhldbaaH19
namespace Go.Proofs.Ytljenppmdhldbaa.V
set_option linter.unusedVariables false
set_option linter.unusedSimpArgs false
set_option linter.unusedSectionVars false
set_option linter.unusedSectionVars false
open Go

def cut (A : Rs) (e : Int) : Rs := A.filter fun x => !(walk A e).contains (x.num : Int)
def mDestroy (A : Rs) (e : Int) : (List Int × Int) × Rs := match fnd A e with
  | none => (([], 90), A)
  | some r => if e = 0 then (([], 92), A) else ((walk A e, 0), cut A e)

section
variable {A : Rs} {last : Int}

theorem mem_cut {e : Int} {x : Row} : x ∈ cut A e ↔ x ∈ A ∧ (x.num : Int) ∉ walk A e := by simp [cut]

theorem fnd_cut (A : Rs) (hn : (A.map (·.num)).Nodup) (e k : Int) : fnd (cut A e) k = if k ∈ walk A e then none else fnd A k := by
  by_cases hk : k ∈ walk A e
  · rw [if_pos hk, fnd_none]
    intro x hx h
    rw [mem_cut] at hx
    exact hx.2 (h ▸ hk)
  · rw [if_neg hk]
    cases h : fnd A k with
    | none =>
      rw [fnd_none] at h ⊢
      exact fun x hx => h x (mem_cut.1 hx).1
    | some r =>
      have h1 := fnd_mem h
      have hn' : ((cut A e).map (·.num)).Nodup := (List.Sublist.map _ List.filter_sublist).nodup hn
      exact (fnd_iff hn').2 ⟨mem_cut.2 ⟨h1.1, by rw [h1.2]; exact hk⟩, h1.2⟩

/-- The parent of one that ends. -/
theorem WF.par_of (hw : WF A last) {e : Int} {r : Row} (hr : fnd A e = some r) (h0 : e ≠ 0) : ∃ p, fnd A r.parent = some p ∧ r.parent ∉ walk A e := by
  have h1 := fnd_mem hr
  rcases hw.par r h1.1 with ⟨h2, _⟩ | ⟨_, q, hq, h2, h3⟩
  · exact absurd (by omega) h0
  · have hp : fnd A r.parent = some q := by rw [h2]; exact fnd_of hw.nd hq
    refine ⟨q, hp, fun hm => ?_⟩
    obtain ⟨x, hx, hle, _⟩ := mem_walk hw hr _ hm
    rw [hp] at hx; cases hx
    omega

theorem root_out (hw : WF A last) {e : Int} {r : Row} (hr : fnd A e = some r) (h0 : e ≠ 0) : (0 : Int) ∉ walk A e := fun hm => by
  obtain ⟨x, hx, _, h1⟩ := mem_walk hw hr _ hm
  rcases h1 with h1 | h1
  · exact h0 h1.symm
  · have h2 := fnd_mem hx
    rcases hw.par x h2.1 with ⟨_, h3⟩ | ⟨h3, _⟩
    · rw [h3] at h1
      obtain ⟨y, hy, _⟩ := mem_walk hw hr _ h1
      have := (fnd_mem hy).2
      omega
    · omega

theorem qsum_erase {β : Type} (f : β → Q3) {p : β → Bool} : ∀ {l : List β} {x : β}, x ∈ l → (∀ y ∈ l, p y = false ↔ y = x) → l.Nodup → qadd (qsum ((l.filter p).map f)) (qchild (f x)) = qsum (l.map f)
  | [], x, hx, _, _ => by cases hx
  | y :: l, x, hx, hp, hn => by
    rw [List.nodup_cons] at hn
    by_cases hy : y = x
    · subst hy
      have hpy : p y = false := (hp y (List.mem_cons_self ..)).2 rfl
      have hl : l.filter p = l := by
        rw [List.filter_eq_self]
        intro z hz
        cases hpz : p z with
        | true => rfl
        | false =>
          have := (hp z (List.mem_cons_of_mem _ hz)).1 hpz
          subst this
          exact absurd hz hn.1
      rw [List.filter_cons_of_neg (by rw [hpy]; decide), hl]
      simp only [List.map_cons, qsum, qadd]
      congr 1
      · omega
      · congr 1 <;> omega
    · have hxl : x ∈ l := by
        rcases List.mem_cons.1 hx with h | h
        · exact absurd h.symm hy
        · exact h
      have ih := qsum_erase f (p := p) hxl (fun z hz => hp z (List.mem_cons_of_mem _ hz)) hn.2
      have hpy : p y = true := by
        cases hpy : p y with
        | true => rfl
        | false => exact absurd ((hp y (List.mem_cons_self ..)).1 hpy) hy
      rw [List.filter_cons_of_pos hpy]
      simp only [List.map_cons, qsum]
      rw [← ih]
      simp only [qadd]
      congr 1
      · omega
      · congr 1 <;> omega

theorem kidsR_cut (A : Rs) (e n : Int) : kidsR (cut A e) n = (kidsR A n).filter fun x => !(walk A e).contains (x.num : Int) := by
  unfold kidsR cut
  rw [List.filter_filter, List.filter_filter]
  congr 1; funext x; exact Bool.and_comm _ _

theorem gone_kid (hw : WF A last) {e : Int} {r : Row} (hr : fnd A e = some r) {n : Int} (hn : n ∉ walk A e) {x : Row} (hx : x ∈ kidsR A n) : (x.num : Int) ∈ walk A e ↔ (x.num : Int) = e := by
  obtain ⟨hxA, hxp⟩ := mem_kidsR.1 hx
  constructor
  · intro hm
    obtain ⟨y, hy, _, h1⟩ := mem_walk hw hr _ hm
    rw [fnd_of hw.nd hxA] at hy
    cases hy
    rcases h1 with h1 | h1
    · exact h1
    · rw [hxp] at h1; exact absurd h1 hn
  · intro h; rw [h]; exact self_walk A e

/-- Others keep their children. -/
theorem kidsR_same (hw : WF A last) {e : Int} {r : Row} (hr : fnd A e = some r) {n : Int} (hn : n ∉ walk A e) (hne : n ≠ r.parent) : kidsR (cut A e) n = kidsR A n := by
  rw [kidsR_cut, List.filter_eq_self]
  intro x hx
  have h1 := gone_kid hw hr hn hx
  have : (x.num : Int) ∉ walk A e := fun hm => by
    have h2 := h1.1 hm
    have h3 := fnd_of hw.nd (mem_kidsR.1 hx).1
    rw [h2, hr] at h3
    cases h3
    exact hne (mem_kidsR.1 hx).2.symm
  simp [this]

theorem kids_par (hw : WF A last) {e : Int} {r : Row} (hr : fnd A e = some r) (hn : r.parent ∉ walk A e) : kids (cut A e) r.parent = (kids A r.parent).filter (fun k => k != e) := by
  unfold kids
  rw [kidsR_cut, List.filter_map]
  congr 1
  refine List.filter_congr fun x hx => ?_
  have h1 := gone_kid hw hr hn hx
  simp only [Function.comp]
  by_cases h : (x.num : Int) = e
  · simp [h, self_walk]
  · have : (x.num : Int) ∉ walk A e := fun hm => h (h1.1 hm)
    simp [h, this]

theorem carve_par (hw : WF A last) {e : Int} {r : Row} (hr : fnd A e = some r) (hn : r.parent ∉ walk A e) : qadd (carve (cut A e) r.parent) (qchild r.whole) = carve A r.parent := by
  unfold carve
  rw [kidsR_cut]
  have h1 := fnd_mem hr
  refine qsum_erase (fun x : Row => x.whole) (x := r) (mem_kidsR.2 ⟨h1.1, rfl⟩) (fun y hy => ?_) ?_
  · have h2 := gone_kid hw hr hn hy
    constructor
    · intro h
      have : (y.num : Int) ∈ walk A e := by simpa using h
      have h3 := h2.1 this
      exact uniq hw.nd (mem_kidsR.1 hy).1 h1.1 (by omega)
    · intro h
      subst h
      have := h2.2 h1.2
      simpa using this
  · exact (List.Sublist.nodup List.filter_sublist (List.Pairwise.of_map _ (fun a b h e => h (by rw [e])) hw.nd))

theorem WF.cut (hw : WF A last) {e : Int} {r : Row} (hr : fnd A e = some r) (h0 : e ≠ 0) : WF (cut A e) last := by
  obtain ⟨p, hp, hpn⟩ := hw.par_of hr h0
  have hsub : (V.cut A e).Sublist A := List.filter_sublist
  have hm : ∀ x ∈ V.cut A e, x ∈ A := fun x hx => hsub.subset hx
  refine ⟨(hsub.map _).nodup hw.nd, fun x hx => hw.lt x (hm x hx), hw.sr.sublist hsub, fun x hx => hw.sl x (hm x hx), ?_, ?_, fun x hx => hw.qw x (hm x hx), fun x hx => hw.qp x (hm x hx), ?_, fun x hx => hw.bt x (hm x hx), fun x hx => hw.rg x (hm x hx)⟩
  · obtain ⟨x, hx, h⟩ := hw.root
    refine ⟨x, mem_cut.2 ⟨hx, ?_⟩, h⟩
    rw [h]; exact root_out hw hr h0
  · intro x hx
    obtain ⟨hxA, hxn⟩ := mem_cut.1 hx
    rcases hw.par x hxA with h | ⟨h, q, hq, h2, h3⟩
    · exact .inl h
    · refine .inr ⟨h, q, mem_cut.2 ⟨hq, fun hqn => hxn (walk_down hw hr x hxA ?_)⟩, h2, h3⟩
      rw [h2]; exact hqn
  · intro x hx
    obtain ⟨hxA, hxn⟩ := mem_cut.1 hx
    have hql := hw.ql x hxA
    unfold left at hql ⊢
    by_cases hxp : (x.num : Int) = r.parent
    · have h1 := carve_par hw hr hpn
      have h2 := (hw.qw r (fnd_mem hr).1).1
      rw [hxp] at hql ⊢
      rw [← h1] at hql
      obtain ⟨a1, a2, a3⟩ := hql
      obtain ⟨b1, b2, b3⟩ := h2
      simp only [qsub, qadd, qchild, qge] at *
      omega
    · unfold carve
      rw [kidsR_same hw hr hxn hxp]
      exact hql

end
end Go.Proofs.Ytljenppmdhldbaa.V
