/- Seat 09: walks, in plain words; a tree that ends. -/
import Derived.Test.YtljenppmdhldbaaH15
namespace Go.Proofs.Ytljenppmdhldbaa.V
set_option linter.unusedVariables false
set_option linter.unusedSimpArgs false
set_option linter.unusedSectionVars false
set_option linter.unusedSectionVars false
open Go

section
variable {A : Rs} {last : Int}

theorem self_walk (A : Rs) (e : Int) : e ∈ walk A e := List.mem_cons_self ..

theorem kid_walk (hw : WF A last) {e k x : Int} {r : Row} (hr : fnd A e = some r) (hk : k ∈ kids A e) (hx : x ∈ walk A k) : x ∈ walk A e := by
  rw [walk_eq hw hr]
  exact List.mem_cons_of_mem _ (List.mem_flatMap.2 ⟨k, hk, hx⟩)

theorem mem_walk (hw : WF A last) {e : Int} {r : Row} (hr : fnd A e = some r) : ∀ k ∈ walk A e, ∃ x, fnd A k = some x ∧ r.serial ≤ x.serial ∧ (k = e ∨ x.parent ∈ walk A e) := by
  revert r
  have := tree_ind hw (P := fun e => ∀ r, fnd A e = some r → ∀ k ∈ walk A e, ∃ x, fnd A k = some x ∧ r.serial ≤ x.serial ∧ (k = e ∨ x.parent ∈ walk A e)) (fun e r hr ih r' hr' k hk => ?_)
  · intro r hr; exact this e r hr r hr
  · rw [hr] at hr'; cases hr'
    have hk0 := hk
    rw [walk_eq hw hr, List.mem_cons, List.mem_flatMap] at hk
    rcases hk with rfl | ⟨c, hc, hk⟩
    · exact ⟨r, hr, Int.le_refl _, .inl rfl⟩
    · obtain ⟨s, hs, hsA, hsp, hlt⟩ := hw.kid hr hc
      obtain ⟨x, hx, h1, h2⟩ := ih c hc s hs k hk
      refine ⟨x, hx, by omega, .inr ?_⟩
      rcases h2 with rfl | h2
      · rw [hs] at hx; cases hx
        rw [hsp]; exact self_walk A e
      · exact kid_walk hw hr hc h2

theorem walk_down (hw : WF A last) {e : Int} {r : Row} (hr : fnd A e = some r) : ∀ x ∈ A, x.parent ∈ walk A e → (x.num : Int) ∈ walk A e := by
  have := tree_ind hw (P := fun e => ∀ x ∈ A, x.parent ∈ walk A e → (x.num : Int) ∈ walk A e) (fun e r hr ih x hx hp => ?_)
  · exact this e r hr
  · rw [walk_eq hw hr, List.mem_cons, List.mem_flatMap] at hp
    rcases hp with hp | ⟨c, hc, hp⟩
    · exact kid_walk hw hr (mem_kids.2 ⟨x, hx, hp, rfl⟩) (self_walk A _)
    · exact kid_walk hw hr hc (ih c hc x hx hp)

theorem self_chain (hw : WF A last) {e : Int} {r : Row} (hr : fnd A e = some r) : e ∈ chain A e := by rw [chain_some hw hr]; exact List.mem_cons_self ..

theorem mem_chain (hw : WF A last) {c e : Int} {r : Row} (hr : fnd A e = some r) (hc : c ∈ chain A e) : ∃ x, fnd A c = some x ∧ x.serial ≤ r.serial := by
  have := up_ind hw (P := fun e => ∀ r c, fnd A e = some r → c ∈ chain A e → ∃ x, fnd A c = some x ∧ x.serial ≤ r.serial) (fun e h r c hr => by rw [h] at hr; cases hr) (fun e r hr ih r' c hr' hc => ?_)
  · exact this e r c hr hc
  · rw [hr] at hr'; cases hr'
    rw [chain_some hw hr, List.mem_cons] at hc
    rcases hc with rfl | hc
    · exact ⟨r, hr, Int.le_refl _⟩
    · cases hp : fnd A r.parent with
      | none => rw [chain_none hp] at hc; cases hc
      | some p =>
        obtain ⟨x, hx, h1⟩ := ih p c hp hc
        have := (hw.up1 (fnd_mem hr).1 hp).2.1
        exact ⟨x, hx, by omega⟩

theorem chain_up (hw : WF A last) {d : Int} {rd : Row} (hd : fnd A d = some rd) {p : Row} (hp : fnd A rd.parent = some p) : ∀ k, d ∈ chain A k → rd.parent ∈ chain A k := by
  refine up_ind hw (fun e h hd => by rw [chain_none h] at hd; cases hd) (fun e r hr ih hc => ?_)
  rw [chain_some hw hr, List.mem_cons] at hc ⊢
  rcases hc with rfl | hc
  · rw [hd] at hr; cases hr
    exact .inr (self_chain hw hp)
  · exact .inr (ih hc)

theorem walk_chain (hw : WF A last) {c k : Int} {rc : Row} (hc : fnd A c = some rc) : k ∈ walk A c ↔ c ∈ chain A k := by
  constructor
  · have := tree_ind hw (P := fun c => ∀ k ∈ walk A c, c ∈ chain A k) (fun c r hr ih k hk => ?_)
    · exact this c rc hc k
    · rw [walk_eq hw hr, List.mem_cons, List.mem_flatMap] at hk
      rcases hk with rfl | ⟨d, hd, hk⟩
      · exact self_chain hw hr
      · obtain ⟨s, hs, _, hsp, _⟩ := hw.kid hr hd
        have := chain_up hw hs (p := r) (by rw [hsp]; exact hr) k (ih d hd k hk)
        rwa [hsp] at this
  · refine up_ind hw (P := fun k => c ∈ chain A k → k ∈ walk A c) (fun e h hd => by rw [chain_none h] at hd; cases hd) (fun e r hr ih hk => ?_) k
    rw [chain_some hw hr, List.mem_cons] at hk
    rcases hk with rfl | hk
    · exact self_walk A _
    · have := walk_down hw hc r (fnd_mem hr).1 (ih hk)
      rwa [(fnd_mem hr).2] at this

/-- Two children of one, both above k, are one. -/
theorem chain_one (hw : WF A last) {e c d : Int} {re rc rd : Row} (he : fnd A e = some re) (hc : fnd A c = some rc) (hd : fnd A d = some rd) (h1 : rc.parent = e) (h2 : rd.parent = e) : ∀ k, c ∈ chain A k → d ∈ chain A k → c = d := by
  have low : ∀ {c : Int} {rc : Row}, fnd A c = some rc → rc.parent = e → c ∉ chain A e := fun {c rc} hc h1 hm => by
    obtain ⟨x, hx, hle⟩ := mem_chain hw he hm
    rw [hc] at hx; cases hx
    have := (hw.up1 (fnd_mem hc).1 (p := re) (by rw [h1]; exact he)).2.1
    omega
  refine up_ind hw (fun k h hc => by rw [chain_none h] at hc; cases hc) (fun k r hr ih hck hdk => ?_)
  rw [chain_some hw hr, List.mem_cons] at hck hdk
  rcases hck with rfl | hck
  · rcases hdk with rfl | hdk
    · rfl
    · rw [hc] at hr; cases hr
      rw [h1] at hdk
      exact absurd hdk (low hd h2)
  · rcases hdk with rfl | hdk
    · rw [hd] at hr; cases hr
      rw [h2] at hck
      exact absurd hck (low hc h1)
    · exact ih hck hdk

theorem nodup_flatMap {α β : Type} {f : α → List β} : ∀ {l : List α}, l.Nodup → (∀ x ∈ l, (f x).Nodup) → (∀ x ∈ l, ∀ y ∈ l, ∀ b, b ∈ f x → b ∈ f y → x = y) → (l.flatMap f).Nodup
  | [], _, _, _ => by simp
  | x :: l, hn, h1, h2 => by
    rw [List.nodup_cons] at hn
    rw [List.flatMap_cons, List.nodup_append]
    refine ⟨h1 x (List.mem_cons_self ..), nodup_flatMap hn.2 (fun y hy => h1 y (List.mem_cons_of_mem _ hy)) (fun y hy z hz => h2 y (List.mem_cons_of_mem _ hy) z (List.mem_cons_of_mem _ hz)), fun a ha b hb e => ?_⟩
    subst e
    obtain ⟨y, hy, hay⟩ := List.mem_flatMap.1 hb
    have := h2 x (List.mem_cons_self ..) y (List.mem_cons_of_mem _ hy) a ha hay
    subst this
    exact hn.1 hy

theorem walk_nodup (hw : WF A last) {e : Int} {r : Row} (hr : fnd A e = some r) : (walk A e).Nodup := by
  have := tree_ind hw (P := fun e => (walk A e).Nodup) (fun e r hr ih => ?_)
  · exact this e r hr
  · rw [walk_eq hw hr, List.nodup_cons]
    constructor
    · intro h
      obtain ⟨c, hc, h⟩ := List.mem_flatMap.1 h
      obtain ⟨s, hs, _, _, hlt⟩ := hw.kid hr hc
      obtain ⟨x, hx, hle, _⟩ := mem_walk hw hs e h
      rw [hr] at hx; cases hx
      omega
    · refine nodup_flatMap (hw.kids_nd e) ih fun c hc d hd k h1 h2 => ?_
      obtain ⟨s, hs, _, hsp, _⟩ := hw.kid hr hc
      obtain ⟨s2, hs2, _, hsp2, _⟩ := hw.kid hr hd
      exact chain_one hw hr hs hs2 hsp hsp2 k ((walk_chain hw hs).1 h1) ((walk_chain hw hs2).1 h2)

theorem walk_len (hw : WF A last) {e : Int} {r : Row} (hr : fnd A e = some r) : (walk A e).length ≤ 16 := by
  have h1 : ((walk A e).map Int.toNat).Nodup := by
    refine List.pairwise_map.2 ((walk_nodup hw hr).imp_of_mem fun {a b} ha hb hab h => hab ?_)
    obtain ⟨x, hx, _⟩ := mem_walk hw hr a ha
    obtain ⟨y, hy, _⟩ := mem_walk hw hr b hb
    have := (fnd_mem hx).2; have := (fnd_mem hy).2
    omega
  have := nodup_lt (n := 16) h1 fun n hn => by
    obtain ⟨a, ha, rfl⟩ := List.mem_map.1 hn
    obtain ⟨x, hx, _⟩ := mem_walk hw hr a ha
    have h2 := fnd_mem hx
    have := hw.lt x h2.1
    omega
  rwa [List.length_map] at this

end
end Go.Proofs.Ytljenppmdhldbaa.V
