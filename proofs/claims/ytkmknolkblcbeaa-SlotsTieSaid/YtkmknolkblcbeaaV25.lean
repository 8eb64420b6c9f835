/- Slices of our own as parts of a heap. -/
import Derived.Test.YtkmknolkblcbeaaV24
namespace Go.Proofs.Ytkmknolkblcbeaa.V
set_option linter.unusedSectionVars false
set_option linter.unusedVariables false
set_option linter.unusedSimpArgs false
open Go

def SlP {α : Type} (row : α → List Value) (z : List Value) (s : Value) (l : List α) : As := fun h => ∃ bs, OwnSl row z h s bs l

section
variable {α : Type} {row : α → List Value} {z : List Value}

theorem SlP.nil (row : α → List Value) (z : List Value) (h : Hp) : SlP row z (.slice none 0 0) [] h := ⟨none, .inl ⟨rfl, rfl, rfl⟩⟩

theorem OwnSl.val {h : Hp} {s : Value} {bs : Option Nat} {l : List α} (ho : OwnSl row z h s bs l) : ∃ a n c, s = .slice a n c := by
  rcases ho with ⟨_, h1, _⟩ | ⟨d, cap, ty, _, h2, _⟩
  · exact ⟨_, _, _, h1⟩
  · exact ⟨_, _, _, h2⟩

theorem OwnSl.some {h : Hp} {s : Value} {bs : Option Nat} {l : List α} (ho : OwnSl row z h s bs l) {d : Nat} (hd : bs = some d) : ∃ o, h d = some o := by
  rcases ho with ⟨h1, _⟩ | ⟨d', cap, ty, h1, h2, h3, h4⟩
  · rw [h1] at hd; cases hd
  · rw [h1] at hd; cases hd; exact ⟨_, h4⟩

theorem OwnSl.sub {h h' : Hp} {s : Value} {bs : Option Nat} {l : List α} (ho : OwnSl row z h s bs l) (hs : SubH h h') : OwnSl row z h' s bs l := by
  rcases ho with ⟨h1, h2, h3⟩ | ⟨d, cap, ty, h1, h2, h3, h4⟩
  · exact .inl ⟨h1, h2, h3⟩
  · exact .inr ⟨d, cap, ty, h1, h2, h3, hs _ _ h4⟩

theorem SlP.sub {h h' : Hp} {s : Value} {l : List α} (ho : SlP row z s l h) (hs : SubH h h') : SlP row z s l h' := let ⟨bs, h1⟩ := ho; ⟨bs, h1.sub hs⟩

/-- All but one block. -/
theorem spare (h : Hp) (bs : Option Nat) : ∃ hr, SubH hr h ∧ (∀ b o, h b = some o → bs ≠ some b → hr b = some o) ∧ (∀ b o, hr b = some o → bs ≠ some b) := by
  refine ⟨fun x => if bs = some x then none else h x, fun b o hb => ?_, fun b o hb hn => by simp [hn, hb], fun b o hb hn => by simp [hn] at hb⟩
  simp only at hb
  split at hb
  · cases hb
  · exact hb

/-- Seen from its elements. -/
theorem SlP.look {e : Nat} (hr : ∀ x, (row x).length = e) {h : Hp} {s : Value} {l : List α} (ho : SlP row z s l h) :
    ∃ base cap, s = .slice base l.length cap ∧ ∀ i x, l[i]? = some x → ∃ d c ty, base = some ⟨d, 0, none⟩ ∧ h d = some (.cells c ty (0, 0)) ∧ (∀ j v, (row x)[j]? = some v → c[0 + i * e + j]? = some v) := by
  obtain ⟨bs, ho⟩ := ho
  obtain ⟨base, cap, h1, h2⟩ := ho.look hr
  refine ⟨base, cap, h1, fun i x hx => ?_⟩
  obtain ⟨d, c, ty, g1, g2, g3, g4⟩ := h2 i x hx
  refine ⟨d, c, ty, g1, g2, fun j v hv => ?_⟩
  have : j < e := by rw [← hr x]; exact (List.getElem?_eq_some_iff.1 hv).1
  rw [g4 j this]; exact hv

/-- One element more. -/
theorem app_has (hr : ∀ x, (row x).length = z.length) (hone : ∀ x, (row x).all one = true) {L : List As} {h : Hp} (hh : Has L h) (i : Nat) {s : Value} {l : List α} (hi : L[i]? = some (SlP row z s l)) {b1 : Nat} {x : α} {ty ty1 : TypeId} {bytes : Nat} {K : Ent → Hp → Prop}
    (h1 : h b1 = some (.cells (row x).toArray ty1 (0, 0))) (hb : 2 * (l.length + 1) * bytes ≤ 2 ^ 48)
    (hK : ∀ s' h', Has (L.set i (SlP row z s' (l ++ [x]))) h' → K (.v s') h') : appK z ty bytes h (.v s) (.v (.slice (some ⟨b1, 0, none⟩) 1 1)) K := by
  obtain ⟨g1, g2, rfl, ha, ⟨bs, ho⟩, hL⟩ := hh.pull i hi
  refine app_step hr hone (ho.sub (join_sub_left _ _)) h1 hb fun s' bs' h' ho' hk hbs hex => hK s' h' (Has.put hi ?_)
  have hg2 : SubH g2 h' := fun y o hy => hk y o (join_sub_right ha y o hy) fun e => by
    obtain ⟨o', ho''⟩ := ho.some e
    rw [ha y o' ho''] at hy; cases hy
  have hap : ∀ d, bs' = some d → g2 d = none := fun d hd => by
    rcases hbs with e | ⟨d', e, hd'⟩
    · rw [e] at hd
      obtain ⟨o', ho''⟩ := ho.some hd
      exact ha d o' ho''
    · rw [e] at hd; cases hd
      cases hg : g2 d with
      | none => rfl
      | some o => rw [join_sub_right ha d o hg] at hd'; cases hd'
  refine Has.sub (h := join (fun y => if bs' = some y then h' y else none) g2) ⟨_, g2, rfl, fun y o hy => ?_, ⟨bs', ho'.same fun d hd => by simp [hd]⟩, hL⟩ fun y o hy => ?_
  · simp only at hy
    split at hy
    · rename_i e; exact hap y e
    · cases hy
  · unfold join at hy
    by_cases e : bs' = some y
    · simp only [e, if_true, hap y e] at hy; simpa using hy
    · simp only [e, if_false] at hy
      exact hg2 y o (by simpa using hy)

end
end Go.Proofs.Ytkmknolkblcbeaa.V
