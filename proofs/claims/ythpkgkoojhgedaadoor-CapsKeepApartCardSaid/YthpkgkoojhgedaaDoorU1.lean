/- Slices as windows: what a slice shows; a window of a block of our own. -/
import Derived.Test.YthpkgkoojhgedaaDoorVP
namespace Go.Proofs.YthpkgkoojhgedaaDoor.V
set_option linter.unusedVariables false
set_option linter.unusedSectionVars false
set_option linter.unusedSimpArgs false
open Go

/-- What comes later is sealed (the kernel else looks into it at every step). -/
theorem seq_step {P : Program} {rd : Option Nat} {a b : IC} {kn : Kont} {ke : Nat → Kont} {kr : Kont} {ρ : Env} {β : Bx} {h : Hp}
    (hk : ∀ K : Kont, (∀ ρ β h, codeK P rd b kn ke kr ρ β h → K ρ β h) → codeK P rd a K ke kr ρ β h) : codeK P rd (.seq a b) kn ke kr ρ β h :=
  hk _ fun _ _ _ x => x

theorem Sp.of {P : Program} {f : FuncId} {args : List Value} {A : As} {X : Type} {val : X → Value} {B : X → As}
    (hk : ∀ (h : Hp) (Q : Value → Hp → Prop), A h → (∀ x h', B x h' → Q (val x) h') → Ok P f args h Q) : Sp P f args A val B :=
  fun h hA => hk h _ hA fun x h' hB => ⟨x, rfl, hB⟩

theorem skip_step {P : Program} {rd : Option Nat} {kn : Kont} {ke : Nat → Kont} {kr : Kont} {ρ : Env} {β : Bx} {h : Hp} (hk : kn ρ β h) : codeK P rd .skip kn ke kr ρ β h := hk

def ptr (b : Nat) : Value := .pointer (some ⟨b, 0, none⟩)

theorem Has.get {L : List As} {h : Hp} (hh : Has L h) (i : Nat) {A : As} (hi : L[i]? = some A) (hm : ∀ g g', A g → SubH g g' → A g') : A h := by
  obtain ⟨g, h1, h2⟩ := hh.at i hi
  exact hm _ _ h1 h2

theorem Has.pure {φ : Prop} {A : As} {L : List As} {h : Hp} (hh : Has ((fun h => φ ∧ A h) :: L) h) : φ ∧ Has (A :: L) h := by
  obtain ⟨h1, h2, e, ha, ⟨hp, hA⟩, hL⟩ := hh
  exact ⟨hp, h1, h2, e, ha, hA, hL⟩

theorem byteArray_beq (x : ByteArray) : (x == x) = true := by cases x; simp [BEq.beq]; unfold ByteArray.beq; simp

theorem slS_hi {b o n cap hi : Nat} {k : IntKind} (h : hi ≤ cap) : pSlS 1 none (some (.v (.int k hi))) none (.v (.slice (some ⟨b, o, none⟩) n cap)) = some (.v (.slice (some ⟨b, o, none⟩) hi cap)) := by
  simp only [pSlS, bnd]
  rw [if_pos ⟨by omega, by omega⟩]
  simp

theorem slS_lo {b o n cap lo : Nat} {k : IntKind} (h1 : lo ≤ n) (h2 : n ≤ cap) : pSlS 1 (some (.v (.int k lo))) none none (.v (.slice (some ⟨b, o, none⟩) n cap)) = some (.v (.slice (some ⟨b, if cap = lo then o else o + lo, none⟩) (n - lo) (cap - lo))) := by
  simp only [pSlS, bnd]
  simp only [Option.isSome_none, Bool.false_eq_true, if_false, Bool.false_and]
  rw [if_pos ⟨by omega, by omega⟩]
  simp

/-- What a slice shows: n elements of e cells each. -/
def Vw (e : Nat) (h : Hp) (s : Value) (n : Nat) (vs : List Value) : Prop :=
  vs.length = n * e ∧ ∃ base cap, s = .slice base n cap ∧ n ≤ cap ∧
    (n = 0 ∨ ∃ b o c ty z, base = some ⟨b, o, none⟩ ∧ h b = some (.cells c ty z) ∧ o + n * e ≤ c.size ∧ ∀ j v, vs[j]? = some v → c[o + j]? = some v)

/-- A window of a block of our own, or nil. -/
def OwnW (e : Nat) (h : Hp) (s : Value) (bs : Option Nat) (n : Nat) (vs : List Value) : Prop :=
  vs.length = n * e ∧ ((bs = none ∧ s = .slice none 0 0 ∧ n = 0) ∨
  ∃ d o cap c ty, bs = some d ∧ s = .slice (some ⟨d, o, none⟩) n cap ∧ n ≤ cap ∧ h d = some (.cells c ty (0, 0)) ∧ o + cap * e ≤ c.size ∧ ∀ j v, vs[j]? = some v → c[o + j]? = some v)

def WnP (e : Nat) (s : Value) (n : Nat) (vs : List Value) : As := fun h => ∃ bs, OwnW e h s bs n vs

theorem Vw.sub {e n : Nat} {h h' : Hp} {s : Value} {vs : List Value} (hv : Vw e h s n vs) (hs : SubH h h') : Vw e h' s n vs := by
  obtain ⟨h1, base, cap, h2, h3, h4⟩ := hv
  refine ⟨h1, base, cap, h2, h3, ?_⟩
  rcases h4 with h4 | ⟨b, o, c, ty, z, g1, g2, g3⟩
  · exact .inl h4
  · exact .inr ⟨b, o, c, ty, z, g1, hs _ _ g2, g3⟩

theorem OwnW.vw {e n : Nat} {h : Hp} {s : Value} {bs : Option Nat} {vs : List Value} (ho : OwnW e h s bs n vs) : Vw e h s n vs := by
  obtain ⟨h1, ho⟩ := ho
  rcases ho with ⟨_, rfl, rfl⟩ | ⟨d, o, cap, c, ty, _, rfl, h2, h3, h4, h5⟩
  · exact ⟨h1, none, 0, rfl, Nat.le_refl _, .inl rfl⟩
  · exact ⟨h1, _, cap, rfl, h2, .inr ⟨d, o, c, ty, _, rfl, h3, Nat.le_trans (Nat.add_le_add_left (Nat.mul_le_mul_right e h2) o) h4, h5⟩⟩

theorem WnP.vw {e n : Nat} {h : Hp} {s : Value} {vs : List Value} (ho : WnP e s n vs h) : Vw e h s n vs := let ⟨_, h1⟩ := ho; h1.vw

theorem OwnW.sub {e n : Nat} {h h' : Hp} {s : Value} {bs : Option Nat} {vs : List Value} (ho : OwnW e h s bs n vs) (hs : SubH h h') : OwnW e h' s bs n vs := by
  obtain ⟨h1, ho⟩ := ho
  refine ⟨h1, ?_⟩
  rcases ho with ho | ⟨d, o, cap, c, ty, g1, g2, g3, g4, g5⟩
  · exact .inl ho
  · exact .inr ⟨d, o, cap, c, ty, g1, g2, g3, hs _ _ g4, g5⟩

theorem WnP.sub {e n : Nat} {h h' : Hp} {s : Value} {vs : List Value} (ho : WnP e s n vs h) (hs : SubH h h') : WnP e s n vs h' := let ⟨bs, h1⟩ := ho; ⟨bs, h1.sub hs⟩

theorem WnP.nil (e : Nat) (h : Hp) : WnP e (.slice none 0 0) 0 [] h := ⟨none, by simp [OwnW]⟩

theorem ext_win {c : Array Value} {o k : Nat} {vs : List Value} (hk : k ≤ vs.length) (hl : o + k ≤ c.size) (hc : ∀ j v, vs[j]? = some v → c[o + j]? = some v) : (c.extract o (o + k)).toList = vs.take k := by
  apply List.ext_getElem?
  intro j
  rw [Array.getElem?_toList, Array.getElem?_extract, List.getElem?_take]
  by_cases hj : j < k
  · rw [if_pos (by omega), if_pos hj]
    have : vs[j]? = some vs[j] := List.getElem?_eq_getElem (by omega)
    rw [this]
    exact hc j _ this
  · rw [if_neg (by omega), if_neg hj]

theorem Vw.src {e n m : Nat} {h : Hp} {s : Value} {vs : List Value} (hv : Vw e h s n vs) (hm : m ≤ n) : srcCells h m e (.v s) = some (vs.take (m * e)) := by
  obtain ⟨h1, base, cap, rfl, h3, h4⟩ := hv
  have hme : m * e ≤ n * e := Nat.mul_le_mul_right e hm
  rcases h4 with rfl | ⟨b, o, c, ty, z, rfl, g2, g3, g4⟩
  · have : vs = [] := List.eq_nil_of_length_eq_zero (by omega)
    have hm0 : m = 0 := by omega
    subst this hm0
    cases base <;> simp [srcCells]
  · rw [src_some g2 (by omega), ext_win (by omega) (by omega) g4]

theorem Vw.all {e n : Nat} {h : Hp} {s : Value} {vs : List Value} (hv : Vw e h s n vs) : srcCells h n e (.v s) = some vs := by
  rw [hv.src (Nat.le_refl _), ← hv.1, List.take_length]

/-- Reading one element's cell. -/
theorem Vw.at {e n : Nat} {h : Hp} {s : Value} {vs : List Value} (hv : Vw e h s n vs) {i : Nat} (hi : i < n) :
    ∃ b o c ty z cap, s = .slice (some ⟨b, o, none⟩) n cap ∧ h b = some (.cells c ty z) ∧ o + n * e ≤ c.size ∧ ∀ j v, vs[i * e + j]? = some v → c[o + i * e + j]? = some v := by
  obtain ⟨h1, base, cap, rfl, h3, h4⟩ := hv
  rcases h4 with rfl | ⟨b, o, c, ty, z, rfl, g2, g3, g4⟩
  · omega
  · exact ⟨b, o, c, ty, z, cap, rfl, g2, g3, fun j v hj => by rw [Nat.add_assoc]; exact g4 _ _ hj⟩

theorem wr_get {c : Array Value} {o i : Nat} {vs : List Value} (h : o + vs.length ≤ c.size) : (wr c o vs)[i]? = if o ≤ i ∧ i < o + vs.length then vs[i - o]? else c[i]? := by
  have : (wr c o vs) = (wrL c.toList o vs).toArray := by rw [← wr_wrL, Array.toArray_toList]
  rw [this, List.getElem?_toArray, wrL_get _ _ _ _ (by simpa using h)]
  simp

/-- Elements behind elements. -/
theorem appW_step {z : List Value} {h : Hp} {s sv : Value} {bs : Option Nat} {n m : Nat} {vs ws : List Value} {ty : TypeId} {bytes : Nat} {K : Ent → Hp → Prop}
    (ho : OwnW z.length h s bs n vs) (hv : Vw z.length h sv m ws) (h1 : ws.all one = true) (hb : 2 * (n + m) * bytes ≤ 2 ^ 48)
    (hK : ∀ s' bs' h', OwnW z.length h' s' bs' (n + m) (vs ++ ws) → (∀ y o, h y = some o → bs ≠ some y → h' y = some o) → (bs' = bs ∨ ∃ d, bs' = some d ∧ h d = none) → Vw z.length h' s n vs → K (.v s') h') :
    appK z ty bytes h (.v s) (.v sv) K := by
  have hsrc := hv.all
  obtain ⟨hvl, base, vcap, rfl, hvc, hvv⟩ := hv
  have hold := ho.vw.all
  have hw0 := ho.vw
  obtain ⟨hl, ho⟩ := ho
  unfold appK
  have hlen : (vs ++ ws).length = (n + m) * z.length := by rw [List.length_append, hl, hvl, Nat.add_mul]
  rcases ho with ⟨rfl, rfl, rfl⟩ | ⟨d, o, cap, c, ty', rfl, rfl, h2, h3, h4, h5⟩
  · have hvs : vs = [] := List.eq_nil_of_length_eq_zero (by omega)
    subst hvs
    simp only [elen]
    rw [hsrc]
    refine ⟨hvl, ?_⟩
    by_cases hm : 0 + m ≤ 0
    · rw [if_pos hm]
      have : m = 0 := by omega
      subst this
      exact hK _ none h ⟨hlen, .inl ⟨rfl, rfl, rfl⟩⟩ (fun y o hy _ => hy) (.inl rfl) hw0
    · rw [if_neg hm]
      simp only [srcCells]
      refine ⟨by simp, hb, fun cap' hc => .intro fun b hbn => ?_⟩
      refine hK _ (some b) _ ⟨hlen, .inr ⟨b, 0, cap', _, ty, rfl, rfl, hc, upd_same _ _ _, ?_, fun j v hj => ?_⟩⟩ (fun y o hy _ => by
        rw [upd_other (fun e => by subst e; rw [hbn] at hy; cases hy)]; exact hy) (.inr ⟨b, rfl, hbn⟩) (hw0.sub (sub_new hbn))
      · simp only [List.size_toArray, List.length_append, reps_len, List.nil_append, hvl, Nat.zero_add, ← Nat.add_mul]
        exact Nat.le_of_eq (by congr 1; omega)
      · rw [Nat.zero_add, List.getElem?_toArray, List.getElem?_append_left (by have := (List.getElem?_eq_some_iff.1 hj).1; simpa using this)]
        simpa using hj
  · simp only [elen]
    rw [hsrc]
    refine ⟨hvl, ?_⟩
    by_cases hm : n + m ≤ cap
    · rw [if_pos hm]
      simp only [h3]
      have hmc : (n + m) * z.length ≤ cap * z.length := Nat.mul_le_mul_right _ hm
      have hsz : o + n * z.length + ws.length ≤ c.size := by rw [hvl, Nat.add_assoc, ← Nat.add_mul]; omega
      refine ⟨h1, by omega, .inl (Nat.zero_le _), hK _ (some d) _ ⟨hlen, .inr ⟨d, o, cap, _, ty', rfl, rfl, hm, upd_same _ _ _, ?_, fun j v hj => ?_⟩⟩ (fun y o' hy hn => by
        rw [upd_other (fun e => hn (by rw [e]))]; exact hy) (.inl rfl) ⟨hl, _, cap, rfl, h2, .inr ⟨d, o, _, ty', _, rfl, upd_same _ _ _, (by rw [show (wr c (o + n * z.length) ws).size = c.size from wr_length _ _ _]; omega), fun j v hj => by
          have hjl := (List.getElem?_eq_some_iff.1 hj).1
          rw [wr_get hsz, if_neg (by omega)]; exact h5 j v hj⟩⟩⟩
      · rw [show (wr c (o + n * z.length) ws).size = c.size from wr_length _ _ _]; exact h4
      · rw [wr_get hsz]
        by_cases hj2 : j < n * z.length
        · rw [if_neg (by omega)]
          rw [List.getElem?_append_left (by omega)] at hj
          exact h5 j v hj
        · have hjl := (List.getElem?_eq_some_iff.1 hj).1
          rw [List.length_append] at hjl
          rw [List.getElem?_append_right (by omega)] at hj
          rw [if_pos (by omega), show o + j - (o + n * z.length) = j - vs.length by omega]
          exact hj
    · rw [if_neg hm, hold]
      refine ⟨hl, hb, fun cap' hc => .intro fun b hbn => ?_⟩
      refine hK _ (some b) _ ⟨hlen, .inr ⟨b, 0, cap', _, ty, rfl, rfl, hc, upd_same _ _ _, ?_, fun j v hj => ?_⟩⟩ (fun y o' hy _ => by
        rw [upd_other (fun e => by subst e; rw [hbn] at hy; cases hy)]; exact hy) (.inr ⟨b, rfl, hbn⟩) (hw0.sub (sub_new hbn))
      · simp only [List.size_toArray, List.length_append, reps_len, hl, hvl, Nat.zero_add, ← Nat.add_mul]
        exact Nat.le_of_eq (by congr 1; omega)
      · rw [Nat.zero_add, List.getElem?_toArray, List.getElem?_append_left (by have := (List.getElem?_eq_some_iff.1 hj).1; exact this)]
        exact hj

theorem OwnW.same {e n : Nat} {h h' : Hp} {s : Value} {bs : Option Nat} {vs : List Value} (ho : OwnW e h s bs n vs) (hs : ∀ d, bs = some d → h' d = h d) : OwnW e h' s bs n vs := by
  obtain ⟨h1, ho⟩ := ho
  refine ⟨h1, ?_⟩
  rcases ho with ho | ⟨d, o, cap, c, ty, g1, g2, g3, g4, g5⟩
  · exact .inl ho
  · exact .inr ⟨d, o, cap, c, ty, g1, g2, g3, by rw [hs d g1]; exact g4, g5⟩

theorem OwnW.some {e n : Nat} {h : Hp} {s : Value} {bs : Option Nat} {vs : List Value} (ho : OwnW e h s bs n vs) {d : Nat} (hd : bs = some d) : ∃ o, h d = some o := by
  obtain ⟨h1, ho⟩ := ho
  rcases ho with ⟨h1, _⟩ | ⟨d', o, cap, c, ty, g1, g2, g3, g4, g5⟩
  · rw [h1] at hd; cases hd
  · rw [g1] at hd; cases hd; exact ⟨_, g4⟩

/-- Elements behind the elements of a window of our own. -/
theorem app_hasW {L : List As} {h : Hp} (hh : Has L h) (i : Nat) {z : List Value} {s sv : Value} {n m : Nat} {vs ws : List Value} (hi : L[i]? = some (WnP z.length s n vs)) {ty : TypeId} {bytes : Nat} {K : Ent → Hp → Prop}
    (hv : Vw z.length h sv m ws) (hone : ws.all one = true) (hb : 2 * (n + m) * bytes ≤ 2 ^ 48)
    (hK : ∀ s' h', Has (L.set i (WnP z.length s' (n + m) (vs ++ ws))) h' → K (.v s') h') : appK z ty bytes h (.v s) (.v sv) K := by
  obtain ⟨g1, g2, rfl, ha, ⟨bs, ho⟩, hL⟩ := hh.pull i hi
  refine appW_step (ho.sub (join_sub_left _ _)) hv hone hb fun s' bs' h' ho' hk hbs _ => hK s' h' (Has.put hi ?_)
  have hg2 : SubH g2 h' := fun y o hy => hk y o (join_sub_right ha y o hy) fun e => by
    obtain ⟨o', ho''⟩ := ho.some e
    rw [ha y o' ho''] at hy; cases hy
  have hap : ∀ d, bs' = some d → g2 d = none := fun d hd => by
    rcases hbs with e | ⟨d', e, hd'⟩
    · rw [e] at hd
      obtain ⟨o', ho''⟩ := ho.some hd
      exact ha d o' ho''
    · rw [e] at hd; cases hd
      cases hg : g2 d with
      | none => rfl
      | some o => rw [join_sub_right ha d o hg] at hd'; cases hd'
  refine Has.sub (h := join (fun y => if bs' = some y then h' y else none) g2) ⟨_, g2, rfl, fun y o hy => ?_, ⟨bs', ho'.same fun d hd => by simp [hd]⟩, hL⟩ fun y o hy => ?_
  · simp only at hy
    split at hy
    · rename_i e; exact hap y e
    · cases hy
  · unfold join at hy
    by_cases e : bs' = some y
    · simp only [e, if_true, hap y e] at hy; simpa using hy
    · simp only [e, if_false] at hy
      exact hg2 y o (by simpa using hy)

/-- The same, and the old elements can be seen still. -/
theorem app_has2 {L : List As} {h : Hp} (hh : Has L h) (i : Nat) {z : List Value} {s sv : Value} {n m : Nat} {vs ws : List Value} (hi : L[i]? = some (WnP z.length s n vs)) {ty : TypeId} {bytes : Nat} {K : Ent → Hp → Prop}
    (hv : Vw z.length h sv m ws) (hone : ws.all one = true) (hb : 2 * (n + m) * bytes ≤ 2 ^ 48)
    (hK : ∀ s' h', Has (L.set i (fun g => WnP z.length s' (n + m) (vs ++ ws) g ∧ Vw z.length g s n vs)) h' → K (.v s') h') : appK z ty bytes h (.v s) (.v sv) K := by
  obtain ⟨g1, g2, rfl, ha, ⟨bs, ho⟩, hL⟩ := hh.pull i hi
  refine appW_step (ho.sub (join_sub_left _ _)) hv hone hb fun s' bs' h' ho' hk hbs hold => hK s' h' (Has.put hi ?_)
  have hg2 : SubH g2 h' := fun y o hy => hk y o (join_sub_right ha y o hy) fun e => by
    obtain ⟨o', ho''⟩ := ho.some e
    rw [ha y o' ho''] at hy; cases hy
  have hap0 : ∀ d, bs = some d → g2 d = none := fun d hd => by
    obtain ⟨o', ho''⟩ := ho.some hd
    exact ha d o' ho''
  have hap : ∀ d, bs' = some d → g2 d = none := fun d hd => by
    rcases hbs with e | ⟨d', e, hd'⟩
    · rw [e] at hd
      exact hap0 d hd
    · rw [e] at hd; cases hd
      cases hg : g2 d with
      | none => rfl
      | some o => rw [join_sub_right ha d o hg] at hd'; cases hd'
  refine Has.sub (h := join (fun y => if bs' = some y ∨ bs = some y then h' y else none) g2) ⟨_, g2, rfl, fun y o hy => ?_, ⟨⟨bs', ho'.same fun d hd => by simp [hd]⟩, ?_⟩, hL⟩ fun y o hy => ?_
  · simp only at hy
    split at hy
    · rename_i e
      rcases e with e | e
      · exact hap y e
      · exact hap0 y e
    · cases hy
  · obtain ⟨q1, base, cap, q2, q3, q4⟩ := hold
    refine ⟨q1, base, cap, q2, q3, ?_⟩
    rcases q4 with q4 | ⟨b, o, c, ty', z', q5, q6, q7⟩
    · exact .inl q4
    · refine .inr ⟨b, o, c, ty', z', q5, ?_, q7⟩
      obtain ⟨_, ho⟩ := ho
      rcases ho with ⟨_, e2, _⟩ | ⟨d, o2, cap2, c2, ty2, e1, e2, _⟩
      · rw [q2, q5] at e2; cases e2
      · rw [q2, q5] at e2; cases e2
        show (if bs' = some b ∨ bs = some b then h' b else none) = _
        rw [if_pos (.inr e1)]; exact q6
  · unfold join at hy
    by_cases e : bs' = some y ∨ bs = some y
    · have hg : g2 y = none := by
        rcases e with e | e
        · exact hap y e
        · exact hap0 y e
      simp only [if_pos e, hg] at hy
      simpa using hy
    · simp only [if_neg e] at hy
      exact hg2 y o (by simpa using hy)

/-- Copied into a window of a block. -/
theorem cpy_has {L : List As} {h : Hp} (hh : Has L h) (i : Nat) {b o dl dc e m : Nat} {c : Array Value} {ty : TypeId} {sv : Value} {ws : List Value} (hi : L[i]? = some (Pt b (.cells c ty (0, 0)))) {K : Ent → Hp → Prop}
    (hv : Vw e h sv m ws) (hone : ws.all one = true) (hsz : o + min m dl * e ≤ c.size)
    (hK : ∀ h', Has (L.set i (Pt b (.cells (wr c o (ws.take (min m dl * e))) ty (0, 0)))) h' → K (.v (.int .i64 (min m dl : Nat))) h') : cpyK e h (.v (.slice (some ⟨b, o, none⟩) dl dc)) (.v sv) K := by
  have hsrc := hv.src (Nat.min_le_left m dl)
  obtain ⟨hvl, base, vcap, rfl, hvc, hvv⟩ := hv
  unfold cpyK
  simp only [elen]
  rw [hsrc]
  have hle : min m dl * e ≤ m * e := Nat.mul_le_mul_right e (Nat.min_le_left m dl)
  refine ⟨by rw [List.length_take, hvl, Nat.min_eq_left hle], ?_, ?_⟩
  · rw [List.all_eq_true] at hone ⊢
    exact fun x hx => hone x (List.mem_of_mem_take hx)
  · simp only [hh.pt i hi]
    exact ⟨hsz, .inl (Nat.zero_le _), hK _ (hh.st i hi _)⟩

/-- Bytes as a string. -/
def by8 (n : Int) : Value := .int .u8 n

theorem bytes_of : ∀ l : List Int, bytesOf (l.map by8) = some (l.map fun n => UInt8.ofNat n.toNat)
  | [] => rfl
  | n :: l => by simp only [List.map_cons, by8, bytesOf]; rw [bytes_of l]

def strB (l : List Int) : Value := .string ⟨(l.map fun n => UInt8.ofNat n.toNat).toArray⟩

theorem vw_str {h : Hp} {s : Value} {n : Nat} {l : List Int} (hv : Vw 1 h s n (l.map by8)) : pB2s h (.v s) = some (.v (strB l)) := by
  obtain ⟨h1, base, cap, rfl, h3, h4⟩ := hv
  rw [List.length_map] at h1
  rcases h4 with rfl | ⟨b, o, c, ty, z, rfl, g2, g3, g4⟩
  · have : l = [] := List.eq_nil_of_length_eq_zero (by omega)
    subst this
    cases base <;> rfl
  · by_cases h0 : n = 0
    · subst h0
      have : l = [] := List.eq_nil_of_length_eq_zero (by omega)
      subst this; rfl
    simp only [pB2s, g2]
    rw [if_neg h0, if_pos (by omega), ext_win (vs := l.map by8) (by rw [List.length_map]; omega) (by omega) g4, List.take_of_length_le (by rw [List.length_map]; omega), bytes_of]
    rfl

/-- A part of what is shown. -/
theorem Vw.part {e n : Nat} {h : Hp} {s : Value} {vs : List Value} (hv : Vw e h s n vs) {b o cap : Nat} (hs : s = .slice (some ⟨b, o, none⟩) n cap) {lo hi : Nat} {c2 : Nat} (h1 : lo ≤ hi) (h2 : hi ≤ n) (h3 : hi - lo ≤ c2) {o2 : Nat} (ho : o2 = o + lo * e ∨ hi = lo) :
    Vw e h (.slice (some ⟨b, o2, none⟩) (hi - lo) c2) (hi - lo) ((vs.drop (lo * e)).take ((hi - lo) * e)) := by
  subst hs
  obtain ⟨g1, base, cap', hsv, g3, g4⟩ := hv
  cases hsv
  have hle : hi * e ≤ n * e := Nat.mul_le_mul_right e h2
  have hsub : (hi - lo) * e = hi * e - lo * e := Nat.sub_mul ..
  have hlh : lo * e ≤ hi * e := Nat.mul_le_mul_right e h1
  refine ⟨by rw [List.length_take, List.length_drop]; omega, _, c2, rfl, h3, ?_⟩
  rcases g4 with g4 | ⟨b', o', c, ty, z, hbb, k2, k3, k4⟩
  · exact .inl (by omega)
  · cases hbb
    by_cases hlt : lo = hi
    · exact .inl (by omega)
    · rcases ho with rfl | ho
      · refine .inr ⟨b, _, c, ty, z, rfl, k2, by omega, fun j v hj => ?_⟩
        rw [List.getElem?_take] at hj
        split at hj
        · rw [List.getElem?_drop] at hj
          rw [Nat.add_assoc]; exact k4 _ _ hj
        · cases hj
      · omega

/-- A block just made, as a window. -/
theorem pt_wn {e n cap b : Nat} {cs : List Value} {ty : TypeId} {g : Hp} {vs : List Value} (hl : cs.length = cap * e) (hn : n ≤ cap) (hvs : vs = cs.take (n * e)) (hg : Pt b (.cells cs.toArray ty (0, 0)) g) : WnP e (.slice (some ⟨b, 0, none⟩) n cap) n vs g := by
  subst hvs
  have hle : n * e ≤ cap * e := Nat.mul_le_mul_right e hn
  refine ⟨some b, by rw [List.length_take]; omega, .inr ⟨b, 0, cap, _, ty, rfl, rfl, hn, hg, by simp [hl], fun j v hj => ?_⟩⟩
  rw [List.getElem?_take] at hj
  split at hj
  · simpa using hj
  · cases hj

/-- A part of a window is a window. -/
theorem WnP.part {e n b o cap : Nat} {vs : List Value} {g : Hp} (hg : WnP e (.slice (some ⟨b, o, none⟩) n cap) n vs g) {lo hi o2 c2 : Nat} (h1 : lo ≤ hi) (h2 : hi ≤ n) (h3 : hi - lo ≤ c2) (h4 : c2 + lo ≤ cap) (ho : o2 = o + lo * e) :
    WnP e (.slice (some ⟨b, o2, none⟩) (hi - lo) c2) (hi - lo) ((vs.drop (lo * e)).take ((hi - lo) * e)) g := by
  subst ho
  obtain ⟨bs, g1, g2⟩ := hg
  have hle : hi * e ≤ n * e := Nat.mul_le_mul_right e h2
  have hsub : (hi - lo) * e = hi * e - lo * e := Nat.sub_mul ..
  have hlh : lo * e ≤ hi * e := Nat.mul_le_mul_right e h1
  have hc : (c2 + lo) * e ≤ cap * e := Nat.mul_le_mul_right e h4
  rw [Nat.add_mul] at hc
  rcases g2 with ⟨_, g2, _⟩ | ⟨d, o', cap', c, ty, k1, k2, k3, k4, k5, k6⟩
  · cases g2
  · cases k2
    refine ⟨bs, by rw [List.length_take, List.length_drop]; omega, .inr ⟨_, _, c2, c, ty, k1, rfl, h3, k4, by omega, fun j v hj => ?_⟩⟩
    rw [List.getElem?_take] at hj
    split at hj
    · rw [List.getElem?_drop] at hj
      rw [Nat.add_assoc]; exact k6 _ _ hj
    · cases hj

/-- A window's block. -/
theorem WnP.val {e n : Nat} {s : Value} {vs : List Value} {h : Hp} (hg : WnP e s n vs h) : ∃ base cap, s = .slice base n cap ∧ n ≤ cap ∧ (base = none → n = 0) := by
  obtain ⟨bs, g1, g2⟩ := hg
  rcases g2 with ⟨_, g2, g3⟩ | ⟨d, o', cap', c, ty, k1, k2, k3, k4, k5, k6⟩
  · exact ⟨_, _, by rw [g2, g3], by omega, fun _ => g3⟩
  · exact ⟨_, _, k2, k3, fun h => by cases h⟩

theorem joinUpd {g1 g2 : Hp} {b : Nat} {o o' : Obj} (hb : g1 b = some o) : upd (join g1 g2) b o' = join (upd g1 b o') g2 := by
  funext x
  unfold join
  by_cases hx : x = b
  · subst hx; rw [upd_same, upd_same]; rfl
  · rw [upd_other hx, upd_other hx]

theorem apartUpd {g1 g2 : Hp} {b : Nat} {o o' : Obj} (ha : V.Apart g1 g2) (hb : g1 b = some o) : V.Apart (upd g1 b o') g2 := fun x p hx => by
  by_cases hxb : x = b
  · subst hxb; exact ha x o hb
  · rw [upd_other hxb] at hx; exact ha x p hx

/-- One cell laid into a window of single cells. -/
theorem st_hasW {L : List As} {h : Hp} (hh : Has L h) (i : Nat) {b o n cap k : Nat} {vs : List Value} (hi : L[i]? = some (WnP 1 (.slice (some ⟨b, o, none⟩) n cap) n vs)) {β : Bx} {x : Value} {K : Hp × Bx → Prop} (hk : k < n) (h1 : x.cells = #[x]) (h4 : one x = true)
    (hK : ∀ h', Has (L.set i (WnP 1 (.slice (some ⟨b, o, none⟩) n cap) n (vs.set k x))) h' → K (h', β)) : optK (pSt 1 h β (.v (.pointer (some ⟨b, o + k, none⟩))) (.v x)) K := by
  obtain ⟨g1, g2, rfl, ha, ⟨bs, hl, ho⟩, hL⟩ := hh.pull i hi
  rcases ho with ⟨_, ho, _⟩ | ⟨d, o', cap', c, ty, rfl, k2, k3, k4, k5, k6⟩
  · cases ho
  · cases k2
    have hc : (join g1 g2) b = some (.cells c ty (0, 0)) := join_sub_left _ _ _ _ k4
    refine opt_st hc (by rw [h1]; rfl) (by omega) (.inl (Nat.zero_le _)) (by simp [h1, h4]) (hK _ (Has.put hi ?_))
    rw [h1]
    refine Has.sub (h := join (upd g1 b (.cells (wr c (o + k) [x]) ty (0, 0))) g2) ⟨_, g2, rfl, ?_, ⟨some b, by rw [List.length_set]; exact hl, .inr ⟨b, o, cap, _, ty, rfl, rfl, k3, upd_same _ _ _, by rw [wr_length]; exact k5, fun j v hj => ?_⟩⟩, hL⟩ ?_
    · exact apartUpd ha k4
    · rw [wr_get (by simp; omega)]
      by_cases hjk : j = k
      · subst hjk
        rw [List.getElem?_set_self (by omega)] at hj
        rw [if_pos (by simp)]; simpa using hj
      · rw [List.getElem?_set_ne (fun e => hjk e.symm)] at hj
        rw [if_neg (by simp; omega)]
        exact k6 _ _ hj
    · rw [joinUpd k4]; exact SubH.refl _

/-- The zero of a write that waits (seat 04), sealed. -/
@[irreducible] def zQ : List Value := .int .i64 0 :: List.replicate 128 (.int .u8 0)
theorem zQ_eq : zQ = .int .i64 0 :: List.replicate 128 (.int .u8 0) := by unfold zQ; rfl

end Go.Proofs.YthpkgkoojhgedaaDoor.V
