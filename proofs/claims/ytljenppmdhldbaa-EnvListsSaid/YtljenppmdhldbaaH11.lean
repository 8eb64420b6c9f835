/- Seat 09: chains up and walks down, in plain words. -/
import Derived.Test.YtljenppmdhldbaaH10
namespace Go.Proofs.Ytljenppmdhldbaa.V
set_option linter.unusedVariables false
set_option linter.unusedSimpArgs false
set_option linter.unusedSectionVars false
set_option linter.unusedSectionVars false
open Go

theorem nodup_lt : ∀ {n : Nat} {l : List Nat}, l.Nodup → (∀ x ∈ l, x < n) → l.length ≤ n
  | 0, l, _, hl => by
    cases l with
    | nil => exact Nat.le_refl _
    | cons x l => exact absurd (hl x (List.mem_cons_self ..)) (by omega)
  | n + 1, l, hn, hl => by
    have h1 := nodup_lt (n := n) (l := l.erase n) (hn.erase n) fun x hx => by
      have h2 := (hn.mem_erase_iff.1 hx)
      have := hl x h2.2
      have := h2.1
      omega
    have : l.length - 1 ≤ (l.erase n).length := by rw [List.length_erase]; split <;> omega
    omega

section
variable {A : Rs} {last : Int}

theorem WF.len (hw : WF A last) : A.length ≤ 16 := by
  have := nodup_lt (n := 16) hw.nd fun x hx => by obtain ⟨r, hr, rfl⟩ := List.mem_map.1 hx; exact hw.lt r hr
  rwa [List.length_map] at this

def depth (A : Rs) (n : Int) : Nat := (A.filter fun x => decide (x.serial < n)).length
def rank (A : Rs) (n : Int) : Nat := (A.filter fun x => decide (n < x.serial)).length

theorem filter_lt {α : Type} {p q : α → Bool} : ∀ {l : List α}, (∀ x ∈ l, p x = true → q x = true) → (∃ x ∈ l, q x = true ∧ p x = false) → (l.filter p).length < (l.filter q).length
  | [], _, ⟨x, hx, _⟩ => by cases hx
  | y :: l, h1, h2 => by
    have h1' : ∀ x ∈ l, p x = true → q x = true := fun x hx => h1 x (List.mem_cons_of_mem _ hx)
    have hle : (l.filter p).length ≤ (l.filter q).length := by
      rw [← List.countP_eq_length_filter, ← List.countP_eq_length_filter]
      exact List.countP_mono_left h1'
    by_cases hp : p y = true
    · have hq := h1 y (List.mem_cons_self ..) hp
      obtain ⟨x, hx, h3, h4⟩ := h2
      rcases List.mem_cons.1 hx with rfl | hx
      · rw [hp] at h4; cases h4
      · have := filter_lt h1' ⟨x, hx, h3, h4⟩
        rw [List.filter_cons_of_pos hp, List.filter_cons_of_pos hq]; simpa using this
    · by_cases hq : q y = true
      · rw [List.filter_cons_of_neg hp, List.filter_cons_of_pos hq]; simp only [List.length_cons]; omega
      · rw [List.filter_cons_of_neg hp, List.filter_cons_of_neg hq]
        obtain ⟨x, hx, h3, h4⟩ := h2
        rcases List.mem_cons.1 hx with rfl | hx
        · exact absurd h3 hq
        · exact filter_lt h1' ⟨x, hx, h3, h4⟩

theorem depth_lt {a b : Row} (ha : a ∈ A) (h : a.serial < b.serial) : depth A a.serial < depth A b.serial :=
  filter_lt (fun x _ hx => by have := of_decide_eq_true hx; exact decide_eq_true (by omega)) ⟨a, ha, decide_eq_true h, decide_eq_false (by omega)⟩
theorem rank_lt {a b : Row} (hb : b ∈ A) (h : a.serial < b.serial) : rank A b.serial < rank A a.serial :=
  filter_lt (fun x _ hx => by have := of_decide_eq_true hx; exact decide_eq_true (by omega)) ⟨b, hb, decide_eq_true h, decide_eq_false (by omega)⟩
theorem depth_16 (hw : WF A last) {a : Row} (ha : a ∈ A) : depth A a.serial < 16 := by
  have := filter_lt (p := fun x : Row => decide (x.serial < a.serial)) (q := fun _ => true) (l := A) (fun _ _ _ => rfl) ⟨a, ha, rfl, decide_eq_false (by omega)⟩
  rw [List.filter_eq_self.2 fun _ _ => rfl] at this
  have := hw.len
  unfold depth; omega
theorem rank_16 (hw : WF A last) {a : Row} (ha : a ∈ A) : rank A a.serial < 16 := by
  have := filter_lt (p := fun x : Row => decide (a.serial < x.serial)) (q := fun _ => true) (l := A) (fun _ _ _ => rfl) ⟨a, ha, rfl, decide_eq_false (by omega)⟩
  rw [List.filter_eq_self.2 fun _ _ => rfl] at this
  have := hw.len
  unfold rank; omega

/-- From e up to the root. -/
def ups (A : Rs) : Nat → Int → List Int
  | 0, _ => []
  | f + 1, e => match fnd A e with
    | none => []
    | some r => e :: ups A f r.parent
def chain (A : Rs) (e : Int) : List Int := ups A 16 e

theorem WF.up1 (hw : WF A last) {r p : Row} (hr : r ∈ A) (hp : fnd A r.parent = some p) : p ∈ A ∧ p.serial < r.serial ∧ (p.num : Int) = r.parent := by
  have hp' := fnd_mem hp
  rcases hw.par r hr with ⟨_, h⟩ | ⟨_, q, hq, h1, h2⟩
  · omega
  · have : p = q := uniq hw.nd hp'.1 hq (by omega)
    subst this
    exact ⟨hq, h2, hp'.2⟩

theorem ups_more (hw : WF A last) : ∀ (f : Nat) (e : Int), (∀ r, fnd A e = some r → depth A r.serial < f) → ups A (f + 1) e = ups A f e := by
  intro f
  induction f with
  | zero =>
    intro e h
    cases hf : fnd A e with
    | none => simp [ups, hf]
    | some r => exact absurd (h r hf) (by omega)
  | succ f ih =>
    intro e h
    cases hf : fnd A e with
    | none => simp [ups, hf]
    | some r =>
      have hr := fnd_mem hf
      have e1 : ups A (f + 1 + 1) e = e :: ups A (f + 1) r.parent := by rw [ups, hf]
      have e2 : ups A (f + 1) e = e :: ups A f r.parent := by rw [ups, hf]
      rw [e1, e2, ih]
      intro p hp
      have h1 := hw.up1 hr.1 hp
      have := depth_lt h1.1 h1.2.1
      have := h r hf
      omega

theorem chain_none {e : Int} (h : fnd A e = none) : chain A e = [] := by simp [chain, ups, h]
theorem chain_some (hw : WF A last) {e : Int} {r : Row} (h : fnd A e = some r) : chain A e = e :: chain A r.parent := by
  have hr := fnd_mem h
  have h1 := ups_more hw 15 r.parent fun p hp => by
    have h1 := hw.up1 hr.1 hp
    have := depth_lt h1.1 h1.2.1
    have := depth_16 hw hr.1
    omega
  have e1 : chain A e = e :: ups A 15 r.parent := by simp only [chain, ups, h]
  rw [e1, ← h1]; rfl

theorem chain_lt (hw : WF A last) {e : Int} {r : Row} (h : fnd A e = some r) : (chain A r.parent).length < (chain A e).length := by rw [chain_some hw h]; simp

def frzn (A : Rs) (e : Int) : Bool := (fnd A e).any fun r => r.frozen
def mRuns (A : Rs) (e : Int) : Bool := (fnd A e).any (fun r => decide (r.state = 1)) && !(chain A e).any (frzn A)
def mInside (A : Rs) (root e : Int) : Bool := (fnd A root).isSome && (chain A e).contains root

/-- e and all below it. -/
def pre (A : Rs) : Nat → Int → List Int
  | 0, e => [e]
  | f + 1, e => e :: (kids A e).flatMap (pre A f)
def walk (A : Rs) (e : Int) : List Int := pre A 16 e

theorem mem_kidsR {n : Int} {r : Row} : r ∈ kidsR A n ↔ r ∈ A ∧ r.parent = n := by simp [kidsR]
theorem mem_kids {n k : Int} : k ∈ kids A n ↔ ∃ r ∈ A, r.parent = n ∧ (r.num : Int) = k := by
  simp only [kids, List.mem_map, mem_kidsR]
  exact ⟨fun ⟨r, ⟨a, b⟩, c⟩ => ⟨r, a, b, c⟩, fun ⟨r, a, b, c⟩ => ⟨r, ⟨a, b⟩, c⟩⟩

theorem WF.kid (hw : WF A last) {n k : Int} {r : Row} (hr : fnd A n = some r) (hk : k ∈ kids A n) : ∃ s, fnd A k = some s ∧ s ∈ A ∧ s.parent = n ∧ r.serial < s.serial := by
  obtain ⟨s, hs, h1, rfl⟩ := mem_kids.1 hk
  refine ⟨s, fnd_of hw.nd hs, hs, h1, ?_⟩
  have := hw.up1 hs (p := r) (by rw [h1]; exact hr)
  exact this.2.1

theorem WF.kids_nd (hw : WF A last) (n : Int) : (kids A n).Nodup := by
  have h1 : (kids A n).Sublist (A.map fun r => (r.num : Int)) := List.Sublist.map _ List.filter_sublist
  refine h1.nodup ?_
  have := List.pairwise_map.1 hw.nd
  exact List.pairwise_map.2 (this.imp fun {a b} h => by omega)

theorem WF.kids_none (hw : WF A last) {n : Int} (hn : fnd A n = none) (h1 : n ≠ -1) : kids A n = [] := by
  cases h : kids A n with
  | nil => rfl
  | cons k l =>
    obtain ⟨s, hs, h1, h2⟩ := mem_kids.1 (show k ∈ kids A n by rw [h]; exact List.mem_cons_self ..)
    rcases hw.par s hs with ⟨_, h3⟩ | ⟨_, q, hq, h3, _⟩
    · omega
    · exact absurd (by omega) (fnd_none.1 hn q hq)

theorem flatMap_eq {α β : Type} {f g : α → List β} : ∀ {l : List α}, (∀ x ∈ l, f x = g x) → l.flatMap f = l.flatMap g
  | [], _ => rfl
  | x :: l, h => by rw [List.flatMap_cons, List.flatMap_cons, h x (List.mem_cons_self ..), flatMap_eq fun y hy => h y (List.mem_cons_of_mem _ hy)]

theorem pre_more (hw : WF A last) : ∀ (f : Nat) (e : Int) (r : Row), fnd A e = some r → rank A r.serial ≤ f → pre A (f + 1) e = pre A f e := by
  intro f
  induction f with
  | zero =>
    intro e r hf h
    have : kids A e = [] := by
      cases hk : kids A e with
      | nil => rfl
      | cons k l =>
        obtain ⟨s, _, hs, _, h2⟩ := hw.kid hf (show k ∈ kids A e by rw [hk]; exact List.mem_cons_self ..)
        have := rank_lt hs h2
        omega
    simp [pre, this]
  | succ f ih =>
    intro e r hf h
    have e1 : pre A (f + 1 + 1) e = e :: (kids A e).flatMap (pre A (f + 1)) := rfl
    have e2 : pre A (f + 1) e = e :: (kids A e).flatMap (pre A f) := rfl
    rw [e1, e2]
    congr 1
    refine flatMap_eq fun k hk => ?_
    obtain ⟨s, hs, hsA, _, h2⟩ := hw.kid hf hk
    have := rank_lt hsA h2
    exact ih k s hs (by omega)

theorem walk_eq (hw : WF A last) {e : Int} {r : Row} (h : fnd A e = some r) : walk A e = e :: (kids A e).flatMap (walk A) := by
  have e1 : walk A e = e :: (kids A e).flatMap (pre A 15) := rfl
  rw [e1]
  congr 1
  refine flatMap_eq fun k hk => ?_
  obtain ⟨s, hs, hsA, _, h2⟩ := hw.kid h hk
  have := rank_lt hsA h2
  have := rank_16 hw (fnd_mem h).1
  exact (pre_more hw 15 k s hs (by omega)).symm

/-- Induction down the tree. -/
theorem tree_ind (hw : WF A last) {P : Int → Prop} (hk : ∀ e r, fnd A e = some r → (∀ k ∈ kids A e, P k) → P e) : ∀ e r, fnd A e = some r → P e := by
  suffices h : ∀ (m : Nat) (e : Int) (r : Row), fnd A e = some r → rank A r.serial < m → P e from fun e r hr => h _ e r hr (Nat.lt_succ_self _)
  intro m
  induction m with
  | zero => intro e r _ h; omega
  | succ m ih =>
    intro e r hr h
    refine hk e r hr fun k hkk => ?_
    obtain ⟨s, hs, hsA, _, h2⟩ := hw.kid hr hkk
    have := rank_lt hsA h2
    exact ih k s hs (by omega)

/-- Induction up the tree. -/
theorem up_ind (hw : WF A last) {P : Int → Prop} (h0 : ∀ e, fnd A e = none → P e) (hk : ∀ e r, fnd A e = some r → P r.parent → P e) : ∀ e, P e := by
  suffices h : ∀ (m : Nat) (e : Int), (∀ r, fnd A e = some r → depth A r.serial < m) → P e from fun e => h 16 e fun r hr => depth_16 hw (fnd_mem hr).1
  intro m
  induction m with
  | zero =>
    intro e h
    cases hf : fnd A e with
    | none => exact h0 e hf
    | some r => exact absurd (h r hf) (by omega)
  | succ m ih =>
    intro e h
    cases hf : fnd A e with
    | none => exact h0 e hf
    | some r =>
      refine hk e r hf (ih _ fun p hp => ?_)
      have h1 := hw.up1 (fnd_mem hf).1 hp
      have := depth_lt h1.1 h1.2.1
      have := h r hf
      omega

end
end Go.Proofs.Ytljenppmdhldbaa.V
