/- Seat 08: CapsLowest, the walk. -/
import Derived.Test.YthpkgkoojhgedaaK20
namespace Go.Proofs.Ythpkgkoojhgedaa.V
set_option linter.unusedVariables false
set_option linter.unusedSimpArgs false
set_option linter.unusedSectionVars false
set_option linter.unusedSectionVars false
open Go

theorem opt_ldE2 {r o : Nat} {β : Bx} {cs : List Value} {v : Value} {K : Ent → Prop} (hl : lookB β r = some cs) (hv : cs[o]? = some v) (hk : K (.v v)) : optK (pLd 1 false (fun _ => none) β (.l r o)) K := by
  have : rd cs.toArray o 1 false = some v := by simp only [rd]; rw [if_neg (by decide), List.getElem?_toArray]; exact hv
  exact opt_ldLo hl this hk

theorem opt_stE2 {g : Hp} {r o : Nat} {β : Bx} {x : Value} {c : List Value} {K : Hp × Bx → Prop} (hl : lookB β r = some c) (ho : o < c.length) (h1 : x.cells = #[x]) (h4 : one x = true) (hk : K (g, (r, c.set o x) :: β)) : optK (pSt 1 g β (.l r o) (.v x)) K :=
  opt_stLo hl (by rw [h1]; rfl) (by omega) (by simp [h1, h4]) (by rw [h1]; exact wrL_one x ho) hk

def wOf (l : List (Option Nat)) (x : Int) : Int := match (if okAt x then mPlace l x else .inl 1) with
  | .inl _ => -1
  | .inr s => s
def w0Of (l : List (Option Nat)) (x : Int) : Int := if 0 ≤ x ∧ x < 48 ∧ got l x = none then x else -1
def frm (l : List (Option Nat)) (n : Nat) : Option Nat := (List.range 48).find? fun j => decide (n ≤ j) && decide (l[j]? = some none)
def optI : Option Nat → Int
  | none => -1
  | some j => j

theorem frm_48 (l : List (Option Nat)) : frm l 48 = none := by
  unfold frm
  rw [List.find?_eq_none]
  intro j hj
  have := List.mem_range.1 hj
  simp; omega
theorem frm_step (l : List (Option Nat)) {n : Nat} (hn : n < 48) : frm l n = if l[n]? = some none then some n else frm l (n + 1) := by
  by_cases h : l[n]? = some none
  · rw [if_pos h]
    unfold frm
    rw [List.find?_range_eq_some]
    exact ⟨by simp [h], List.mem_range.2 hn, fun j hj => by simp; omega⟩
  · rw [if_neg h]
    unfold frm
    have e : (fun j => decide (n ≤ j) && decide (l[j]? = some none)) = (fun j => decide (n + 1 ≤ j) && decide (l[j]? = some none)) := by
      funext j
      by_cases hj : j = n
      · subst hj
        simp [h]
      · rw [show decide (n ≤ j) = decide (n + 1 ≤ j) from by by_cases h2 : n ≤ j; (· rw [decide_eq_true h2, decide_eq_true (by omega)]); (· rw [decide_eq_false h2, decide_eq_false (by omega)])]
    rw [e]
theorem frm_0 {l : List (Option Nat)} (hl : l.length = 48) : frm l 0 = low l := by
  unfold frm low
  rw [hl]
  congr 1

theorem wOf_low {l : List (Option Nat)} (hl : l.length = 48) : wOf l (-1) = optI (frm l 0) := by
  unfold wOf
  rw [if_pos (by decide), frm_0 hl]
  unfold mPlace
  rw [if_neg (by decide)]
  cases low l <;> rfl
theorem wOf_at {l : List (Option Nat)} {x : Int} (hx : x ≠ -1) : wOf l x = w0Of l x := by
  unfold wOf w0Of
  by_cases h1 : okAt x
  · rw [if_pos h1]
    have h0 : 0 ≤ x := by have := h1.1; omega
    unfold mPlace
    rw [if_pos h0]
    cases hg : got l x with
    | none => rw [if_pos ⟨h0, h1.2, rfl⟩]; simp; omega
    | some y => rw [if_neg (fun e => by cases e.2.2)]
  · rw [if_neg h1, if_neg fun e => h1 ⟨by omega, e.2.1⟩]

section
variable {h : Hp} {Q : Value → Hp → Prop} {L : List As} {b : Nat}

theorem bools_get {T : List Bool} {m : Nat} {v : Bool} (h : T[m]? = some v) : (T.map Value.bool)[m]? = some (.bool v) := by rw [List.getElem?_map, h]; rfl

theorem mLook_k2 {tb : Tb} {e s k : Int} (hm : mLook tb e s = .inl k) : k = 83 ∨ k = 80 := by
  unfold mLook at hm
  split at hm
  · cases hm; exact .inl rfl
  · split at hm <;> cases hm
    exact .inr rfl

set_option maxRecDepth 100000 in
set_option maxHeartbeats 4000000 in
theorem law3 {a : Option Addr} {len cap : Nat} {f : Nat → Int} (hR : IntsAt .i64 h a len f) (hlen : len < 2 ^ 62) {a2 : Option Addr} {len2 cap2 : Nat} {f2 : Nat → Int} (hR2 : IntsAt .i64 h a2 len2 f2) (hlen2 : len2 < 2 ^ 62) (hq : ∀ h', SubH h h' → Q (.bool true) h') :
    Ok PR 3 [.slice a len cap, .slice a2 len2 cap2] h Q := by
  refine e3 rfl (seq_step fun K hK => ?_)
  repeat (first | ((with_reducible refine hK _ _ _ ?_); clear hK) | (with_reducible refine seq_step fun K hK => ?_) | (with_reducible refine block_step ?_) | ((with_reducible refine cond_t ?_ ?_); focus rfl) | ((with_reducible refine cond_f ?_ ?_); focus rfl) | ((with_reducible refine code_id ?_); conv => whnf) | (clear hK; (with_reducible refine hK _ _ _ ?_); clear hK) | (clear hK; clear hK; (with_reducible refine hK _ _ _ ?_); clear hK) | (clear hK; clear hK; clear hK; (with_reducible refine hK _ _ _ ?_); clear hK) | (clear hK; clear hK; clear hK; clear hK; (with_reducible refine hK _ _ _ ?_); clear hK) | (clear hK; clear hK; clear hK; clear hK; clear hK; (with_reducible refine hK _ _ _ ?_); clear hK) | (clear hK; clear hK; clear hK; clear hK; clear hK; clear hK; (with_reducible refine hK _ _ _ ?_); clear hK) | (clear hK; clear hK; clear hK; clear hK; clear hK; clear hK; clear hK; (with_reducible refine hK _ _ _ ?_); clear hK))
  refine new31 (Has.start h) fun b h1 hh1 => ?_
  conv => whnf
  repeat (first | ((with_reducible refine hK _ _ _ ?_); clear hK) | (with_reducible refine seq_step fun K hK => ?_) | (with_reducible refine block_step ?_) | ((with_reducible refine cond_t ?_ ?_); focus rfl) | ((with_reducible refine cond_f ?_ ?_); focus rfl) | ((with_reducible refine code_id ?_); conv => whnf) | (clear hK; (with_reducible refine hK _ _ _ ?_); clear hK) | (clear hK; clear hK; (with_reducible refine hK _ _ _ ?_); clear hK) | (clear hK; clear hK; clear hK; (with_reducible refine hK _ _ _ ?_); clear hK) | (clear hK; clear hK; clear hK; clear hK; (with_reducible refine hK _ _ _ ?_); clear hK) | (clear hK; clear hK; clear hK; clear hK; clear hK; (with_reducible refine hK _ _ _ ?_); clear hK) | (clear hK; clear hK; clear hK; clear hK; clear hK; clear hK; (with_reducible refine hK _ _ _ ?_); clear hK) | (clear hK; clear hK; clear hK; clear hK; clear hK; clear hK; clear hK; (with_reducible refine hK _ _ _ ?_); clear hK))
  refine open35 wf0 hh1 2 (fun hbad => ?_) (fun n t h2 hn hn2 hh2 => ?_)
  · exfalso
    rcases hbad with h | h | h
    · omega
    · omega
    · rw [show (2 : Int) = ((2 : Nat) : Int) from rfl, got_nat] at h; cases h
  obtain rfl : n = 2 := by omega
  have hw2 := wf0.opn t hn2
  have hlow : Low (opn st0 2 t) t (List.replicate 48 none) := ⟨hw2, rfl, fun c hc => by cases hc⟩
  have htk : Tk (List.replicate 48 none) (List.replicate 48 false) := ⟨rfl, fun s hs => by
    rw [List.getElem?_replicate, List.getElem?_replicate, if_pos hs, if_pos hs]
    exact ⟨fun h => (by cases h), fun ⟨a, h⟩ => (by cases h)⟩⟩
  conv => whnf
  repeat (first | ((with_reducible refine hK _ _ _ ?_); clear hK) | (with_reducible refine seq_step fun K hK => ?_) | (with_reducible refine block_step ?_) | ((with_reducible refine cond_t ?_ ?_); focus rfl) | ((with_reducible refine cond_f ?_ ?_); focus rfl) | ((with_reducible refine code_id ?_); conv => whnf) | (clear hK; (with_reducible refine hK _ _ _ ?_); clear hK) | (clear hK; clear hK; (with_reducible refine hK _ _ _ ?_); clear hK) | (clear hK; clear hK; clear hK; (with_reducible refine hK _ _ _ ?_); clear hK) | (clear hK; clear hK; clear hK; clear hK; (with_reducible refine hK _ _ _ ?_); clear hK) | (clear hK; clear hK; clear hK; clear hK; clear hK; (with_reducible refine hK _ _ _ ?_); clear hK) | (clear hK; clear hK; clear hK; clear hK; clear hK; clear hK; (with_reducible refine hK _ _ _ ?_); clear hK) | (clear hK; clear hK; clear hK; clear hK; clear hK; clear hK; clear hK; (with_reducible refine hK _ _ _ ?_); clear hK))
  refine cut_intro (σ := (Bs × List (Option Nat) × List Bool) × Hp) (fun s => [(1, .v (.slice a2 len2 cap2)), (5, .v (ptr b)), (6, .l 6 0), (7, .l 7 0)]) (fun s => [(6, [iv 3, iv 0, iv 1, iv 0]), (7, s.1.2.2.map .bool)]) (fun s => s.2)
    (fun s => Low s.1.1 t s.1.2.1 ∧ Tk s.1.2.1 s.1.2.2 ∧ Has (CapsA b s.1.1 :: [Is h]) s.2) ?_ ?_
  · repeat (first | ((with_reducible refine hK _ _ _ ?_); clear hK) | (with_reducible refine seq_step fun K hK => ?_) | (with_reducible refine block_step ?_) | ((with_reducible refine cond_t ?_ ?_); focus rfl) | ((with_reducible refine cond_f ?_ ?_); focus rfl) | ((with_reducible refine code_id ?_); conv => whnf) | (clear hK; (with_reducible refine hK _ _ _ ?_); clear hK) | (clear hK; clear hK; (with_reducible refine hK _ _ _ ?_); clear hK) | (clear hK; clear hK; clear hK; (with_reducible refine hK _ _ _ ?_); clear hK) | (clear hK; clear hK; clear hK; clear hK; (with_reducible refine hK _ _ _ ?_); clear hK) | (clear hK; clear hK; clear hK; clear hK; clear hK; (with_reducible refine hK _ _ _ ?_); clear hK) | (clear hK; clear hK; clear hK; clear hK; clear hK; clear hK; (with_reducible refine hK _ _ _ ?_); clear hK) | (clear hK; clear hK; clear hK; clear hK; clear hK; clear hK; clear hK; (with_reducible refine hK _ _ _ ?_); clear hK))
    refine loop_intro (σ := (Nat × Bs × List (Option Nat) × List Bool) × Hp) (fun s => [(0, .v (.slice a len cap)), (1, .v (.slice a2 len2 cap2)), (5, .v (ptr b)), (6, .l 6 0), (7, .l 7 0), (8, .v (iv s.1.1))]) (fun s => [(6, [iv 3, iv 0, iv 1, iv 0]), (7, s.1.2.2.2.map .bool)]) (fun s => s.2)
      (fun s => s.1.1 ≤ 200 ∧ s.1.1 ≤ len ∧ Low s.1.2.1 t s.1.2.2.1 ∧ Tk s.1.2.2.1 s.1.2.2.2 ∧ Has (CapsA b s.1.2.1 :: [Is h]) s.2)
      (fun s => 200 - s.1.1) ((0, _, _, List.replicate 48 false), h2) ⟨Nat.zero_le _, Nat.zero_le _, hlow, htk, hh2⟩ (subE_cons rfl (subE_cons rfl (subE_cons rfl (subE_cons rfl (subE_cons rfl (subE_cons rfl subE_nil)))))) (subB_cons rfl (subB_cons rfl subB_nil)) rfl ?_
    rintro ⟨⟨k, S, l, T⟩, g⟩ ⟨hk2, hkl, hl, hT, hg⟩
    dsimp only at hk2 hkl hl hT hg ⊢
    have hll := hl.len
    have hnext : IntKind.i64.wrap ((k : Int) + 1) = ((k + 1 : Nat) : Int) := wrap_nat (by omega)
    repeat (first | ((with_reducible refine hK _ _ _ ?_); clear hK) | (with_reducible refine seq_step fun K hK => ?_) | (with_reducible refine block_step ?_) | ((with_reducible refine cond_t ?_ ?_); focus rfl) | ((with_reducible refine cond_f ?_ ?_); focus rfl) | ((with_reducible refine code_id ?_); conv => whnf) | (clear hK; (with_reducible refine hK _ _ _ ?_); clear hK) | (clear hK; clear hK; (with_reducible refine hK _ _ _ ?_); clear hK) | (clear hK; clear hK; clear hK; (with_reducible refine hK _ _ _ ?_); clear hK) | (clear hK; clear hK; clear hK; clear hK; (with_reducible refine hK _ _ _ ?_); clear hK) | (clear hK; clear hK; clear hK; clear hK; clear hK; (with_reducible refine hK _ _ _ ?_); clear hK) | (clear hK; clear hK; clear hK; clear hK; clear hK; clear hK; (with_reducible refine hK _ _ _ ?_); clear hK) | (clear hK; clear hK; clear hK; clear hK; clear hK; clear hK; clear hK; (with_reducible refine hK _ _ _ ?_); clear hK))
    by_cases c3 : k < len
    case neg =>
      rw [show decide ((k : Int) < (len : Nat)) = false from decide_eq_false (by omega)]
      conv => whnf
      repeat (first | ((with_reducible refine hK _ _ _ ?_); clear hK) | (with_reducible refine seq_step fun K hK => ?_) | (with_reducible refine block_step ?_) | ((with_reducible refine cond_t ?_ ?_); focus rfl) | ((with_reducible refine cond_f ?_ ?_); focus rfl) | ((with_reducible refine code_id ?_); conv => whnf) | (clear hK; (with_reducible refine hK _ _ _ ?_); clear hK) | (clear hK; clear hK; (with_reducible refine hK _ _ _ ?_); clear hK) | (clear hK; clear hK; clear hK; (with_reducible refine hK _ _ _ ?_); clear hK) | (clear hK; clear hK; clear hK; clear hK; (with_reducible refine hK _ _ _ ?_); clear hK) | (clear hK; clear hK; clear hK; clear hK; clear hK; (with_reducible refine hK _ _ _ ?_); clear hK) | (clear hK; clear hK; clear hK; clear hK; clear hK; clear hK; (with_reducible refine hK _ _ _ ?_); clear hK) | (clear hK; clear hK; clear hK; clear hK; clear hK; clear hK; clear hK; (with_reducible refine hK _ _ _ ?_); clear hK))
      exact ⟨((S, l, T), g), ⟨hl, hT, hg⟩, subE_cons rfl (subE_cons rfl (subE_cons rfl (subE_cons rfl subE_nil))), subB_cons rfl (subB_cons rfl subB_nil), rfl⟩
    rw [show decide ((k : Int) < (len : Nat)) = true from decide_eq_true (by omega)]
    conv => whnf
    by_cases c4 : k < 200
    case neg =>
      rw [show decide ((k : Int) < 200) = false from decide_eq_false (by omega)]
      conv => whnf
      repeat (first | ((with_reducible refine hK _ _ _ ?_); clear hK) | (with_reducible refine seq_step fun K hK => ?_) | (with_reducible refine block_step ?_) | ((with_reducible refine cond_t ?_ ?_); focus rfl) | ((with_reducible refine cond_f ?_ ?_); focus rfl) | ((with_reducible refine code_id ?_); conv => whnf) | (clear hK; (with_reducible refine hK _ _ _ ?_); clear hK) | (clear hK; clear hK; (with_reducible refine hK _ _ _ ?_); clear hK) | (clear hK; clear hK; clear hK; (with_reducible refine hK _ _ _ ?_); clear hK) | (clear hK; clear hK; clear hK; clear hK; (with_reducible refine hK _ _ _ ?_); clear hK) | (clear hK; clear hK; clear hK; clear hK; clear hK; (with_reducible refine hK _ _ _ ?_); clear hK) | (clear hK; clear hK; clear hK; clear hK; clear hK; clear hK; (with_reducible refine hK _ _ _ ?_); clear hK) | (clear hK; clear hK; clear hK; clear hK; clear hK; clear hK; clear hK; (with_reducible refine hK _ _ _ ?_); clear hK))
      exact ⟨((S, l, T), g), ⟨hl, hT, hg⟩, subE_cons rfl (subE_cons rfl (subE_cons rfl (subE_cons rfl subE_nil))), subB_cons rfl (subB_cons rfl subB_nil), rfl⟩
    rw [show decide ((k : Int) < 200) = true from decide_eq_true (by omega)]
    conv => whnf
    repeat (first | ((with_reducible refine hK _ _ _ ?_); clear hK) | (with_reducible refine seq_step fun K hK => ?_) | (with_reducible refine block_step ?_) | ((with_reducible refine cond_t ?_ ?_); focus rfl) | ((with_reducible refine cond_f ?_ ?_); focus rfl) | ((with_reducible refine code_id ?_); conv => whnf) | (clear hK; (with_reducible refine hK _ _ _ ?_); clear hK) | (clear hK; clear hK; (with_reducible refine hK _ _ _ ?_); clear hK) | (clear hK; clear hK; clear hK; (with_reducible refine hK _ _ _ ?_); clear hK) | (clear hK; clear hK; clear hK; clear hK; (with_reducible refine hK _ _ _ ?_); clear hK) | (clear hK; clear hK; clear hK; clear hK; clear hK; (with_reducible refine hK _ _ _ ?_); clear hK) | (clear hK; clear hK; clear hK; clear hK; clear hK; clear hK; (with_reducible refine hK _ _ _ ?_); clear hK) | (clear hK; clear hK; clear hK; clear hK; clear hK; clear hK; clear hK; (with_reducible refine hK _ _ _ ?_); clear hK))
    obtain ⟨bk, off, c, ty, z, ha, hb0, hc, hwf⟩ := hR k c3
    have hb : g bk = some (.cells c ty z) := hg.is 1 rfl bk _ hb0
    obtain ⟨x, hxk⟩ : ∃ x, x = f k := ⟨_, rfl⟩
    rw [← hxk] at hc
    have hx : c[off + (k : Int).toNat * 1]? = some (iv x) := hc
    refine cut_intro (σ := Unit) (fun _ => [(0, .v (.slice a len cap)), (1, .v (.slice a2 len2 cap2)), (5, .v (ptr b)), (6, .l 6 0), (7, .l 7 0), (8, .v (iv k)), (9, .v (iv (w0Of l x)))]) (fun _ => [(6, [iv 3, iv 0, iv 1, iv 0]), (7, T.map .bool)]) (fun _ => g) (fun _ => True) ?_ ?_
    · repeat (first | ((with_reducible refine hK _ _ _ ?_); clear hK) | (with_reducible refine seq_step fun K hK => ?_) | (with_reducible refine block_step ?_) | ((with_reducible refine cond_t ?_ ?_); focus rfl) | ((with_reducible refine cond_f ?_ ?_); focus rfl) | ((with_reducible refine code_id ?_); conv => whnf) | (clear hK; (with_reducible refine hK _ _ _ ?_); clear hK) | (clear hK; clear hK; (with_reducible refine hK _ _ _ ?_); clear hK) | (clear hK; clear hK; clear hK; (with_reducible refine hK _ _ _ ?_); clear hK) | (clear hK; clear hK; clear hK; clear hK; (with_reducible refine hK _ _ _ ?_); clear hK) | (clear hK; clear hK; clear hK; clear hK; clear hK; (with_reducible refine hK _ _ _ ?_); clear hK) | (clear hK; clear hK; clear hK; clear hK; clear hK; clear hK; (with_reducible refine hK _ _ _ ?_); clear hK) | (clear hK; clear hK; clear hK; clear hK; clear hK; clear hK; clear hK; (with_reducible refine hK _ _ _ ?_); clear hK))
      rw [ha]
      conv => whnf
      refine opt_if ⟨by omega, by omega⟩ ?_
      conv => whnf
      refine opt_ld hb (v := iv x) hx ?_
      conv => whnf
      by_cases d0 : 0 ≤ x
      case neg =>
        have hw0 : w0Of l x = -1 := by unfold w0Of; rw [if_neg fun e => d0 e.1]
        rw [show decide (x ≥ 0) = false from decide_eq_false d0]
        conv => whnf
        repeat (first | ((with_reducible refine hK _ _ _ ?_); clear hK) | (with_reducible refine seq_step fun K hK => ?_) | (with_reducible refine block_step ?_) | ((with_reducible refine cond_t ?_ ?_); focus rfl) | ((with_reducible refine cond_f ?_ ?_); focus rfl) | ((with_reducible refine code_id ?_); conv => whnf) | (clear hK; (with_reducible refine hK _ _ _ ?_); clear hK) | (clear hK; clear hK; (with_reducible refine hK _ _ _ ?_); clear hK) | (clear hK; clear hK; clear hK; (with_reducible refine hK _ _ _ ?_); clear hK) | (clear hK; clear hK; clear hK; clear hK; (with_reducible refine hK _ _ _ ?_); clear hK) | (clear hK; clear hK; clear hK; clear hK; clear hK; (with_reducible refine hK _ _ _ ?_); clear hK) | (clear hK; clear hK; clear hK; clear hK; clear hK; clear hK; (with_reducible refine hK _ _ _ ?_); clear hK) | (clear hK; clear hK; clear hK; clear hK; clear hK; clear hK; clear hK; (with_reducible refine hK _ _ _ ?_); clear hK))
        exact ⟨(), trivial, subE_cons (by rw [ha]; rfl) (subE_cons rfl (subE_cons rfl (subE_cons rfl (subE_cons rfl (subE_cons rfl (subE_cons (by rw [hw0]; rfl) subE_nil)))))), subB_cons rfl (subB_cons rfl subB_nil), rfl⟩
      rw [show decide (x ≥ 0) = true from decide_eq_true d0]
      conv => whnf
      refine opt_if ⟨by omega, by omega⟩ ?_
      conv => whnf
      refine opt_ld hb (v := iv x) hx ?_
      conv => whnf
      by_cases d1 : x < 48
      case neg =>
        have hw0 : w0Of l x = -1 := by unfold w0Of; rw [if_neg fun e => d1 e.2.1]
        rw [show decide (x < 48) = false from decide_eq_false d1]
        conv => whnf
        repeat (first | ((with_reducible refine hK _ _ _ ?_); clear hK) | (with_reducible refine seq_step fun K hK => ?_) | (with_reducible refine block_step ?_) | ((with_reducible refine cond_t ?_ ?_); focus rfl) | ((with_reducible refine cond_f ?_ ?_); focus rfl) | ((with_reducible refine code_id ?_); conv => whnf) | (clear hK; (with_reducible refine hK _ _ _ ?_); clear hK) | (clear hK; clear hK; (with_reducible refine hK _ _ _ ?_); clear hK) | (clear hK; clear hK; clear hK; (with_reducible refine hK _ _ _ ?_); clear hK) | (clear hK; clear hK; clear hK; clear hK; (with_reducible refine hK _ _ _ ?_); clear hK) | (clear hK; clear hK; clear hK; clear hK; clear hK; (with_reducible refine hK _ _ _ ?_); clear hK) | (clear hK; clear hK; clear hK; clear hK; clear hK; clear hK; (with_reducible refine hK _ _ _ ?_); clear hK) | (clear hK; clear hK; clear hK; clear hK; clear hK; clear hK; clear hK; (with_reducible refine hK _ _ _ ?_); clear hK))
        exact ⟨(), trivial, subE_cons (by rw [ha]; rfl) (subE_cons rfl (subE_cons rfl (subE_cons rfl (subE_cons rfl (subE_cons rfl (subE_cons (by rw [hw0]; rfl) subE_nil)))))), subB_cons rfl (subB_cons rfl subB_nil), rfl⟩
      rw [show decide (x < 48) = true from decide_eq_true d1]
      conv => whnf
      refine opt_if ⟨by omega, by omega⟩ ?_
      conv => whnf
      refine opt_ld hb (v := iv x) hx ?_
      conv => whnf
      obtain ⟨m, hm⟩ := Int.eq_ofNat_of_zero_le d0
      have hm48 : m < 48 := by omega
      have hmT : m < T.length := by rw [hT.1]; exact hm48
      have hTm : T[m]? = some T[m] := List.getElem?_eq_getElem hmT
      refine opt_if ⟨by omega, by omega⟩ ?_
      conv => whnf
      refine opt_ldE2 (v := .bool T[m]) rfl (by rw [show 0 + x.toNat * 1 = m by omega]; exact bools_get hTm) ?_
      cases hb9 : T[m] with
      | true =>
        have hw0 : w0Of l x = -1 := by
          unfold w0Of
          rw [if_neg fun e => ?_]
          obtain ⟨y, hy⟩ := (hT.2 m hm48).1 (by rw [hTm, hb9])
          have := e.2.2
          rw [hm, got_nat, hy] at this; cases this
        conv => whnf
        repeat (first | ((with_reducible refine hK _ _ _ ?_); clear hK) | (with_reducible refine seq_step fun K hK => ?_) | (with_reducible refine block_step ?_) | ((with_reducible refine cond_t ?_ ?_); focus rfl) | ((with_reducible refine cond_f ?_ ?_); focus rfl) | ((with_reducible refine code_id ?_); conv => whnf) | (clear hK; (with_reducible refine hK _ _ _ ?_); clear hK) | (clear hK; clear hK; (with_reducible refine hK _ _ _ ?_); clear hK) | (clear hK; clear hK; clear hK; (with_reducible refine hK _ _ _ ?_); clear hK) | (clear hK; clear hK; clear hK; clear hK; (with_reducible refine hK _ _ _ ?_); clear hK) | (clear hK; clear hK; clear hK; clear hK; clear hK; (with_reducible refine hK _ _ _ ?_); clear hK) | (clear hK; clear hK; clear hK; clear hK; clear hK; clear hK; (with_reducible refine hK _ _ _ ?_); clear hK) | (clear hK; clear hK; clear hK; clear hK; clear hK; clear hK; clear hK; (with_reducible refine hK _ _ _ ?_); clear hK))
        exact ⟨(), trivial, subE_cons (by rw [ha]; rfl) (subE_cons rfl (subE_cons rfl (subE_cons rfl (subE_cons rfl (subE_cons rfl (subE_cons (by rw [hw0]; rfl) subE_nil)))))), subB_cons rfl (subB_cons rfl subB_nil), rfl⟩
      | false =>
        have hw0 : w0Of l x = x := by
          unfold w0Of
          exact if_pos ⟨d0, d1, by rw [hm, got_nat, (hT.free hll hm48).1 (by rw [hTm, hb9])]⟩
        conv => whnf
        repeat (first | ((with_reducible refine hK _ _ _ ?_); clear hK) | (with_reducible refine seq_step fun K hK => ?_) | (with_reducible refine block_step ?_) | ((with_reducible refine cond_t ?_ ?_); focus rfl) | ((with_reducible refine cond_f ?_ ?_); focus rfl) | ((with_reducible refine code_id ?_); conv => whnf) | (clear hK; (with_reducible refine hK _ _ _ ?_); clear hK) | (clear hK; clear hK; (with_reducible refine hK _ _ _ ?_); clear hK) | (clear hK; clear hK; clear hK; (with_reducible refine hK _ _ _ ?_); clear hK) | (clear hK; clear hK; clear hK; clear hK; (with_reducible refine hK _ _ _ ?_); clear hK) | (clear hK; clear hK; clear hK; clear hK; clear hK; (with_reducible refine hK _ _ _ ?_); clear hK) | (clear hK; clear hK; clear hK; clear hK; clear hK; clear hK; (with_reducible refine hK _ _ _ ?_); clear hK) | (clear hK; clear hK; clear hK; clear hK; clear hK; clear hK; clear hK; (with_reducible refine hK _ _ _ ?_); clear hK))
        refine opt_if ⟨by omega, by omega⟩ ?_
        conv => whnf
        refine opt_ld hb (v := iv x) hx ?_
        conv => whnf
        repeat (first | ((with_reducible refine hK _ _ _ ?_); clear hK) | (with_reducible refine seq_step fun K hK => ?_) | (with_reducible refine block_step ?_) | ((with_reducible refine cond_t ?_ ?_); focus rfl) | ((with_reducible refine cond_f ?_ ?_); focus rfl) | ((with_reducible refine code_id ?_); conv => whnf) | (clear hK; (with_reducible refine hK _ _ _ ?_); clear hK) | (clear hK; clear hK; (with_reducible refine hK _ _ _ ?_); clear hK) | (clear hK; clear hK; clear hK; (with_reducible refine hK _ _ _ ?_); clear hK) | (clear hK; clear hK; clear hK; clear hK; (with_reducible refine hK _ _ _ ?_); clear hK) | (clear hK; clear hK; clear hK; clear hK; clear hK; (with_reducible refine hK _ _ _ ?_); clear hK) | (clear hK; clear hK; clear hK; clear hK; clear hK; clear hK; (with_reducible refine hK _ _ _ ?_); clear hK) | (clear hK; clear hK; clear hK; clear hK; clear hK; clear hK; clear hK; (with_reducible refine hK _ _ _ ?_); clear hK))
        exact ⟨(), trivial, subE_cons (by rw [ha]; rfl) (subE_cons rfl (subE_cons rfl (subE_cons rfl (subE_cons rfl (subE_cons rfl (subE_cons (by rw [hw0]; rfl) subE_nil)))))), subB_cons rfl (subB_cons rfl subB_nil), rfl⟩
    · rintro _ -
      refine cut_intro (σ := Unit) (fun _ => [(0, .v (.slice a len cap)), (1, .v (.slice a2 len2 cap2)), (5, .v (ptr b)), (6, .l 6 0), (7, .l 7 0), (8, .v (iv k)), (9, .v (iv (wOf l x)))]) (fun _ => [(6, [iv 3, iv 0, iv 1, iv 0]), (7, T.map .bool)]) (fun _ => g) (fun _ => True) ?_ ?_
      · have hT48 : T.length = 48 := hT.1
        repeat (first | ((with_reducible refine hK _ _ _ ?_); clear hK) | (with_reducible refine seq_step fun K hK => ?_) | (with_reducible refine block_step ?_) | ((with_reducible refine cond_t ?_ ?_); focus rfl) | ((with_reducible refine cond_f ?_ ?_); focus rfl) | ((with_reducible refine code_id ?_); conv => whnf) | (clear hK; (with_reducible refine hK _ _ _ ?_); clear hK) | (clear hK; clear hK; (with_reducible refine hK _ _ _ ?_); clear hK) | (clear hK; clear hK; clear hK; (with_reducible refine hK _ _ _ ?_); clear hK) | (clear hK; clear hK; clear hK; clear hK; (with_reducible refine hK _ _ _ ?_); clear hK) | (clear hK; clear hK; clear hK; clear hK; clear hK; (with_reducible refine hK _ _ _ ?_); clear hK) | (clear hK; clear hK; clear hK; clear hK; clear hK; clear hK; (with_reducible refine hK _ _ _ ?_); clear hK) | (clear hK; clear hK; clear hK; clear hK; clear hK; clear hK; clear hK; (with_reducible refine hK _ _ _ ?_); clear hK))
        refine loop_intro (σ := Int × Int) (fun s => [(0, .v (.slice a len cap)), (1, .v (.slice a2 len2 cap2)), (5, .v (ptr b)), (6, .l 6 0), (7, .l 7 0), (8, .v (iv k)), (9, .v (iv s.2)), (10, .v (iv s.1))]) (fun _ => [(6, [iv 3, iv 0, iv 1, iv 0]), (7, T.map .bool)]) (fun _ => g)
          (fun s => ∃ n : Nat, s.1 = (n : Int) - 1 ∧ n ≤ 48 ∧ (x ≠ -1 → s.2 = w0Of l x) ∧ (x = -1 → s.2 = optI (frm l n))) (fun s => (s.1 + 1).toNat) (47, w0Of l x) ⟨48, rfl, Nat.le_refl _, fun _ => rfl, fun e => by rw [e, frm_48]; rfl⟩
          (subE_cons rfl (subE_cons rfl (subE_cons rfl (subE_cons rfl (subE_cons rfl (subE_cons rfl (subE_cons rfl (subE_cons rfl subE_nil)))))))) (subB_cons rfl (subB_cons rfl subB_nil)) rfl ?_
        rintro ⟨s, w⟩ ⟨n, hs, hn48, hne, heq⟩
        dsimp only at hs hne heq ⊢
        repeat (first | ((with_reducible refine hK _ _ _ ?_); clear hK) | (with_reducible refine seq_step fun K hK => ?_) | (with_reducible refine block_step ?_) | ((with_reducible refine cond_t ?_ ?_); focus rfl) | ((with_reducible refine cond_f ?_ ?_); focus rfl) | ((with_reducible refine code_id ?_); conv => whnf) | (clear hK; (with_reducible refine hK _ _ _ ?_); clear hK) | (clear hK; clear hK; (with_reducible refine hK _ _ _ ?_); clear hK) | (clear hK; clear hK; clear hK; (with_reducible refine hK _ _ _ ?_); clear hK) | (clear hK; clear hK; clear hK; clear hK; (with_reducible refine hK _ _ _ ?_); clear hK) | (clear hK; clear hK; clear hK; clear hK; clear hK; (with_reducible refine hK _ _ _ ?_); clear hK) | (clear hK; clear hK; clear hK; clear hK; clear hK; clear hK; (with_reducible refine hK _ _ _ ?_); clear hK) | (clear hK; clear hK; clear hK; clear hK; clear hK; clear hK; clear hK; (with_reducible refine hK _ _ _ ?_); clear hK))
        cases n with
        | zero =>
          have hw9 : wOf l x = w := by
            by_cases hx1 : x = -1
            · rw [heq hx1, hx1]; exact wOf_low hll
            · rw [hne hx1]; exact wOf_at hx1
          rw [show decide (s ≥ 0) = false from decide_eq_false (by omega)]
          conv => whnf
          repeat (first | ((with_reducible refine hK _ _ _ ?_); clear hK) | (with_reducible refine seq_step fun K hK => ?_) | (with_reducible refine block_step ?_) | ((with_reducible refine cond_t ?_ ?_); focus rfl) | ((with_reducible refine cond_f ?_ ?_); focus rfl) | ((with_reducible refine code_id ?_); conv => whnf) | (clear hK; (with_reducible refine hK _ _ _ ?_); clear hK) | (clear hK; clear hK; (with_reducible refine hK _ _ _ ?_); clear hK) | (clear hK; clear hK; clear hK; (with_reducible refine hK _ _ _ ?_); clear hK) | (clear hK; clear hK; clear hK; clear hK; (with_reducible refine hK _ _ _ ?_); clear hK) | (clear hK; clear hK; clear hK; clear hK; clear hK; (with_reducible refine hK _ _ _ ?_); clear hK) | (clear hK; clear hK; clear hK; clear hK; clear hK; clear hK; (with_reducible refine hK _ _ _ ?_); clear hK) | (clear hK; clear hK; clear hK; clear hK; clear hK; clear hK; clear hK; (with_reducible refine hK _ _ _ ?_); clear hK))
          exact ⟨(), trivial, subE_cons rfl (subE_cons rfl (subE_cons rfl (subE_cons rfl (subE_cons rfl (subE_cons rfl (subE_cons (by rw [hw9]; rfl) subE_nil)))))), subB_cons rfl (subB_cons rfl subB_nil), rfl⟩
        | succ n =>
          have hsn : s = (n : Int) := by omega
          rw [show decide (s ≥ 0) = true from decide_eq_true (by omega)]
          conv => whnf
          rw [ha]
          conv => whnf
          refine opt_if ⟨by omega, by omega⟩ ?_
          conv => whnf
          refine opt_ld hb (v := iv x) hx ?_
          conv => whnf
          by_cases hx1 : x = -1
          case neg =>
            have hw9 : wOf l x = w := by rw [hne hx1]; exact wOf_at hx1
            rw [show (x == -1) = false from beq_eq_false_iff_ne.2 hx1]
            conv => whnf
            repeat (first | ((with_reducible refine hK _ _ _ ?_); clear hK) | (with_reducible refine seq_step fun K hK => ?_) | (with_reducible refine block_step ?_) | ((with_reducible refine cond_t ?_ ?_); focus rfl) | ((with_reducible refine cond_f ?_ ?_); focus rfl) | ((with_reducible refine code_id ?_); conv => whnf) | (clear hK; (with_reducible refine hK _ _ _ ?_); clear hK) | (clear hK; clear hK; (with_reducible refine hK _ _ _ ?_); clear hK) | (clear hK; clear hK; clear hK; (with_reducible refine hK _ _ _ ?_); clear hK) | (clear hK; clear hK; clear hK; clear hK; (with_reducible refine hK _ _ _ ?_); clear hK) | (clear hK; clear hK; clear hK; clear hK; clear hK; (with_reducible refine hK _ _ _ ?_); clear hK) | (clear hK; clear hK; clear hK; clear hK; clear hK; clear hK; (with_reducible refine hK _ _ _ ?_); clear hK) | (clear hK; clear hK; clear hK; clear hK; clear hK; clear hK; clear hK; (with_reducible refine hK _ _ _ ?_); clear hK))
            exact ⟨(), trivial, subE_cons (by rw [ha]; rfl) (subE_cons rfl (subE_cons rfl (subE_cons rfl (subE_cons rfl (subE_cons rfl (subE_cons (by rw [hw9]; rfl) subE_nil)))))), subB_cons rfl (subB_cons rfl subB_nil), rfl⟩
          rw [show (x == -1) = true from beq_iff_eq.2 hx1]
          conv => whnf
          repeat (first | ((with_reducible refine hK _ _ _ ?_); clear hK) | (with_reducible refine seq_step fun K hK => ?_) | (with_reducible refine block_step ?_) | ((with_reducible refine cond_t ?_ ?_); focus rfl) | ((with_reducible refine cond_f ?_ ?_); focus rfl) | ((with_reducible refine code_id ?_); conv => whnf) | (clear hK; (with_reducible refine hK _ _ _ ?_); clear hK) | (clear hK; clear hK; (with_reducible refine hK _ _ _ ?_); clear hK) | (clear hK; clear hK; clear hK; (with_reducible refine hK _ _ _ ?_); clear hK) | (clear hK; clear hK; clear hK; clear hK; (with_reducible refine hK _ _ _ ?_); clear hK) | (clear hK; clear hK; clear hK; clear hK; clear hK; (with_reducible refine hK _ _ _ ?_); clear hK) | (clear hK; clear hK; clear hK; clear hK; clear hK; clear hK; (with_reducible refine hK _ _ _ ?_); clear hK) | (clear hK; clear hK; clear hK; clear hK; clear hK; clear hK; clear hK; (with_reducible refine hK _ _ _ ?_); clear hK))
          have hnT : n < T.length := by omega
          have hTn : T[n]? = some T[n] := List.getElem?_eq_getElem hnT
          refine opt_if ⟨by omega, by omega⟩ ?_
          conv => whnf
          refine opt_ldE2 (v := .bool T[n]) rfl (by rw [show 0 + s.toNat * 1 = n by omega]; exact bools_get hTn) ?_
          have hprev : IntKind.i64.wrap (s - 1) = (n : Int) - 1 := by rw [wrap_i64] <;> omega
          have hfr := frm_step l (n := n) (by omega)
          cases hb9 : T[n] with
          | true =>
            have hno : ¬ l[n]? = some none := fun e => by
              obtain ⟨y, hy⟩ := (hT.2 n (by omega)).1 (by rw [hTn, hb9])
              rw [hy] at e; cases e
            rw [if_neg hno] at hfr
            conv => whnf
            repeat (first | ((with_reducible refine hK _ _ _ ?_); clear hK) | (with_reducible refine seq_step fun K hK => ?_) | (with_reducible refine block_step ?_) | ((with_reducible refine cond_t ?_ ?_); focus rfl) | ((with_reducible refine cond_f ?_ ?_); focus rfl) | ((with_reducible refine code_id ?_); conv => whnf) | (clear hK; (with_reducible refine hK _ _ _ ?_); clear hK) | (clear hK; clear hK; (with_reducible refine hK _ _ _ ?_); clear hK) | (clear hK; clear hK; clear hK; (with_reducible refine hK _ _ _ ?_); clear hK) | (clear hK; clear hK; clear hK; clear hK; (with_reducible refine hK _ _ _ ?_); clear hK) | (clear hK; clear hK; clear hK; clear hK; clear hK; (with_reducible refine hK _ _ _ ?_); clear hK) | (clear hK; clear hK; clear hK; clear hK; clear hK; clear hK; (with_reducible refine hK _ _ _ ?_); clear hK) | (clear hK; clear hK; clear hK; clear hK; clear hK; clear hK; clear hK; (with_reducible refine hK _ _ _ ?_); clear hK))
            exact ⟨((n : Int) - 1, w), ⟨n, rfl, by omega, hne, fun e => by rw [hfr]; exact heq e⟩, by dsimp only; omega, subE_cons (by rw [ha]; rfl) (subE_cons rfl (subE_cons rfl (subE_cons rfl (subE_cons rfl (subE_cons rfl (subE_cons rfl (subE_cons (int_eq hprev rfl) subE_nil))))))), subB_cons rfl (subB_cons rfl subB_nil), rfl⟩
          | false =>
            have hyes : l[n]? = some none := (hT.free hll (by omega)).1 (by rw [hTn, hb9])
            rw [if_pos hyes] at hfr
            conv => whnf
            repeat (first | ((with_reducible refine hK _ _ _ ?_); clear hK) | (with_reducible refine seq_step fun K hK => ?_) | (with_reducible refine block_step ?_) | ((with_reducible refine cond_t ?_ ?_); focus rfl) | ((with_reducible refine cond_f ?_ ?_); focus rfl) | ((with_reducible refine code_id ?_); conv => whnf) | (clear hK; (with_reducible refine hK _ _ _ ?_); clear hK) | (clear hK; clear hK; (with_reducible refine hK _ _ _ ?_); clear hK) | (clear hK; clear hK; clear hK; (with_reducible refine hK _ _ _ ?_); clear hK) | (clear hK; clear hK; clear hK; clear hK; (with_reducible refine hK _ _ _ ?_); clear hK) | (clear hK; clear hK; clear hK; clear hK; clear hK; (with_reducible refine hK _ _ _ ?_); clear hK) | (clear hK; clear hK; clear hK; clear hK; clear hK; clear hK; (with_reducible refine hK _ _ _ ?_); clear hK) | (clear hK; clear hK; clear hK; clear hK; clear hK; clear hK; clear hK; (with_reducible refine hK _ _ _ ?_); clear hK))
            exact ⟨((n : Int) - 1, s), ⟨n, rfl, by omega, fun e => absurd hx1 e, fun e => by rw [hfr, hsn]; rfl⟩, by dsimp only; omega, subE_cons (by rw [ha]; rfl) (subE_cons rfl (subE_cons rfl (subE_cons rfl (subE_cons rfl (subE_cons rfl (subE_cons rfl (subE_cons (int_eq hprev rfl) subE_nil))))))), subB_cons rfl (subB_cons rfl subB_nil), rfl⟩
      · rintro _ -
        have hWm : wOf l x = (match mMint S.tb 2 x cpL with | .inl _ => (-1 : Int) | .inr s => (s : Int)) := by rw [hl.place]; rfl
        repeat (first | ((with_reducible refine hK _ _ _ ?_); clear hK) | (with_reducible refine seq_step fun K hK => ?_) | (with_reducible refine block_step ?_) | ((with_reducible refine cond_t ?_ ?_); focus rfl) | ((with_reducible refine cond_f ?_ ?_); focus rfl) | ((with_reducible refine code_id ?_); conv => whnf) | (clear hK; (with_reducible refine hK _ _ _ ?_); clear hK) | (clear hK; clear hK; (with_reducible refine hK _ _ _ ?_); clear hK) | (clear hK; clear hK; clear hK; (with_reducible refine hK _ _ _ ?_); clear hK) | (clear hK; clear hK; clear hK; clear hK; (with_reducible refine hK _ _ _ ?_); clear hK) | (clear hK; clear hK; clear hK; clear hK; clear hK; (with_reducible refine hK _ _ _ ?_); clear hK) | (clear hK; clear hK; clear hK; clear hK; clear hK; clear hK; (with_reducible refine hK _ _ _ ?_); clear hK) | (clear hK; clear hK; clear hK; clear hK; clear hK; clear hK; clear hK; (with_reducible refine hK _ _ _ ?_); clear hK) | (refine ⟨_, _, SubH.refl _, SubB.refl _, ?_⟩; conv => whnf) | (refine ⟨⟨SubH.refl _, SubB.refl _⟩, ?_⟩; conv => whnf) | (refine ⟨_, _, ⟨SubH.refl _, SubB.refl _⟩, SubH.refl _, SubB.refl _, ?_⟩; conv => whnf))
        rw [ha]
        conv => whnf
        refine opt_if ⟨by omega, by omega⟩ ?_
        conv => whnf
        refine opt_ld hb (v := iv x) hx ?_
        conv => whnf
        refine mint36 hl.wf hg 2 x cpL (fun e he g3 hg3 => ?_) (fun n s a3 hs hn hw3 g3 hg3 => ?_)
        · rw [he] at hWm
          replace hWm : wOf l x = -1 := hWm
          rw [hWm]
          have he0 : e ≠ 0 := by
            rw [hl.place] at he
            split at he
            · unfold mPlace at he
              split at he
              · split at he <;> cases he
                decide
              · split at he <;> cases he
                decide
            · cases he; decide
          conv => whnf
          repeat (first | ((with_reducible refine hK _ _ _ ?_); clear hK) | (with_reducible refine seq_step fun K hK => ?_) | (with_reducible refine block_step ?_) | ((with_reducible refine cond_t ?_ ?_); focus rfl) | ((with_reducible refine cond_f ?_ ?_); focus rfl) | ((with_reducible refine code_id ?_); conv => whnf) | (clear hK; (with_reducible refine hK _ _ _ ?_); clear hK) | (clear hK; clear hK; (with_reducible refine hK _ _ _ ?_); clear hK) | (clear hK; clear hK; clear hK; (with_reducible refine hK _ _ _ ?_); clear hK) | (clear hK; clear hK; clear hK; clear hK; (with_reducible refine hK _ _ _ ?_); clear hK) | (clear hK; clear hK; clear hK; clear hK; clear hK; (with_reducible refine hK _ _ _ ?_); clear hK) | (clear hK; clear hK; clear hK; clear hK; clear hK; clear hK; (with_reducible refine hK _ _ _ ?_); clear hK) | (clear hK; clear hK; clear hK; clear hK; clear hK; clear hK; clear hK; (with_reducible refine hK _ _ _ ?_); clear hK) | (refine ⟨_, _, SubH.refl _, SubB.refl _, ?_⟩; conv => whnf) | (refine ⟨⟨SubH.refl _, SubB.refl _⟩, ?_⟩; conv => whnf) | (refine ⟨_, _, ⟨SubH.refl _, SubB.refl _⟩, SubH.refl _, SubB.refl _, ?_⟩; conv => whnf))
          rw [show (e == 0) = false from beq_eq_false_iff_ne.2 he0]
          conv => whnf
          repeat (first | ((with_reducible refine hK _ _ _ ?_); clear hK) | (with_reducible refine seq_step fun K hK => ?_) | (with_reducible refine block_step ?_) | ((with_reducible refine cond_t ?_ ?_); focus rfl) | ((with_reducible refine cond_f ?_ ?_); focus rfl) | ((with_reducible refine code_id ?_); conv => whnf) | (clear hK; (with_reducible refine hK _ _ _ ?_); clear hK) | (clear hK; clear hK; (with_reducible refine hK _ _ _ ?_); clear hK) | (clear hK; clear hK; clear hK; (with_reducible refine hK _ _ _ ?_); clear hK) | (clear hK; clear hK; clear hK; clear hK; (with_reducible refine hK _ _ _ ?_); clear hK) | (clear hK; clear hK; clear hK; clear hK; clear hK; (with_reducible refine hK _ _ _ ?_); clear hK) | (clear hK; clear hK; clear hK; clear hK; clear hK; clear hK; (with_reducible refine hK _ _ _ ?_); clear hK) | (clear hK; clear hK; clear hK; clear hK; clear hK; clear hK; clear hK; (with_reducible refine hK _ _ _ ?_); clear hK) | (refine ⟨_, _, SubH.refl _, SubB.refl _, ?_⟩; conv => whnf) | (refine ⟨⟨SubH.refl _, SubB.refl _⟩, ?_⟩; conv => whnf) | (refine ⟨_, _, ⟨SubH.refl _, SubB.refl _⟩, SubH.refl _, SubB.refl _, ?_⟩; conv => whnf))
          exact ⟨((k + 1, S, l, T), g3), ⟨by dsimp only; omega, by dsimp only; omega, hl, hT, hg3⟩, by dsimp only; omega, subE_cons (by rw [ha]; rfl) (subE_cons rfl (subE_cons rfl (subE_cons rfl (subE_cons rfl (subE_cons (int_eq hnext rfl) subE_nil))))), subB_cons rfl (subB_cons rfl subB_nil), rfl⟩
        · obtain rfl : n = 2 := by omega
          have hpl : okAt x ∧ mPlace l x = .inr s := by
            rw [hl.place] at hs
            split at hs
            · rename_i h1; exact ⟨h1, hs⟩
            · cases hs
          have hs48 : s < 48 := by
            have := (List.getElem?_eq_some_iff.1 (mPlace_free hll hpl.1 hpl.2)).1
            omega
          rw [hs] at hWm
          replace hWm : wOf l x = (s : Int) := hWm
          rw [hWm]
          have hl4 := hl.add hs48 hw3
          have hT4 := hT.set hll hs48 a3
          conv => whnf
          repeat (first | ((with_reducible refine hK _ _ _ ?_); clear hK) | (with_reducible refine seq_step fun K hK => ?_) | (with_reducible refine block_step ?_) | ((with_reducible refine cond_t ?_ ?_); focus rfl) | ((with_reducible refine cond_f ?_ ?_); focus rfl) | ((with_reducible refine code_id ?_); conv => whnf) | (clear hK; (with_reducible refine hK _ _ _ ?_); clear hK) | (clear hK; clear hK; (with_reducible refine hK _ _ _ ?_); clear hK) | (clear hK; clear hK; clear hK; (with_reducible refine hK _ _ _ ?_); clear hK) | (clear hK; clear hK; clear hK; clear hK; (with_reducible refine hK _ _ _ ?_); clear hK) | (clear hK; clear hK; clear hK; clear hK; clear hK; (with_reducible refine hK _ _ _ ?_); clear hK) | (clear hK; clear hK; clear hK; clear hK; clear hK; clear hK; (with_reducible refine hK _ _ _ ?_); clear hK) | (clear hK; clear hK; clear hK; clear hK; clear hK; clear hK; clear hK; (with_reducible refine hK _ _ _ ?_); clear hK) | (refine ⟨_, _, SubH.refl _, SubB.refl _, ?_⟩; conv => whnf) | (refine ⟨⟨SubH.refl _, SubB.refl _⟩, ?_⟩; conv => whnf) | (refine ⟨_, _, ⟨SubH.refl _, SubB.refl _⟩, SubH.refl _, SubB.refl _, ?_⟩; conv => whnf))
          rw [bne_self_eq_false]
          conv => whnf
          rw [show decide ((s : Int) ≥ 0) = true from decide_eq_true (by omega)]
          conv => whnf
          repeat (first | ((with_reducible refine hK _ _ _ ?_); clear hK) | (with_reducible refine seq_step fun K hK => ?_) | (with_reducible refine block_step ?_) | ((with_reducible refine cond_t ?_ ?_); focus rfl) | ((with_reducible refine cond_f ?_ ?_); focus rfl) | ((with_reducible refine code_id ?_); conv => whnf) | (clear hK; (with_reducible refine hK _ _ _ ?_); clear hK) | (clear hK; clear hK; (with_reducible refine hK _ _ _ ?_); clear hK) | (clear hK; clear hK; clear hK; (with_reducible refine hK _ _ _ ?_); clear hK) | (clear hK; clear hK; clear hK; clear hK; (with_reducible refine hK _ _ _ ?_); clear hK) | (clear hK; clear hK; clear hK; clear hK; clear hK; (with_reducible refine hK _ _ _ ?_); clear hK) | (clear hK; clear hK; clear hK; clear hK; clear hK; clear hK; (with_reducible refine hK _ _ _ ?_); clear hK) | (clear hK; clear hK; clear hK; clear hK; clear hK; clear hK; clear hK; (with_reducible refine hK _ _ _ ?_); clear hK) | (refine ⟨_, _, SubH.refl _, SubB.refl _, ?_⟩; conv => whnf) | (refine ⟨⟨SubH.refl _, SubB.refl _⟩, ?_⟩; conv => whnf) | (refine ⟨_, _, ⟨SubH.refl _, SubB.refl _⟩, SubH.refl _, SubB.refl _, ?_⟩; conv => whnf))
          rw [show decide ((s : Int) ≥ 0) = true from decide_eq_true (by omega)]
          repeat (first | ((with_reducible refine hK _ _ _ ?_); clear hK) | (with_reducible refine seq_step fun K hK => ?_) | (with_reducible refine block_step ?_) | ((with_reducible refine cond_t ?_ ?_); focus rfl) | ((with_reducible refine cond_f ?_ ?_); focus rfl) | ((with_reducible refine code_id ?_); conv => whnf) | (clear hK; (with_reducible refine hK _ _ _ ?_); clear hK) | (clear hK; clear hK; (with_reducible refine hK _ _ _ ?_); clear hK) | (clear hK; clear hK; clear hK; (with_reducible refine hK _ _ _ ?_); clear hK) | (clear hK; clear hK; clear hK; clear hK; (with_reducible refine hK _ _ _ ?_); clear hK) | (clear hK; clear hK; clear hK; clear hK; clear hK; (with_reducible refine hK _ _ _ ?_); clear hK) | (clear hK; clear hK; clear hK; clear hK; clear hK; clear hK; (with_reducible refine hK _ _ _ ?_); clear hK) | (clear hK; clear hK; clear hK; clear hK; clear hK; clear hK; clear hK; (with_reducible refine hK _ _ _ ?_); clear hK) | (refine ⟨_, _, SubH.refl _, SubB.refl _, ?_⟩; conv => whnf) | (refine ⟨⟨SubH.refl _, SubB.refl _⟩, ?_⟩; conv => whnf) | (refine ⟨_, _, ⟨SubH.refl _, SubB.refl _⟩, SubH.refl _, SubB.refl _, ?_⟩; conv => whnf))
          refine opt_if ⟨by omega, by omega⟩ ?_
          conv => whnf
          refine opt_stE2 rfl (by rw [List.length_map, hT.1]; omega) rfl rfl ?_
          rw [show (T.map Value.bool).set (0 + (s : Int).toNat * 1) (.bool true) = (T.set s true).map .bool by rw [List.map_set, show 0 + (s : Int).toNat * 1 = s by omega]]
          conv => whnf
          repeat (first | ((with_reducible refine hK _ _ _ ?_); clear hK) | (with_reducible refine seq_step fun K hK => ?_) | (with_reducible refine block_step ?_) | ((with_reducible refine cond_t ?_ ?_); focus rfl) | ((with_reducible refine cond_f ?_ ?_); focus rfl) | ((with_reducible refine code_id ?_); conv => whnf) | (clear hK; (with_reducible refine hK _ _ _ ?_); clear hK) | (clear hK; clear hK; (with_reducible refine hK _ _ _ ?_); clear hK) | (clear hK; clear hK; clear hK; (with_reducible refine hK _ _ _ ?_); clear hK) | (clear hK; clear hK; clear hK; clear hK; (with_reducible refine hK _ _ _ ?_); clear hK) | (clear hK; clear hK; clear hK; clear hK; clear hK; (with_reducible refine hK _ _ _ ?_); clear hK) | (clear hK; clear hK; clear hK; clear hK; clear hK; clear hK; (with_reducible refine hK _ _ _ ?_); clear hK) | (clear hK; clear hK; clear hK; clear hK; clear hK; clear hK; clear hK; (with_reducible refine hK _ _ _ ?_); clear hK) | (refine ⟨_, _, SubH.refl _, SubB.refl _, ?_⟩; conv => whnf) | (refine ⟨⟨SubH.refl _, SubB.refl _⟩, ?_⟩; conv => whnf) | (refine ⟨_, _, ⟨SubH.refl _, SubB.refl _⟩, SubH.refl _, SubB.refl _, ?_⟩; conv => whnf))
          exact ⟨((k + 1, _, _, T.set s true), g3), ⟨by dsimp only; omega, by dsimp only; omega, hl4, hT4, hg3⟩, by dsimp only; omega, subE_cons (by rw [ha]; rfl) (subE_cons rfl (subE_cons rfl (subE_cons rfl (subE_cons rfl (subE_cons (int_eq hnext rfl) subE_nil))))), subB_cons rfl (subB_cons rfl subB_nil), rfl⟩
  · rintro ⟨⟨S, l, T⟩, g⟩ ⟨hl, hT, hg⟩
    dsimp only at hl hT hg ⊢
    have hll := hl.len
    refine cut_intro (σ := (Bs × List (Option Nat) × List Bool) × Hp) (fun s => [(5, .v (ptr b)), (6, .l 6 0), (7, .l 7 0)]) (fun s => [(6, [iv 3, iv 0, iv 1, iv 0]), (7, s.1.2.2.map .bool)]) (fun s => s.2)
      (fun s => Low s.1.1 t s.1.2.1 ∧ Tk s.1.2.1 s.1.2.2 ∧ Has (CapsA b s.1.1 :: [Is h]) s.2) ?_ ?_
    · repeat (first | ((with_reducible refine hK _ _ _ ?_); clear hK) | (with_reducible refine seq_step fun K hK => ?_) | (with_reducible refine block_step ?_) | ((with_reducible refine cond_t ?_ ?_); focus rfl) | ((with_reducible refine cond_f ?_ ?_); focus rfl) | ((with_reducible refine code_id ?_); conv => whnf) | (clear hK; (with_reducible refine hK _ _ _ ?_); clear hK) | (clear hK; clear hK; (with_reducible refine hK _ _ _ ?_); clear hK) | (clear hK; clear hK; clear hK; (with_reducible refine hK _ _ _ ?_); clear hK) | (clear hK; clear hK; clear hK; clear hK; (with_reducible refine hK _ _ _ ?_); clear hK) | (clear hK; clear hK; clear hK; clear hK; clear hK; (with_reducible refine hK _ _ _ ?_); clear hK) | (clear hK; clear hK; clear hK; clear hK; clear hK; clear hK; (with_reducible refine hK _ _ _ ?_); clear hK) | (clear hK; clear hK; clear hK; clear hK; clear hK; clear hK; clear hK; (with_reducible refine hK _ _ _ ?_); clear hK))
      refine loop_intro (σ := (Nat × Bs × List (Option Nat) × List Bool) × Hp) (fun s => [(1, .v (.slice a2 len2 cap2)), (5, .v (ptr b)), (6, .l 6 0), (7, .l 7 0), (13, .v (iv s.1.1))]) (fun s => [(6, [iv 3, iv 0, iv 1, iv 0]), (7, s.1.2.2.2.map .bool)]) (fun s => s.2)
        (fun s => s.1.1 ≤ 200 ∧ s.1.1 ≤ len2 ∧ Low s.1.2.1 t s.1.2.2.1 ∧ Tk s.1.2.2.1 s.1.2.2.2 ∧ Has (CapsA b s.1.2.1 :: [Is h]) s.2)
        (fun s => 200 - s.1.1) ((0, S, l, T), g) ⟨Nat.zero_le _, Nat.zero_le _, hl, hT, hg⟩ (subE_cons rfl (subE_cons rfl (subE_cons rfl (subE_cons rfl (subE_cons rfl subE_nil))))) (subB_cons rfl (subB_cons rfl subB_nil)) rfl ?_
      clear hl hT hg hll
      rintro ⟨⟨k, S, l, T⟩, g⟩ ⟨hk2, hkl, hl, hT, hg⟩
      dsimp only at hk2 hkl hl hT hg ⊢
      have hll := hl.len
      have hnext : IntKind.i64.wrap ((k : Int) + 1) = ((k + 1 : Nat) : Int) := wrap_nat (by omega)
      repeat (first | ((with_reducible refine hK _ _ _ ?_); clear hK) | (with_reducible refine seq_step fun K hK => ?_) | (with_reducible refine block_step ?_) | ((with_reducible refine cond_t ?_ ?_); focus rfl) | ((with_reducible refine cond_f ?_ ?_); focus rfl) | ((with_reducible refine code_id ?_); conv => whnf) | (clear hK; (with_reducible refine hK _ _ _ ?_); clear hK) | (clear hK; clear hK; (with_reducible refine hK _ _ _ ?_); clear hK) | (clear hK; clear hK; clear hK; (with_reducible refine hK _ _ _ ?_); clear hK) | (clear hK; clear hK; clear hK; clear hK; (with_reducible refine hK _ _ _ ?_); clear hK) | (clear hK; clear hK; clear hK; clear hK; clear hK; (with_reducible refine hK _ _ _ ?_); clear hK) | (clear hK; clear hK; clear hK; clear hK; clear hK; clear hK; (with_reducible refine hK _ _ _ ?_); clear hK) | (clear hK; clear hK; clear hK; clear hK; clear hK; clear hK; clear hK; (with_reducible refine hK _ _ _ ?_); clear hK))
      by_cases c3 : k < len2
      case neg =>
        rw [show decide ((k : Int) < (len2 : Nat)) = false from decide_eq_false (by omega)]
        conv => whnf
        repeat (first | ((with_reducible refine hK _ _ _ ?_); clear hK) | (with_reducible refine seq_step fun K hK => ?_) | (with_reducible refine block_step ?_) | ((with_reducible refine cond_t ?_ ?_); focus rfl) | ((with_reducible refine cond_f ?_ ?_); focus rfl) | ((with_reducible refine code_id ?_); conv => whnf) | (clear hK; (with_reducible refine hK _ _ _ ?_); clear hK) | (clear hK; clear hK; (with_reducible refine hK _ _ _ ?_); clear hK) | (clear hK; clear hK; clear hK; (with_reducible refine hK _ _ _ ?_); clear hK) | (clear hK; clear hK; clear hK; clear hK; (with_reducible refine hK _ _ _ ?_); clear hK) | (clear hK; clear hK; clear hK; clear hK; clear hK; (with_reducible refine hK _ _ _ ?_); clear hK) | (clear hK; clear hK; clear hK; clear hK; clear hK; clear hK; (with_reducible refine hK _ _ _ ?_); clear hK) | (clear hK; clear hK; clear hK; clear hK; clear hK; clear hK; clear hK; (with_reducible refine hK _ _ _ ?_); clear hK))
        exact ⟨((S, l, T), g), ⟨hl, hT, hg⟩, subE_cons rfl (subE_cons rfl (subE_cons rfl subE_nil)), subB_cons rfl (subB_cons rfl subB_nil), rfl⟩
      rw [show decide ((k : Int) < (len2 : Nat)) = true from decide_eq_true (by omega)]
      conv => whnf
      by_cases c4 : k < 200
      case neg =>
        rw [show decide ((k : Int) < 200) = false from decide_eq_false (by omega)]
        conv => whnf
        repeat (first | ((with_reducible refine hK _ _ _ ?_); clear hK) | (with_reducible refine seq_step fun K hK => ?_) | (with_reducible refine block_step ?_) | ((with_reducible refine cond_t ?_ ?_); focus rfl) | ((with_reducible refine cond_f ?_ ?_); focus rfl) | ((with_reducible refine code_id ?_); conv => whnf) | (clear hK; (with_reducible refine hK _ _ _ ?_); clear hK) | (clear hK; clear hK; (with_reducible refine hK _ _ _ ?_); clear hK) | (clear hK; clear hK; clear hK; (with_reducible refine hK _ _ _ ?_); clear hK) | (clear hK; clear hK; clear hK; clear hK; (with_reducible refine hK _ _ _ ?_); clear hK) | (clear hK; clear hK; clear hK; clear hK; clear hK; (with_reducible refine hK _ _ _ ?_); clear hK) | (clear hK; clear hK; clear hK; clear hK; clear hK; clear hK; (with_reducible refine hK _ _ _ ?_); clear hK) | (clear hK; clear hK; clear hK; clear hK; clear hK; clear hK; clear hK; (with_reducible refine hK _ _ _ ?_); clear hK))
        exact ⟨((S, l, T), g), ⟨hl, hT, hg⟩, subE_cons rfl (subE_cons rfl (subE_cons rfl subE_nil)), subB_cons rfl (subB_cons rfl subB_nil), rfl⟩
      rw [show decide ((k : Int) < 200) = true from decide_eq_true (by omega)]
      conv => whnf
      repeat (first | ((with_reducible refine hK _ _ _ ?_); clear hK) | (with_reducible refine seq_step fun K hK => ?_) | (with_reducible refine block_step ?_) | ((with_reducible refine cond_t ?_ ?_); focus rfl) | ((with_reducible refine cond_f ?_ ?_); focus rfl) | ((with_reducible refine code_id ?_); conv => whnf) | (clear hK; (with_reducible refine hK _ _ _ ?_); clear hK) | (clear hK; clear hK; (with_reducible refine hK _ _ _ ?_); clear hK) | (clear hK; clear hK; clear hK; (with_reducible refine hK _ _ _ ?_); clear hK) | (clear hK; clear hK; clear hK; clear hK; (with_reducible refine hK _ _ _ ?_); clear hK) | (clear hK; clear hK; clear hK; clear hK; clear hK; (with_reducible refine hK _ _ _ ?_); clear hK) | (clear hK; clear hK; clear hK; clear hK; clear hK; clear hK; (with_reducible refine hK _ _ _ ?_); clear hK) | (clear hK; clear hK; clear hK; clear hK; clear hK; clear hK; clear hK; (with_reducible refine hK _ _ _ ?_); clear hK))
      obtain ⟨bk, off, c, ty, z, ha2, hb0, hc, hwf⟩ := hR2 k c3
      have hb2 : g bk = some (.cells c ty z) := hg.is 1 rfl bk _ hb0
      obtain ⟨x2, hxk⟩ : ∃ x, x = f2 k := ⟨_, rfl⟩
      rw [← hxk] at hc
      have hx2 : c[off + (k : Int).toNat * 1]? = some (iv x2) := hc
      rw [ha2]
      conv => whnf
      refine opt_if ⟨by omega, by omega⟩ ?_
      conv => whnf
      refine opt_ld hb2 (v := iv x2) hx2 ?_
      conv => whnf
      by_cases d0 : 0 ≤ x2
      case neg =>
        rw [show decide (x2 ≥ 0) = false from decide_eq_false d0]
        conv => whnf
        repeat (first | ((with_reducible refine hK _ _ _ ?_); clear hK) | (with_reducible refine seq_step fun K hK => ?_) | (with_reducible refine block_step ?_) | ((with_reducible refine cond_t ?_ ?_); focus rfl) | ((with_reducible refine cond_f ?_ ?_); focus rfl) | ((with_reducible refine code_id ?_); conv => whnf) | (clear hK; (with_reducible refine hK _ _ _ ?_); clear hK) | (clear hK; clear hK; (with_reducible refine hK _ _ _ ?_); clear hK) | (clear hK; clear hK; clear hK; (with_reducible refine hK _ _ _ ?_); clear hK) | (clear hK; clear hK; clear hK; clear hK; (with_reducible refine hK _ _ _ ?_); clear hK) | (clear hK; clear hK; clear hK; clear hK; clear hK; (with_reducible refine hK _ _ _ ?_); clear hK) | (clear hK; clear hK; clear hK; clear hK; clear hK; clear hK; (with_reducible refine hK _ _ _ ?_); clear hK) | (clear hK; clear hK; clear hK; clear hK; clear hK; clear hK; clear hK; (with_reducible refine hK _ _ _ ?_); clear hK))
        exact ⟨((k + 1, S, l, T), g), ⟨by dsimp only; omega, by dsimp only; omega, hl, hT, hg⟩, by dsimp only; omega, subE_cons (by rw [ha2]; rfl) (subE_cons rfl (subE_cons rfl (subE_cons rfl (subE_cons (int_eq hnext rfl) subE_nil)))), subB_cons rfl (subB_cons rfl subB_nil), rfl⟩
      rw [show decide (x2 ≥ 0) = true from decide_eq_true d0]
      conv => whnf
      refine opt_if ⟨by omega, by omega⟩ ?_
      conv => whnf
      refine opt_ld hb2 (v := iv x2) hx2 ?_
      conv => whnf
      by_cases d1 : x2 < 48
      case neg =>
        rw [show decide (x2 < 48) = false from decide_eq_false d1]
        conv => whnf
        repeat (first | ((with_reducible refine hK _ _ _ ?_); clear hK) | (with_reducible refine seq_step fun K hK => ?_) | (with_reducible refine block_step ?_) | ((with_reducible refine cond_t ?_ ?_); focus rfl) | ((with_reducible refine cond_f ?_ ?_); focus rfl) | ((with_reducible refine code_id ?_); conv => whnf) | (clear hK; (with_reducible refine hK _ _ _ ?_); clear hK) | (clear hK; clear hK; (with_reducible refine hK _ _ _ ?_); clear hK) | (clear hK; clear hK; clear hK; (with_reducible refine hK _ _ _ ?_); clear hK) | (clear hK; clear hK; clear hK; clear hK; (with_reducible refine hK _ _ _ ?_); clear hK) | (clear hK; clear hK; clear hK; clear hK; clear hK; (with_reducible refine hK _ _ _ ?_); clear hK) | (clear hK; clear hK; clear hK; clear hK; clear hK; clear hK; (with_reducible refine hK _ _ _ ?_); clear hK) | (clear hK; clear hK; clear hK; clear hK; clear hK; clear hK; clear hK; (with_reducible refine hK _ _ _ ?_); clear hK))
        exact ⟨((k + 1, S, l, T), g), ⟨by dsimp only; omega, by dsimp only; omega, hl, hT, hg⟩, by dsimp only; omega, subE_cons (by rw [ha2]; rfl) (subE_cons rfl (subE_cons rfl (subE_cons rfl (subE_cons (int_eq hnext rfl) subE_nil)))), subB_cons rfl (subB_cons rfl subB_nil), rfl⟩
      rw [show decide (x2 < 48) = true from decide_eq_true d1]
      conv => whnf
      repeat (first | ((with_reducible refine hK _ _ _ ?_); clear hK) | (with_reducible refine seq_step fun K hK => ?_) | (with_reducible refine block_step ?_) | ((with_reducible refine cond_t ?_ ?_); focus rfl) | ((with_reducible refine cond_f ?_ ?_); focus rfl) | ((with_reducible refine code_id ?_); conv => whnf) | (clear hK; (with_reducible refine hK _ _ _ ?_); clear hK) | (clear hK; clear hK; (with_reducible refine hK _ _ _ ?_); clear hK) | (clear hK; clear hK; clear hK; (with_reducible refine hK _ _ _ ?_); clear hK) | (clear hK; clear hK; clear hK; clear hK; (with_reducible refine hK _ _ _ ?_); clear hK) | (clear hK; clear hK; clear hK; clear hK; clear hK; (with_reducible refine hK _ _ _ ?_); clear hK) | (clear hK; clear hK; clear hK; clear hK; clear hK; clear hK; (with_reducible refine hK _ _ _ ?_); clear hK) | (clear hK; clear hK; clear hK; clear hK; clear hK; clear hK; clear hK; (with_reducible refine hK _ _ _ ?_); clear hK))
      obtain ⟨m, hm⟩ := Int.eq_ofNat_of_zero_le d0
      have hm48 : m < 48 := by omega
      have hmT : m < T.length := by rw [hT.1]; exact hm48
      have hTm : T[m]? = some T[m] := List.getElem?_eq_getElem hmT
      refine opt_if ⟨by omega, by omega⟩ ?_
      conv => whnf
      refine opt_ld hb2 (v := iv x2) hx2 ?_
      conv => whnf
      refine drop12 hl.wf hg 2 x2 (fun e he => ?_) (fun y hy he hs g3 hg3 => ?_)
      · have hfree : T[m]? = some false := by
          cases hb9 : T[m] with
          | false => rw [hTm, hb9]
          | true =>
            obtain ⟨w, hw⟩ := (hT.2 m hm48).1 (by rw [hTm, hb9])
            unfold mLook at he
            rw [hl.got] at he
            dsimp only at he
            rw [hm, got_nat, hw] at he
            cases he
        have hle : l[m]? = some none := (hT.free hll hm48).1 hfree
        have he0 : (e == 0) = false := by
          rcases mLook_k2 he with rfl | rfl <;> rfl
        have hTs : T.set m false = T := by
          apply List.ext_getElem?
          intro j
          by_cases hj : m = j
          · subst hj; rw [List.getElem?_set_self hmT, hfree]
          · rw [List.getElem?_set_ne hj]
        conv => whnf
        repeat (first | ((with_reducible refine hK _ _ _ ?_); clear hK) | (with_reducible refine seq_step fun K hK => ?_) | (with_reducible refine block_step ?_) | ((with_reducible refine cond_t ?_ ?_); focus rfl) | ((with_reducible refine cond_f ?_ ?_); focus rfl) | ((with_reducible refine code_id ?_); conv => whnf) | (clear hK; (with_reducible refine hK _ _ _ ?_); clear hK) | (clear hK; clear hK; (with_reducible refine hK _ _ _ ?_); clear hK) | (clear hK; clear hK; clear hK; (with_reducible refine hK _ _ _ ?_); clear hK) | (clear hK; clear hK; clear hK; clear hK; (with_reducible refine hK _ _ _ ?_); clear hK) | (clear hK; clear hK; clear hK; clear hK; clear hK; (with_reducible refine hK _ _ _ ?_); clear hK) | (clear hK; clear hK; clear hK; clear hK; clear hK; clear hK; (with_reducible refine hK _ _ _ ?_); clear hK) | (clear hK; clear hK; clear hK; clear hK; clear hK; clear hK; clear hK; (with_reducible refine hK _ _ _ ?_); clear hK))
        rw [he0]
        refine opt_if ⟨by omega, by omega⟩ ?_
        conv => whnf
        refine opt_ld hb2 (v := iv x2) hx2 ?_
        conv => whnf
        refine opt_if ⟨by omega, by omega⟩ ?_
        conv => whnf
        refine opt_ldE2 (v := .bool false) rfl (by rw [show 0 + x2.toNat * 1 = m by omega]; exact bools_get hfree) ?_
        conv => whnf
        repeat (first | ((with_reducible refine hK _ _ _ ?_); clear hK) | (with_reducible refine seq_step fun K hK => ?_) | (with_reducible refine block_step ?_) | ((with_reducible refine cond_t ?_ ?_); focus rfl) | ((with_reducible refine cond_f ?_ ?_); focus rfl) | ((with_reducible refine code_id ?_); conv => whnf) | (clear hK; (with_reducible refine hK _ _ _ ?_); clear hK) | (clear hK; clear hK; (with_reducible refine hK _ _ _ ?_); clear hK) | (clear hK; clear hK; clear hK; (with_reducible refine hK _ _ _ ?_); clear hK) | (clear hK; clear hK; clear hK; clear hK; (with_reducible refine hK _ _ _ ?_); clear hK) | (clear hK; clear hK; clear hK; clear hK; clear hK; (with_reducible refine hK _ _ _ ?_); clear hK) | (clear hK; clear hK; clear hK; clear hK; clear hK; clear hK; (with_reducible refine hK _ _ _ ?_); clear hK) | (clear hK; clear hK; clear hK; clear hK; clear hK; clear hK; clear hK; (with_reducible refine hK _ _ _ ?_); clear hK))
        refine opt_if ⟨by omega, by omega⟩ ?_
        conv => whnf
        refine opt_ld hb2 (v := iv x2) hx2 ?_
        conv => whnf
        refine opt_if ⟨by omega, by omega⟩ ?_
        conv => whnf
        refine opt_stE2 rfl (by rw [List.length_map, hT.1]; omega) rfl rfl ?_
        rw [show (T.map Value.bool).set (0 + x2.toNat * 1) (.bool false) = (T.set m false).map .bool by rw [List.map_set, show 0 + x2.toNat * 1 = m by omega]]
        rw [hTs]
        conv => whnf
        repeat (first | ((with_reducible refine hK _ _ _ ?_); clear hK) | (with_reducible refine seq_step fun K hK => ?_) | (with_reducible refine block_step ?_) | ((with_reducible refine cond_t ?_ ?_); focus rfl) | ((with_reducible refine cond_f ?_ ?_); focus rfl) | ((with_reducible refine code_id ?_); conv => whnf) | (clear hK; (with_reducible refine hK _ _ _ ?_); clear hK) | (clear hK; clear hK; (with_reducible refine hK _ _ _ ?_); clear hK) | (clear hK; clear hK; clear hK; (with_reducible refine hK _ _ _ ?_); clear hK) | (clear hK; clear hK; clear hK; clear hK; (with_reducible refine hK _ _ _ ?_); clear hK) | (clear hK; clear hK; clear hK; clear hK; clear hK; (with_reducible refine hK _ _ _ ?_); clear hK) | (clear hK; clear hK; clear hK; clear hK; clear hK; clear hK; (with_reducible refine hK _ _ _ ?_); clear hK) | (clear hK; clear hK; clear hK; clear hK; clear hK; clear hK; clear hK; (with_reducible refine hK _ _ _ ?_); clear hK))
        exact ⟨((k + 1, S, l, T), g), ⟨by dsimp only; omega, by dsimp only; omega, hl, hT, hg⟩, by dsimp only; omega, subE_cons (by rw [ha2]; rfl) (subE_cons rfl (subE_cons rfl (subE_cons rfl (subE_cons (int_eq hnext rfl) subE_nil)))), subB_cons rfl (subB_cons rfl subB_nil), rfl⟩
      · have hys : y.slot = m := by omega
        have htaken : T[m]? = some true := (hT.2 m hm48).2 ⟨y.a, by rw [← hys]; exact hl.wf.taken hl.at2 hy (hl.all y hy).1⟩
        have hl4 := hl.rm hy
        have hT4 := hT.cut hll hm48
        rw [hys] at hl4
        have hb3 : g3 bk = some (.cells c ty z) := hg3.is 1 rfl bk _ hb0
        conv => whnf
        repeat (first | ((with_reducible refine hK _ _ _ ?_); clear hK) | (with_reducible refine seq_step fun K hK => ?_) | (with_reducible refine block_step ?_) | ((with_reducible refine cond_t ?_ ?_); focus rfl) | ((with_reducible refine cond_f ?_ ?_); focus rfl) | ((with_reducible refine code_id ?_); conv => whnf) | (clear hK; (with_reducible refine hK _ _ _ ?_); clear hK) | (clear hK; clear hK; (with_reducible refine hK _ _ _ ?_); clear hK) | (clear hK; clear hK; clear hK; (with_reducible refine hK _ _ _ ?_); clear hK) | (clear hK; clear hK; clear hK; clear hK; (with_reducible refine hK _ _ _ ?_); clear hK) | (clear hK; clear hK; clear hK; clear hK; clear hK; (with_reducible refine hK _ _ _ ?_); clear hK) | (clear hK; clear hK; clear hK; clear hK; clear hK; clear hK; (with_reducible refine hK _ _ _ ?_); clear hK) | (clear hK; clear hK; clear hK; clear hK; clear hK; clear hK; clear hK; (with_reducible refine hK _ _ _ ?_); clear hK))
        refine opt_if ⟨by omega, by omega⟩ ?_
        conv => whnf
        refine opt_ld hb3 (v := iv x2) hx2 ?_
        conv => whnf
        refine opt_if ⟨by omega, by omega⟩ ?_
        conv => whnf
        refine opt_ldE2 (v := .bool true) rfl (by rw [show 0 + x2.toNat * 1 = m by omega]; exact bools_get htaken) ?_
        conv => whnf
        repeat (first | ((with_reducible refine hK _ _ _ ?_); clear hK) | (with_reducible refine seq_step fun K hK => ?_) | (with_reducible refine block_step ?_) | ((with_reducible refine cond_t ?_ ?_); focus rfl) | ((with_reducible refine cond_f ?_ ?_); focus rfl) | ((with_reducible refine code_id ?_); conv => whnf) | (clear hK; (with_reducible refine hK _ _ _ ?_); clear hK) | (clear hK; clear hK; (with_reducible refine hK _ _ _ ?_); clear hK) | (clear hK; clear hK; clear hK; (with_reducible refine hK _ _ _ ?_); clear hK) | (clear hK; clear hK; clear hK; clear hK; (with_reducible refine hK _ _ _ ?_); clear hK) | (clear hK; clear hK; clear hK; clear hK; clear hK; (with_reducible refine hK _ _ _ ?_); clear hK) | (clear hK; clear hK; clear hK; clear hK; clear hK; clear hK; (with_reducible refine hK _ _ _ ?_); clear hK) | (clear hK; clear hK; clear hK; clear hK; clear hK; clear hK; clear hK; (with_reducible refine hK _ _ _ ?_); clear hK))
        refine opt_if ⟨by omega, by omega⟩ ?_
        conv => whnf
        refine opt_ld hb3 (v := iv x2) hx2 ?_
        conv => whnf
        refine opt_if ⟨by omega, by omega⟩ ?_
        conv => whnf
        refine opt_stE2 rfl (by rw [List.length_map, hT.1]; omega) rfl rfl ?_
        rw [show (T.map Value.bool).set (0 + x2.toNat * 1) (.bool false) = (T.set m false).map .bool by rw [List.map_set, show 0 + x2.toNat * 1 = m by omega]]
        conv => whnf
        repeat (first | ((with_reducible refine hK _ _ _ ?_); clear hK) | (with_reducible refine seq_step fun K hK => ?_) | (with_reducible refine block_step ?_) | ((with_reducible refine cond_t ?_ ?_); focus rfl) | ((with_reducible refine cond_f ?_ ?_); focus rfl) | ((with_reducible refine code_id ?_); conv => whnf) | (clear hK; (with_reducible refine hK _ _ _ ?_); clear hK) | (clear hK; clear hK; (with_reducible refine hK _ _ _ ?_); clear hK) | (clear hK; clear hK; clear hK; (with_reducible refine hK _ _ _ ?_); clear hK) | (clear hK; clear hK; clear hK; clear hK; (with_reducible refine hK _ _ _ ?_); clear hK) | (clear hK; clear hK; clear hK; clear hK; clear hK; (with_reducible refine hK _ _ _ ?_); clear hK) | (clear hK; clear hK; clear hK; clear hK; clear hK; clear hK; (with_reducible refine hK _ _ _ ?_); clear hK) | (clear hK; clear hK; clear hK; clear hK; clear hK; clear hK; clear hK; (with_reducible refine hK _ _ _ ?_); clear hK))
        exact ⟨((k + 1, _, _, T.set m false), g3), ⟨by dsimp only; omega, by dsimp only; omega, hl4, hT4, hg3⟩, by dsimp only; omega, subE_cons (by rw [ha2]; rfl) (subE_cons rfl (subE_cons rfl (subE_cons rfl (subE_cons (int_eq hnext rfl) subE_nil)))), subB_cons rfl (subB_cons rfl subB_nil), rfl⟩
    · clear hl hT hg hll
      rintro ⟨⟨S, l, T⟩, g⟩ ⟨hl, hT, hg⟩
      dsimp only at hl hT hg ⊢
      have hT48 : T.length = 48 := hT.1
      repeat (first | ((with_reducible refine hK _ _ _ ?_); clear hK) | (with_reducible refine seq_step fun K hK => ?_) | (with_reducible refine block_step ?_) | ((with_reducible refine cond_t ?_ ?_); focus rfl) | ((with_reducible refine cond_f ?_ ?_); focus rfl) | ((with_reducible refine code_id ?_); conv => whnf) | (clear hK; (with_reducible refine hK _ _ _ ?_); clear hK) | (clear hK; clear hK; (with_reducible refine hK _ _ _ ?_); clear hK) | (clear hK; clear hK; clear hK; (with_reducible refine hK _ _ _ ?_); clear hK) | (clear hK; clear hK; clear hK; clear hK; (with_reducible refine hK _ _ _ ?_); clear hK) | (clear hK; clear hK; clear hK; clear hK; clear hK; (with_reducible refine hK _ _ _ ?_); clear hK) | (clear hK; clear hK; clear hK; clear hK; clear hK; clear hK; (with_reducible refine hK _ _ _ ?_); clear hK) | (clear hK; clear hK; clear hK; clear hK; clear hK; clear hK; clear hK; (with_reducible refine hK _ _ _ ?_); clear hK))
      refine loop_intro (σ := (Nat × Bs × List (Option Nat)) × Hp) (fun s => [(5, .v (ptr b)), (6, .l 6 0), (7, .l 7 0), (16, .v (iv s.1.1))]) (fun s => [(6, [iv 3, iv 0, iv 1, iv 0]), (7, T.map .bool)]) (fun s => s.2)
        (fun s => s.1.1 ≤ 48 ∧ Low s.1.2.1 t s.1.2.2 ∧ (∀ j, j < 48 → ((∃ a, s.1.2.2[j]? = some (some a)) ↔ (j < s.1.1 ∨ T[j]? = some true))) ∧ Has (CapsA b s.1.2.1 :: [Is h]) s.2)
        (fun s => 48 - s.1.1) ((0, S, l), g) ⟨Nat.zero_le _, hl, fun j hj => ⟨fun h => .inr ((hT.2 j hj).2 h), fun h => h.elim (fun h => absurd h (Nat.not_lt_zero _)) (hT.2 j hj).1⟩, hg⟩ (subE_cons rfl (subE_cons rfl (subE_cons rfl (subE_cons rfl subE_nil)))) (subB_cons rfl (subB_cons rfl subB_nil)) rfl ?_
      clear hl hg
      rintro ⟨⟨s, S, l⟩, g⟩ ⟨hs48, hl, hoc, hg⟩
      dsimp only at hs48 hl hoc hg ⊢
      have hll := hl.len
      have hnext : IntKind.i64.wrap ((s : Int) + 1) = ((s + 1 : Nat) : Int) := wrap_nat (by omega)
      have full : ∀ {l' : List (Option Nat)} {S' : Bs}, Low S' t l' → (∀ j, j < 48 → ∃ a, l'[j]? = some (some a)) → mMint S'.tb 2 (-1) cpL = .inl 2 := fun {l' S'} hl' hf => by
        rw [hl'.place, if_pos (by decide)]
        unfold mPlace
        rw [if_neg (by decide)]
        cases hlo : low l' with
        | none => rfl
        | some k =>
          have h1 := (low_some hlo).1
          have hk := (List.getElem?_eq_some_iff.1 h1).1
          rw [hl'.len] at hk
          obtain ⟨a, ha⟩ := hf k hk
          rw [ha] at h1; cases h1
      repeat (first | ((with_reducible refine hK _ _ _ ?_); clear hK) | (with_reducible refine seq_step fun K hK => ?_) | (with_reducible refine block_step ?_) | ((with_reducible refine cond_t ?_ ?_); focus rfl) | ((with_reducible refine cond_f ?_ ?_); focus rfl) | ((with_reducible refine code_id ?_); conv => whnf) | (clear hK; (with_reducible refine hK _ _ _ ?_); clear hK) | (clear hK; clear hK; (with_reducible refine hK _ _ _ ?_); clear hK) | (clear hK; clear hK; clear hK; (with_reducible refine hK _ _ _ ?_); clear hK) | (clear hK; clear hK; clear hK; clear hK; (with_reducible refine hK _ _ _ ?_); clear hK) | (clear hK; clear hK; clear hK; clear hK; clear hK; (with_reducible refine hK _ _ _ ?_); clear hK) | (clear hK; clear hK; clear hK; clear hK; clear hK; clear hK; (with_reducible refine hK _ _ _ ?_); clear hK) | (clear hK; clear hK; clear hK; clear hK; clear hK; clear hK; clear hK; (with_reducible refine hK _ _ _ ?_); clear hK))
      refine cond_dec (fun hlt => ?_) (fun hge => ?_)
      · have hs : s < 48 := by omega
        have hsT : s < T.length := by omega
        have hTs : T[s]? = some T[s] := List.getElem?_eq_getElem hsT
        repeat (first | ((with_reducible refine hK _ _ _ ?_); clear hK) | (with_reducible refine seq_step fun K hK => ?_) | (with_reducible refine block_step ?_) | ((with_reducible refine cond_t ?_ ?_); focus rfl) | ((with_reducible refine cond_f ?_ ?_); focus rfl) | ((with_reducible refine code_id ?_); conv => whnf) | (clear hK; (with_reducible refine hK _ _ _ ?_); clear hK) | (clear hK; clear hK; (with_reducible refine hK _ _ _ ?_); clear hK) | (clear hK; clear hK; clear hK; (with_reducible refine hK _ _ _ ?_); clear hK) | (clear hK; clear hK; clear hK; clear hK; (with_reducible refine hK _ _ _ ?_); clear hK) | (clear hK; clear hK; clear hK; clear hK; clear hK; (with_reducible refine hK _ _ _ ?_); clear hK) | (clear hK; clear hK; clear hK; clear hK; clear hK; clear hK; (with_reducible refine hK _ _ _ ?_); clear hK) | (clear hK; clear hK; clear hK; clear hK; clear hK; clear hK; clear hK; (with_reducible refine hK _ _ _ ?_); clear hK))
        refine opt_if ⟨by omega, by omega⟩ ?_
        conv => whnf
        refine opt_ldE2 (v := .bool T[s]) rfl (by rw [show 0 + (s : Int).toNat * 1 = s by omega]; exact bools_get hTs) ?_
        cases hb9 : T[s] with
        | true =>
          rw [hb9] at hTs
          conv => whnf
          repeat (first | ((with_reducible refine hK _ _ _ ?_); clear hK) | (with_reducible refine seq_step fun K hK => ?_) | (with_reducible refine block_step ?_) | ((with_reducible refine cond_t ?_ ?_); focus rfl) | ((with_reducible refine cond_f ?_ ?_); focus rfl) | ((with_reducible refine code_id ?_); conv => whnf) | (clear hK; (with_reducible refine hK _ _ _ ?_); clear hK) | (clear hK; clear hK; (with_reducible refine hK _ _ _ ?_); clear hK) | (clear hK; clear hK; clear hK; (with_reducible refine hK _ _ _ ?_); clear hK) | (clear hK; clear hK; clear hK; clear hK; (with_reducible refine hK _ _ _ ?_); clear hK) | (clear hK; clear hK; clear hK; clear hK; clear hK; (with_reducible refine hK _ _ _ ?_); clear hK) | (clear hK; clear hK; clear hK; clear hK; clear hK; clear hK; (with_reducible refine hK _ _ _ ?_); clear hK) | (clear hK; clear hK; clear hK; clear hK; clear hK; clear hK; clear hK; (with_reducible refine hK _ _ _ ?_); clear hK))
          refine ⟨((s + 1, S, l), g), ⟨hs, hl, fun j hj => (hoc j hj).trans ⟨fun h => h.elim (fun h => .inl (show j < s + 1 from Nat.lt_succ_of_lt h)) .inr, fun h => h.elim (fun h => ?_) .inr⟩, hg⟩, by dsimp only; omega, subE_cons rfl (subE_cons rfl (subE_cons rfl (subE_cons (int_eq hnext rfl) subE_nil))), subB_cons rfl (subB_cons rfl subB_nil), rfl⟩
          by_cases hjs : j = s
          · subst hjs; exact .inr hTs
          · exact .inl (by have h : j < s + 1 := h; omega)
        | false =>
          rw [hb9] at hTs
          have hfree : l[s]? = some none := by
            have e1 : l[s]? = some l[s] := List.getElem?_eq_getElem (by omega)
            cases hx : l[s] with
            | none => rw [e1, hx]
            | some a =>
              rcases (hoc s hs).1 ⟨a, by rw [e1, hx]⟩ with h | h
              · omega
              · rw [hTs] at h; cases h
          have hlow : low l = some s := low_is hfree fun j hj he => by
            obtain ⟨a, ha⟩ := (hoc j (by omega)).2 (.inl hj)
            rw [ha] at he; cases he
          have hm : mMint S.tb 2 (-1) cpL = .inr s := by
            rw [hl.place, if_pos (by decide)]
            unfold mPlace
            rw [if_neg (by decide), hlow]
          conv => whnf
          repeat (first | ((with_reducible refine hK _ _ _ ?_); clear hK) | (with_reducible refine seq_step fun K hK => ?_) | (with_reducible refine block_step ?_) | ((with_reducible refine cond_t ?_ ?_); focus rfl) | ((with_reducible refine cond_f ?_ ?_); focus rfl) | ((with_reducible refine code_id ?_); conv => whnf) | (clear hK; (with_reducible refine hK _ _ _ ?_); clear hK) | (clear hK; clear hK; (with_reducible refine hK _ _ _ ?_); clear hK) | (clear hK; clear hK; clear hK; (with_reducible refine hK _ _ _ ?_); clear hK) | (clear hK; clear hK; clear hK; clear hK; (with_reducible refine hK _ _ _ ?_); clear hK) | (clear hK; clear hK; clear hK; clear hK; clear hK; (with_reducible refine hK _ _ _ ?_); clear hK) | (clear hK; clear hK; clear hK; clear hK; clear hK; clear hK; (with_reducible refine hK _ _ _ ?_); clear hK) | (clear hK; clear hK; clear hK; clear hK; clear hK; clear hK; clear hK; (with_reducible refine hK _ _ _ ?_); clear hK))
          refine mint36 hl.wf hg 2 (-1) cpL (fun e he g3 hg3 => by rw [hm] at he; cases he) (fun n s' a3 hs' hn hw3 g3 hg3 => ?_)
          obtain rfl : n = 2 := by omega
          rw [hm] at hs'
          cases hs'
          have hl4 := hl.add hs hw3
          conv => whnf
          repeat (first | ((with_reducible refine hK _ _ _ ?_); clear hK) | (with_reducible refine seq_step fun K hK => ?_) | (with_reducible refine block_step ?_) | ((with_reducible refine cond_t ?_ ?_); focus rfl) | ((with_reducible refine cond_f ?_ ?_); focus rfl) | ((with_reducible refine code_id ?_); conv => whnf) | (clear hK; (with_reducible refine hK _ _ _ ?_); clear hK) | (clear hK; clear hK; (with_reducible refine hK _ _ _ ?_); clear hK) | (clear hK; clear hK; clear hK; (with_reducible refine hK _ _ _ ?_); clear hK) | (clear hK; clear hK; clear hK; clear hK; (with_reducible refine hK _ _ _ ?_); clear hK) | (clear hK; clear hK; clear hK; clear hK; clear hK; (with_reducible refine hK _ _ _ ?_); clear hK) | (clear hK; clear hK; clear hK; clear hK; clear hK; clear hK; (with_reducible refine hK _ _ _ ?_); clear hK) | (clear hK; clear hK; clear hK; clear hK; clear hK; clear hK; clear hK; (with_reducible refine hK _ _ _ ?_); clear hK))
          rw [bne_self_eq_false]
          conv => whnf
          repeat (first | ((with_reducible refine hK _ _ _ ?_); clear hK) | (with_reducible refine seq_step fun K hK => ?_) | (with_reducible refine block_step ?_) | ((with_reducible refine cond_t ?_ ?_); focus rfl) | ((with_reducible refine cond_f ?_ ?_); focus rfl) | ((with_reducible refine code_id ?_); conv => whnf) | (clear hK; (with_reducible refine hK _ _ _ ?_); clear hK) | (clear hK; clear hK; (with_reducible refine hK _ _ _ ?_); clear hK) | (clear hK; clear hK; clear hK; (with_reducible refine hK _ _ _ ?_); clear hK) | (clear hK; clear hK; clear hK; clear hK; (with_reducible refine hK _ _ _ ?_); clear hK) | (clear hK; clear hK; clear hK; clear hK; clear hK; (with_reducible refine hK _ _ _ ?_); clear hK) | (clear hK; clear hK; clear hK; clear hK; clear hK; clear hK; (with_reducible refine hK _ _ _ ?_); clear hK) | (clear hK; clear hK; clear hK; clear hK; clear hK; clear hK; clear hK; (with_reducible refine hK _ _ _ ?_); clear hK))
          refine ⟨((s + 1, _, _), g3), ⟨hs, hl4, fun j hj => ?_, hg3⟩, by dsimp only; omega, subE_cons rfl (subE_cons rfl (subE_cons rfl (subE_cons (int_eq hnext rfl) subE_nil))), subB_cons rfl (subB_cons rfl subB_nil), rfl⟩
          dsimp only
          by_cases hjs : s = j
          · subst hjs
            rw [List.getElem?_set_self (by omega)]
            exact ⟨fun _ => .inl (Nat.lt_succ_self _), fun _ => ⟨a3, rfl⟩⟩
          · rw [List.getElem?_set_ne hjs]
            refine (hoc j hj).trans ⟨fun h => h.elim (fun h => .inl (by omega)) .inr, fun h => h.elim (fun h => .inl (by omega)) .inr⟩
      · have hs : s = 48 := by omega
        have hf : ∀ j, j < 48 → ∃ a, l[j]? = some (some a) := fun j hj => (hoc j hj).2 (.inl (by omega))
        have hm := full hl hf
        obtain ⟨hcnt, hcp⟩ := hl.full hf
        repeat (first | ((with_reducible refine hK _ _ _ ?_); clear hK) | (with_reducible refine seq_step fun K hK => ?_) | (with_reducible refine block_step ?_) | ((with_reducible refine cond_t ?_ ?_); focus rfl) | ((with_reducible refine cond_f ?_ ?_); focus rfl) | ((with_reducible refine code_id ?_); conv => whnf) | (clear hK; (with_reducible refine hK _ _ _ ?_); clear hK) | (clear hK; clear hK; (with_reducible refine hK _ _ _ ?_); clear hK) | (clear hK; clear hK; clear hK; (with_reducible refine hK _ _ _ ?_); clear hK) | (clear hK; clear hK; clear hK; clear hK; (with_reducible refine hK _ _ _ ?_); clear hK) | (clear hK; clear hK; clear hK; clear hK; clear hK; (with_reducible refine hK _ _ _ ?_); clear hK) | (clear hK; clear hK; clear hK; clear hK; clear hK; clear hK; (with_reducible refine hK _ _ _ ?_); clear hK) | (clear hK; clear hK; clear hK; clear hK; clear hK; clear hK; clear hK; (with_reducible refine hK _ _ _ ?_); clear hK))
        refine mint36 hl.wf hg 2 (-1) cpL (fun e he g3 hg3 => ?_) (fun n s' a3 hs' hn hw3 g3 hg3 => by rw [hm] at hs'; cases hs')
        rw [hm] at he
        cases he
        conv => whnf
        repeat (first | ((with_reducible refine hK _ _ _ ?_); clear hK) | (with_reducible refine seq_step fun K hK => ?_) | (with_reducible refine block_step ?_) | ((with_reducible refine cond_t ?_ ?_); focus rfl) | ((with_reducible refine cond_f ?_ ?_); focus rfl) | ((with_reducible refine code_id ?_); conv => whnf) | (clear hK; (with_reducible refine hK _ _ _ ?_); clear hK) | (clear hK; clear hK; (with_reducible refine hK _ _ _ ?_); clear hK) | (clear hK; clear hK; clear hK; (with_reducible refine hK _ _ _ ?_); clear hK) | (clear hK; clear hK; clear hK; clear hK; (with_reducible refine hK _ _ _ ?_); clear hK) | (clear hK; clear hK; clear hK; clear hK; clear hK; (with_reducible refine hK _ _ _ ?_); clear hK) | (clear hK; clear hK; clear hK; clear hK; clear hK; clear hK; (with_reducible refine hK _ _ _ ?_); clear hK) | (clear hK; clear hK; clear hK; clear hK; clear hK; clear hK; clear hK; (with_reducible refine hK _ _ _ ?_); clear hK))
        refine room28 hl.wf (CapsA.rd0 hg3) 2 (fun hno => by rw [hl.got] at hno; cases hno) (fun t' l' hgt => ?_)
        rw [hl.got] at hgt
        cases hgt
        rw [hcnt]
        conv => whnf
        refine on30 hl.wf hg3 3 0 fun g4 hg4 => ?_
        rw [hcp]
        conv => whnf
        repeat (first | ((with_reducible refine hK _ _ _ ?_); clear hK) | (with_reducible refine seq_step fun K hK => ?_) | (with_reducible refine block_step ?_) | ((with_reducible refine cond_t ?_ ?_); focus rfl) | ((with_reducible refine cond_f ?_ ?_); focus rfl) | ((with_reducible refine code_id ?_); conv => whnf) | (clear hK; (with_reducible refine hK _ _ _ ?_); clear hK) | (clear hK; clear hK; (with_reducible refine hK _ _ _ ?_); clear hK) | (clear hK; clear hK; clear hK; (with_reducible refine hK _ _ _ ?_); clear hK) | (clear hK; clear hK; clear hK; clear hK; (with_reducible refine hK _ _ _ ?_); clear hK) | (clear hK; clear hK; clear hK; clear hK; clear hK; (with_reducible refine hK _ _ _ ?_); clear hK) | (clear hK; clear hK; clear hK; clear hK; clear hK; clear hK; (with_reducible refine hK _ _ _ ?_); clear hK) | (clear hK; clear hK; clear hK; clear hK; clear hK; clear hK; clear hK; (with_reducible refine hK _ _ _ ?_); clear hK))
        exact hq _ (hg4.is 1 rfl)
end
end Go.Proofs.Ythpkgkoojhgedaa.V
