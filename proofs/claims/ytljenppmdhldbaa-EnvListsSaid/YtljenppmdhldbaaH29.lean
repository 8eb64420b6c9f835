/- Seat 09: what is told of all. -/
import Derived.Test.YtljenppmdhldbaaH27
import Derived.Test.YtljenppmdhldbaaU8
namespace Go.Proofs.Ytljenppmdhldbaa.V
set_option linter.unusedVariables false
set_option linter.unusedSimpArgs false
set_option linter.unusedSectionVars false
set_option linter.unusedSectionVars false
open Go

def toldC (xs : List Inf) (es : List Int) : List Value := xs.flatMap infC ++ es.map iv
def tellX (A : Rs) : List Inf := (List.range 16).map fun n : Nat => (mInfo A (n : Int)).1
def tellE (A : Rs) : List Int := (List.range 16).map fun n : Nat => (mInfo A (n : Int)).2
def told (A : Rs) : List Value := toldC (tellX A) (tellE A)

def InfOk (x : Inf) : Prop := x.regs.length = 8
theorem infC_len {x : Inf} (h : InfOk x) : (infC x).length = 21 := by unfold InfOk at h; simp [infC, q3, h]

/-- infC with 21 cells for any list of rows. -/
theorem flat_inf : ∀ {xs : List Inf}, (∀ x ∈ xs, InfOk x) → (xs.flatMap infC).length = xs.length * 21
  | [], _ => rfl
  | x :: xs, h => by rw [List.flatMap_cons, List.length_append, infC_len (h x (List.mem_cons_self ..)), flat_inf fun y hy => h y (List.mem_cons_of_mem _ hy), List.length_cons]; omega

theorem flat_inf_get : ∀ {xs : List Inf} {i j : Nat} {x : Inf}, (∀ x ∈ xs, InfOk x) → xs[i]? = some x → j < 21 → (xs.flatMap infC)[i * 21 + j]? = (infC x)[j]?
  | [], i, j, x, _, hi, _ => by simp at hi
  | y :: xs, 0, j, x, h, hi, hj => by
    cases hi
    rw [List.flatMap_cons, List.getElem?_append_left (by rw [infC_len (h _ (List.mem_cons_self ..))]; omega), Nat.zero_mul, Nat.zero_add]
  | y :: xs, i + 1, j, x, h, hi, hj => by
    rw [List.flatMap_cons, List.getElem?_append_right (by rw [infC_len (h y (List.mem_cons_self ..))]; omega), infC_len (h y (List.mem_cons_self ..)), show (i + 1) * 21 + j - 21 = i * 21 + j by omega]
    exact flat_inf_get (fun z hz => h z (List.mem_cons_of_mem _ hz)) (by simpa using hi) hj

theorem told_len {xs : List Inf} {es : List Int} (h : ∀ x ∈ xs, InfOk x) (h1 : xs.length = 16) (h2 : es.length = 16) : (toldC xs es).length = 352 := by
  unfold toldC; rw [List.length_append, flat_inf h, List.length_map, h1, h2]

theorem told_setX {xs : List Inf} {es : List Int} (h : ∀ x ∈ xs, InfOk x) (h1 : xs.length = 16) {n : Nat} (hn : n < 16) {x : Inf} (hx : InfOk x) : wrL (toldC xs es) (n * 21) (infC x) = toldC (xs.set n x) es := by
  have hl := flat_inf h
  have hset : ∀ y ∈ xs.set n x, InfOk y := fun y hy => by
    rcases mem_set hy with rfl | hy
    · exact hx
    · exact h y hy
  apply List.ext_getElem?
  intro i
  unfold toldC
  rw [wrL_get _ _ _ _ (by rw [List.length_append, hl, h1, infC_len hx]; omega), infC_len hx]
  have hl2 := flat_inf hset
  rw [List.length_set] at hl2
  by_cases hi : i < 336
  · rw [List.getElem?_append_left (l₁ := xs.flatMap infC) (by omega), List.getElem?_append_left (l₁ := (xs.set n x).flatMap infC) (by omega)]
    obtain ⟨a, c, hac, hc⟩ : ∃ a c, i = a * 21 + c ∧ c < 21 := ⟨i / 21, i % 21, by omega, by omega⟩
    subst hac
    have ha : a < xs.length := by omega
    by_cases hca : n = a
    · subst hca
      rw [if_pos (by omega), flat_inf_get hset (List.getElem?_set_self ha) hc, show n * 21 + c - n * 21 = c by omega]
    · rw [if_neg (by omega), flat_inf_get h (List.getElem?_eq_getElem ha) hc, flat_inf_get hset (by rw [List.getElem?_set_ne hca]; exact List.getElem?_eq_getElem ha) hc]
  · rw [if_neg (by omega), List.getElem?_append_right (by omega), List.getElem?_append_right (by omega), hl, hl2]

theorem told_setE {xs : List Inf} {es : List Int} (h : ∀ x ∈ xs, InfOk x) (h1 : xs.length = 16) (h2 : es.length = 16) {n : Nat} (hn : n < 16) (e : Int) : wrL (toldC xs es) (336 + n) [iv e] = toldC xs (es.set n e) := by
  have hl := flat_inf h
  rw [wrL_one _ (by unfold toldC; rw [List.length_append, hl, List.length_map]; omega)]
  unfold toldC
  rw [List.set_append_right _ _ (by omega), hl, h1, show 336 + n - 16 * 21 = n by omega, List.map_set]

def xsAt (A : Rs) (i : Nat) : List Inf := (List.range 16).map fun n : Nat => if n < i then (mInfo A (n : Int)).1 else infZ
def esAt (A : Rs) (i : Nat) : List Int := (List.range 16).map fun n : Nat => if n < i then (mInfo A (n : Int)).2 else 0
theorem xsAt_get (A : Rs) (i j : Nat) : (xsAt A i)[j]? = if j < 16 then some (if j < i then (mInfo A (j : Int)).1 else infZ) else none := by
  by_cases h : j < 16 <;> simp [xsAt, h]
theorem esAt_get (A : Rs) (i j : Nat) : (esAt A i)[j]? = if j < 16 then some (if j < i then (mInfo A (j : Int)).2 else 0) else none := by
  by_cases h : j < 16 <;> simp [esAt, h]

theorem infZ_ok : InfOk infZ := rfl
theorem info_ok {A : Rs} {last : Int} (hw : WF A last) (e : Int) : InfOk (mInfo A e).1 := by
  unfold mInfo
  cases h : fnd A e with
  | none => exact infZ_ok
  | some r => exact hw.rg r (fnd_mem h).1

theorem u32_one (l : List Int) : (l.map u32v).all one = true := List.all_eq_true.2 fun x hx => by obtain ⟨_, _, rfl⟩ := List.mem_map.1 hx; rfl
theorem infC_one (x : Inf) : (infC x).all one = true := by
  unfold infC
  rw [List.all_append, List.all_append, List.all_append, List.all_append, u32_one]
  rfl
theorem told_one (xs : List Inf) (es : List Int) : (toldC xs es).all one = true := by
  unfold toldC
  rw [List.all_append, iv_one, Bool.and_true, List.all_flatMap, List.all_eq_true]
  intro x _; exact infC_one x

section
variable {h : Hp} {Q : Value → Hp → Prop} {L : List As} {t : Nat} {A : Rs} {last : Int}

set_option maxRecDepth 100000 in
theorem told21 (hw : WF A last) (hh : EnvA t A last h) (hq : Q (.agg (told A).toArray) h) : Ok PR 21 [ptr t] h Q := by
  refine e21 rfl (seq_step fun K hK => ?_)
  have hz : toldC (xsAt A 0) (esAt A 0) = toldC (List.replicate 16 infZ) (List.replicate 16 0) := by
    have e1 : xsAt A 0 = List.replicate 16 infZ := by
      apply List.ext_getElem?
      intro i
      rw [xsAt_get, List.getElem?_replicate]; split <;> simp
    have e2 : esAt A 0 = List.replicate 16 0 := by
      apply List.ext_getElem?
      intro i
      rw [esAt_get, List.getElem?_replicate]; split <;> simp
    rw [e1, e2]
  repeat (first | ((with_reducible refine hK _ _ _ ?_); clear hK) | (with_reducible refine seq_step fun K hK => ?_) | ((with_reducible refine code_id ?_); conv => whnf) | (clear hK; (with_reducible refine hK _ _ _ ?_); clear hK) | (clear hK; clear hK; (with_reducible refine hK _ _ _ ?_); clear hK) | (clear hK; clear hK; clear hK; (with_reducible refine hK _ _ _ ?_); clear hK))
  refine loop_intro (σ := Nat) (fun s => [(0, .v (ptr t)), (2, .l 2 0), (3, .l 3 0), (4, .v (iv s))]) (fun s => [(3, toldC (xsAt A s) (esAt A s)), (2, toldC (xsAt A 0) (esAt A 0))]) (fun _ => h) (fun s => s ≤ 16) (fun s => 16 - s) 0 (Nat.zero_le _)
    (subE_cons rfl (subE_cons rfl (subE_cons rfl (subE_cons rfl subE_nil)))) (subB_cons (by rw [hz]; rfl) (subB_cons (by rw [hz]; rfl) subB_nil)) rfl ?_
  intro i hi
  have hok : ∀ x ∈ xsAt A i, InfOk x := fun x hx => by
    obtain ⟨n, _, rfl⟩ := List.mem_map.1 hx
    split
    · exact info_ok hw n
    · exact infZ_ok
  have hlx : (xsAt A i).length = 16 := by simp [xsAt]
  have hle : (esAt A i).length = 16 := by simp [esAt]
  have hnx : ∀ (x : Inf), x = (mInfo A (i : Int)).1 → (xsAt A i).set i x = xsAt A (i + 1) := fun x hx => by
    subst hx
    apply List.ext_getElem?
    intro j
    rw [List.getElem?_set, xsAt_get, xsAt_get, hlx]
    by_cases hj : i = j
    · subst hj; rw [if_pos rfl]; by_cases h16 : i < 16 <;> simp [h16]
    · rw [if_neg hj]; by_cases h16 : j < 16 <;> simp [h16, show (j < i) = (j < i + 1) by apply propext; omega]
  have hne : (esAt A i).set i (mInfo A (i : Int)).2 = esAt A (i + 1) := by
    apply List.ext_getElem?
    intro j
    rw [List.getElem?_set, esAt_get, esAt_get, hle]
    by_cases hj : i = j
    · subst hj; rw [if_pos rfl]; by_cases h16 : i < 16 <;> simp [h16]
    · rw [if_neg hj]; by_cases h16 : j < 16 <;> simp [h16, show (j < i) = (j < i + 1) by apply propext; omega]
  repeat (first | ((with_reducible refine hK _ _ _ ?_); clear hK) | (with_reducible refine seq_step fun K hK => ?_) | ((with_reducible refine code_id ?_); conv => whnf) | (clear hK; (with_reducible refine hK _ _ _ ?_); clear hK) | (clear hK; clear hK; (with_reducible refine hK _ _ _ ?_); clear hK) | (clear hK; clear hK; clear hK; (with_reducible refine hK _ _ _ ?_); clear hK))
  refine cond_dec (fun hlt => ?_) (fun hge => ?_)
  · have hi16 : i < 16 := by omega
    repeat (first | ((with_reducible refine hK _ _ _ ?_); clear hK) | (with_reducible refine seq_step fun K hK => ?_) | ((with_reducible refine code_id ?_); conv => whnf) | (clear hK; (with_reducible refine hK _ _ _ ?_); clear hK) | (clear hK; clear hK; (with_reducible refine hK _ _ _ ?_); clear hK) | (clear hK; clear hK; clear hK; (with_reducible refine hK _ _ _ ?_); clear hK))
    refine info19A (L := []) hw i (Has.one hh) ?_
    conv => whnf
    refine opt_if ⟨by omega, by omega⟩ ?_
    conv => whnf
    refine opt_stLo (c' := toldC ((xsAt A i).set i (mInfo A (i : Int)).1) (esAt A i)) rfl ?_ ?_ ?_ ?_ ?_
    · show (infC (mInfo A (i : Int)).1).toArray.size = 21
      rw [List.size_toArray, infC_len (info_ok hw i)]
    · rw [told_len hok hlx hle]; omega
    · show (infC (mInfo A (i : Int)).1).all one = true
      exact infC_one _
    · rw [show 0 + 0 + (i : Int).toNat * 21 = i * 21 by omega]
      exact told_setX hok hlx hi16 (info_ok hw i)
    rw [hnx _ rfl]
    conv => whnf
    refine opt_if ⟨by omega, by omega⟩ ?_
    conv => whnf
    have hok2 : ∀ x ∈ xsAt A (i + 1), InfOk x := fun x hx => by
      obtain ⟨n, _, rfl⟩ := List.mem_map.1 hx
      split
      · exact info_ok hw n
      · exact infZ_ok
    refine opt_stLo (c' := toldC (xsAt A (i + 1)) (esAt A (i + 1))) rfl rfl ?_ rfl ?_ ?_
    · rw [told_len hok2 (by simp [xsAt]) hle]; omega
    · rw [show 0 + 336 + (i : Int).toNat * 1 = 336 + i by omega]
      have := told_setE (es := esAt A i) hok2 (by simp [xsAt]) hle hi16 (mInfo A (i : Int)).2
      rw [hne] at this
      exact this
    conv => whnf
    repeat (first | ((with_reducible refine hK _ _ _ ?_); clear hK) | (with_reducible refine seq_step fun K hK => ?_) | ((with_reducible refine code_id ?_); conv => whnf) | (clear hK; (with_reducible refine hK _ _ _ ?_); clear hK) | (clear hK; clear hK; (with_reducible refine hK _ _ _ ?_); clear hK) | (clear hK; clear hK; clear hK; (with_reducible refine hK _ _ _ ?_); clear hK))
    exact ⟨i + 1, by omega, by omega, subE_cons rfl (subE_cons rfl (subE_cons rfl (subE_cons (int_eq (wrap_nat (by omega)) rfl) subE_nil))), subB_cons rfl (subB_cons rfl subB_nil), rfl⟩
  · have hi16 : i = 16 := by omega
    subst hi16
    have ht : toldC (xsAt A 16) (esAt A 16) = told A := by
      have e1 : xsAt A 16 = tellX A := List.map_congr_left fun n hn => by rw [if_pos (List.mem_range.1 hn)]
      have e2 : esAt A 16 = tellE A := List.map_congr_left fun n hn => by rw [if_pos (List.mem_range.1 hn)]
      unfold told
      rw [e1, e2]
    rw [ht]
    have hlt : (told A).length = 352 := by rw [← ht]; exact told_len hok hlx hle
    repeat (first | ((with_reducible refine hK _ _ _ ?_); clear hK) | (with_reducible refine seq_step fun K hK => ?_) | ((with_reducible refine code_id ?_); conv => whnf) | (clear hK; (with_reducible refine hK _ _ _ ?_); clear hK) | (clear hK; clear hK; (with_reducible refine hK _ _ _ ?_); clear hK) | (clear hK; clear hK; clear hK; (with_reducible refine hK _ _ _ ?_); clear hK))
    refine opt_ldL (cs := told A) rfl hlt ?_
    conv => whnf
    refine opt_stL (c := toldC (xsAt A 0) (esAt A 0)) rfl ?_ ?_ ?_ ?_
    · show (told A).toArray.size = 352
      rw [List.size_toArray, hlt]
    · rw [hz]; rfl
    · show (told A).all one = true
      exact told_one _ _
    conv => whnf
    refine hK _ _ _ ?_
    refine ret_cl (r := 2) (o := 0) (cs := told A) rfl rfl (rd_all hlt) hq

theorem told_l (hw : WF A last) : (told A).length = 352 := told_len (fun x hx => by obtain ⟨n, _, rfl⟩ := List.mem_map.1 hx; exact info_ok hw n) (by simp [tellX]) (by simp [tellE])

theorem EnvP.sub {rs : List (Option Rec)} {g g' : Hp} (he : EnvP t rs last g) (hs : SubH g g') : EnvP t rs last g' := by
  obtain ⟨tb, xs, a1, a2, hd⟩ := he
  exact ⟨tb, xs, a1, a2, hd.sub hs⟩

/-- What is told tells whether two tables tell the same. -/
theorem infC_inj {x y : Inf} (hx : InfOk x) (hy : InfOk y) (h : infC x = infC y) : x = y := by
  obtain ⟨a1, a2, a3, a4, a5, a6, ar, a8, ⟨qa, qb, qc⟩, ⟨l1, l2, l3⟩⟩ := x
  obtain ⟨b1, b2, b3, b4, b5, b6, br, b8, ⟨p1, p2, p3⟩, ⟨m1, m2, m3⟩⟩ := y
  obtain ⟨g0, g1, g2, g3, g4, g5, g6, g7, hg⟩ := eight hx
  obtain ⟨k0, k1, k2, k3, k4, k5, k6, k7, hk⟩ := eight hy
  dsimp only at hg hk
  subst hg hk
  simp [infC, q3, iv, u32v] at h
  obtain ⟨h1, h2, h3, h4, h5, h6, h7, h8, h9, h10, h11, h12, h13, h14, h15, h16, h17, h18, h19, h20, h21⟩ := h
  subst h1 h2 h3 h4 h5 h6 h7 h8 h9 h10 h11 h12 h13 h14 h15 h16 h17 h18 h19 h20 h21
  rfl

theorem told_eq {A B : Rs} {l1 l2 : Int} (hA : WF A l1) (hB : WF B l2) : told A = told B ↔ ∀ n : Nat, n < 16 → mInfo A (n : Int) = mInfo B (n : Int) := by
  have okA : ∀ x ∈ tellX A, InfOk x := fun x hx => by obtain ⟨n, _, rfl⟩ := List.mem_map.1 hx; exact info_ok hA n
  have okB : ∀ x ∈ tellX B, InfOk x := fun x hx => by obtain ⟨n, _, rfl⟩ := List.mem_map.1 hx; exact info_ok hB n
  have getX : ∀ (C : Rs) (n : Nat), n < 16 → (tellX C)[n]? = some (mInfo C (n : Int)).1 := fun C n hn => by simp [tellX, hn]
  have getE : ∀ (C : Rs) (n : Nat), n < 16 → (tellE C)[n]? = some (mInfo C (n : Int)).2 := fun C n hn => by simp [tellE, hn]
  constructor
  · intro h n hn
    unfold told toldC at h
    obtain ⟨h1, h2⟩ := List.append_inj h (by rw [flat_inf okA, flat_inf okB]; simp [tellX])
    refine Prod.ext ?_ ?_
    · refine infC_inj (info_ok hA n) (info_ok hB n) (List.ext_getElem? fun j => ?_)
      by_cases hj : j < 21
      · rw [← flat_inf_get okA (getX A n hn) hj, ← flat_inf_get okB (getX B n hn) hj, h1]
      · rw [List.getElem?_eq_none (by rw [infC_len (info_ok hA n)]; omega), List.getElem?_eq_none (by rw [infC_len (info_ok hB n)]; omega)]
    · have h3 : ((tellE A).map iv)[n]? = ((tellE B).map iv)[n]? := by rw [h2]
      rw [List.getElem?_map, List.getElem?_map, getE A n hn, getE B n hn] at h3
      simpa [iv] using h3
  · intro h
    unfold told
    have e1 : tellX A = tellX B := List.map_congr_left fun n hn => by rw [h n (List.mem_range.1 hn)]
    have e2 : tellE A = tellE B := List.map_congr_left fun n hn => by rw [h n (List.mem_range.1 hn)]
    rw [e1, e2]

end
end Go.Proofs.Ytljenppmdhldbaa.V
