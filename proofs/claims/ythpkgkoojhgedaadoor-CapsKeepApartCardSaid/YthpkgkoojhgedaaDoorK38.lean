/- Seat 08: CapsKeepApart: marks in lists, filling again. -/
import Derived.Test.YthpkgkoojhgedaaDoorK37
namespace Go.Proofs.YthpkgkoojhgedaaDoor.V
set_option linter.unusedVariables false
set_option linter.unusedSimpArgs false
set_option linter.unusedSectionVars false
set_option linter.unusedSectionVars false
open Go

theorem flat_modify {g : Hd → Hd} {j : Nat} {w : Value} (hj : j < 6) (hg : ∀ x, hdC (g x) = (hdC x).set j w) : ∀ (l : List Hd) (i : Nat), i < l.length → (l.flatMap hdC).set (i * 6 + j) w = (l.modify i g).flatMap hdC
  | [], i, h => by cases h
  | x :: l, 0, _ => by
    rw [List.flatMap_cons, List.modify_zero_cons, List.flatMap_cons, hg, Nat.zero_mul, Nat.zero_add, List.set_append_left _ _ (by rw [hdC_len]; exact hj)]
  | x :: l, i + 1, h => by
    rw [List.flatMap_cons, List.modify_succ_cons, List.flatMap_cons, List.set_append_right _ _ (by rw [hdC_len]; omega), hdC_len, show (i + 1) * 6 + j - 6 = i * 6 + j by omega,
      flat_modify hj hg l i (by simpa using h)]

/-- The first ones marked. -/
def mkL (f : Nat) (l : List Hd) (i : Nat) : List Hd := l.mapIdx fun j x => if j < i then { x with slot := f + j } else x
theorem mkL_len (f : Nat) (l : List Hd) (i : Nat) : (mkL f l i).length = l.length := by unfold mkL; rw [List.length_mapIdx]
theorem mkL_zero (f : Nat) (l : List Hd) : mkL f l 0 = l := by
  apply List.ext_getElem?
  intro j
  unfold mkL
  rw [List.getElem?_mapIdx]
  cases l[j]? <;> simp
theorem mkL_succ (f : Nat) (l : List Hd) (i : Nat) : (mkL f l i).modify i (fun x => { x with slot := f + i }) = mkL f l (i + 1) := by
  apply List.ext_getElem?
  intro j
  unfold mkL
  rw [List.getElem?_modify, List.getElem?_mapIdx, List.getElem?_mapIdx]
  cases l[j]? with
  | none => rfl
  | some x =>
    simp only [Option.map_some, Option.map_eq_map]
    by_cases h : i = j
    · subst h
      simp
    · by_cases h2 : j < i
      · simp [h, h2, show j < i + 1 by omega]
      · simp [h, h2, show ¬ j < i + 1 by omega]
theorem mkL_at (f : Nat) (l : List Hd) (i j : Nat) (hj : j < (mkL f l i).length) (h : j < i) : (mkL f l i)[j].slot = f + j := by
  simp [mkL, h]

theorem st_hasE {L : List As} {h : Hp} (hh : Has L h) (i : Nat) {e b o n cap k q : Nat} {vs : List Value} (hi : L[i]? = some (WnP e (.slice (some ⟨b, o, none⟩) n cap) n vs)) {β : Bx} {x : Value} {K : Hp × Bx → Prop} (hk : k < n * e) (hq : q = o + k) (h1 : x.cells = #[x]) (h4 : one x = true)
    (hK : ∀ h', Has (L.set i (WnP e (.slice (some ⟨b, o, none⟩) n cap) n (vs.set k x))) h' → K (h', β)) : optK (pSt 1 h β (.v (.pointer (some ⟨b, q, none⟩))) (.v x)) K := by
  subst hq
  obtain ⟨g1, g2, rfl, ha, ⟨bs, hl, ho⟩, hL⟩ := hh.pull i hi
  rcases ho with ⟨_, ho, _⟩ | ⟨d, o', cap', c, ty, rfl, k2, k3, k4, k5, k6⟩
  · cases ho
  · cases k2
    have hc : (join g1 g2) b = some (.cells c ty (0, 0)) := join_sub_left _ _ _ _ k4
    have hle := Nat.mul_le_mul_right e k3
    refine opt_st hc (by rw [h1]; rfl) (by omega) (.inl (Nat.zero_le _)) (by simp [h1, h4]) (hK _ (Has.put hi ?_))
    rw [h1]
    refine Has.sub (h := join (upd g1 b (.cells (wr c (o + k) [x]) ty (0, 0))) g2) ⟨_, g2, rfl, ?_, ⟨some b, by rw [List.length_set]; exact hl, .inr ⟨b, o, cap, _, ty, rfl, rfl, k3, upd_same _ _ _, by rw [wr_length]; exact k5, fun j v hj => ?_⟩⟩, hL⟩ ?_
    · exact apartUpd ha k4
    · rw [wr_get (by simp; omega)]
      by_cases hjk : j = k
      · subst hjk
        rw [List.getElem?_set_self (by omega)] at hj
        rw [if_pos (by simp)]; simpa using hj
      · rw [List.getElem?_set_ne (fun e => hjk e.symm)] at hj
        rw [if_neg (by simp; omega)]
        exact k6 _ _ hj
    · rw [joinUpd k4]; exact SubH.refl _

section
variable {h : Hp} {Q : Value → Hp → Prop} {L : List As} {b : Nat} {S : Bs}

set_option maxRecDepth 100000 in
set_option maxHeartbeats 2000000 in
theorem mark24 {s : Value} {l : List Hd} (hh : Has (HsP s l :: L) h) (f : Nat) (hf : f < 1000) (hl : l.length < 1000) (hq : ∀ h', Has (HsP s (mkL f l l.length) :: L) h' → Q (.tuple #[]) h') : Ok PR 24 [s, iv f] h Q := by
  obtain ⟨bl, cl, rfl⟩ := hh.slv 0 rfl
  refine e24 rfl (seq_step fun K hK => ?_)
  repeat (first | ((with_reducible refine hK _ _ _ ?_); clear hK) | (with_reducible refine seq_step fun K hK => ?_) | (with_reducible refine block_step ?_) | ((with_reducible refine cond_t ?_ ?_); focus rfl) | ((with_reducible refine cond_f ?_ ?_); focus rfl) | ((with_reducible refine code_id ?_); conv => whnf) | (clear hK; (with_reducible refine hK _ _ _ ?_); clear hK) | (clear hK; clear hK; (with_reducible refine hK _ _ _ ?_); clear hK) | (clear hK; clear hK; clear hK; (with_reducible refine hK _ _ _ ?_); clear hK) | (clear hK; clear hK; clear hK; clear hK; (with_reducible refine hK _ _ _ ?_); clear hK) | (clear hK; clear hK; clear hK; clear hK; clear hK; (with_reducible refine hK _ _ _ ?_); clear hK) | (clear hK; clear hK; clear hK; clear hK; clear hK; clear hK; (with_reducible refine hK _ _ _ ?_); clear hK) | (clear hK; clear hK; clear hK; clear hK; clear hK; clear hK; clear hK; (with_reducible refine hK _ _ _ ?_); clear hK))
  refine loop_intro (σ := Nat × Hp) (fun s => [(0, .v (.slice bl l.length cl)), (1, .v (iv f)), (4, .v (iv s.1))]) (fun _ => []) (fun s => s.2)
    (fun s => s.1 ≤ l.length ∧ Has (HsP (.slice bl l.length cl) (mkL f l s.1) :: L) s.2) (fun s => l.length - s.1) (0, h) ⟨Nat.zero_le _, by rw [mkL_zero]; exact hh⟩
    (subE_cons rfl (subE_cons rfl (subE_cons rfl subE_nil))) subB_nil rfl ?_
  clear hh
  rintro ⟨i, g⟩ ⟨hi, hg⟩
  dsimp only at hi hg ⊢
  have hnext : IntKind.i64.wrap ((i : Int) + 1) = ((i + 1 : Nat) : Int) := wrap_nat (by omega)
  repeat (first | ((with_reducible refine hK _ _ _ ?_); clear hK) | (with_reducible refine seq_step fun K hK => ?_) | (with_reducible refine block_step ?_) | ((with_reducible refine cond_t ?_ ?_); focus rfl) | ((with_reducible refine cond_f ?_ ?_); focus rfl) | ((with_reducible refine code_id ?_); conv => whnf) | (clear hK; (with_reducible refine hK _ _ _ ?_); clear hK) | (clear hK; clear hK; (with_reducible refine hK _ _ _ ?_); clear hK) | (clear hK; clear hK; clear hK; (with_reducible refine hK _ _ _ ?_); clear hK) | (clear hK; clear hK; clear hK; clear hK; (with_reducible refine hK _ _ _ ?_); clear hK) | (clear hK; clear hK; clear hK; clear hK; clear hK; (with_reducible refine hK _ _ _ ?_); clear hK) | (clear hK; clear hK; clear hK; clear hK; clear hK; clear hK; (with_reducible refine hK _ _ _ ?_); clear hK) | (clear hK; clear hK; clear hK; clear hK; clear hK; clear hK; clear hK; (with_reducible refine hK _ _ _ ?_); clear hK))
  refine cond_dec (fun hlt => ?_) (fun hge => ?_)
  · have hil : i < (mkL f l i).length := by rw [mkL_len]; omega
    obtain ⟨bb, o, cap', cc, ty, z, hsl, hbb, _⟩ := hs_at (hg.wn 0 rfl) hil
    rw [mkL_len] at hsl
    have hw1 : IntKind.i64.wrap ((f : Int) + (i : Int)) = ((f + i : Nat) : Int) := by rw [wrap_i64] <;> omega
    have hg1 : Has (WnP 6 (.slice (some ⟨bb, o, none⟩) l.length cap') l.length ((mkL f l i).flatMap hdC) :: L) g := by
      have := hg
      unfold HsP at this
      rwa [mkL_len, hsl] at this
    rw [hsl]
    repeat (first | ((with_reducible refine hK _ _ _ ?_); clear hK) | (with_reducible refine seq_step fun K hK => ?_) | (with_reducible refine block_step ?_) | ((with_reducible refine cond_t ?_ ?_); focus rfl) | ((with_reducible refine cond_f ?_ ?_); focus rfl) | ((with_reducible refine code_id ?_); conv => whnf) | (clear hK; (with_reducible refine hK _ _ _ ?_); clear hK) | (clear hK; clear hK; (with_reducible refine hK _ _ _ ?_); clear hK) | (clear hK; clear hK; clear hK; (with_reducible refine hK _ _ _ ?_); clear hK) | (clear hK; clear hK; clear hK; clear hK; (with_reducible refine hK _ _ _ ?_); clear hK) | (clear hK; clear hK; clear hK; clear hK; clear hK; (with_reducible refine hK _ _ _ ?_); clear hK) | (clear hK; clear hK; clear hK; clear hK; clear hK; clear hK; (with_reducible refine hK _ _ _ ?_); clear hK) | (clear hK; clear hK; clear hK; clear hK; clear hK; clear hK; clear hK; (with_reducible refine hK _ _ _ ?_); clear hK))
    rw [hw1]
    refine opt_if ⟨by omega, by omega⟩ ?_
    conv => whnf
    refine st_hasE hg1 0 rfl (k := i * 6 + 1) (by omega) (by rw [Int.toNat_natCast]; omega) rfl rfl fun g2 hg2 => ?_
    conv => whnf
    repeat (first | ((with_reducible refine hK _ _ _ ?_); clear hK) | (with_reducible refine seq_step fun K hK => ?_) | (with_reducible refine block_step ?_) | ((with_reducible refine cond_t ?_ ?_); focus rfl) | ((with_reducible refine cond_f ?_ ?_); focus rfl) | ((with_reducible refine code_id ?_); conv => whnf) | (clear hK; (with_reducible refine hK _ _ _ ?_); clear hK) | (clear hK; clear hK; (with_reducible refine hK _ _ _ ?_); clear hK) | (clear hK; clear hK; clear hK; (with_reducible refine hK _ _ _ ?_); clear hK) | (clear hK; clear hK; clear hK; clear hK; (with_reducible refine hK _ _ _ ?_); clear hK) | (clear hK; clear hK; clear hK; clear hK; clear hK; (with_reducible refine hK _ _ _ ?_); clear hK) | (clear hK; clear hK; clear hK; clear hK; clear hK; clear hK; (with_reducible refine hK _ _ _ ?_); clear hK) | (clear hK; clear hK; clear hK; clear hK; clear hK; clear hK; clear hK; (with_reducible refine hK _ _ _ ?_); clear hK))
    have hg3 : Has (HsP (.slice bl l.length cl) (mkL f l (i + 1)) :: L) g2 := by
      unfold HsP
      rw [mkL_len, hsl, ← mkL_succ, ← flat_modify (g := fun x => { x with slot := f + i }) (j := 1) (w := iv ((f + i : Nat) : Int)) (by decide) (fun x => rfl) (mkL f l i) i hil]
      exact hg2
    exact ⟨(i + 1, g2), ⟨by dsimp only; omega, hg3⟩, by dsimp only; omega, subE_cons (by rw [hsl]; rfl) (subE_cons rfl (subE_cons (int_eq hnext rfl) subE_nil)), subB_nil, rfl⟩
  · repeat (first | ((with_reducible refine hK _ _ _ ?_); clear hK) | (with_reducible refine seq_step fun K hK => ?_) | (with_reducible refine block_step ?_) | ((with_reducible refine cond_t ?_ ?_); focus rfl) | ((with_reducible refine cond_f ?_ ?_); focus rfl) | ((with_reducible refine code_id ?_); conv => whnf) | (clear hK; (with_reducible refine hK _ _ _ ?_); clear hK) | (clear hK; clear hK; (with_reducible refine hK _ _ _ ?_); clear hK) | (clear hK; clear hK; clear hK; (with_reducible refine hK _ _ _ ?_); clear hK) | (clear hK; clear hK; clear hK; clear hK; (with_reducible refine hK _ _ _ ?_); clear hK) | (clear hK; clear hK; clear hK; clear hK; clear hK; (with_reducible refine hK _ _ _ ?_); clear hK) | (clear hK; clear hK; clear hK; clear hK; clear hK; clear hK; (with_reducible refine hK _ _ _ ?_); clear hK) | (clear hK; clear hK; clear hK; clear hK; clear hK; clear hK; clear hK; (with_reducible refine hK _ _ _ ?_); clear hK))
    have hie : i = l.length := by omega
    rw [hie] at hg
    exact hq _ hg

set_option maxRecDepth 100000 in
set_option maxHeartbeats 2000000 in
theorem bears25 {s : Value} {l : List Hd} (hv : Vw 6 h s l.length (l.flatMap hdC)) (f : Nat) (hf : f < 1000) (hl : l.length < 1000) (h0 : 0 < l.length) (hs : ∀ (i : Nat) (hi : i < l.length), l[i].slot = f + i) (hq : Q (.bool true) h) : Ok PR 25 [s, iv f] h Q := by
  obtain ⟨bb, o, cap', cc0, ty0, z0, rfl, hbb, _⟩ := hs_at hv h0
  refine e25 rfl (seq_step fun K hK => ?_)
  repeat (first | ((with_reducible refine hK _ _ _ ?_); clear hK) | (with_reducible refine seq_step fun K hK => ?_) | (with_reducible refine block_step ?_) | ((with_reducible refine cond_t ?_ ?_); focus rfl) | ((with_reducible refine cond_f ?_ ?_); focus rfl) | ((with_reducible refine code_id ?_); conv => whnf) | (clear hK; (with_reducible refine hK _ _ _ ?_); clear hK) | (clear hK; clear hK; (with_reducible refine hK _ _ _ ?_); clear hK) | (clear hK; clear hK; clear hK; (with_reducible refine hK _ _ _ ?_); clear hK) | (clear hK; clear hK; clear hK; clear hK; (with_reducible refine hK _ _ _ ?_); clear hK) | (clear hK; clear hK; clear hK; clear hK; clear hK; (with_reducible refine hK _ _ _ ?_); clear hK) | (clear hK; clear hK; clear hK; clear hK; clear hK; clear hK; (with_reducible refine hK _ _ _ ?_); clear hK) | (clear hK; clear hK; clear hK; clear hK; clear hK; clear hK; clear hK; (with_reducible refine hK _ _ _ ?_); clear hK))
  refine loop_intro (σ := Nat) (fun s => [(0, .v (.slice (some ⟨bb, o, none⟩) l.length cap')), (1, .v (iv f)), (5, .v (iv s))]) (fun _ => []) (fun _ => h)
    (fun s => s ≤ l.length) (fun s => l.length - s) 0 (Nat.zero_le _)
    (subE_cons rfl (subE_cons rfl (subE_cons rfl subE_nil))) subB_nil rfl ?_
  intro i hi
  have hnext : IntKind.i64.wrap ((i : Int) + 1) = ((i + 1 : Nat) : Int) := wrap_nat (by omega)
  repeat (first | ((with_reducible refine hK _ _ _ ?_); clear hK) | (with_reducible refine seq_step fun K hK => ?_) | (with_reducible refine block_step ?_) | ((with_reducible refine cond_t ?_ ?_); focus rfl) | ((with_reducible refine cond_f ?_ ?_); focus rfl) | ((with_reducible refine code_id ?_); conv => whnf) | (clear hK; (with_reducible refine hK _ _ _ ?_); clear hK) | (clear hK; clear hK; (with_reducible refine hK _ _ _ ?_); clear hK) | (clear hK; clear hK; clear hK; (with_reducible refine hK _ _ _ ?_); clear hK) | (clear hK; clear hK; clear hK; clear hK; (with_reducible refine hK _ _ _ ?_); clear hK) | (clear hK; clear hK; clear hK; clear hK; clear hK; (with_reducible refine hK _ _ _ ?_); clear hK) | (clear hK; clear hK; clear hK; clear hK; clear hK; clear hK; (with_reducible refine hK _ _ _ ?_); clear hK) | (clear hK; clear hK; clear hK; clear hK; clear hK; clear hK; clear hK; (with_reducible refine hK _ _ _ ?_); clear hK))
  refine cond_dec (fun hlt => ?_) (fun hge => ?_)
  · have hil : i < l.length := by omega
    obtain ⟨b2, o2, cap2, cc, ty, z, hsl, hb2, _, h1, _⟩ := hs_at hv hil
    injection hsl with e1 e2 e3
    injection e1 with e1
    injection e1 with e1 e4 e5
    subst e1 e4
    have hw1 : IntKind.i64.wrap ((f : Int) + (i : Int)) = ((f + i : Nat) : Int) := by rw [wrap_i64] <;> omega
    rw [hs i hil] at h1
    repeat (first | ((with_reducible refine hK _ _ _ ?_); clear hK) | (with_reducible refine seq_step fun K hK => ?_) | (with_reducible refine block_step ?_) | ((with_reducible refine cond_t ?_ ?_); focus rfl) | ((with_reducible refine cond_f ?_ ?_); focus rfl) | ((with_reducible refine code_id ?_); conv => whnf) | (clear hK; (with_reducible refine hK _ _ _ ?_); clear hK) | (clear hK; clear hK; (with_reducible refine hK _ _ _ ?_); clear hK) | (clear hK; clear hK; clear hK; (with_reducible refine hK _ _ _ ?_); clear hK) | (clear hK; clear hK; clear hK; clear hK; (with_reducible refine hK _ _ _ ?_); clear hK) | (clear hK; clear hK; clear hK; clear hK; clear hK; (with_reducible refine hK _ _ _ ?_); clear hK) | (clear hK; clear hK; clear hK; clear hK; clear hK; clear hK; (with_reducible refine hK _ _ _ ?_); clear hK) | (clear hK; clear hK; clear hK; clear hK; clear hK; clear hK; clear hK; (with_reducible refine hK _ _ _ ?_); clear hK))
    refine opt_if ⟨by omega, by omega⟩ ?_
    conv => whnf
    refine opt_ld hb2 (v := iv (f + i : Nat)) (by show cc[o + (i : Int).toNat * 6 + 1]? = _; rw [Int.toNat_natCast]; exact h1) ?_
    conv => whnf
    rw [hw1, show ((((f + i : Nat) : Int)) != ((f + i : Nat) : Int)) = false from bne_self_eq_false _]
    conv => whnf
    repeat (first | ((with_reducible refine hK _ _ _ ?_); clear hK) | (with_reducible refine seq_step fun K hK => ?_) | (with_reducible refine block_step ?_) | ((with_reducible refine cond_t ?_ ?_); focus rfl) | ((with_reducible refine cond_f ?_ ?_); focus rfl) | ((with_reducible refine code_id ?_); conv => whnf) | (clear hK; (with_reducible refine hK _ _ _ ?_); clear hK) | (clear hK; clear hK; (with_reducible refine hK _ _ _ ?_); clear hK) | (clear hK; clear hK; clear hK; (with_reducible refine hK _ _ _ ?_); clear hK) | (clear hK; clear hK; clear hK; clear hK; (with_reducible refine hK _ _ _ ?_); clear hK) | (clear hK; clear hK; clear hK; clear hK; clear hK; (with_reducible refine hK _ _ _ ?_); clear hK) | (clear hK; clear hK; clear hK; clear hK; clear hK; clear hK; (with_reducible refine hK _ _ _ ?_); clear hK) | (clear hK; clear hK; clear hK; clear hK; clear hK; clear hK; clear hK; (with_reducible refine hK _ _ _ ?_); clear hK))
    exact ⟨i + 1, hil, by omega, subE_cons rfl (subE_cons rfl (subE_cons (int_eq hnext rfl) subE_nil)), subB_nil, rfl⟩
  · repeat (first | ((with_reducible refine hK _ _ _ ?_); clear hK) | (with_reducible refine seq_step fun K hK => ?_) | (with_reducible refine block_step ?_) | ((with_reducible refine cond_t ?_ ?_); focus rfl) | ((with_reducible refine cond_f ?_ ?_); focus rfl) | ((with_reducible refine code_id ?_); conv => whnf) | (clear hK; (with_reducible refine hK _ _ _ ?_); clear hK) | (clear hK; clear hK; (with_reducible refine hK _ _ _ ?_); clear hK) | (clear hK; clear hK; clear hK; (with_reducible refine hK _ _ _ ?_); clear hK) | (clear hK; clear hK; clear hK; clear hK; (with_reducible refine hK _ _ _ ?_); clear hK) | (clear hK; clear hK; clear hK; clear hK; clear hK; (with_reducible refine hK _ _ _ ?_); clear hK) | (clear hK; clear hK; clear hK; clear hK; clear hK; clear hK; (with_reducible refine hK _ _ _ ?_); clear hK) | (clear hK; clear hK; clear hK; clear hK; clear hK; clear hK; clear hK; (with_reducible refine hK _ _ _ ?_); clear hK))
    rw [show decide (((l.length : Nat) : Int) > 0) = true from decide_eq_true (by omega)]
    conv => whnf
    repeat (first | ((with_reducible refine hK _ _ _ ?_); clear hK) | (with_reducible refine seq_step fun K hK => ?_) | (with_reducible refine block_step ?_) | ((with_reducible refine cond_t ?_ ?_); focus rfl) | ((with_reducible refine cond_f ?_ ?_); focus rfl) | ((with_reducible refine code_id ?_); conv => whnf) | (clear hK; (with_reducible refine hK _ _ _ ?_); clear hK) | (clear hK; clear hK; (with_reducible refine hK _ _ _ ?_); clear hK) | (clear hK; clear hK; clear hK; (with_reducible refine hK _ _ _ ?_); clear hK) | (clear hK; clear hK; clear hK; clear hK; (with_reducible refine hK _ _ _ ?_); clear hK) | (clear hK; clear hK; clear hK; clear hK; clear hK; (with_reducible refine hK _ _ _ ?_); clear hK) | (clear hK; clear hK; clear hK; clear hK; clear hK; clear hK; (with_reducible refine hK _ _ _ ?_); clear hK) | (clear hK; clear hK; clear hK; clear hK; clear hK; clear hK; clear hK; (with_reducible refine hK _ _ _ ?_); clear hK))
    exact hq

theorem more11 {ser : Int} {op : List Nat} {kk : Nat → Nat} (hc : Cn S ser op kk) (h0 : 0 ∈ op) {e : Nat} (he : e ∈ op) (he0 : e ≠ 0) (hk0 : kk 0 = 1) (hke : kk e < 48) (hh : Has (CapsA b S :: L) h)
    (hq : ∀ S' h', Cn S' ser op (up1 kk e (kk e + 1)) → (Kin S → Kin S') → Has (CapsA b S' :: L) h' → Q (.tuple #[iv (kk e), iv 0]) h') : Ok PR 11 [ptr b, iv 0, iv 0, iv e, iv (-1), iv 5] h Q := by
  have hd := hc.derive h0 he hk0 hke
  refine derive11 hc.wf hh 0 0 e (-1) 5 (fun k hk => by rw [hd] at hk; cases hk) fun p hp n i a e1 e2 e3 hi hw h' hh' => ?_
  obtain rfl : e = n := by omega
  rw [hd] at hi
  injection hi with hi
  subst hi
  have hp0 : p.env = 0 := by omega
  have hcp : ({ p.cap with rights := 5 } : Cp) = cpE ser e := by
    rw [(hc.fit p hp).2, hp0]
    unfold cpE
    rw [if_neg he0]
  rw [hcp] at hw hh'
  exact hq _ _ (hc.more hw) (fun hk => hk.more hp hp0 he0 rfl) hh'

theorem up1_same (kk : Nat → Nat) (e k : Nat) : up1 kk e k e = k := if_pos rfl
theorem up1_other (kk : Nat → Nat) {e x : Nat} (k : Nat) (h : x ≠ e) : up1 kk e k x = kk x := if_neg h
theorem up1_up1 (kk : Nat → Nat) (e k k2 : Nat) : up1 (up1 kk e k) e k2 = up1 kk e k2 := by
  funext x
  unfold up1
  split <;> rfl
theorem up1_id (kk : Nat → Nat) (e : Nat) : up1 kk e (kk e) = kk := by
  funext x
  unfold up1
  split
  · rename_i h; rw [h]
  · rfl

set_option maxRecDepth 100000 in
set_option maxHeartbeats 2000000 in
theorem refilled51 {ser : Int} {op : List Nat} {kk : Nat → Nat} (hc : Cn S ser op kk) (h0 : 0 ∈ op) {e : Nat} (he : e ∈ op) (he0 : e ≠ 0) (hk0 : kk 0 = 1) (n : Nat) (hke : kk e + n ≤ 48) (hh : Has (CapsA b S :: L) h)
    (hq : ∀ S' h', Cn S' ser op (up1 kk e (kk e + n)) → (Kin S → Kin S') → Has (CapsA b S' :: L) h' → Q (.bool true) h') : Ok PR 51 [ptr b, iv e, iv n] h Q := by
  refine e51 rfl (seq_step fun K hK => ?_)
  repeat (first | ((with_reducible refine hK _ _ _ ?_); clear hK) | (with_reducible refine seq_step fun K hK => ?_) | (with_reducible refine block_step ?_) | ((with_reducible refine cond_t ?_ ?_); focus rfl) | ((with_reducible refine cond_f ?_ ?_); focus rfl) | ((with_reducible refine code_id ?_); conv => whnf) | (clear hK; (with_reducible refine hK _ _ _ ?_); clear hK) | (clear hK; clear hK; (with_reducible refine hK _ _ _ ?_); clear hK) | (clear hK; clear hK; clear hK; (with_reducible refine hK _ _ _ ?_); clear hK) | (clear hK; clear hK; clear hK; clear hK; (with_reducible refine hK _ _ _ ?_); clear hK) | (clear hK; clear hK; clear hK; clear hK; clear hK; (with_reducible refine hK _ _ _ ?_); clear hK) | (clear hK; clear hK; clear hK; clear hK; clear hK; clear hK; (with_reducible refine hK _ _ _ ?_); clear hK) | (clear hK; clear hK; clear hK; clear hK; clear hK; clear hK; clear hK; (with_reducible refine hK _ _ _ ?_); clear hK))
  refine loop_intro (σ := (Nat × Bs) × Hp) (fun s => [(0, .v (ptr b)), (1, .v (iv e)), (2, .v (iv n)), (7, .v (iv s.1.1))]) (fun _ => []) (fun s => s.2)
    (fun s => s.1.1 ≤ n ∧ Cn s.1.2 ser op (up1 kk e (kk e + s.1.1)) ∧ (Kin S → Kin s.1.2) ∧ Has (CapsA b s.1.2 :: L) s.2) (fun s => n - s.1.1) ((0, S), h) ⟨Nat.zero_le _, by show Cn S ser op (up1 kk e (kk e + 0)); rw [Nat.add_zero, up1_id]; exact hc, id, hh⟩
    (subE_cons rfl (subE_cons rfl (subE_cons rfl (subE_cons rfl subE_nil)))) subB_nil rfl ?_
  rintro ⟨⟨i, S1⟩, g⟩ ⟨hi, hc1, hk1, hg⟩
  dsimp only at hi hc1 hk1 hg ⊢
  have hnext : IntKind.i64.wrap ((i : Int) + 1) = ((i + 1 : Nat) : Int) := wrap_nat (by omega)
  repeat (first | ((with_reducible refine hK _ _ _ ?_); clear hK) | (with_reducible refine seq_step fun K hK => ?_) | (with_reducible refine block_step ?_) | ((with_reducible refine cond_t ?_ ?_); focus rfl) | ((with_reducible refine cond_f ?_ ?_); focus rfl) | ((with_reducible refine code_id ?_); conv => whnf) | (clear hK; (with_reducible refine hK _ _ _ ?_); clear hK) | (clear hK; clear hK; (with_reducible refine hK _ _ _ ?_); clear hK) | (clear hK; clear hK; clear hK; (with_reducible refine hK _ _ _ ?_); clear hK) | (clear hK; clear hK; clear hK; clear hK; (with_reducible refine hK _ _ _ ?_); clear hK) | (clear hK; clear hK; clear hK; clear hK; clear hK; (with_reducible refine hK _ _ _ ?_); clear hK) | (clear hK; clear hK; clear hK; clear hK; clear hK; clear hK; (with_reducible refine hK _ _ _ ?_); clear hK) | (clear hK; clear hK; clear hK; clear hK; clear hK; clear hK; clear hK; (with_reducible refine hK _ _ _ ?_); clear hK))
  refine cond_dec (fun hlt => ?_) (fun hge => ?_)
  · repeat (first | ((with_reducible refine hK _ _ _ ?_); clear hK) | (with_reducible refine seq_step fun K hK => ?_) | (with_reducible refine block_step ?_) | ((with_reducible refine cond_t ?_ ?_); focus rfl) | ((with_reducible refine cond_f ?_ ?_); focus rfl) | ((with_reducible refine code_id ?_); conv => whnf) | (clear hK; (with_reducible refine hK _ _ _ ?_); clear hK) | (clear hK; clear hK; (with_reducible refine hK _ _ _ ?_); clear hK) | (clear hK; clear hK; clear hK; (with_reducible refine hK _ _ _ ?_); clear hK) | (clear hK; clear hK; clear hK; clear hK; (with_reducible refine hK _ _ _ ?_); clear hK) | (clear hK; clear hK; clear hK; clear hK; clear hK; (with_reducible refine hK _ _ _ ?_); clear hK) | (clear hK; clear hK; clear hK; clear hK; clear hK; clear hK; (with_reducible refine hK _ _ _ ?_); clear hK) | (clear hK; clear hK; clear hK; clear hK; clear hK; clear hK; clear hK; (with_reducible refine hK _ _ _ ?_); clear hK))
    refine more11 hc1 h0 he he0 (by rw [up1_other _ _ (Ne.symm he0)]; exact hk0) (by rw [up1_same]; omega) hg fun S2 g2 hc2 hk2 hg2 => ?_
    conv => whnf
    repeat (first | ((with_reducible refine hK _ _ _ ?_); clear hK) | (with_reducible refine seq_step fun K hK => ?_) | (with_reducible refine block_step ?_) | ((with_reducible refine cond_t ?_ ?_); focus rfl) | ((with_reducible refine cond_f ?_ ?_); focus rfl) | ((with_reducible refine code_id ?_); conv => whnf) | (clear hK; (with_reducible refine hK _ _ _ ?_); clear hK) | (clear hK; clear hK; (with_reducible refine hK _ _ _ ?_); clear hK) | (clear hK; clear hK; clear hK; (with_reducible refine hK _ _ _ ?_); clear hK) | (clear hK; clear hK; clear hK; clear hK; (with_reducible refine hK _ _ _ ?_); clear hK) | (clear hK; clear hK; clear hK; clear hK; clear hK; (with_reducible refine hK _ _ _ ?_); clear hK) | (clear hK; clear hK; clear hK; clear hK; clear hK; clear hK; (with_reducible refine hK _ _ _ ?_); clear hK) | (clear hK; clear hK; clear hK; clear hK; clear hK; clear hK; clear hK; (with_reducible refine hK _ _ _ ?_); clear hK))
    rw [up1_same, up1_up1] at hc2
    exact ⟨((i + 1, S2), g2), ⟨by dsimp only; omega, hc2, fun h => hk2 (hk1 h), hg2⟩, by dsimp only; omega, subE_cons rfl (subE_cons rfl (subE_cons rfl (subE_cons (int_eq hnext rfl) subE_nil))), subB_nil, rfl⟩
  · repeat (first | ((with_reducible refine hK _ _ _ ?_); clear hK) | (with_reducible refine seq_step fun K hK => ?_) | (with_reducible refine block_step ?_) | ((with_reducible refine cond_t ?_ ?_); focus rfl) | ((with_reducible refine cond_f ?_ ?_); focus rfl) | ((with_reducible refine code_id ?_); conv => whnf) | (clear hK; (with_reducible refine hK _ _ _ ?_); clear hK) | (clear hK; clear hK; (with_reducible refine hK _ _ _ ?_); clear hK) | (clear hK; clear hK; clear hK; (with_reducible refine hK _ _ _ ?_); clear hK) | (clear hK; clear hK; clear hK; clear hK; (with_reducible refine hK _ _ _ ?_); clear hK) | (clear hK; clear hK; clear hK; clear hK; clear hK; (with_reducible refine hK _ _ _ ?_); clear hK) | (clear hK; clear hK; clear hK; clear hK; clear hK; clear hK; (with_reducible refine hK _ _ _ ?_); clear hK) | (clear hK; clear hK; clear hK; clear hK; clear hK; clear hK; clear hK; (with_reducible refine hK _ _ _ ?_); clear hK))
    have hie : i = n := by omega
    rw [hie] at hc1
    exact hq _ _ hc1 hk1 hg
end
end Go.Proofs.YthpkgkoojhgedaaDoor.V
