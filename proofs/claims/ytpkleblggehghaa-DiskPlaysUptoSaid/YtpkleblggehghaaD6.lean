/- Seat 04: Read, through the cache. -/
import Derived.Test.YtpkleblggehghaaD5
namespace Go.Proofs.Ytpkleblggehghaa.V
set_option linter.unusedVariables false
set_option linter.unusedSimpArgs false
set_option linter.unusedSectionVars false
set_option linter.unusedSectionVars false
open Go

/-- What Read tells: the last write that waits, or the medium. -/
def cacheAt (l : List (Int × Sec)) (n : Int) : Option Sec := (l.reverse.find? fun x => x.1 == n).map (·.2)
def Dk.look (d : Dk) (n : Nat) : Option Sec := match cacheAt d.cache n with
  | some x => some x
  | none => d.med[n]?

theorem cacheAt_none {l : List (Int × Sec)} {n : Int} (h : ∀ (j : Nat) (x : Int × Sec), l[j]? = some x → x.1 ≠ n) : cacheAt l n = none := by
  unfold cacheAt
  rw [List.find?_eq_none.2 (fun x hx => ?_)]
  · rfl
  · obtain ⟨j, hj⟩ := List.mem_iff_getElem?.1 (List.mem_reverse.1 hx)
    simpa using h j x hj

theorem cacheAt_some {l : List (Int × Sec)} {n : Int} {k : Nat} {x : Int × Sec} (hk : l[k]? = some x) (hx : x.1 = n) (h : ∀ (j : Nat) (y : Int × Sec), k < j → l[j]? = some y → y.1 ≠ n) : cacheAt l n = some x.2 := by
  unfold cacheAt
  have hkl := (List.getElem?_eq_some_iff.1 hk).1
  have e : l = l.take k ++ x :: l.drop (k + 1) := by
    have : l[k] = x := (List.getElem?_eq_some_iff.1 hk).2
    rw [← this, List.getElem_cons_drop, List.take_append_drop]
  rw [e, List.reverse_append, List.reverse_cons, List.append_assoc, List.find?_append]
  rw [List.find?_eq_none.2 (fun y hy => ?_)]
  · simp [hx]
  · obtain ⟨j, hj⟩ := List.mem_iff_getElem?.1 (List.mem_reverse.1 hy)
    rw [List.getElem?_drop] at hj
    simpa using h _ y (by omega) hj

section
variable {h : Hp} {Q : Value → Hp → Prop} {L : List As} {p : Nat} {d : Dk}

theorem join1 {sl : Value} {b1 : Nat} {ty : TypeId} {x : Sec} (hh : Has L h) (hb1 : h b1 = some (.cells #[sl] ty (0, 0))) (hv : Vw 1 h sl 128 (rowS x)) (hq : ∀ s h', Has (WnP 1 s 128 (rowS x) :: L) h' → Q s h') : Ok PR 50 [.slice (some ⟨b1, 0, none⟩) 1 1] h Q := by
  have ha : Vw 1 h (.slice (some ⟨b1, 0, none⟩) 1 1) 1 [sl] := (pt_wn (e := 1) (n := 1) (cap := 1) (cs := [sl]) rfl (Nat.le_refl _) rfl hb1).vw
  refine join50 (bs := [x.val]) hh ha rfl (fun i q l hq1 hq2 => ?_) (by omega) (by simp [x.len]) fun s2 h2 hh2 => ?_
  · rcases i with _ | i
    · cases hq1; cases hq2
      rw [x.len]; exact hv
    · simp at hq1
  have e2 : [x.val].flatten = x.val := by simp
  rw [e2, x.len] at hh2
  exact hq _ _ hh2

theorem read22o (n : Int) (hn : ¬ (0 ≤ n ∧ n < 1024)) (hq : Q (.tuple #[.slice none 0 0, iv 40]) h) : Ok PR 22 [ptr p, iv n] h Q := by
  refine e22 rfl ?_
  refine seq_step fun K hK => ?_
  conv => whnf
  refine hK _ _ _ (seq_step fun K1 hK1 => ?_)
  conv => whnf
  refine there47 n ?_
  rw [show decide (0 ≤ n ∧ n < 1024) = false from decide_eq_false hn]
  conv => whnf
  exact hq

set_option maxRecDepth 20000 in
theorem read22d (n : Int) (hn : 0 ≤ n ∧ n < 1024) (hd : d.down = true) (hh : Has (DkP p d :: L) h) (hq : Q (.tuple #[.slice none 0 0, iv 42]) h) : Ok PR 22 [ptr p, iv n] h Q := by
  obtain ⟨hok, s, hh⟩ := DkP.opn hh
  refine e22 rfl ?_
  refine seq_step fun K hK => ?_
  conv => whnf
  refine hK _ _ _ (seq_step fun K1 hK1 => ?_)
  conv => whnf
  refine there47 (n : Int) ?_
  rw [show decide (0 ≤ n ∧ n < 1024) = true from decide_eq_true hn]
  conv => whnf
  refine hK1 _ _ _ (seq_step fun K2 hK2 => ?_)
  conv => whnf
  refine dk_ld (hh.pt 0 rfl) hok.med 3 _ rfl rfl ?_
  rw [hd]
  conv => whnf
  exact hq

set_option maxRecDepth 20000 in
theorem read22 (n : Nat) {x : Sec} (hd : d.down = false) (hn : n < 1024) (hh : Has (DkP p d :: L) h) (hx : d.look n = some x) (hc : d.cache.length ≤ 2 ^ 40) (hq : ∀ s h', Has (WnP 1 s 128 (rowS x) :: DkP p d :: L) h' → Q (.tuple #[s, iv 0]) h') : Ok PR 22 [ptr p, iv n] h Q := by
  obtain ⟨hok, s, hh⟩ := DkP.opn hh
  refine e22 rfl ?_
  refine seq_step fun K hK => ?_
  conv => whnf
  refine hK _ _ _ (seq_step fun K1 hK1 => ?_)
  conv => whnf
  refine there47 (n : Int) ?_
  rw [show decide (0 ≤ (n : Int) ∧ (n : Int) < 1024) = true from decide_eq_true ⟨by omega, by omega⟩]
  conv => whnf
  refine hK1 _ _ _ (seq_step fun K2 hK2 => ?_)
  conv => whnf
  refine dk_ld (hh.pt 0 rfl) hok.med 3 _ rfl rfl ?_
  rw [hd]
  conv => whnf
  refine hK2 _ _ _ (seq_step fun K3 hK3 => ?_)
  conv => whnf
  have hW : WnP 129 s d.cache.length (d.cache.flatMap rowQ) h := Has.get (L := Pt p (.cells (dkC d s).toArray 84 (0, 0)) :: WnP 129 s d.cache.length (d.cache.flatMap rowQ) :: L) hh 1 rfl fun _ _ => WnP.sub
  obtain ⟨base, cap, hs, hnc, hb0⟩ := hW.val
  subst hs
  refine dk_ld (hh.pt 0 rfl) hok.med 0 _ rfl rfl ?_
  conv => whnf
  have hw : IntKind.i64.wrap ((d.cache.length : Int) - 1) = (d.cache.length : Int) - 1 := wrap_i64 (by omega) (by omega)
  have put : ∀ {A : As} {h' : Hp}, Has (A :: Pt p (.cells (dkC d (.slice base d.cache.length cap)).toArray 84 (0, 0)) :: WnP 129 (.slice base d.cache.length cap) d.cache.length (d.cache.flatMap rowQ) :: L) h' → Has (A :: DkP p d :: L) h' := fun hx => by
    obtain ⟨h1, h2, e, ap, hA, hL⟩ := hx
    exact ⟨h1, h2, e, ap, hA, DkP.cls hok hL⟩
  rw [hw]
  refine loop_intro (σ := Nat) (fun k => [(6, .v (iv ((k : Int) - 1))), (0, .v (ptr p)), (1, .v (iv n))]) (fun _ => []) (fun _ => h)
    (fun k => k ≤ d.cache.length ∧ ∀ (j : Nat) (y : Int × Sec), k ≤ j → d.cache[j]? = some y → y.1 ≠ (n : Int)) (fun k => k) d.cache.length ⟨Nat.le_refl _, fun j y hj hy => by have := (List.getElem?_eq_some_iff.1 hy).1; omega⟩
    ⟨rfl, rfl, rfl, trivial⟩ subB_nil rfl ?_
  rintro k ⟨hk, hno⟩
  dsimp only
  refine seq_step fun K4 hK4 => ?_
  conv => whnf
  refine cond_dec (fun hge => ?_) (fun hge => ?_)
  · obtain ⟨m, rfl⟩ : ∃ m, k = m + 1 := ⟨k - 1, by omega⟩
    have em : ((m + 1 : Nat) : Int) - 1 = (m : Int) := by omega
    rw [em]
    have hm : d.cache[m]? = some d.cache[m] := List.getElem?_eq_getElem (by omega)
    generalize d.cache[m] = y at hm
    obtain ⟨b, o, c, ty, z, cap', hs, hb, hsz, hcc⟩ := hW.vw.at (i := m) (by omega)
    cases hs
    have hcell : ∀ j v, (rowQ y)[j]? = some v → c[o + m * 129 + j]? = some v := fun j v hv => by
      have hj : j < 129 := by rw [← rowQ_len y]; exact (List.getElem?_eq_some_iff.1 hv).1
      exact hcc j v (by rw [flat_get rowQ_len _ _ _ _ hm hj]; exact hv)
    conv => whnf
    refine hK4 _ _ _ (seq_step fun K5 hK5 => ?_)
    conv => whnf
    refine dk_ld (hh.pt 0 rfl) hok.med 0 _ rfl rfl ?_
    conv => whnf
    refine opt_if ⟨by omega, by omega⟩ ?_
    conv => whnf
    refine opt_ld hb (v := iv y.1) (hcell 0 _ rfl) ?_
    conv => whnf
    refine cond_beq (fun he => ?_) (fun he => ?_)
    · have hlook : d.look n = some y.2 := by
        unfold Dk.look
        rw [cacheAt_some hm he (fun j y' hj hy' => hno j y' (by omega) hy')]
      rw [hlook] at hx
      cases hx
      conv => whnf
      refine dk_ld (hh.pt 0 rfl) hok.med 0 _ rfl rfl ?_
      conv => whnf
      refine opt_if ⟨by omega, by omega⟩ ?_
      conv => whnf
      refine fresh_has hh fun b1 h1 hb1 _ hs1 hh1 => ?_
      conv => whnf
      have hvm : Vw 1 h (.slice (some ⟨b, o + m * 129 + 1, none⟩) 128 128) 128 (rowS y.2) := by
        have hmn : m * 129 + 129 ≤ d.cache.length * 129 := by rw [← Nat.succ_mul]; exact Nat.mul_le_mul_right 129 (by omega)
        refine ⟨by rw [rowS_len], _, 128, rfl, Nat.le_refl _, .inr ⟨b, _, c, ty, z, rfl, hb, by omega, fun j v hv => ?_⟩⟩
        rw [Nat.add_assoc (o + m * 129), Nat.add_comm 1 j]
        exact hcell (j + 1) v (by rw [rowQ, List.getElem?_cons_succ]; exact hv)
      have e1 : (if (128 : Nat) = 0 then o + ((m : Int)).toNat * 129 + 1 else o + ((m : Int)).toNat * 129 + 1 + 0 * 1) = o + m * 129 + 1 := by rw [if_neg (by decide)]; omega
      rw [e1] at hb1
      refine join1 (Has.tail hh1) hb1 (hvm.sub hs1) fun s2 h2 hh2 => ?_
      conv => whnf
      exact hq _ _ (put hh2)
    · conv => whnf
      refine hK5 _ _ _ ?_
      conv => whnf
      exact ⟨m, ⟨by omega, fun j y' hj hy' => by
        by_cases hjm : j = m
        · subst hjm; rw [hm] at hy'; cases hy'; exact he
        · exact hno j y' (by omega) hy'⟩, Nat.lt_succ_self _, ⟨int_eq (wrap_i64 (by omega) (by omega)) rfl, rfl, rfl, trivial⟩, subB_nil, rfl⟩
  · have hk0 : k = 0 := by omega
    subst hk0
    have hlook : d.med[n]? = some x := by
      unfold Dk.look at hx
      rw [cacheAt_none (fun j y hy => hno j y (Nat.zero_le _) hy)] at hx
      exact hx
    conv => whnf
    refine hK3 _ _ _ (seq_step fun K6 hK6 => ?_)
    conv => whnf
    refine opt_if ⟨by omega, by omega⟩ ?_
    conv => whnf
    refine fresh_has hh fun b1 h1 hb1 _ hs1 hh1 => ?_
    conv => whnf
    have e1 : (if (128 : Nat) = 0 then 0 + 0 + ((n : Int)).toNat * 128 else 0 + 0 + ((n : Int)).toNat * 128 + 0 * 1) = n * 128 := by rw [if_neg (by decide)]; omega
    rw [e1] at hb1
    refine join1 (Has.tail hh1) hb1 (dk_vw hok (hs1 _ _ (hh.pt 0 rfl)) hlook) fun s2 h2 hh2 => ?_
    conv => whnf
    refine hK6 _ _ _ ?_
    conv => whnf
    exact hq _ _ (put hh2)

end
end Go.Proofs.Ytpkleblggehghaa.V
