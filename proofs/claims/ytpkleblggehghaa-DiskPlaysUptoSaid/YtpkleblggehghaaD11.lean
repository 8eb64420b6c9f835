/- Seat 04: Edit. -/
import Derived.Test.YtpkleblggehghaaD10
namespace Go.Proofs.Ytpkleblggehghaa.V
set_option linter.unusedVariables false
set_option linter.unusedSimpArgs false
set_option linter.unusedSectionVars false
set_option linter.unusedSectionVars false
open Go

/-- Bytes laid over a sector. -/
def Sec.edit (x : Sec) (at_ : Nat) (l : List Int) (h : at_ + l.length ≤ 128) : Sec := ⟨x.val.take at_ ++ l ++ x.val.drop (at_ + l.length), by
  have := x.len
  simp only [List.length_append, List.length_take, List.length_drop]; omega⟩

theorem wr_edit {m : List Sec} {i : Nat} {x : Sec} {a : Nat} {l : List Int} {t : List Value} (hx : m[i]? = some x) (h : a + l.length ≤ 128) : wr (m.flatMap rowS ++ t).toArray (i * 128 + a) (l.map by8) = ((m.set i (x.edit a l h)).flatMap rowS ++ t).toArray := by
  have hi := (List.getElem?_eq_some_iff.1 hx).1
  have hx1 : m[i] = x := (List.getElem?_eq_some_iff.1 hx).2
  have e1 : m = m.take i ++ x :: m.drop (i + 1) := by rw [← hx1, List.getElem_cons_drop, List.take_append_drop]
  have e2 : m.set i (x.edit a l h) = m.take i ++ (x.edit a l h) :: m.drop (i + 1) := by rw [List.set_eq_take_append_cons_drop, if_pos hi]
  rw [e2, wr_wrL]
  congr 1
  have hA : ((m.take i).flatMap rowS ++ (x.val.take a).map by8).length = i * 128 + a := by
    rw [List.length_append, flat_len rowS_len, List.length_take, List.length_map, List.length_take, x.len]; omega
  have e3 : m.flatMap rowS ++ t = ((m.take i).flatMap rowS ++ (x.val.take a).map by8) ++ ((x.val.drop a).take l.length).map by8 ++ ((x.val.drop (a + l.length)).map by8 ++ ((m.drop (i + 1)).flatMap rowS ++ t)) := by
    conv => lhs; rw [e1]
    have e4 : x.val = x.val.take a ++ ((x.val.drop a).take l.length ++ x.val.drop (a + l.length)) := by
      rw [← List.drop_drop, List.take_append_drop, List.take_append_drop]
    simp only [List.flatMap_append, List.flatMap_cons, List.append_assoc]
    congr 1
    show x.val.map by8 ++ _ = _
    conv => lhs; rw [e4]
    simp only [List.map_append, List.append_assoc]
  rw [e3, ← hA, wrL_mid (by have := x.len; simp only [List.length_map, List.length_take, List.length_drop]; omega)]
  simp only [List.flatMap_append, List.flatMap_cons, List.append_assoc]
  congr 1
  show _ = (x.edit a l h).val.map by8 ++ _
  simp only [Sec.edit, List.map_append, List.append_assoc]

section
variable {h : Hp} {Q : Value → Hp → Prop} {L : List As} {p : Nat} {d : Dk}

theorem slA_lo {b o lo : Nat} {k : IntKind} (h : lo ≤ 128) : pSlA 128 1 (some (.v (.int k lo))) none (.v (.pointer (some ⟨b, o, none⟩))) = some (.v (.slice (some ⟨b, if 128 = lo then o else o + lo * 1, none⟩) (128 - lo) (128 - lo))) := by
  simp only [pSlA, bnd]
  rw [if_pos ⟨by omega, by omega⟩]
  simp

theorem edit28o (n a : Int) (v : Value) (hn : ¬ (0 ≤ n ∧ n < 1024)) (hq : Q (iv 40) h) : Ok PR 28 [ptr p, iv n, iv a, v] h Q := by
  refine e28 rfl ?_
  refine seq_step fun K hK => ?_
  conv => whnf
  refine hK _ _ _ (seq_step fun K1 hK1 => ?_)
  conv => whnf
  refine there47 n ?_
  rw [show decide (0 ≤ n ∧ n < 1024) = false from decide_eq_false hn]
  conv => whnf
  exact hq

theorem edit28z (n a : Int) {base : Option Addr} {len cap : Nat} (hn : 0 ≤ n ∧ n < 1024) (hl : len < 2 ^ 60) (hz : a < 0 ∨ 128 - (len : Int) < a) (hq : Q (iv 1) h) : Ok PR 28 [ptr p, iv n, iv a, .slice base len cap] h Q := by
  refine e28 rfl ?_
  refine seq_step fun K hK => ?_
  conv => whnf
  refine hK _ _ _ (seq_step fun K1 hK1 => ?_)
  conv => whnf
  refine there47 n ?_
  rw [show decide (0 ≤ n ∧ n < 1024) = true from decide_eq_true hn]
  conv => whnf
  refine hK1 _ _ _ (seq_step fun K2 hK2 => ?_)
  conv => whnf
  by_cases ha : a < 0
  · rw [show decide (a < 0) = true from decide_eq_true ha]
    conv => whnf
    exact hq
  · rw [show decide (a < 0) = false from decide_eq_false ha]
    conv => whnf
    rw [show decide (a > IntKind.i64.wrap (128 - (len : Int))) = true from decide_eq_true (by rw [wrap_i64 (by omega) (by omega)]; omega)]
    conv => whnf
    exact hq

set_option maxRecDepth 20000 in
theorem edit28 (n a : Nat) {v : Value} {l : List Int} {x : Sec} (hx : d.med[n]? = some x) (hl : a + l.length ≤ 128) (hh : Has (DkP p d :: L) h) (hv : ∀ g, Has L g → Vw 1 g v l.length (l.map by8)) (hq : ∀ h', Has (DkP p { d with med := d.med.set n (x.edit a l hl) } :: L) h' → Q (iv 0) h') : Ok PR 28 [ptr p, iv n, iv a, v] h Q := by
  obtain ⟨hok, s, hh⟩ := DkP.opn hh
  have hn : n < 1024 := by rw [← hok.med]; exact (List.getElem?_eq_some_iff.1 hx).1
  have hv0 := hv h (Has.tail (Has.tail hh))
  obtain ⟨base, cap, hs⟩ : ∃ base cap, v = .slice base l.length cap := let ⟨_, x, y, z, _⟩ := hv0; ⟨x, y, z⟩
  subst hs
  refine e28 rfl ?_
  refine seq_step fun K hK => ?_
  conv => whnf
  refine hK _ _ _ (seq_step fun K1 hK1 => ?_)
  conv => whnf
  refine there47 (n : Int) ?_
  rw [show decide (0 ≤ (n : Int) ∧ (n : Int) < 1024) = true from decide_eq_true ⟨by omega, by omega⟩]
  conv => whnf
  refine hK1 _ _ _ (seq_step fun K2 hK2 => ?_)
  conv => whnf
  rw [show decide ((a : Int) < 0) = false from decide_eq_false (by omega)]
  conv => whnf
  rw [show decide ((a : Int) > IntKind.i64.wrap (128 - (l.length : Int))) = false from decide_eq_false (by rw [wrap_i64 (by omega) (by omega)]; omega)]
  conv => whnf
  refine hK2 _ _ _ (seq_step fun K3 hK3 => ?_)
  conv => whnf
  refine opt_if ⟨by omega, by omega⟩ ?_
  conv => whnf
  refine opt_some (slA_lo (by omega)) ?_
  conv => whnf
  have hmin : min l.length (128 - a) = l.length := by omega
  refine cpy_has hh 0 rfl hv0 (by8_one l) (by rw [hmin, dk_size hok.med]; split <;> omega) fun h1 hh1 => ?_
  rw [hmin] at hh1 ⊢
  have htake : (l.map by8).take (l.length * 1) = l.map by8 := by rw [Nat.mul_one]; exact List.take_of_length_le (by simp)
  rw [htake] at hh1
  have hwr : wr (dkC d s).toArray (if 128 = a then 0 + 0 + ((n : Int)).toNat * 128 else 0 + 0 + ((n : Int)).toNat * 128 + a * 1) (l.map by8) = (dkC { d with med := d.med.set n (x.edit a l hl) } s).toArray := by
    have e1 : wr (dkC d s).toArray (if 128 = a then 0 + 0 + ((n : Int)).toNat * 128 else 0 + 0 + ((n : Int)).toNat * 128 + a * 1) (l.map by8) = wr (dkC d s).toArray (n * 128 + a) (l.map by8) := by
      by_cases ha : 128 = a
      · have : l = [] := List.eq_nil_of_length_eq_zero (by omega)
        subst this; rfl
      · rw [if_neg ha]; congr 1; omega
    rw [e1]
    exact wr_edit hx hl
  replace hh1 : Has (Pt p (.cells (wr (dkC d s).toArray (if 128 = a then 0 + 0 + ((n : Int)).toNat * 128 else 0 + 0 + ((n : Int)).toNat * 128 + a * 1) (l.map by8)) 84 (0, 0)) :: WnP 129 s d.cache.length (d.cache.flatMap rowQ) :: L) h1 := hh1
  rw [hwr] at hh1
  conv => whnf
  refine hK3 _ _ _ ?_
  conv => whnf
  exact hq _ (DkP.cls ⟨by simpa using hok.med, hok.at_, hok.left, hok.left2, hok.acts⟩ hh1)

end
end Go.Proofs.Ytpkleblggehghaa.V
