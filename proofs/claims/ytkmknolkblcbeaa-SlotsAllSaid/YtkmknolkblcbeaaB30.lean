/- A range as the document's table gives it; the two tables side by side. -/
import Derived.Test.YtkmknolkblcbeaaB29
import Derived.Test.YtkmknolkblcbeaaB14
namespace Go.Proofs.Ytkmknolkblcbeaa.V
set_option linter.unusedVariables false
set_option linter.unusedSimpArgs false
set_option linter.unusedSectionVars false
open Go

section
variable {h : Hp} {Q : Value → Hp → Prop} {a : Option Addr} {len cap : Nat} {f : Nat → Nat → Int} {p r : Nat} {l : Tb}

theorem alike55 (hT : TabP rowI p l h) (hR : RtP r l h) (hq : Q (.bool true) h) : Ok PR 55 [ptr p, ptr r] h Q := by
  have hR' := hR
  obtain ⟨dH, dV, hR⟩ := hR
  obtain ⟨ty, hc⟩ := hR.cell
  have hbd := hR.bound
  refine e55 rfl ?_
  conv => whnf
  refine loop_intro (σ := Nat) (fun k => [(5, .v (iv k)), (0, .v (ptr p)), (1, .v (ptr r))]) (fun _ => []) (fun _ => h) (fun k => k ≤ l.length) (fun k => l.length - k) 0 (Nat.zero_le _)
    (by repeat (first | exact trivial | refine ⟨rfl, ?_⟩ | refine ⟨int_eq (wrap_nat (by omega)) rfl, ?_⟩)) subB_nil rfl ?_
  intro k hk
  conv => whnf
  repeat (first | (refine opt_if ⟨by omega, by omega⟩ ?_; conv => whnf) | (refine opt_ld (by assumption) (by first | rfl | assumption) ?_; conv => whnf))
  refine cond_dec (fun hlt => ?_) (fun hge => ?_)
  · have hkl : k < l.length := by omega
    conv => whnf
    refine get60Q hT k ?_
    conv => whnf
    refine get97Q hR' k ?_
    cases got l (k : Int) with
    | none =>
      conv => whnf
      exact ⟨k + 1, hkl, by omega, (by repeat (first | exact trivial | refine ⟨rfl, ?_⟩ | refine ⟨int_eq (wrap_nat (by omega)) rfl, ?_⟩)), subB_nil, rfl⟩
    | some x =>
      conv => whnf
      rw [show (x != (some x).getD 0) = false from by simp]
      conv => whnf
      exact ⟨k + 1, hkl, by omega, (by repeat (first | exact trivial | refine ⟨rfl, ?_⟩ | refine ⟨int_eq (wrap_nat (by omega)) rfl, ?_⟩)), subB_nil, rfl⟩
  · conv => whnf
    refine len61Q hT ?_
    conv => whnf
    refine len100Q hR' ?_
    conv => whnf
    rw [beq_self_eq_true (cnt l : Int)]
    conv => whnf
    exact hq

structure Rd (f : Nat → Nat → Int) (len : Nat) (h0 : Hp) (p : Nat) (l : Tb) (c : Int) (n : Nat) (s : Value) (pre : List (Int × Int)) (cur : Tb) (g : Hp) : Prop where
  lo : 0 ≤ c
  go : ∀ ys lf, Rng f len cur c n ys lf → Rng f len l 0 0 (pre ++ ys) lf
  has : Has [SlP rowP zP s pre, RtP p cur, Is h0] g
  ln : (pre.length : Int) ≤ c
  ln2 : pre.length ≤ l.length
  nn : (n : Int) ≤ c
  cl : cur.length = l.length

theorem ranged51S {h0 : Hp} (hR : RowsN 4 h0 a len f) (hlen : len < 2 ^ 62) : Sp PR 51 [ptr p, .slice a len cap] (Has [RtP p l, Is h0]) (X := Value × List (Int × Int)) (fun x => x.1) (fun x h => (∃ l', Rng f len l 0 0 x.2 l') ∧ Has [SlP rowP zP x.1 x.2, Is h0] h) := by
  intro h hh
  have hR0 : RtP p l h := hh.get 0 rfl fun _ _ => RtP.sub
  have hbd : l.length ≤ 4096 := let ⟨_, _, x⟩ := hR0; x.bound
  refine e51 rfl ?_
  conv => whnf
  refine next96Q hR0 0 ?_
  have hRd : Rd f len h0 p l 0 0 (.slice none 0 0) [] l h := ⟨Int.le_refl _, fun ys lf hy => hy, ⟨fun _ => none, h, by funext b; simp [join], fun _ _ h => (by cases h), SlP.nil _ _ _, hh⟩, by simp, by simp, by simp, rfl⟩
  conv => whnf
  refine loop_intro (σ := Int × Nat × Value × List (Int × Int) × Tb × Hp) (fun s => [(6, .v (iv (nextR s.2.2.2.2.1 s.1))), (7, .v (iv s.2.1)), (5, .v s.2.2.1), (0, .v (ptr p)), (1, .v (.slice a len cap))]) (fun _ => []) (fun s => s.2.2.2.2.2)
    (fun s => Rd f len h0 p l s.1 s.2.1 s.2.2.1 s.2.2.2.1 s.2.2.2.2.1 s.2.2.2.2.2) (fun s => (4097 - s.1).toNat) (0, 0, _, [], l, h) hRd
    (by repeat (first | exact trivial | refine ⟨rfl, ?_⟩ | refine ⟨int_eq (wrap_nat (by omega)) rfl, ?_⟩)) subB_nil rfl ?_
  clear hRd hR0 hh
  rintro ⟨c, n, s, pre, cur, g⟩ hRd
  dsimp only at hRd ⊢
  obtain ⟨hlo, hgo, hh, hln, hln2, hnn, hcl⟩ := hRd
  have hRc : RtP p cur g := hh.get 1 rfl fun _ _ => RtP.sub
  rcases nextR_spec cur c with ⟨hn, hfree⟩ | ⟨k, v, hn, hck, hfree, hk⟩
  · rw [hn]
    conv => whnf
    refine ⟨(s, pre), rfl, ⟨cur, ?_⟩, ?_⟩
    · have := hgo [] cur (.stop hn); simpa using this
    · exact hh.swap.tail
  · have hkl : k < cur.length := (List.getElem?_eq_some_iff.1 hk).1
    rw [hn]
    conv => whnf
    refine get97Q hRc k ?_
    rw [got_nat, hk]
    conv => whnf
    refine fresh_has hh fun b1 g1 hb1 _ _ hh1 => ?_
    conv => whnf
    refine app_has (x := ((k : Int), v)) rowP_len rowP_one hh1 1 rfl hb1 (by omega) fun s' g2 hh2 => ?_
    conv => whnf
    have hh3 : Has [RtP p cur, Is h0, SlP rowP zP s' (pre ++ [((k : Int), v)])] g2 := (hh2.tail : Has [SlP rowP zP s' (pre ++ [((k : Int), v)]), RtP p cur, Is h0] g2).sel [1, 2, 0] rfl
    refine (Has.group (L1 := [_, _]) hh3).call1 (acted54S n hR hlen) fun _ g3 hh4 => ?_
    have hh5 : Has [SlP rowP zP s' (pre ++ [((k : Int), v)]), RtP p (actsN f n cur len).1, Is h0] g3 := (hh4.flat : Has [RtP p (actsN f n cur len).1, Is h0, SlP rowP zP s' (pre ++ [((k : Int), v)])] g3).sel [2, 0, 1] rfl
    have hlv : (actsN f n cur len).2.1 = true → Rng f len l 0 0 (pre ++ [((k : Int), v)]) (actsN f n cur len).1 := fun hl => hgo _ _ (.leave hn hk hl)
    have hst : (actsN f n cur len).2.1 = false → ∀ ys lf, Rng f len (actsN f n cur len).1 (k + 1) (n + 1) ys lf → Rng f len l 0 0 ((pre ++ [((k : Int), v)]) ++ ys) lf := fun hl ys lf hy => by
      rw [List.append_assoc]; exact hgo _ _ (.step hn hk hl hy)
    have hcl2 : (actsN f n cur len).1.length = l.length := (actsN_len f n cur len).trans hcl
    have hpl : (pre.length : Int) + 1 ≤ k + 1 := by omega
    have hpl2 : pre.length + 1 ≤ l.length := by omega
    generalize hcur : (actsN f n cur len).1 = cur' at *
    generalize hleave : (actsN f n cur len).2.1 = leave at *
    cases leave with
    | true =>
      conv => whnf
      exact ⟨(s', pre ++ [((k : Int), v)]), rfl, ⟨cur', hlv rfl⟩, hh5.swap.tail⟩
    | false =>
      have hRc' : RtP p cur' g3 := hh5.get 1 rfl fun _ _ => RtP.sub
      conv => whnf
      refine next96Q hRc' _ ?_
      rw [wrap_nat (by omega)]
      conv => whnf
      refine ⟨((k : Int) + 1, n + 1, s', pre ++ [((k : Int), v)], cur', g3), ⟨by omega, hst rfl, hh5, by simpa using hpl, by simpa using hpl2, (by show ((n + 1 : Nat) : Int) ≤ (k : Int) + 1; omega), hcl2⟩, (by show (4097 - ((k : Int) + 1)).toNat < (4097 - c).toNat; omega), ⟨rfl, int_eq (wrap_nat (by omega)) rfl, rfl, rfl, rfl, trivial⟩, subB_nil, rfl⟩

theorem filled49S {h0 : Hp} (n : Int) (hR : RowsN 4 h0 a len f) (hlen : len < 2 ^ 62) : Sp PR 49 [iv n, .slice a len cap] (Has [Is h0]) (X := Nat × Nat × Tb) (fun x => .tuple #[ptr x.1, ptr x.2.1]) (fun x => Has [TabP rowI x.1 x.2.2, RtP x.2.1 x.2.2, Is h0]) := by
  intro h hh
  refine e49 rfl ?_
  conv => whnf
  refine Has.make hh (new56S n) fun p h1 hh1 => ?_
  conv => whnf
  refine hh1.make (new91S n) fun r h2 hh2 => ?_
  generalize (List.replicate (min (max n 0) 4096).toNat (none : Option Int)) = l0 at hh1 hh2
  have hh3 : Has [TabP rowI p l0, RtP r l0, Is h0] h2 := hh2.sel [1, 0, 2] rfl
  conv => whnf
  refine loop_intro (σ := Nat × Tb × Hp) (fun s => [(8, .v (iv s.1)), (6, .v (ptr p)), (7, .v (ptr r)), (1, .v (.slice a len cap))]) (fun _ => []) (fun s => s.2.2)
    (fun s => s.1 ≤ len ∧ Has [TabP rowI p s.2.1, RtP r s.2.1, Is h0] s.2.2) (fun s => len - s.1) (0, l0, h2) ⟨Nat.zero_le _, hh3⟩
    (by repeat (first | exact trivial | refine ⟨rfl, ?_⟩ | refine ⟨int_eq (wrap_nat (by omega)) rfl, ?_⟩)) subB_nil rfl ?_
  clear hh hh1 hh2 hh3
  rintro ⟨k, l, g⟩ ⟨hk, hh⟩
  dsimp only at hk hh ⊢
  have hsub : SubH h0 g := hh.is 2 rfl
  conv => whnf
  refine cond_dec (fun hc => ?_) (fun hc => ?_)
  · have hki : k < len := by omega
    obtain ⟨bb, off, c, ty, z, rfl, hb', hcc⟩ := (hR.sub hsub) k hki
    conv => whnf
    refine opt_if ⟨by omega, by omega⟩ ?_
    conv => whnf
    refine opt_ld hb' (v := .agg #[iv (f k 0), iv (f k 1), iv (f k 2), iv (f k 3)]) (rd_list [iv (f k 0), iv (f k 1), iv (f k 2), iv (f k 3)] rfl (by simp) fun j v hj => ?_) ?_
    · rcases j with _ | _ | _ | _ | j <;> cases hj <;> exact hcc _ (by omega)
    conv => whnf
    refine cond_beq (fun k1 => ?_) (fun k1 => ?_)
    · conv => whnf
      refine hh.call 0 rfl (put57S (f k 3)) fun _ g1 hh1 => ?_
      conv => whnf
      refine hh1.call 1 rfl (put92S (f k 3)) fun _ g2 hh2 => ?_
      conv => whnf
      exact ⟨(k + 1, _, g2), ⟨hki, hh2⟩, by simp only; omega, (by repeat (first | exact trivial | refine ⟨rfl, ?_⟩ | refine ⟨int_eq (wrap_nat (by omega)) rfl, ?_⟩)), subB_nil, rfl⟩
    · conv => whnf
      refine cond_beq (fun k2 => ?_) (fun k2 => ?_)
      · conv => whnf
        refine hh.call 0 rfl (putat67S (f k 2) (f k 3)) fun _ g1 hh1 => ?_
        conv => whnf
        refine hh1.call 1 rfl (putat93S (f k 2) (f k 3)) fun _ g2 hh2 => ?_
        conv => whnf
        exact ⟨(k + 1, _, g2), ⟨hki, hh2⟩, by simp only; omega, (by repeat (first | exact trivial | refine ⟨rfl, ?_⟩ | refine ⟨int_eq (wrap_nat (by omega)) rfl, ?_⟩)), subB_nil, rfl⟩
      · conv => whnf
        refine cond_beq (fun k3 => ?_) (fun k3 => ?_)
        · conv => whnf
          refine hh.call 0 rfl (drop68S (f k 2)) fun _ g1 hh1 => ?_
          conv => whnf
          refine hh1.call 1 rfl (drop94S (f k 2)) fun _ g2 hh2 => ?_
          conv => whnf
          exact ⟨(k + 1, _, g2), ⟨hki, hh2⟩, by simp only; omega, (by repeat (first | exact trivial | refine ⟨rfl, ?_⟩ | refine ⟨int_eq (wrap_nat (by omega)) rfl, ?_⟩)), subB_nil, rfl⟩
        · conv => whnf
          exact ⟨(k + 1, _, g), ⟨hki, hh⟩, by simp only; omega, (by repeat (first | exact trivial | refine ⟨rfl, ?_⟩ | refine ⟨int_eq (wrap_nat (by omega)) rfl, ?_⟩)), subB_nil, rfl⟩
  · conv => whnf
    exact ⟨(p, r, l), rfl, hh⟩

end
end Go.Proofs.Ytkmknolkblcbeaa.V
