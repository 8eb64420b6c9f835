/- Seat 04: both disks answer alike. -/
import Derived.Test.YtpkleblggehghaaD33
import Derived.Test.YtpkleblggehghaaD26
namespace Go.Proofs.Ytpkleblggehghaa.V
set_option linter.unusedVariables false
set_option linter.unusedSimpArgs false
set_option linter.unusedSectionVars false
set_option linter.unusedSectionVars false
open Go

section
variable {h : Hp} {Q : Value → Hp → Prop} {L : List As} {p q : Nat} {d : Dk} {r : Rd}

set_option maxRecDepth 20000 in
theorem asked58 {o : OpD} {vd vk : Value} (hh : Has (DkP p d :: RfP q r :: L) h) (hrel : Rel d r) (hd8 : R8 o.data) (hn : o.data.length ≤ 2 ^ 40) (hvd : ∀ g, Has L g → Vw 1 g vd o.data.length (o.data.map by8))
    (hc1 : d.cache.length ≤ 2 ^ 38) (hc2 : r.landed.length ≤ 2 ^ 38) (hq : ∀ h', Has (DkP p d :: RfP q r :: L) h' → Q (.bool true) h') : Ok PR 58 [ptr p, ptr q, .agg (opV o vd vk).toArray] h Q := by
  have hok := (DkP.opn hh).1
  have hrk := (RfP.opn (hh.pull 1 rfl)).1
  have hwl := hrel.len
  refine e58 rfl ?_
  refine seq_step fun K hK => ?_
  conv => whnf
  refine hK _ _ _ (seq_step fun K1 hK1 => ?_)
  refine seq_step fun K2 hK2 => ?_
  conv => whnf
  refine hK2 _ _ _ ?_
  refine seq_step fun K3 hK3 => ?_
  conv => whnf
  refine hK3 _ _ _ ?_
  refine cond_beq (fun hk => ?_) (fun hk => ?_)
  · -- a look
    refine seq_step fun K4 hK4 => ?_
    conv => whnf
    show Ok PR 22 [ptr p, iv o.sector] h _
    by_cases hn : 0 ≤ o.sector ∧ o.sector < 1024
    · obtain ⟨n, hsn⟩ : ∃ n : Nat, o.sector = n := ⟨o.sector.toNat, by omega⟩
      cases hdn : d.down with
      | true =>
        refine read22d o.sector hn hdn hh ?_
        conv => whnf
        refine hK4 _ _ _ (seq_step fun K5 hK5 => ?_)
        conv => whnf
        show Ok PR 61 [ptr q, iv o.sector] h _
        refine read61d o.sector hn (hrel.down ▸ hdn) (hh.pull 1 rfl) ?_
        conv => whnf
        refine hK5 _ _ _ ?_
        conv => whnf
        refine same26 (l := []) (k := []) (n := 0) (m := 0) (vw_nil 1 h) (vw_nil 1 h) fun t ht => ?_
        rw [ht rfl]
        conv => whnf
        exact hq _ hh
      | false =>
        obtain ⟨x, hx1, hx2⟩ := hrel.lookR hok n (by omega)
        rw [hsn]
        refine read22 n hdn (by omega) hh hx1 (by omega) fun s1 h1 hh1 => ?_
        conv => whnf
        refine hK4 _ _ _ (seq_step fun K5 hK5 => ?_)
        conv => whnf
        show Ok PR 61 [ptr q, iv o.sector] h1 _
        refine read61 o.sector hn (hrel.down ▸ hdn) (hh1.pull 2 rfl) (by omega) (by omega) fun s2 h2 hh2 => ?_
        rw [hsn, ← hx2] at hh2
        conv => whnf
        refine hK5 _ _ _ ?_
        conv => whnf
        refine same26 (hh2.wn 2 rfl) (hh2.wn 0 rfl) fun t ht => ?_
        rw [ht rfl]
        conv => whnf
        exact hq _ ((hh2.erase 0).erase 1).swap
    · refine read22o o.sector hn ?_
      conv => whnf
      refine hK4 _ _ _ (seq_step fun K5 hK5 => ?_)
      conv => whnf
      show Ok PR 61 [ptr q, iv o.sector] h _
      refine read61o o.sector hn ?_
      conv => whnf
      refine hK5 _ _ _ ?_
      conv => whnf
      refine same26 (l := []) (k := []) (n := 0) (m := 0) (vw_nil 1 h) (vw_nil 1 h) fun t ht => ?_
      rw [ht rfl]
      conv => whnf
      exact hq _ hh
  refine seq_step fun K5 hK5 => ?_
  conv => whnf
  refine hK5 _ _ _ ?_
  refine cond_beq (fun hk => ?_) (fun hk => ?_)
  · refine seq_step fun K4 hK4 => ?_
    conv => whnf
    show Ok PR 25 [ptr p, iv o.sector] h _
    by_cases hn : 0 ≤ o.sector ∧ o.sector < 1024
    · obtain ⟨n, hsn⟩ : ∃ n : Nat, o.sector = n := ⟨o.sector.toNat, by omega⟩
      have hx := hrel.med n (by omega)
      have hg : d.med[n]? = some (d.med.getD n zsec) := by
        have := List.getElem?_eq_getElem (l := d.med) (i := n) (by rw [hok.med]; omega)
        rw [List.getD_eq_getElem?_getD, this]; rfl
      rw [hsn]
      refine raw25 n hh hg fun s1 h1 hh1 => ?_
      conv => whnf
      refine hK4 _ _ _ (seq_step fun K5 hK5 => ?_)
      conv => whnf
      show Ok PR 62 [ptr q, iv o.sector] h1 _
      refine raw62 o.sector hn (hh1.pull 2 rfl) (by omega) fun s2 h2 hh2 => ?_
      rw [hsn, ← hx] at hh2
      conv => whnf
      refine hK5 _ _ _ ?_
      conv => whnf
      refine same26 (hh2.wn 2 rfl) (hh2.wn 0 rfl) fun t ht => ?_
      rw [ht rfl]
      conv => whnf
      exact hq _ ((hh2.erase 0).erase 1).swap
    · refine raw25o o.sector hn ?_
      conv => whnf
      refine hK4 _ _ _ (seq_step fun K5 hK5 => ?_)
      conv => whnf
      show Ok PR 62 [ptr q, iv o.sector] h _
      refine raw62o o.sector hn ?_
      conv => whnf
      refine hK5 _ _ _ ?_
      conv => whnf
      refine same26 (l := []) (k := []) (n := 0) (m := 0) (vw_nil 1 h) (vw_nil 1 h) fun t ht => ?_
      rw [ht rfl]
      conv => whnf
      exact hq _ hh
  refine seq_step fun K6 hK6 => ?_
  conv => whnf
  refine hK6 _ _ _ ?_
  refine cond_beq (fun hk => ?_) (fun hk => ?_)
  · refine seq_step fun K4 hK4 => ?_
    conv => whnf
    refine pending23 hh (by omega) fun s1 h1 hh1 => ?_
    conv => whnf
    refine hK4 _ _ _ (seq_step fun K5 hK5 => ?_)
    conv => whnf
    refine pending63 (hh1.pull 2 rfl) (by omega) fun s2 h2 hh2 => ?_
    have e1 : (d.cache.map fun x => iv x.1) = (r.waiting.map fun x => x.sec).map iv := by rw [← hrel.cache, List.map_map, List.map_map]; rfl
    have e2 : (r.waiting.map fun x => iv x.sec) = (r.waiting.map fun x => x.sec).map iv := by rw [List.map_map]; rfl
    have e3 : (r.waiting.map fun x => x.sec).length = r.waiting.length := List.length_map _
    have w1 := hh2.wn 2 rfl
    have w2 := hh2.wn 0 rfl
    rw [e1, hwl, ← e3] at w1
    rw [e2, ← e3] at w2
    conv => whnf
    refine hK5 _ _ _ ?_
    conv => whnf
    refine sameInts64 w1 w2 (by omega) ?_
    conv => whnf
    exact hq _ ((hh2.erase 0).erase 1).swap
  refine seq_step fun K7 hK7 => ?_
  conv => whnf
  refine hK7 _ _ _ ?_
  refine cond_beq (fun hk => ?_) (fun hk => ?_)
  · refine seq_step fun K4 hK4 => ?_
    conv => whnf
    refine Has.call hh 0 rfl down18S fun _ h1 hh1 => ?_
    conv => whnf
    refine hK4 _ _ _ ?_
    conv => whnf
    refine down65 (hh1.pull 1 rfl) ?_
    rw [hrel.down]
    conv => whnf
    rw [if_neg (by decide), beq_self_eq_true]
    exact hq _ hh1
  refine seq_step fun K8 hK8 => ?_
  conv => whnf
  refine hK8 _ _ _ ?_
  refine cond_beq (fun hk => ?_) (fun hk => ?_)
  · refine seq_step fun K4 hK4 => ?_
    conv => whnf
    refine Has.call hh 0 rfl acts13S fun _ h1 hh1 => ?_
    conv => whnf
    refine hK4 _ _ _ ?_
    conv => whnf
    refine acts66 (hh1.pull 1 rfl) ?_
    rw [hrel.acts]
    conv => whnf
    rw [beq_self_eq_true]
    exact hq _ hh1
  refine seq_step fun K9 hK9 => ?_
  conv => whnf
  refine hK9 _ _ _ ?_
  refine cond_beq (fun hk => ?_) (fun hk => ?_)
  · obtain ⟨N, hN⟩ : ∃ N : Nat, N = 131072 := ⟨_, rfl⟩
    refine seq_step fun K4 hK4 => ?_
    conv => whnf
    refine medium35N hN hh fun s1 h1 hh1 => ?_
    conv => whnf
    refine hK4 _ _ _ ?_
    conv => whnf
    refine medium40 hN (hh1.pull 2 rfl) (by omega) fun s2 h2 hh2 => ?_
    rw [← medR hN hok.med hrk hrel] at hh2
    conv => whnf
    refine same26 (hh2.wn 2 rfl) (hh2.wn 0 rfl) fun t ht => ?_
    rw [ht rfl]
    conv => whnf
    exact hq _ ((hh2.erase 0).erase 1).swap
  refine seq_step fun K10 hK10 => ?_
  conv => whnf
  refine hK10 _ _ _ ?_
  refine cond_beq (fun hk => ?_) (fun hk => ?_)
  · obtain ⟨N, hN⟩ : ∃ N : Nat, N = 131072 := ⟨_, rfl⟩
    obtain ⟨base, cap, hs⟩ : ∃ base cap, vd = .slice base o.data.length cap := let ⟨_, x, y, z, _⟩ := hvd h hh.tail.tail; ⟨x, y, z⟩
    subst hs
    refine seq_step fun K4 hK4 => ?_
    conv => whnf
    show Ok PR 27 [.slice base o.data.length cap] h _
    refine copied27 hh (hvd h hh.tail.tail) (by8_one _) hn fun s1 h1 hh1 => ?_
    obtain ⟨bs1, cp1, hs1⟩ := hh1.slv 0 rfl
    subst hs1
    by_cases hl : o.data.length = N
    · rw [hl] at hh1 hvd ⊢
      conv => whnf
      refine of36N hN hh1 (fun g hg => hg.wn 0 rfl) fun q1 h2 hh2 => ?_
      conv => whnf
      refine hK4 _ _ _ (seq_step fun K5 hK5 => ?_)
      conv => whnf
      show Ok PR 39 [.slice base N cap] h2 _
      refine of39 hN hd8 hh2 (fun g hg => hvd g hg.tail.tail.tail.tail) fun q2 h3 hh3 => ?_
      conv => whnf
      refine hK5 _ _ _ ?_
      conv => whnf
      exact hq _ hh3.tail.tail.tail
    · conv => whnf
      refine of36z (by omega) ?_
      conv => whnf
      refine hK4 _ _ _ (seq_step fun K5 hK5 => ?_)
      conv => whnf
      show Ok PR 39 [.slice base o.data.length cap] h1 _
      refine of39z (by omega) ?_
      conv => whnf
      refine hK5 _ _ _ ?_
      conv => whnf
      exact hq _ hh1.tail
  conv => whnf
  refine hK1 _ _ _ ?_
  conv => whnf
  exact hq _ hh

end
end Go.Proofs.Ytpkleblggehghaa.V
