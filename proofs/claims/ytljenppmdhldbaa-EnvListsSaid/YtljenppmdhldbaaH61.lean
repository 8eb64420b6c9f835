/- Seat 09: listsApart. -/
import Derived.Test.YtljenppmdhldbaaH60
namespace Go.Proofs.Ytljenppmdhldbaa.V
set_option linter.unusedVariables false
set_option linter.unusedSimpArgs false
set_option linter.unusedSectionVars false
set_option linter.unusedSectionVars false
open Go

section
variable {h : Hp} {Q : Value → Hp → Prop} {L : List As}

theorem at2 {a b x : As} {M : List As} {i : Nat} (h : M[i]? = some x) : (a :: b :: M)[i + 2]? = some x := h

theorem out_same {so s : Value} {xs : Ls} {i : Nat} {l' l'' : List Int} (h : xs[i]? = some (s, l')) : OutP so (xs.set i (s, l'')) = OutP so xs := by
  have e : (xs.set i (s, l'')).map (·.1) = xs.map (·.1) := by
    apply List.ext_getElem?
    intro j
    rw [List.getElem?_map, List.getElem?_map]
    by_cases hj : j = i
    · subst hj
      rw [List.getElem?_set_self (List.getElem?_eq_some_iff.1 h).1, h]; rfl
    · rw [List.getElem?_set_ne fun e => hj e.symm]
  unfold OutP
  rw [e, List.length_set]

set_option maxHeartbeats 2000000 in
theorem apart44 {so : Value} {xs0 : Ls} (hN : xs0.length < 1073741824) (hL : ∀ x ∈ xs0, x.2.length < 1073741824) (hh : Has (OutP so xs0 :: (Its xs0 ++ L)) h) (hq : ∀ h', Has L h' → Q (.bool true) h') : Ok PR 44 [so] h Q := by
  obtain ⟨base, cap, hs⟩ := hh.slv 0 rfl
  subst hs
  obtain ⟨lens, hlens⟩ : ∃ lens : List Int, lens = xs0.map fun x => (x.2.length : Int) := ⟨_, rfl⟩
  have hll : lens.length = xs0.length := by rw [hlens, List.length_map]
  refine e44 rfl (seq_step fun K hK => ?_)
  repeat (first | ((with_reducible refine hK _ _ _ ?_); clear hK) | (with_reducible refine seq_step fun K hK => ?_) | (with_reducible refine block_step ?_) | ((with_reducible refine cond_t ?_ ?_); focus rfl) | ((with_reducible refine cond_f ?_ ?_); focus rfl) | ((with_reducible refine code_id ?_); conv => whnf) | (clear hK; (with_reducible refine hK _ _ _ ?_); clear hK) | (clear hK; clear hK; (with_reducible refine hK _ _ _ ?_); clear hK) | (clear hK; clear hK; clear hK; (with_reducible refine hK _ _ _ ?_); clear hK) | (clear hK; clear hK; clear hK; clear hK; (with_reducible refine hK _ _ _ ?_); clear hK) | (clear hK; clear hK; clear hK; clear hK; clear hK; (with_reducible refine hK _ _ _ ?_); clear hK) | (clear hK; clear hK; clear hK; clear hK; clear hK; clear hK; (with_reducible refine hK _ _ _ ?_); clear hK) | (clear hK; clear hK; clear hK; clear hK; clear hK; clear hK; clear hK; (with_reducible refine hK _ _ _ ?_); clear hK))
  refine loop_intro (σ := (Nat × Value × Ls) × Hp) (fun s => [(0, .v (.slice base xs0.length cap)), (3, .v s.1.2.1), (4, .v (iv s.1.1))]) (fun _ => []) (fun s => s.2)
    (fun s => s.1.1 ≤ xs0.length ∧ P1 xs0 s.1.2.2 s.1.1 0 ∧ Has (OutP (.slice base xs0.length cap) s.1.2.2 :: IntsP s.1.2.1 (lens.take s.1.1) :: (Its s.1.2.2 ++ L)) s.2)
    (fun s => xs0.length - s.1.1) ((0, .slice none 0 0, xs0), h) ⟨Nat.zero_le _, P1.zero xs0, (hh.nilW 1).swap⟩ (subE_cons rfl (subE_cons rfl (subE_cons rfl subE_nil))) subB_nil rfl ?_
  rintro ⟨⟨i, sn, xs⟩, g⟩ ⟨hi, hp, hg⟩
  dsimp only at hi hp hg ⊢
  have hnext : IntKind.i64.wrap ((i : Int) + 1) = ((i + 1 : Nat) : Int) := wrap_nat (by omega)
  repeat (first | ((with_reducible refine hK _ _ _ ?_); clear hK) | (with_reducible refine seq_step fun K hK => ?_) | (with_reducible refine block_step ?_) | ((with_reducible refine cond_t ?_ ?_); focus rfl) | ((with_reducible refine cond_f ?_ ?_); focus rfl) | ((with_reducible refine code_id ?_); conv => whnf) | (clear hK; (with_reducible refine hK _ _ _ ?_); clear hK) | (clear hK; clear hK; (with_reducible refine hK _ _ _ ?_); clear hK) | (clear hK; clear hK; clear hK; (with_reducible refine hK _ _ _ ?_); clear hK) | (clear hK; clear hK; clear hK; clear hK; (with_reducible refine hK _ _ _ ?_); clear hK) | (clear hK; clear hK; clear hK; clear hK; clear hK; (with_reducible refine hK _ _ _ ?_); clear hK) | (clear hK; clear hK; clear hK; clear hK; clear hK; clear hK; (with_reducible refine hK _ _ _ ?_); clear hK) | (clear hK; clear hK; clear hK; clear hK; clear hK; clear hK; clear hK; (with_reducible refine hK _ _ _ ?_); clear hK))
  refine cond_dec (fun hlt => ?_) (fun hge => ?_)
  · have hil : i < xs0.length := by omega
    obtain ⟨s, l, l', hx0, hx, hl'⟩ := hp.at hil
    have hlm : l.length < 1073741824 := hL _ (List.mem_of_getElem? hx0)
    have hxl := hp.1
    obtain ⟨bb, o, cap', c, ty, z, he, hbb, hc⟩ := hg.rdw 0 rfl (k := i) (v := s) (by omega) (by rw [List.getElem?_map, hx]; rfl)
    injection he with e1 e2 e3
    subst e1 e3
    obtain ⟨bs, cs, hs⟩ := hg.slv (i + 2) (at2 (its_get hx L))
    have hs : s = .slice bs l'.length cs := hs
    subst hs
    repeat (first | ((with_reducible refine hK _ _ _ ?_); clear hK) | (with_reducible refine seq_step fun K hK => ?_) | (with_reducible refine block_step ?_) | ((with_reducible refine cond_t ?_ ?_); focus rfl) | ((with_reducible refine cond_f ?_ ?_); focus rfl) | ((with_reducible refine code_id ?_); conv => whnf) | (clear hK; (with_reducible refine hK _ _ _ ?_); clear hK) | (clear hK; clear hK; (with_reducible refine hK _ _ _ ?_); clear hK) | (clear hK; clear hK; clear hK; (with_reducible refine hK _ _ _ ?_); clear hK) | (clear hK; clear hK; clear hK; clear hK; (with_reducible refine hK _ _ _ ?_); clear hK) | (clear hK; clear hK; clear hK; clear hK; clear hK; (with_reducible refine hK _ _ _ ?_); clear hK) | (clear hK; clear hK; clear hK; clear hK; clear hK; clear hK; (with_reducible refine hK _ _ _ ?_); clear hK) | (clear hK; clear hK; clear hK; clear hK; clear hK; clear hK; clear hK; (with_reducible refine hK _ _ _ ?_); clear hK))
    refine opt_if ⟨by omega, by omega⟩ ?_
    conv => whnf
    refine opt_ld hbb (v := .slice bs l'.length cs) (by show c[o + (i : Int).toNat * 1]? = _; rw [Int.toNat_natCast, Nat.mul_one]; exact hc) ?_
    conv => whnf
    refine fresh_has hg fun b1 h1 _ _ _ hh1 => ?_
    conv => whnf
    refine app1 (x := (l'.length : Int)) (hh1.pull 2 rfl).swap (by rw [List.length_take]; omega) fun s2 h2 hh2 => ?_
    have e1 : lens.take i ++ [(l'.length : Int)] = lens.take (i + 1) := by
      have hli : i < lens.length := by omega
      have : lens[i] = (l'.length : Int) := by
        have : lens[i]? = some (l'.length : Int) := by rw [hlens, List.getElem?_map, hx0]; simp [hl']
        rw [List.getElem?_eq_getElem hli] at this
        injection this
      rw [← this]; exact List.take_append_getElem hli
    rw [e1] at hh2
    have hh2 := hh2.swap
    obtain ⟨bn, cn, hs⟩ := hh2.slv 1 rfl
    subst hs
    have htl : (lens.take (i + 1)).length = i + 1 := by rw [List.length_take]; omega
    conv => whnf
    repeat (first | ((with_reducible refine hK _ _ _ ?_); clear hK) | (with_reducible refine seq_step fun K hK => ?_) | (with_reducible refine block_step ?_) | ((with_reducible refine cond_t ?_ ?_); focus rfl) | ((with_reducible refine cond_f ?_ ?_); focus rfl) | ((with_reducible refine code_id ?_); conv => whnf) | (clear hK; (with_reducible refine hK _ _ _ ?_); clear hK) | (clear hK; clear hK; (with_reducible refine hK _ _ _ ?_); clear hK) | (clear hK; clear hK; clear hK; (with_reducible refine hK _ _ _ ?_); clear hK) | (clear hK; clear hK; clear hK; clear hK; (with_reducible refine hK _ _ _ ?_); clear hK) | (clear hK; clear hK; clear hK; clear hK; clear hK; (with_reducible refine hK _ _ _ ?_); clear hK) | (clear hK; clear hK; clear hK; clear hK; clear hK; clear hK; (with_reducible refine hK _ _ _ ?_); clear hK) | (clear hK; clear hK; clear hK; clear hK; clear hK; clear hK; clear hK; (with_reducible refine hK _ _ _ ?_); clear hK))
    refine loop_intro (σ := (Nat × Ls) × Hp) (fun s => [(0, .v (.slice (some ⟨bb, o, none⟩) xs0.length cap)), (3, .v (.slice bn (lens.take (i + 1)).length cn)), (4, .v (iv i)), (5, .v (iv s.1.1))]) (fun _ => []) (fun s => s.2)
      (fun s => s.1.1 ≤ l.length ∧ P1 xs0 s.1.2 i s.1.1 ∧ Has (OutP (.slice (some ⟨bb, o, none⟩) xs0.length cap) s.1.2 :: IntsP (.slice bn (lens.take (i + 1)).length cn) (lens.take (i + 1)) :: (Its s.1.2 ++ L)) s.2)
      (fun s => l.length - s.1.1) ((0, xs), h2) ⟨Nat.zero_le _, hp, hh2⟩ (subE_cons rfl (subE_cons rfl (subE_cons rfl (subE_cons rfl subE_nil)))) subB_nil rfl ?_
    rintro ⟨⟨k, ys⟩, g2⟩ ⟨hk, hp2, hg2⟩
    dsimp only at hk hp2 hg2 ⊢
    have hnext2 : IntKind.i64.wrap ((k : Int) + 1) = ((k + 1 : Nat) : Int) := wrap_nat (by omega)
    have hli : (lens.take (i + 1))[i]? = some (l.length : Int) := by
      rw [List.getElem?_take, if_pos (by omega), hlens, List.getElem?_map, hx0]; rfl
    obtain ⟨bb3, o3, cap3, c3, ty3, z3, he3, hbb3, hc3⟩ := hg2.rdw 1 rfl (k := i) (v := iv l.length) (by omega) (by rw [List.getElem?_map, hli]; rfl)
    injection he3 with e1 e2 e3
    subst e1 e3
    repeat (first | ((with_reducible refine hK _ _ _ ?_); clear hK) | (with_reducible refine seq_step fun K hK => ?_) | (with_reducible refine block_step ?_) | ((with_reducible refine cond_t ?_ ?_); focus rfl) | ((with_reducible refine cond_f ?_ ?_); focus rfl) | ((with_reducible refine code_id ?_); conv => whnf) | (clear hK; (with_reducible refine hK _ _ _ ?_); clear hK) | (clear hK; clear hK; (with_reducible refine hK _ _ _ ?_); clear hK) | (clear hK; clear hK; clear hK; (with_reducible refine hK _ _ _ ?_); clear hK) | (clear hK; clear hK; clear hK; clear hK; (with_reducible refine hK _ _ _ ?_); clear hK) | (clear hK; clear hK; clear hK; clear hK; clear hK; (with_reducible refine hK _ _ _ ?_); clear hK) | (clear hK; clear hK; clear hK; clear hK; clear hK; clear hK; (with_reducible refine hK _ _ _ ?_); clear hK) | (clear hK; clear hK; clear hK; clear hK; clear hK; clear hK; clear hK; (with_reducible refine hK _ _ _ ?_); clear hK))
    refine opt_if ⟨by omega, by omega⟩ ?_
    conv => whnf
    refine opt_ld hbb3 (v := iv l.length) (by show c3[o3 + (i : Int).toNat * 1]? = _; rw [Int.toNat_natCast, Nat.mul_one]; exact hc3) ?_
    conv => whnf
    repeat (first | ((with_reducible refine hK _ _ _ ?_); clear hK) | (with_reducible refine seq_step fun K hK => ?_) | (with_reducible refine block_step ?_) | ((with_reducible refine cond_t ?_ ?_); focus rfl) | ((with_reducible refine cond_f ?_ ?_); focus rfl) | ((with_reducible refine code_id ?_); conv => whnf) | (clear hK; (with_reducible refine hK _ _ _ ?_); clear hK) | (clear hK; clear hK; (with_reducible refine hK _ _ _ ?_); clear hK) | (clear hK; clear hK; clear hK; (with_reducible refine hK _ _ _ ?_); clear hK) | (clear hK; clear hK; clear hK; clear hK; (with_reducible refine hK _ _ _ ?_); clear hK) | (clear hK; clear hK; clear hK; clear hK; clear hK; (with_reducible refine hK _ _ _ ?_); clear hK) | (clear hK; clear hK; clear hK; clear hK; clear hK; clear hK; (with_reducible refine hK _ _ _ ?_); clear hK) | (clear hK; clear hK; clear hK; clear hK; clear hK; clear hK; clear hK; (with_reducible refine hK _ _ _ ?_); clear hK))
    refine cond_dec (fun hlt2 => ?_) (fun hge2 => ?_)
    · have hkl : k < l.length := by omega
      obtain ⟨s3, l3, m', hx3, hx4, hl3⟩ := hp2.at hil
      rw [hx0] at hx3
      injection hx3 with hx3
      injection hx3 with ea eb
      subst ea eb
      have hyl := hp2.1
      have hkm : k < m'.length := by omega
      have hml : m'.length = l'.length := by omega
      obtain ⟨bb4, o4, cap4, c4, ty4, z4, he4, hbb4, hc4⟩ := hg2.rdw 0 rfl (k := i) (v := .slice bs l'.length cs) (by omega) (by rw [List.getElem?_map, hx4]; rfl)
      injection he4 with e1 e2 e3
      injection e1 with e1
      injection e1 with e1 e4 e5
      subst e1 e4 e3
      obtain ⟨bb5, o5, cap5, c5, ty5, z5, he5, hbb5, hc5⟩ := hg2.rdw (i + 2) (at2 (its_get hx4 L)) (k := k) (v := iv m'[k]) hkm (by show (m'.map iv)[k]? = _; rw [List.getElem?_map, List.getElem?_eq_getElem hkm]; rfl)
      injection he5 with e1 e2 e3
      subst e1 e3
      repeat (first | ((with_reducible refine hK _ _ _ ?_); clear hK) | (with_reducible refine seq_step fun K hK => ?_) | (with_reducible refine block_step ?_) | ((with_reducible refine cond_t ?_ ?_); focus rfl) | ((with_reducible refine cond_f ?_ ?_); focus rfl) | ((with_reducible refine code_id ?_); conv => whnf) | (clear hK; (with_reducible refine hK _ _ _ ?_); clear hK) | (clear hK; clear hK; (with_reducible refine hK _ _ _ ?_); clear hK) | (clear hK; clear hK; clear hK; (with_reducible refine hK _ _ _ ?_); clear hK) | (clear hK; clear hK; clear hK; clear hK; (with_reducible refine hK _ _ _ ?_); clear hK) | (clear hK; clear hK; clear hK; clear hK; clear hK; (with_reducible refine hK _ _ _ ?_); clear hK) | (clear hK; clear hK; clear hK; clear hK; clear hK; clear hK; (with_reducible refine hK _ _ _ ?_); clear hK) | (clear hK; clear hK; clear hK; clear hK; clear hK; clear hK; clear hK; (with_reducible refine hK _ _ _ ?_); clear hK))
      refine opt_if ⟨by omega, by omega⟩ ?_
      conv => whnf
      refine opt_ld hbb4 (v := .slice (some ⟨bb5, o5, none⟩) l'.length cs) (by show c4[o + (i : Int).toNat * 1]? = _; rw [Int.toNat_natCast, Nat.mul_one]; exact hc4) ?_
      conv => whnf
      rw [wrap_i64 (x := -1000 - (i : Int)) (by omega) (by omega)]
      conv => whnf
      refine opt_if ⟨by omega, by omega⟩ ?_
      conv => whnf
      rw [show o5 + (k : Int).toNat * 1 = o5 + k by omega]
      have h9 : (OutP (.slice (some ⟨bb, o, none⟩) xs0.length cap) ys :: IntsP (.slice (some ⟨bb3, o3, none⟩) (lens.take (i + 1)).length cn) (lens.take (i + 1)) :: (Its ys ++ L))[i + 2]? = some (WnP 1 (.slice (some ⟨bb5, o5, none⟩) l'.length cs) l'.length (m'.map iv)) := by
        rw [at2 (its_get hx4 L)]
        show some (WnP 1 _ m'.length _) = _
        rw [hml]
      refine st_hasW hg2 (i + 2) h9 (k := k) (x := iv (-1000 - (i : Int))) (by omega) rfl rfl fun g3 hg3 => ?_
      have hg3 : Has (OutP (.slice (some ⟨bb, o, none⟩) xs0.length cap) (ys.set i (.slice (some ⟨bb5, o5, none⟩) l'.length cs, m'.set k (-1000 - (i : Int)))) :: IntsP (.slice (some ⟨bb3, o3, none⟩) (lens.take (i + 1)).length cn) (lens.take (i + 1)) :: (Its (ys.set i (.slice (some ⟨bb5, o5, none⟩) l'.length cs, m'.set k (-1000 - (i : Int)))) ++ L)) g3 := by
        rw [out_same hx4, ← its_set (by omega) _ L]
        unfold IntsP at hg3 ⊢
        rw [List.length_set, List.map_set, hml]
        exact hg3
      conv => whnf
      repeat (first | ((with_reducible refine hK _ _ _ ?_); clear hK) | (with_reducible refine seq_step fun K hK => ?_) | (with_reducible refine block_step ?_) | ((with_reducible refine cond_t ?_ ?_); focus rfl) | ((with_reducible refine cond_f ?_ ?_); focus rfl) | ((with_reducible refine code_id ?_); conv => whnf) | (clear hK; (with_reducible refine hK _ _ _ ?_); clear hK) | (clear hK; clear hK; (with_reducible refine hK _ _ _ ?_); clear hK) | (clear hK; clear hK; clear hK; (with_reducible refine hK _ _ _ ?_); clear hK) | (clear hK; clear hK; clear hK; clear hK; (with_reducible refine hK _ _ _ ?_); clear hK) | (clear hK; clear hK; clear hK; clear hK; clear hK; (with_reducible refine hK _ _ _ ?_); clear hK) | (clear hK; clear hK; clear hK; clear hK; clear hK; clear hK; (with_reducible refine hK _ _ _ ?_); clear hK) | (clear hK; clear hK; clear hK; clear hK; clear hK; clear hK; clear hK; (with_reducible refine hK _ _ _ ?_); clear hK))
      exact ⟨((k + 1, _), g3), ⟨hkl, hp2.put hx4, hg3⟩, by show l.length - (k + 1) < l.length - k; omega, subE_cons rfl (subE_cons rfl (subE_cons rfl (subE_cons (int_eq hnext2 rfl) subE_nil))), subB_nil, rfl⟩
    · repeat (first | ((with_reducible refine hK _ _ _ ?_); clear hK) | (with_reducible refine seq_step fun K hK => ?_) | (with_reducible refine block_step ?_) | ((with_reducible refine cond_t ?_ ?_); focus rfl) | ((with_reducible refine cond_f ?_ ?_); focus rfl) | ((with_reducible refine code_id ?_); conv => whnf) | (clear hK; (with_reducible refine hK _ _ _ ?_); clear hK) | (clear hK; clear hK; (with_reducible refine hK _ _ _ ?_); clear hK) | (clear hK; clear hK; clear hK; (with_reducible refine hK _ _ _ ?_); clear hK) | (clear hK; clear hK; clear hK; clear hK; (with_reducible refine hK _ _ _ ?_); clear hK) | (clear hK; clear hK; clear hK; clear hK; clear hK; (with_reducible refine hK _ _ _ ?_); clear hK) | (clear hK; clear hK; clear hK; clear hK; clear hK; clear hK; (with_reducible refine hK _ _ _ ?_); clear hK) | (clear hK; clear hK; clear hK; clear hK; clear hK; clear hK; clear hK; (with_reducible refine hK _ _ _ ?_); clear hK))
      exact ⟨((i + 1, _, ys), g2), ⟨hil, hp2.next (fun s4 l4 h4 => by rw [hx0] at h4; injection h4 with h4; injection h4 with _ h4; subst h4; omega), hg2⟩, by show xs0.length - (i + 1) < xs0.length - i; omega, subE_cons rfl (subE_cons rfl (subE_cons (int_eq hnext rfl) subE_nil)), subB_nil, rfl⟩
  · have hie : i = xs0.length := by omega
    rw [hie] at hp
    rw [List.take_of_length_le (by omega)] at hg
    have hp := hp.done
    obtain ⟨ns, hns⟩ : ∃ ns, ns = xs0.map (·.2.length) := ⟨_, rfl⟩
    rw [← hns] at hp
    have hnl : ns.length = xs0.length := by rw [hns, List.length_map]
    have hall : ∀ n ∈ ns, n < 1073741824 := by
      rw [hns]
      intro n hn
      obtain ⟨x, hx, e⟩ := List.mem_map.1 hn
      rw [← e]; exact hL x hx
    have hnb : ∀ (i : Nat) (hi : i < ns.length), ns[i] < 1073741824 := fun i hi => hall _ (List.getElem_mem hi)
    have hle : lens = ns.map fun n : Nat => (n : Int) := by rw [hlens, hns, List.map_map]; rfl
    obtain ⟨bn, cn, hs⟩ := hg.slv 1 rfl
    subst hs
    repeat (first | ((with_reducible refine hK _ _ _ ?_); clear hK) | (with_reducible refine seq_step fun K hK => ?_) | (with_reducible refine block_step ?_) | ((with_reducible refine cond_t ?_ ?_); focus rfl) | ((with_reducible refine cond_f ?_ ?_); focus rfl) | ((with_reducible refine code_id ?_); conv => whnf) | (clear hK; (with_reducible refine hK _ _ _ ?_); clear hK) | (clear hK; clear hK; (with_reducible refine hK _ _ _ ?_); clear hK) | (clear hK; clear hK; clear hK; (with_reducible refine hK _ _ _ ?_); clear hK) | (clear hK; clear hK; clear hK; clear hK; (with_reducible refine hK _ _ _ ?_); clear hK) | (clear hK; clear hK; clear hK; clear hK; clear hK; (with_reducible refine hK _ _ _ ?_); clear hK) | (clear hK; clear hK; clear hK; clear hK; clear hK; clear hK; (with_reducible refine hK _ _ _ ?_); clear hK) | (clear hK; clear hK; clear hK; clear hK; clear hK; clear hK; clear hK; (with_reducible refine hK _ _ _ ?_); clear hK))
    refine loop_intro (σ := (Nat × Ls) × Hp) (fun s => [(0, .v (.slice base xs0.length cap)), (3, .v (.slice bn lens.length cn)), (6, .v (iv s.1.1))]) (fun _ => []) (fun s => s.2)
      (fun s => s.1.1 ≤ xs0.length ∧ P2 ns s.1.2 s.1.1 0 ∧ Has (OutP (.slice base xs0.length cap) s.1.2 :: IntsP (.slice bn lens.length cn) lens :: (Its s.1.2 ++ L)) s.2)
      (fun s => xs0.length - s.1.1) ((0, xs), g) ⟨Nat.zero_le _, hp, hg⟩ (subE_cons rfl (subE_cons rfl (subE_cons rfl subE_nil))) subB_nil rfl ?_
    rintro ⟨⟨i, ys⟩, g2⟩ ⟨hi2, hp2, hg2⟩
    dsimp only at hi2 hp2 hg2 ⊢
    have hnext2 : IntKind.i64.wrap ((i : Int) + 1) = ((i + 1 : Nat) : Int) := wrap_nat (by omega)
    repeat (first | ((with_reducible refine hK _ _ _ ?_); clear hK) | (with_reducible refine seq_step fun K hK => ?_) | (with_reducible refine block_step ?_) | ((with_reducible refine cond_t ?_ ?_); focus rfl) | ((with_reducible refine cond_f ?_ ?_); focus rfl) | ((with_reducible refine code_id ?_); conv => whnf) | (clear hK; (with_reducible refine hK _ _ _ ?_); clear hK) | (clear hK; clear hK; (with_reducible refine hK _ _ _ ?_); clear hK) | (clear hK; clear hK; clear hK; (with_reducible refine hK _ _ _ ?_); clear hK) | (clear hK; clear hK; clear hK; clear hK; (with_reducible refine hK _ _ _ ?_); clear hK) | (clear hK; clear hK; clear hK; clear hK; clear hK; (with_reducible refine hK _ _ _ ?_); clear hK) | (clear hK; clear hK; clear hK; clear hK; clear hK; clear hK; (with_reducible refine hK _ _ _ ?_); clear hK) | (clear hK; clear hK; clear hK; clear hK; clear hK; clear hK; clear hK; (with_reducible refine hK _ _ _ ?_); clear hK))
    refine cond_dec (fun hlt => ?_) (fun hge => ?_)
    · have hil : i < xs0.length := by omega
      repeat (first | ((with_reducible refine hK _ _ _ ?_); clear hK) | (with_reducible refine seq_step fun K hK => ?_) | (with_reducible refine block_step ?_) | ((with_reducible refine cond_t ?_ ?_); focus rfl) | ((with_reducible refine cond_f ?_ ?_); focus rfl) | ((with_reducible refine code_id ?_); conv => whnf) | (clear hK; (with_reducible refine hK _ _ _ ?_); clear hK) | (clear hK; clear hK; (with_reducible refine hK _ _ _ ?_); clear hK) | (clear hK; clear hK; clear hK; (with_reducible refine hK _ _ _ ?_); clear hK) | (clear hK; clear hK; clear hK; clear hK; (with_reducible refine hK _ _ _ ?_); clear hK) | (clear hK; clear hK; clear hK; clear hK; clear hK; (with_reducible refine hK _ _ _ ?_); clear hK) | (clear hK; clear hK; clear hK; clear hK; clear hK; clear hK; (with_reducible refine hK _ _ _ ?_); clear hK) | (clear hK; clear hK; clear hK; clear hK; clear hK; clear hK; clear hK; (with_reducible refine hK _ _ _ ?_); clear hK))
      refine loop_intro (σ := (Nat × Ls) × Hp) (fun s => [(0, .v (.slice base xs0.length cap)), (3, .v (.slice bn lens.length cn)), (6, .v (iv i)), (7, .v (iv s.1.1))]) (fun _ => []) (fun s => s.2)
        (fun s => s.1.1 ≤ 64 ∧ P2 ns s.1.2 i s.1.1 ∧ Has (OutP (.slice base xs0.length cap) s.1.2 :: IntsP (.slice bn lens.length cn) lens :: (Its s.1.2 ++ L)) s.2)
        (fun s => 64 - s.1.1) ((0, ys), g2) ⟨Nat.zero_le _, hp2, hg2⟩ (subE_cons rfl (subE_cons rfl (subE_cons rfl (subE_cons rfl subE_nil)))) subB_nil rfl ?_
      rintro ⟨⟨k, zs⟩, g3⟩ ⟨hk, hp3, hg3⟩
      dsimp only at hk hp3 hg3 ⊢
      have hnext3 : IntKind.i64.wrap ((k : Int) + 1) = ((k + 1 : Nat) : Int) := wrap_nat (by omega)
      repeat (first | ((with_reducible refine hK _ _ _ ?_); clear hK) | (with_reducible refine seq_step fun K hK => ?_) | (with_reducible refine block_step ?_) | ((with_reducible refine cond_t ?_ ?_); focus rfl) | ((with_reducible refine cond_f ?_ ?_); focus rfl) | ((with_reducible refine code_id ?_); conv => whnf) | (clear hK; (with_reducible refine hK _ _ _ ?_); clear hK) | (clear hK; clear hK; (with_reducible refine hK _ _ _ ?_); clear hK) | (clear hK; clear hK; clear hK; (with_reducible refine hK _ _ _ ?_); clear hK) | (clear hK; clear hK; clear hK; clear hK; (with_reducible refine hK _ _ _ ?_); clear hK) | (clear hK; clear hK; clear hK; clear hK; clear hK; (with_reducible refine hK _ _ _ ?_); clear hK) | (clear hK; clear hK; clear hK; clear hK; clear hK; clear hK; (with_reducible refine hK _ _ _ ?_); clear hK) | (clear hK; clear hK; clear hK; clear hK; clear hK; clear hK; clear hK; (with_reducible refine hK _ _ _ ?_); clear hK))
      refine cond_dec (fun hlt2 => ?_) (fun hge2 => ?_)
      · have hk64 : k < 64 := by omega
        have hzl := hp3.1
        have hnb2 := hnb i (by omega)
        obtain ⟨s, m', hx, hml⟩ := hp3.at (by omega)
        obtain ⟨bb, o, cap', c, ty, z, he, hbb, hc⟩ := hg3.rdw 0 rfl (k := i) (v := s) (by omega) (by rw [List.getElem?_map, hx]; rfl)
        injection he with e1 e2 e3
        subst e1 e3
        obtain ⟨bs, cs, hs⟩ := hg3.slv (i + 2) (at2 (its_get hx L))
        have hs : s = .slice bs m'.length cs := hs
        subst hs
        repeat (first | ((with_reducible refine hK _ _ _ ?_); clear hK) | (with_reducible refine seq_step fun K hK => ?_) | (with_reducible refine block_step ?_) | ((with_reducible refine cond_t ?_ ?_); focus rfl) | ((with_reducible refine cond_f ?_ ?_); focus rfl) | ((with_reducible refine code_id ?_); conv => whnf) | (clear hK; (with_reducible refine hK _ _ _ ?_); clear hK) | (clear hK; clear hK; (with_reducible refine hK _ _ _ ?_); clear hK) | (clear hK; clear hK; clear hK; (with_reducible refine hK _ _ _ ?_); clear hK) | (clear hK; clear hK; clear hK; clear hK; (with_reducible refine hK _ _ _ ?_); clear hK) | (clear hK; clear hK; clear hK; clear hK; clear hK; (with_reducible refine hK _ _ _ ?_); clear hK) | (clear hK; clear hK; clear hK; clear hK; clear hK; clear hK; (with_reducible refine hK _ _ _ ?_); clear hK) | (clear hK; clear hK; clear hK; clear hK; clear hK; clear hK; clear hK; (with_reducible refine hK _ _ _ ?_); clear hK))
        refine opt_if ⟨by omega, by omega⟩ ?_
        conv => whnf
        refine opt_ld hbb (v := .slice bs m'.length cs) (by show c[o + (i : Int).toNat * 1]? = _; rw [Int.toNat_natCast, Nat.mul_one]; exact hc) ?_
        conv => whnf
        rw [wrap_i64 (x := -9000 - (i : Int)) (by omega) (by omega)]
        conv => whnf
        refine fresh_has hg3 fun b1 g4 _ _ _ hg4 => ?_
        conv => whnf
        have hg5 := (hg4.pull (i + 3) (A := IntsP (.slice bs m'.length cs) m') (its_get hx L)).swap
        refine app1 (x := -9000 - (i : Int)) hg5 (by omega) fun s2 g6 hg6 => ?_
        obtain ⟨bs2, cs2, hs⟩ := hg6.slv 0 rfl
        subst hs
        conv => whnf
        refine opt_if ⟨by omega, by omega⟩ ?_
        conv => whnf
        rw [show o + (i : Int).toNat * 1 = o + i by omega]
        have h9 : (IntsP (.slice bs2 (m' ++ [-9000 - (i : Int)]).length cs2) (m' ++ [-9000 - (i : Int)]) :: OutP (.slice (some ⟨bb, o, none⟩) xs0.length cap) zs :: IntsP (.slice bn lens.length cn) lens :: (Its zs ++ L).eraseIdx i)[1]? = some (WnP 1 (.slice (some ⟨bb, o, none⟩) xs0.length cap) xs0.length (zs.map (·.1))) := by
          show some (WnP 1 _ zs.length _) = _
          rw [show zs.length = xs0.length by omega]
        refine st_hasW hg6 1 h9 (k := i) (x := .slice bs2 (m' ++ [-9000 - (i : Int)]).length cs2) (by omega) rfl rfl fun g7 hg7 => ?_
        have hg8 : Has (OutP (.slice (some ⟨bb, o, none⟩) xs0.length cap) (zs.set i (.slice bs2 (m' ++ [-9000 - (i : Int)]).length cs2, m' ++ [-9000 - (i : Int)])) :: IntsP (.slice bn lens.length cn) lens :: (Its (zs.set i (.slice bs2 (m' ++ [-9000 - (i : Int)]).length cs2, m' ++ [-9000 - (i : Int)])) ++ L)) g7 := by
          rw [← its_set (by omega) _ L]
          unfold OutP
          rw [List.length_set, List.map_set, show zs.length = xs0.length by omega]
          exact (hg7.pull 1 rfl).map_tail fun g hg => hg.swap.map_tail fun g hg => Has.put (its_get hx L) hg
        conv => whnf
        repeat (first | ((with_reducible refine hK _ _ _ ?_); clear hK) | (with_reducible refine seq_step fun K hK => ?_) | (with_reducible refine block_step ?_) | ((with_reducible refine cond_t ?_ ?_); focus rfl) | ((with_reducible refine cond_f ?_ ?_); focus rfl) | ((with_reducible refine code_id ?_); conv => whnf) | (clear hK; (with_reducible refine hK _ _ _ ?_); clear hK) | (clear hK; clear hK; (with_reducible refine hK _ _ _ ?_); clear hK) | (clear hK; clear hK; clear hK; (with_reducible refine hK _ _ _ ?_); clear hK) | (clear hK; clear hK; clear hK; clear hK; (with_reducible refine hK _ _ _ ?_); clear hK) | (clear hK; clear hK; clear hK; clear hK; clear hK; (with_reducible refine hK _ _ _ ?_); clear hK) | (clear hK; clear hK; clear hK; clear hK; clear hK; clear hK; (with_reducible refine hK _ _ _ ?_); clear hK) | (clear hK; clear hK; clear hK; clear hK; clear hK; clear hK; clear hK; (with_reducible refine hK _ _ _ ?_); clear hK))
        exact ⟨((k + 1, _), g7), ⟨hk64, hp3.put hx, hg8⟩, by show 64 - (k + 1) < 64 - k; omega, subE_cons rfl (subE_cons rfl (subE_cons rfl (subE_cons (int_eq hnext3 rfl) subE_nil))), subB_nil, rfl⟩
      · have hk64 : k = 64 := by omega
        rw [hk64] at hp3
        repeat (first | ((with_reducible refine hK _ _ _ ?_); clear hK) | (with_reducible refine seq_step fun K hK => ?_) | (with_reducible refine block_step ?_) | ((with_reducible refine cond_t ?_ ?_); focus rfl) | ((with_reducible refine cond_f ?_ ?_); focus rfl) | ((with_reducible refine code_id ?_); conv => whnf) | (clear hK; (with_reducible refine hK _ _ _ ?_); clear hK) | (clear hK; clear hK; (with_reducible refine hK _ _ _ ?_); clear hK) | (clear hK; clear hK; clear hK; (with_reducible refine hK _ _ _ ?_); clear hK) | (clear hK; clear hK; clear hK; clear hK; (with_reducible refine hK _ _ _ ?_); clear hK) | (clear hK; clear hK; clear hK; clear hK; clear hK; (with_reducible refine hK _ _ _ ?_); clear hK) | (clear hK; clear hK; clear hK; clear hK; clear hK; clear hK; (with_reducible refine hK _ _ _ ?_); clear hK) | (clear hK; clear hK; clear hK; clear hK; clear hK; clear hK; clear hK; (with_reducible refine hK _ _ _ ?_); clear hK))
        exact ⟨((i + 1, zs), g3), ⟨hil, hp3.next, hg3⟩, by show xs0.length - (i + 1) < xs0.length - i; omega, subE_cons rfl (subE_cons rfl (subE_cons (int_eq hnext2 rfl) subE_nil)), subB_nil, rfl⟩
    · have hie2 : i = xs0.length := by omega
      rw [hie2] at hp2
      repeat (first | ((with_reducible refine hK _ _ _ ?_); clear hK) | (with_reducible refine seq_step fun K hK => ?_) | (with_reducible refine block_step ?_) | ((with_reducible refine cond_t ?_ ?_); focus rfl) | ((with_reducible refine cond_f ?_ ?_); focus rfl) | ((with_reducible refine code_id ?_); conv => whnf) | (clear hK; (with_reducible refine hK _ _ _ ?_); clear hK) | (clear hK; clear hK; (with_reducible refine hK _ _ _ ?_); clear hK) | (clear hK; clear hK; clear hK; (with_reducible refine hK _ _ _ ?_); clear hK) | (clear hK; clear hK; clear hK; clear hK; (with_reducible refine hK _ _ _ ?_); clear hK) | (clear hK; clear hK; clear hK; clear hK; clear hK; (with_reducible refine hK _ _ _ ?_); clear hK) | (clear hK; clear hK; clear hK; clear hK; clear hK; clear hK; (with_reducible refine hK _ _ _ ?_); clear hK) | (clear hK; clear hK; clear hK; clear hK; clear hK; clear hK; clear hK; (with_reducible refine hK _ _ _ ?_); clear hK))
      refine loop_intro (σ := Nat) (fun s => [(0, .v (.slice base xs0.length cap)), (3, .v (.slice bn lens.length cn)), (8, .v (iv s))]) (fun _ => []) (fun _ => g2)
        (fun s => s ≤ xs0.length) (fun s => xs0.length - s) 0 (Nat.zero_le _) (subE_cons rfl (subE_cons rfl (subE_cons rfl subE_nil))) subB_nil rfl ?_
      intro j hj
      have hnext3 : IntKind.i64.wrap ((j : Int) + 1) = ((j + 1 : Nat) : Int) := wrap_nat (by omega)
      repeat (first | ((with_reducible refine hK _ _ _ ?_); clear hK) | (with_reducible refine seq_step fun K hK => ?_) | (with_reducible refine block_step ?_) | ((with_reducible refine cond_t ?_ ?_); focus rfl) | ((with_reducible refine cond_f ?_ ?_); focus rfl) | ((with_reducible refine code_id ?_); conv => whnf) | (clear hK; (with_reducible refine hK _ _ _ ?_); clear hK) | (clear hK; clear hK; (with_reducible refine hK _ _ _ ?_); clear hK) | (clear hK; clear hK; clear hK; (with_reducible refine hK _ _ _ ?_); clear hK) | (clear hK; clear hK; clear hK; clear hK; (with_reducible refine hK _ _ _ ?_); clear hK) | (clear hK; clear hK; clear hK; clear hK; clear hK; (with_reducible refine hK _ _ _ ?_); clear hK) | (clear hK; clear hK; clear hK; clear hK; clear hK; clear hK; (with_reducible refine hK _ _ _ ?_); clear hK) | (clear hK; clear hK; clear hK; clear hK; clear hK; clear hK; clear hK; (with_reducible refine hK _ _ _ ?_); clear hK))
      refine cond_dec (fun hlt3 => ?_) (fun hge3 => ?_)
      · have hjl : j < xs0.length := by omega
        have hzl := hp2.1
        have hnb2 := hnb j (by omega)
        have hlj : lens[j]? = some ((ns[j] : Nat) : Int) := by
          have := congrArg (fun l : List Int => l[j]?) hle
          simp only [List.getElem?_map] at this
          rw [this, List.getElem?_eq_getElem (by omega)]; rfl
        obtain ⟨s, m', hx, hml, hmv⟩ := hp2.2 j ns[j] (List.getElem?_eq_getElem (by omega))
        rw [if_pos hjl] at hml
        obtain ⟨bb, o, cap', c, ty, z, he, hbb, hc⟩ := hg2.rdw 0 rfl (k := j) (v := s) (by omega) (by rw [List.getElem?_map, hx]; rfl)
        injection he with e1 e2 e3
        subst e1 e3
        obtain ⟨bb2, o2, cap2, c2, ty2, z2, he, hbb2, hc2⟩ := hg2.rdw 1 rfl (k := j) (v := iv ns[j]) (by omega) (by rw [List.getElem?_map, hlj]; rfl)
        injection he with e1 e2 e3
        subst e1 e3
        obtain ⟨bb3, o3, cap3, c3, ty3, z3, he, hbb3, _⟩ := hg2.rdw (j + 2) (at2 (its_get hx L)) (k := 0) (v := iv m'[0]) (by show 0 < m'.length; omega) (by show (m'.map iv)[0]? = _; rw [List.getElem?_map, List.getElem?_eq_getElem (by omega)]; rfl)
        have he : s = .slice (some ⟨bb3, o3, none⟩) m'.length cap3 := he
        subst he
        repeat (first | ((with_reducible refine hK _ _ _ ?_); clear hK) | (with_reducible refine seq_step fun K hK => ?_) | (with_reducible refine block_step ?_) | ((with_reducible refine cond_t ?_ ?_); focus rfl) | ((with_reducible refine cond_f ?_ ?_); focus rfl) | ((with_reducible refine code_id ?_); conv => whnf) | (clear hK; (with_reducible refine hK _ _ _ ?_); clear hK) | (clear hK; clear hK; (with_reducible refine hK _ _ _ ?_); clear hK) | (clear hK; clear hK; clear hK; (with_reducible refine hK _ _ _ ?_); clear hK) | (clear hK; clear hK; clear hK; clear hK; (with_reducible refine hK _ _ _ ?_); clear hK) | (clear hK; clear hK; clear hK; clear hK; clear hK; (with_reducible refine hK _ _ _ ?_); clear hK) | (clear hK; clear hK; clear hK; clear hK; clear hK; clear hK; (with_reducible refine hK _ _ _ ?_); clear hK) | (clear hK; clear hK; clear hK; clear hK; clear hK; clear hK; clear hK; (with_reducible refine hK _ _ _ ?_); clear hK))
        refine loop_intro (σ := Nat) (fun s => [(0, .v (.slice (some ⟨bb, o, none⟩) xs0.length cap)), (3, .v (.slice (some ⟨bb2, o2, none⟩) lens.length cn)), (8, .v (iv j)), (9, .v (iv s))]) (fun _ => []) (fun _ => g2)
          (fun s => s ≤ m'.length) (fun s => m'.length - s) 0 (Nat.zero_le _) (subE_cons rfl (subE_cons rfl (subE_cons rfl (subE_cons rfl subE_nil)))) subB_nil rfl ?_
        intro k hk
        have hnext4 : IntKind.i64.wrap ((k : Int) + 1) = ((k + 1 : Nat) : Int) := wrap_nat (by omega)
        repeat (first | ((with_reducible refine hK _ _ _ ?_); clear hK) | (with_reducible refine seq_step fun K hK => ?_) | (with_reducible refine block_step ?_) | ((with_reducible refine cond_t ?_ ?_); focus rfl) | ((with_reducible refine cond_f ?_ ?_); focus rfl) | ((with_reducible refine code_id ?_); conv => whnf) | (clear hK; (with_reducible refine hK _ _ _ ?_); clear hK) | (clear hK; clear hK; (with_reducible refine hK _ _ _ ?_); clear hK) | (clear hK; clear hK; clear hK; (with_reducible refine hK _ _ _ ?_); clear hK) | (clear hK; clear hK; clear hK; clear hK; (with_reducible refine hK _ _ _ ?_); clear hK) | (clear hK; clear hK; clear hK; clear hK; clear hK; (with_reducible refine hK _ _ _ ?_); clear hK) | (clear hK; clear hK; clear hK; clear hK; clear hK; clear hK; (with_reducible refine hK _ _ _ ?_); clear hK) | (clear hK; clear hK; clear hK; clear hK; clear hK; clear hK; clear hK; (with_reducible refine hK _ _ _ ?_); clear hK))
        refine opt_if ⟨by omega, by omega⟩ ?_
        conv => whnf
        refine opt_ld hbb (v := .slice (some ⟨bb3, o3, none⟩) m'.length cap3) (by show c[o + (j : Int).toNat * 1]? = _; rw [Int.toNat_natCast, Nat.mul_one]; exact hc) ?_
        conv => whnf
        repeat (first | ((with_reducible refine hK _ _ _ ?_); clear hK) | (with_reducible refine seq_step fun K hK => ?_) | (with_reducible refine block_step ?_) | ((with_reducible refine cond_t ?_ ?_); focus rfl) | ((with_reducible refine cond_f ?_ ?_); focus rfl) | ((with_reducible refine code_id ?_); conv => whnf) | (clear hK; (with_reducible refine hK _ _ _ ?_); clear hK) | (clear hK; clear hK; (with_reducible refine hK _ _ _ ?_); clear hK) | (clear hK; clear hK; clear hK; (with_reducible refine hK _ _ _ ?_); clear hK) | (clear hK; clear hK; clear hK; clear hK; (with_reducible refine hK _ _ _ ?_); clear hK) | (clear hK; clear hK; clear hK; clear hK; clear hK; (with_reducible refine hK _ _ _ ?_); clear hK) | (clear hK; clear hK; clear hK; clear hK; clear hK; clear hK; (with_reducible refine hK _ _ _ ?_); clear hK) | (clear hK; clear hK; clear hK; clear hK; clear hK; clear hK; clear hK; (with_reducible refine hK _ _ _ ?_); clear hK))
        refine cond_dec (fun hlt4 => ?_) (fun hge4 => ?_)
        · have hkm : k < m'.length := by omega
          have hv := hmv k m'[k] (List.getElem?_eq_getElem hkm)
          obtain ⟨bb5, o5, cap5, c5, ty5, z5, he5, hbb5, hc5⟩ := hg2.rdw (j + 2) (at2 (its_get hx L)) (k := k) (v := iv m'[k]) hkm (by show (m'.map iv)[k]? = _; rw [List.getElem?_map, List.getElem?_eq_getElem hkm]; rfl)
          injection he5 with e1 e2 e3
          injection e1 with e1
          injection e1 with e1 e4 e5
          subst e1 e4
          repeat (first | ((with_reducible refine hK _ _ _ ?_); clear hK) | (with_reducible refine seq_step fun K hK => ?_) | (with_reducible refine block_step ?_) | ((with_reducible refine cond_t ?_ ?_); focus rfl) | ((with_reducible refine cond_f ?_ ?_); focus rfl) | ((with_reducible refine code_id ?_); conv => whnf) | (clear hK; (with_reducible refine hK _ _ _ ?_); clear hK) | (clear hK; clear hK; (with_reducible refine hK _ _ _ ?_); clear hK) | (clear hK; clear hK; clear hK; (with_reducible refine hK _ _ _ ?_); clear hK) | (clear hK; clear hK; clear hK; clear hK; (with_reducible refine hK _ _ _ ?_); clear hK) | (clear hK; clear hK; clear hK; clear hK; clear hK; (with_reducible refine hK _ _ _ ?_); clear hK) | (clear hK; clear hK; clear hK; clear hK; clear hK; clear hK; (with_reducible refine hK _ _ _ ?_); clear hK) | (clear hK; clear hK; clear hK; clear hK; clear hK; clear hK; clear hK; (with_reducible refine hK _ _ _ ?_); clear hK))
          refine opt_if ⟨by omega, by omega⟩ ?_
          conv => whnf
          refine opt_ld hbb2 (v := iv ns[j]) (by show c2[o2 + (j : Int).toNat * 1]? = _; rw [Int.toNat_natCast, Nat.mul_one]; exact hc2) ?_
          conv => whnf
          by_cases c1 : k < ns[j]
          · rw [if_pos c1] at hv
            rw [show decide ((k : Int) < (ns[j] : Nat)) = true from decide_eq_true (by omega)]
            conv => whnf
            refine opt_if ⟨by omega, by omega⟩ ?_
            conv => whnf
            refine opt_ld hbb (v := .slice (some ⟨bb3, o3, none⟩) m'.length cap3) (by show c[o + (j : Int).toNat * 1]? = _; rw [Int.toNat_natCast, Nat.mul_one]; exact hc) ?_
            conv => whnf
            refine opt_if ⟨by omega, by omega⟩ ?_
            conv => whnf
            refine opt_ld hbb5 (v := iv m'[k]) (by show c5[o3 + (k : Int).toNat * 1]? = _; rw [Int.toNat_natCast, Nat.mul_one]; exact hc5) ?_
            conv => whnf
            rw [wrap_i64 (x := -1000 - (j : Int)) (by omega) (by omega), show (m'[k] != -1000 - (j : Int)) = false by rw [hv]; exact bne_self_eq_false _]
            conv => whnf
            refine opt_if ⟨by omega, by omega⟩ ?_
            conv => whnf
            refine opt_ld hbb2 (v := iv ns[j]) (by show c2[o2 + (j : Int).toNat * 1]? = _; rw [Int.toNat_natCast, Nat.mul_one]; exact hc2) ?_
            conv => whnf
            rw [show decide ((k : Int) ≥ (ns[j] : Nat)) = false from decide_eq_false (by omega)]
            conv => whnf
            repeat (first | ((with_reducible refine hK _ _ _ ?_); clear hK) | (with_reducible refine seq_step fun K hK => ?_) | (with_reducible refine block_step ?_) | ((with_reducible refine cond_t ?_ ?_); focus rfl) | ((with_reducible refine cond_f ?_ ?_); focus rfl) | ((with_reducible refine code_id ?_); conv => whnf) | (clear hK; (with_reducible refine hK _ _ _ ?_); clear hK) | (clear hK; clear hK; (with_reducible refine hK _ _ _ ?_); clear hK) | (clear hK; clear hK; clear hK; (with_reducible refine hK _ _ _ ?_); clear hK) | (clear hK; clear hK; clear hK; clear hK; (with_reducible refine hK _ _ _ ?_); clear hK) | (clear hK; clear hK; clear hK; clear hK; clear hK; (with_reducible refine hK _ _ _ ?_); clear hK) | (clear hK; clear hK; clear hK; clear hK; clear hK; clear hK; (with_reducible refine hK _ _ _ ?_); clear hK) | (clear hK; clear hK; clear hK; clear hK; clear hK; clear hK; clear hK; (with_reducible refine hK _ _ _ ?_); clear hK))
            exact ⟨k + 1, hkm, by omega, subE_cons rfl (subE_cons rfl (subE_cons rfl (subE_cons (int_eq hnext4 rfl) subE_nil))), subB_nil, rfl⟩
          · rw [if_neg c1] at hv
            rw [show decide ((k : Int) < (ns[j] : Nat)) = false from decide_eq_false (by omega)]
            conv => whnf
            refine opt_if ⟨by omega, by omega⟩ ?_
            conv => whnf
            refine opt_ld hbb2 (v := iv ns[j]) (by show c2[o2 + (j : Int).toNat * 1]? = _; rw [Int.toNat_natCast, Nat.mul_one]; exact hc2) ?_
            conv => whnf
            rw [show decide ((k : Int) ≥ (ns[j] : Nat)) = true from decide_eq_true (by omega)]
            conv => whnf
            refine opt_if ⟨by omega, by omega⟩ ?_
            conv => whnf
            refine opt_ld hbb (v := .slice (some ⟨bb3, o3, none⟩) m'.length cap3) (by show c[o + (j : Int).toNat * 1]? = _; rw [Int.toNat_natCast, Nat.mul_one]; exact hc) ?_
            conv => whnf
            refine opt_if ⟨by omega, by omega⟩ ?_
            conv => whnf
            refine opt_ld hbb5 (v := iv m'[k]) (by show c5[o3 + (k : Int).toNat * 1]? = _; rw [Int.toNat_natCast, Nat.mul_one]; exact hc5) ?_
            conv => whnf
            rw [wrap_i64 (x := -9000 - (j : Int)) (by omega) (by omega), show (m'[k] != -9000 - (j : Int)) = false by rw [hv]; exact bne_self_eq_false _]
            conv => whnf
            repeat (first | ((with_reducible refine hK _ _ _ ?_); clear hK) | (with_reducible refine seq_step fun K hK => ?_) | (with_reducible refine block_step ?_) | ((with_reducible refine cond_t ?_ ?_); focus rfl) | ((with_reducible refine cond_f ?_ ?_); focus rfl) | ((with_reducible refine code_id ?_); conv => whnf) | (clear hK; (with_reducible refine hK _ _ _ ?_); clear hK) | (clear hK; clear hK; (with_reducible refine hK _ _ _ ?_); clear hK) | (clear hK; clear hK; clear hK; (with_reducible refine hK _ _ _ ?_); clear hK) | (clear hK; clear hK; clear hK; clear hK; (with_reducible refine hK _ _ _ ?_); clear hK) | (clear hK; clear hK; clear hK; clear hK; clear hK; (with_reducible refine hK _ _ _ ?_); clear hK) | (clear hK; clear hK; clear hK; clear hK; clear hK; clear hK; (with_reducible refine hK _ _ _ ?_); clear hK) | (clear hK; clear hK; clear hK; clear hK; clear hK; clear hK; clear hK; (with_reducible refine hK _ _ _ ?_); clear hK))
            exact ⟨k + 1, hkm, by omega, subE_cons rfl (subE_cons rfl (subE_cons rfl (subE_cons (int_eq hnext4 rfl) subE_nil))), subB_nil, rfl⟩
        · repeat (first | ((with_reducible refine hK _ _ _ ?_); clear hK) | (with_reducible refine seq_step fun K hK => ?_) | (with_reducible refine block_step ?_) | ((with_reducible refine cond_t ?_ ?_); focus rfl) | ((with_reducible refine cond_f ?_ ?_); focus rfl) | ((with_reducible refine code_id ?_); conv => whnf) | (clear hK; (with_reducible refine hK _ _ _ ?_); clear hK) | (clear hK; clear hK; (with_reducible refine hK _ _ _ ?_); clear hK) | (clear hK; clear hK; clear hK; (with_reducible refine hK _ _ _ ?_); clear hK) | (clear hK; clear hK; clear hK; clear hK; (with_reducible refine hK _ _ _ ?_); clear hK) | (clear hK; clear hK; clear hK; clear hK; clear hK; (with_reducible refine hK _ _ _ ?_); clear hK) | (clear hK; clear hK; clear hK; clear hK; clear hK; clear hK; (with_reducible refine hK _ _ _ ?_); clear hK) | (clear hK; clear hK; clear hK; clear hK; clear hK; clear hK; clear hK; (with_reducible refine hK _ _ _ ?_); clear hK))
          exact ⟨j + 1, hjl, by omega, subE_cons rfl (subE_cons rfl (subE_cons (int_eq hnext3 rfl) subE_nil)), subB_nil, rfl⟩
      · repeat (first | ((with_reducible refine hK _ _ _ ?_); clear hK) | (with_reducible refine seq_step fun K hK => ?_) | (with_reducible refine block_step ?_) | ((with_reducible refine cond_t ?_ ?_); focus rfl) | ((with_reducible refine cond_f ?_ ?_); focus rfl) | ((with_reducible refine code_id ?_); conv => whnf) | (clear hK; (with_reducible refine hK _ _ _ ?_); clear hK) | (clear hK; clear hK; (with_reducible refine hK _ _ _ ?_); clear hK) | (clear hK; clear hK; clear hK; (with_reducible refine hK _ _ _ ?_); clear hK) | (clear hK; clear hK; clear hK; clear hK; (with_reducible refine hK _ _ _ ?_); clear hK) | (clear hK; clear hK; clear hK; clear hK; clear hK; (with_reducible refine hK _ _ _ ?_); clear hK) | (clear hK; clear hK; clear hK; clear hK; clear hK; clear hK; (with_reducible refine hK _ _ _ ?_); clear hK) | (clear hK; clear hK; clear hK; clear hK; clear hK; clear hK; clear hK; (with_reducible refine hK _ _ _ ?_); clear hK))
        exact hq _ (Has.group hg2.tail.tail).tail
end
end Go.Proofs.Ytljenppmdhldbaa.V
