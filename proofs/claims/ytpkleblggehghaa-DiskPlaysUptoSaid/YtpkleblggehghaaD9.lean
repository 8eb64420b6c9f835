/- Seat 04: Flush, Crash. -/
import Derived.Test.YtpkleblggehghaaD8
namespace Go.Proofs.Ytpkleblggehghaa.V
set_option linter.unusedVariables false
set_option linter.unusedSimpArgs false
set_option linter.unusedSectionVars false
set_option linter.unusedSectionVars false
open Go

theorem callable46 : callable PR 46 = true := by kernel_rfl
theorem callable49 : callable PR 49 = true := by kernel_rfl

section
variable {h : Hp} {Q : Value → Hp → Prop} {L : List As} {p : Nat} {d : Dk}

theorem true46 (i : Nat) (hq : Q (.bool true) h) : Ok PR 46 [iv i] h Q := by
  refine e46 rfl ?_
  conv => whnf
  exact hq

/-- Flush: refused, or all that waits lands. -/
def Dk.flush (d : Dk) : Int × Dk := if d.act.1 then (0, d.act.2.drain fun _ => true) else (42, d.act.2)

theorem act_cache (d : Dk) : d.act.2.cache = d.cache := by
  unfold Dk.act
  repeat' split
  all_goals rfl

theorem flush14 (hh : Has (DkP p d :: L) h) (hc : d.cache.length ≤ 2 ^ 40) (hq : ∀ h', Has (DkP p d.flush.2 :: L) h' → Q (iv d.flush.1) h') : Ok PR 14 [ptr p] h Q := by
  refine e14 rfl ?_
  refine seq_step fun K hK => ?_
  conv => whnf
  refine hK _ _ _ (seq_step fun K1 hK1 => ?_)
  conv => whnf
  refine hh.call 0 rfl act44S fun _ h1 hh1 => ?_
  replace hh1 : Has (DkP p d.act.2 :: L) h1 := hh1
  conv => whnf
  unfold Dk.flush at hq
  have hca := act_cache d
  refine cond_split (fun ha => ?_) (fun ha => ?_)
  · have ha' : d.act.1 = false := by simpa using ha
    rw [if_neg (by rw [ha']; decide)] at hq
    conv => whnf
    exact hq _ hh1
  · have ha' : d.act.1 = true := by simpa using ha
    rw [if_pos ha'] at hq
    conv => whnf
    refine hK1 _ _ _ (seq_step fun K2 hK2 => ?_)
    conv => whnf
    refine drain45 (keep := fun _ => true) hh1 (by rw [hca]; exact hc) callable46 (fun i g R _ _ hR => true46 i hR) fun h2 hh2 => ?_
    conv => whnf
    refine hK2 _ _ _ ?_
    conv => whnf
    exact hq _ hh2

/-- Crash: what keep names lands; up again. -/
def Dk.crash (d : Dk) (keep : Nat → Bool) : Dk := { d.drain keep with armed := false, down := false, left := 0 }

def kept (l : List Bool) (i : Nat) : Bool := l.getD i false

theorem keep49 {b : Nat} {a : Value} {n i : Nat} {l : List Bool} (hb : h b = some (.cells #[a] 41 (0, 0))) (ha : Vw 1 h a n (l.map fun t => Value.bool t)) (hi : i ≤ 2 ^ 40) (hq : Q (.bool (kept l i)) h) : Ok PR 49 [iv i, ptr b] h Q := by
  have hln : l.length = n := by have := ha.1; simpa using this
  obtain ⟨base, cap, hs⟩ : ∃ base cap, a = .slice base n cap := let ⟨_, x, y, z, _⟩ := ha; ⟨x, y, z⟩
  refine e49 rfl ?_
  refine seq_step fun K hK => ?_
  conv => whnf
  refine hK _ _ _ ?_
  subst hs
  conv => whnf
  refine opt_ld hb rfl ?_
  conv => whnf
  by_cases hin : i < n
  · obtain ⟨b2, o, c, ty, z, cap', hs, hb2, hsz, hcc⟩ := ha.at hin
    cases hs
    have hli : l[i]? = some l[i] := List.getElem?_eq_getElem (by omega)
    have hkp : kept l i = l[i] := by unfold kept; rw [List.getD_eq_getElem?_getD, hli]; rfl
    rw [hkp] at hq
    generalize l[i] = t at hli hq
    rw [show decide ((i : Int) < (n : Int)) = true from decide_eq_true (by omega)]
    conv => whnf
    refine opt_ld hb rfl ?_
    conv => whnf
    refine opt_if ⟨by omega, by omega⟩ ?_
    conv => whnf
    refine opt_ld hb2 (v := .bool t) (hcc 0 _ (by simpa using hli)) ?_
    conv => whnf
    exact hq
  · have hkp : kept l i = false := by unfold kept; rw [List.getD_eq_getElem?_getD, List.getElem?_eq_none (by omega)]; rfl
    rw [hkp] at hq
    rw [show decide ((i : Int) < (n : Int)) = false from decide_eq_false (by omega)]
    conv => whnf
    exact hq

theorem crash20 {a : Value} {n : Nat} {l : List Bool} (hh : Has (DkP p d :: L) h) (hc : d.cache.length ≤ 2 ^ 40) (ha : ∀ g, Has L g → Vw 1 g a n (l.map fun t => Value.bool t)) (hq : ∀ h', Has (DkP p (d.crash (kept l)) :: L) h' → Q (iv (drN (kept l) d.cache.length)) h') : Ok PR 20 [ptr p, a] h Q := by
  obtain ⟨base, cap, hs⟩ : ∃ base cap, a = .slice base n cap := let ⟨_, x, y, z, _⟩ := ha h (Has.tail hh); ⟨x, y, z⟩
  subst hs
  refine e20 rfl ?_
  refine seq_step fun K hK => ?_
  conv => whnf
  refine fresh_has hh fun b h1 hb1 _ hs1 hh1 => ?_
  conv => whnf
  refine hK _ _ _ (seq_step fun K1 hK1 => ?_)
  conv => whnf
  refine drain45 (keep := kept l) (fc := #[ptr b]) hh1.swap hc callable49 (fun i g R hg hi hR => keep49 (hg.pt 0 rfl) (ha g (Has.tail hg)) (by omega) hR) fun h2 hh2 => ?_
  conv => whnf
  refine hK1 _ _ _ (seq_step fun K2 hK2 => ?_)
  obtain ⟨hok, s, hh3⟩ := DkP.opn hh2
  conv => whnf
  refine dk_st hh3 hok.med 1 _ rfl (by omega) { d.drain (kept l) with armed := false } s rfl rfl rfl rfl fun h4 hh4 => ?_
  conv => whnf
  refine dk_st hh4 hok.med 3 _ rfl (by omega) { d.drain (kept l) with armed := false, down := false } s rfl rfl rfl rfl fun h5 hh5 => ?_
  conv => whnf
  refine dk_st hh5 hok.med 2 _ rfl (by omega) (d.crash (kept l)) s rfl rfl rfl rfl fun h6 hh6 => ?_
  conv => whnf
  refine hK2 _ _ _ ?_
  conv => whnf
  refine hq _ ?_
  have hh7 : Has (DkP p (d.crash (kept l)) :: Pt b (.cells #[.slice base n cap] 41 (0, 0)) :: L) h6 := DkP.cls ⟨hok.med, hok.at_, Int.le_refl _, (by show (0 : Int) < 2 ^ 63; decide), hok.acts⟩ hh6
  exact Has.tail hh7.swap

end
end Go.Proofs.Ytpkleblggehghaa.V
