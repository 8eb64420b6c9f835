/- Seat 04: a fresh disk. -/
import Derived.Test.YtpkleblggehghaaD13
namespace Go.Proofs.Ytpkleblggehghaa.V
set_option linter.unusedVariables false
set_option linter.unusedSimpArgs false
set_option linter.unusedSectionVars false
set_option linter.unusedSectionVars false
open Go

theorem vw_nil (e : Nat) (h : Hp) : Vw e h (.slice none 0 0) 0 [] := ⟨by simp, none, 0, rfl, Nat.le_refl _, .inl rfl⟩

theorem Has.wn {L : List As} {h : Hp} (hh : Has L h) (i : Nat) {e n : Nat} {s : Value} {vs : List Value} (hi : L[i]? = some (WnP e s n vs)) : Vw e h s n vs := (Has.get hh i hi fun _ _ => WnP.sub).vw

theorem Has.erase : ∀ {L : List As} {h : Hp}, Has L h → ∀ i, Has (L.eraseIdx i) h
  | [], _, hh, i => by cases i <;> exact hh
  | A :: L, h, hh, 0 => hh.tail
  | A :: L, h, hh, i + 1 => hh.map_tail fun g hg => Has.erase hg i

theorem Has.slv {L : List As} {h : Hp} (hh : Has L h) (i : Nat) {e n : Nat} {s : Value} {vs : List Value} (hi : L[i]? = some (WnP e s n vs)) : ∃ base cap, s = .slice base n cap :=
  let ⟨_, base, cap, h, _⟩ := hh.wn i hi; ⟨base, cap, h⟩

/-- Up, nothing waiting, not armed. -/
structure Clean (d : Dk) : Prop where
  cache : d.cache = []
  armed : d.armed = false
  left : d.left = 0
  down : d.down = false

theorem Clean.act {d : Dk} (hc : Clean d) : d.act = (true, { d with acts := IntKind.i64.wrap (d.acts + 1) }) := by
  unfold Dk.act
  rw [if_neg (by rw [hc.down]; decide), if_neg (by rw [hc.armed]; decide)]

theorem Clean.write {d : Dk} (hc : Clean d) (n : Int) (x : Sec) : d.write n x = (0, { d with acts := IntKind.i64.wrap (d.acts + 1), cache := [(n, x)] }) := by
  unfold Dk.write
  rw [hc.act]
  show (0, _) = _
  simp only [hc.cache, List.nil_append]

theorem Clean.crash (d : Dk) (keep : Nat → Bool) : Clean (d.crash keep) := ⟨rfl, rfl, rfl, rfl⟩

section
variable {h : Hp} {Q : Value → Hp → Prop} {L : List As} {p : Nat} {d : Dk}

theorem fresh11 {h0 : Hp} {a : Value} {l : List OpD} (hh : Has L h) (hL : ∀ g, Has L g → SubH h0 g) (hs : SlR 7 OpR h0 [a] l) (hb : ∀ o ∈ l, o.data.length ≤ 2 ^ 40 ∧ o.keep.length ≤ 2 ^ 40) (hl : l.length ≤ 2 ^ 30)
    (hq : ∀ q d h', Clean d → Has (DkP q d :: L) h' → Q (ptr q) h') : Ok PR 11 [a] h Q := by
  refine e11 rfl ?_
  refine seq_step fun K hK => ?_
  conv => whnf
  refine hK _ _ _ (seq_step fun K1 hK1 => ?_)
  conv => whnf
  refine begun43 hh hL hs hb hl fun p d h1 hdc hh1 => ?_
  conv => whnf
  refine hK1 _ _ _ (seq_step fun K2 hK2 => ?_)
  refine seq_step fun K3 hK3 => ?_
  conv => whnf
  refine hK3 _ _ _ ?_
  conv => whnf
  refine hK2 _ _ _ (seq_step fun K4 hK4 => ?_)
  conv => whnf
  refine crash20 (l := []) hh1 (by omega) (fun g _ => vw_nil 1 g) fun h2 hh2 => ?_
  conv => whnf
  have hc := Clean.crash d (kept [])
  generalize d.crash (kept []) = d at hc hh2
  refine hK4 _ _ _ (seq_step fun K5 hK5 => ?_)
  conv => whnf
  refine full17 90 hh2 fun s h3 hh3 => ?_
  conv => whnf
  refine write15 1023 (x := one1S 90) (by omega) hh3.swap (by rw [hc.cache]; exact Nat.zero_le _) (fun g hg => hg.wn 0 rfl) fun h4 hh4 => ?_
  rw [hc.write] at hh4 ⊢
  conv => whnf
  refine hK5 _ _ _ (seq_step fun K6 hK6 => ?_)
  conv => whnf
  refine read22 (d := { d with acts := IntKind.i64.wrap (d.acts + 1), cache := [(1023, one1S 90)] }) 1023 (x := one1S 90) hc.down (by omega) hh4 rfl (by show 1 ≤ _; omega) fun s2 h5 hh5 => ?_
  conv => whnf
  refine hK6 _ _ _ (seq_step fun K7 hK7 => ?_)
  refine seq_step fun K8 hK8 => ?_
  conv => whnf
  refine full17 90 hh5 fun s3 h6 hh6 => ?_
  conv => whnf
  refine same26 (l := (one1S 90).val) (k := (one1S 90).val) (hh6.wn 1 rfl) (hh6.wn 0 rfl) fun t ht => ?_
  obtain rfl := ht rfl
  conv => whnf
  refine hK8 _ _ _ ?_
  conv => whnf
  refine hK7 _ _ _ (seq_step fun K9 hK9 => ?_)
  conv => whnf
  refine fresh_has hh6 fun b h7 hb7 _ _ hh7 => ?_
  conv => whnf
  refine crash20 (l := [true]) (hh7.pull 3 rfl) (by show 1 ≤ _; omega) (fun g hg => (pt_wn (e := 1) (n := 1) (cap := 1) (cs := [.bool true]) rfl (Nat.le_refl _) rfl (hg.pt 0 rfl)).vw) fun h8 hh8 => ?_
  conv => whnf
  refine hK9 _ _ _ (seq_step fun K10 hK10 => ?_)
  have hlm := (DkP.opn hh8).1.med
  have hmm : (({ d with acts := IntKind.i64.wrap (d.acts + 1), cache := [(1023, one1S 90)] } : Dk).crash (kept [true])).med[1023]? = some (one1S 90) := by
    show (d.med.set 1023 (one1S 90))[1023]? = _
    have : d.med.length = 1024 := by rw [← hlm]; exact (List.length_set ..).symm
    rw [List.getElem?_set_self (by omega)]
  have hn : drN (kept [true]) ({ d with acts := IntKind.i64.wrap (d.acts + 1), cache := [(1023, one1S 90)] } : Dk).cache.length = 1 := rfl
  rw [hn]
  have hc2 := Clean.crash { d with acts := IntKind.i64.wrap (d.acts + 1), cache := [(1023, one1S 90)] } (kept [true])
  generalize ({ d with acts := IntKind.i64.wrap (d.acts + 1), cache := [(1023, one1S 90)] } : Dk).crash (kept [true]) = d2 at hc2 hh8 hmm
  conv => whnf
  refine raw25 1023 (x := one1S 90) hh8 hmm fun s4 h9 hh9 => ?_
  conv => whnf
  refine hK10 _ _ _ (seq_step fun K11 hK11 => ?_)
  refine seq_step fun K12 hK12 => ?_
  conv => whnf
  refine full17 90 hh9 fun s5 h10 hh10 => ?_
  conv => whnf
  refine same26 (l := (one1S 90).val) (k := (one1S 90).val) (hh10.wn 1 rfl) (hh10.wn 0 rfl) fun t ht => ?_
  obtain rfl := ht rfl
  conv => whnf
  refine hK12 _ _ _ ?_
  conv => whnf
  refine hK11 _ _ _ ?_
  conv => whnf
  refine hq _ _ _ hc2 ?_
  exact ((((((hh10.pull 2 rfl).erase 1).erase 1).erase 1).erase 1).erase 1).erase 1

end
end Go.Proofs.Ytpkleblggehghaa.V
