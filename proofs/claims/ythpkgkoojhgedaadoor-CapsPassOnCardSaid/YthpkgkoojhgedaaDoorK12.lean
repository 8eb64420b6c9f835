/- Seat 08: a line of derivations in plain Lean. -/
import Derived.Test.YthpkgkoojhgedaaDoorK11
namespace Go.Proofs.YthpkgkoojhgedaaDoor.V
set_option linter.unusedVariables false
set_option linter.unusedSimpArgs false
set_option linter.unusedSectionVars false
set_option linter.unusedSectionVars false
open Go

def cp0 : Cp := ⟨1, 5, 7, 15⟩

/-- The nearest one ahead of j that is there. -/
def prevT (th : List Bool) : Nat → Option Nat
  | 0 => none
  | j + 1 => if th[j]? = some true then some j else prevT th j
/-- The nearest one ahead of j that is there and lies in list 0 or 3. -/
def lastT (th : List Bool) : Nat → Option Nat
  | 0 => none
  | j + 1 => if th[j]? = some true ∧ (j % 4 = 0 ∨ j % 4 = 3) then some j else lastT th j
def prvA (th : List Bool) (ad : List Nat) (j : Nat) : Option Nat := (prevT th j).bind fun k => ad[k]?

theorem prevT_lt {th : List Bool} : ∀ {j k : Nat}, prevT th j = some k → k < j ∧ th[k]? = some true
  | 0, k, h => by cases h
  | j + 1, k, h => by
    unfold prevT at h
    split at h
    · rename_i ht; cases h; exact ⟨Nat.lt_succ_self _, ht⟩
    · have := prevT_lt h; exact ⟨by omega, this.2⟩

theorem prevT_ext {th th' : List Bool} : ∀ {j : Nat}, (∀ k, k < j → th[k]? = th'[k]?) → prevT th j = prevT th' j
  | 0, _ => rfl
  | j + 1, h => by
    unfold prevT
    rw [h j (Nat.lt_succ_self _), prevT_ext fun k hk => h k (by omega)]

theorem prevT_set (th : List Bool) (d : Nat) : ∀ j, prevT (th.set d false) j = if prevT th j = some d then prevT th d else prevT th j
  | 0 => by unfold prevT; simp
  | j + 1 => by
    by_cases hj : j = d
    · subst hj
      have e1 : prevT (th.set j false) (j + 1) = prevT (th.set j false) j := by
        show (if (th.set j false)[j]? = some true then _ else _) = _
        rw [if_neg]
        rw [List.getElem?_set]
        simp
      have e2 : prevT (th.set j false) j = prevT th j := prevT_ext fun k hk => by rw [List.getElem?_set_ne (by omega)]
      rw [e1, e2]
      show _ = if (if th[j]? = some true then some j else prevT th j) = some j then _ else (if th[j]? = some true then some j else prevT th j)
      by_cases h2 : th[j]? = some true
      · rw [if_pos h2, if_pos rfl]
      · rw [if_neg h2, ite_self]
    · show (if (th.set d false)[j]? = some true then some j else prevT (th.set d false) j) = if (if th[j]? = some true then some j else prevT th j) = some d then _ else (if th[j]? = some true then some j else prevT th j)
      rw [List.getElem?_set_ne (fun e => hj e.symm), prevT_set th d j]
      by_cases h1 : th[j]? = some true
      · rw [if_pos h1, if_pos h1, if_neg (fun e => hj (Option.some.inj e))]
      · rw [if_neg h1, if_neg h1]

theorem lastT_succ (th : List Bool) (j : Nat) : lastT th (j + 1) = if th[j]? = some true ∧ (j % 4 = 0 ∨ j % 4 = 3) then some j else lastT th j := rfl
theorem prevT_succ (th : List Bool) (j : Nat) : prevT th (j + 1) = if th[j]? = some true then some j else prevT th j := rfl
theorem lastT_prev {th : List Bool} : ∀ {i k : Nat}, prevT th i = some k → lastT th i = if k % 4 = 0 ∨ k % 4 = 3 then some k else lastT th k
  | 0, k, h => by cases h
  | j + 1, k, h => by
    rw [prevT_succ] at h
    rw [lastT_succ]
    by_cases ht : th[j]? = some true
    · rw [if_pos ht] at h
      cases h
      by_cases hc : j % 4 = 0 ∨ j % 4 = 3
      · rw [if_pos ⟨ht, hc⟩, if_pos hc]
      · rw [if_neg (fun e => hc e.2), if_neg hc]
    · rw [if_neg ht] at h
      rw [if_neg (fun e => ht e.1)]
      exact lastT_prev h

theorem lastT_none {th : List Bool} : ∀ {i : Nat}, prevT th i = none → lastT th i = none
  | 0, _ => rfl
  | j + 1, h => by
    unfold prevT at h
    unfold lastT
    split at h
    · cases h
    · rename_i ht
      rw [if_neg (fun e => ht e.1)]
      exact lastT_none h

def plN : Option Nat → Value
  | none => .agg #[iv (-1), iv (-1)]
  | some k => .agg #[iv ((k % 4 : Nat) : Int), iv ((k / 4 : Nat) : Int)]

structure Line (S : Bs) (ad : List Nat) (th : List Bool) : Prop where
  wf : WF S
  len : th.length = ad.length
  op : ∀ e : Int, 0 ≤ e → e < 4 → isOpen S.tb e = true
  A : ∀ c ∈ S.cs, ∃ j : Nat, th[j]? = some true ∧ ad[j]? = some c.a ∧ c.env = j % 4 ∧ c.slot = j / 4 ∧ c.cap = cp0 ∧ c.par = prvA th ad j
  B : ∀ j : Nat, th[j]? = some true → ∃ c ∈ S.cs, ad[j]? = some c.a ∧ c.env = j % 4 ∧ c.slot = j / 4 ∧ c.cap = cp0 ∧ c.par = prvA th ad j

theorem divmod {i j : Nat} (h1 : i % 4 = j % 4) (h2 : i / 4 = j / 4) : i = j := by omega

section
variable {S : Bs} {ad : List Nat} {th : List Bool}

theorem Line.at (hl : Line S ad th) {c : Ce} (hc : c ∈ S.cs) {d : Nat} (h1 : c.env = d % 4) (h2 : c.slot = d / 4) : th[d]? = some true ∧ ad[d]? = some c.a ∧ c.cap = cp0 ∧ c.par = prvA th ad d := by
  obtain ⟨j, a1, a2, a3, a4, a5, a6⟩ := hl.A c hc
  have : j = d := divmod (by omega) (by omega)
  subst this
  exact ⟨a1, a2, a5, a6⟩

theorem Line.inj (hl : Line S ad th) {i j : Nat} (hi : th[i]? = some true) (hj : th[j]? = some true) (h : ad[i]? = ad[j]?) : i = j := by
  obtain ⟨c, hc, a1, a2, a3, _⟩ := hl.B i hi
  obtain ⟨d, hd, b1, b2, b3, _⟩ := hl.B j hj
  rw [a1, b1] at h
  have := one_a hl.wf.nda hc hd (Option.some.inj h)
  subst this
  exact divmod (by omega) (by omega)

theorem Line.start {S : Bs} (hb : Beg S cp0) : ∃ a, Line S [a] [true] := by
  obtain ⟨a, hcs⟩ := hb.cs
  refine ⟨a, hb.wf, rfl, fun e h1 h2 => (hb.op e).2 ⟨h1, h2⟩, fun c hc => ?_, fun j hj => ?_⟩
  · rw [hcs] at hc
    have := List.mem_singleton.1 hc
    subst this
    exact ⟨0, rfl, rfl, rfl, rfl, rfl, rfl⟩
  · cases j with
    | zero => exact ⟨_, by rw [hcs]; exact List.mem_singleton.2 rfl, rfl, rfl, rfl, rfl, rfl⟩
    | succ j => cases hj

theorem prv_grow {th : List Bool} {ad : List Nat} (hlen : th.length = ad.length) (a : Nat) {j : Nat} (hj : j ≤ ad.length) : prvA (th ++ [true]) (ad ++ [a]) j = prvA th ad j := by
  have e : prevT (th ++ [true]) j = prevT th j := prevT_ext fun k hk => by rw [List.getElem?_append_left (by omega)]
  unfold prvA
  rw [e]
  cases h : prevT th j with
  | none => rfl
  | some k =>
    have := (prevT_lt h).1
    show (ad ++ [a])[k]? = ad[k]?
    rw [List.getElem?_append_left (by omega)]

theorem Line.grow {i : Nat} (hl : Line S ad (List.replicate i true)) (hi : 1 ≤ i) {p : Ce} (hp : p ∈ S.cs) (h1 : p.env = (i - 1) % 4) (h2 : p.slot = (i - 1) / 4) {a : Nat}
    (hw : WF (add S ⟨a, i % 4, i / 4, { p.cap with rights := 15 }, some p.a, []⟩)) : Line (add S ⟨a, i % 4, i / 4, { p.cap with rights := 15 }, some p.a, []⟩) (ad ++ [a]) (List.replicate (i + 1) true) := by
  obtain ⟨_, p2, p3, p4⟩ := hl.at hp h1 h2
  have hlen := hl.len
  have hla : ad.length = i := by rw [← hlen, List.length_replicate]
  rw [List.replicate_succ']
  have hnew : prvA (List.replicate i true ++ [true]) (ad ++ [a]) i = some p.a := by
    rw [prv_grow hlen a (by omega)]
    unfold prvA
    have : prevT (List.replicate i true) i = some (i - 1) := by
      obtain ⟨m, rfl⟩ : ∃ m, i = m + 1 := ⟨i - 1, by omega⟩
      show (if (List.replicate (m + 1) true)[m]? = some true then _ else _) = _
      rw [if_pos (by rw [List.getElem?_replicate, if_pos (Nat.lt_succ_self _)])]; rfl
    rw [this]; exact p2
  refine ⟨hw, by simp [hlen], fun e g1 g2 => by unfold add; dsimp only; rw [setTab_open]; exact hl.op e g1 g2, fun c hc => ?_, fun j hj => ?_⟩
  · rcases mem_addC.1 hc with ⟨q, hq, rfl⟩ | rfl
    · obtain ⟨j, a1, a2, a3, a4, a5, a6⟩ := hl.A q hq
      have hjl := (List.getElem?_eq_some_iff.1 a2).1
      refine ⟨j, by rw [List.getElem?_append_left (by rw [hlen]; exact hjl)]; exact a1, by rw [fA_a, List.getElem?_append_left hjl]; exact a2, by rw [fA_env]; exact a3, by rw [fA_slot]; exact a4, by rw [fA_cap]; exact a5, ?_⟩
      rw [fA_par, prv_grow hlen a (by omega)]; exact a6
    · refine ⟨i, by rw [List.getElem?_append_right (by simp)]; simp, by rw [List.getElem?_append_right (by omega)]; simp [hla], rfl, rfl, ?_, hnew.symm⟩
      rw [p3]; rfl
  · by_cases hji : j < i
    · rw [List.getElem?_append_left (by simpa using hji)] at hj
      obtain ⟨c, hc, b1, b2, b3, b4, b5⟩ := hl.B j hj
      refine ⟨_, mem_addC.2 (.inl ⟨c, hc, rfl⟩), by rw [fA_a, List.getElem?_append_left (by omega)]; exact b1, by rw [fA_env]; exact b2, by rw [fA_slot]; exact b3, by rw [fA_cap]; exact b4, ?_⟩
      rw [fA_par, prv_grow hlen a (by omega)]; exact b5
    · have hje : j = i := by
        have := (List.getElem?_eq_some_iff.1 hj).1
        rw [List.length_append, List.length_replicate, List.length_singleton] at this
        omega
      subst hje
      refine ⟨_, mem_addC.2 (.inr rfl), by rw [List.getElem?_append_right (by omega)]; simp [hla], rfl, rfl, ?_, hnew.symm⟩
      rw [p3]; rfl

theorem Line.drop (hl : Line S ad th) {d : Nat} {c : Ce} (hc : c ∈ S.cs) (h1 : c.env = d % 4) (h2 : c.slot = d / 4) : Line (rm S c) ad (th.set d false) := by
  obtain ⟨c1, c2, c3, c4⟩ := hl.at hc h1 h2
  have key : ∀ (j : Nat) (k : Ce), k ∈ S.cs → k.par = prvA th ad j → (fR c k).par = prvA (th.set d false) ad j := fun j k hk hp => by
    show (if k.par = some c.a then c.par else k.par) = _
    unfold prvA
    rw [prevT_set]
    cases hpj : prevT th j with
    | none =>
      have : k.par = none := by rw [hp]; unfold prvA; rw [hpj]; rfl
      rw [this, if_neg (by simp), if_neg (by simp)]; rfl
    | some m =>
      have hm := prevT_lt hpj
      have hkp : k.par = ad[m]? := by rw [hp]; unfold prvA; rw [hpj]; rfl
      by_cases hmd : m = d
      · subst hmd
        rw [if_pos (by rw [hkp, c2]), if_pos rfl, c4]; rfl
      · rw [if_neg (fun e => hmd (hl.inj hm.2 c1 (by rw [← hkp, e, c2]))), if_neg (fun e => hmd (Option.some.inj e)), hkp]; rfl
  refine ⟨hl.wf.rm hc, by rw [List.length_set]; exact hl.len, fun e g1 g2 => by unfold rm; dsimp only; rw [setTab_open]; exact hl.op e g1 g2, fun k hk => ?_, fun j hj => ?_⟩
  · obtain ⟨k, hk9, hne, rfl⟩ := mem_rmC.1 hk
    obtain ⟨j, a1, a2, a3, a4, a5, a6⟩ := hl.A k hk9
    have hjd : d ≠ j := fun e => by
      subst e
      rw [c2] at a2
      exact hne (Option.some.inj a2).symm
    exact ⟨j, by rw [List.getElem?_set_ne hjd]; exact a1, a2, a3, a4, a5, key j k hk9 a6⟩
  · have hjd : d ≠ j := fun e => by
      subst e
      rw [List.getElem?_set] at hj
      simp at hj
    rw [List.getElem?_set_ne hjd] at hj
    obtain ⟨k, hk, b1, b2, b3, b4, b5⟩ := hl.B j hj
    have hne : k.a ≠ c.a := fun e => by
      have := one_a hl.wf.nda hk hc e
      subst this
      exact hjd (divmod (by omega) (by omega))
    exact ⟨_, mem_rmC.2 ⟨k, hk, hne, rfl⟩, b1, b2, b3, b4, key j k hk b5⟩

theorem Line.up (hl : Line S ad th) {x : Option Nat} {r : Option Ce} (hu : UpTo S.cs [3, 0] x r) : ∀ i, x = prvA th ad i → placeV r = plN (lastT th i) := by
  induction hu with
  | none =>
    intro i hx
    cases hp : prevT th i with
    | none => rw [lastT_none hp]; rfl
    | some k =>
      obtain ⟨c, _, a1, _⟩ := hl.B k (prevT_lt hp).2
      unfold prvA at hx
      rw [hp] at hx
      replace hx : none = ad[k]? := hx
      rw [a1] at hx; cases hx
  | hit hp hin =>
    rename_i p
    intro i hx
    cases hpi : prevT th i with
    | none => unfold prvA at hx; rw [hpi] at hx; cases hx
    | some k =>
      unfold prvA at hx
      rw [hpi] at hx
      obtain ⟨c, hc, a1, a2, a3, _⟩ := hl.B k (prevT_lt hpi).2
      replace hx : some p.a = ad[k]? := hx
      rw [a1] at hx
      have := one_a hl.wf.nda hp hc (Option.some.inj hx)
      subst this
      have h4 : k % 4 = 0 ∨ k % 4 = 3 := by simp at hin; omega
      rw [lastT_prev hpi, if_pos h4]
      show Value.agg #[iv p.env, iv p.slot] = Value.agg #[iv _, iv _]
      rw [a2, a3]
  | miss hp hin _ ih =>
    rename_i p r _
    intro i hx
    cases hpi : prevT th i with
    | none => unfold prvA at hx; rw [hpi] at hx; cases hx
    | some k =>
      unfold prvA at hx
      rw [hpi] at hx
      obtain ⟨c, hc, a1, a2, a3, _, a5⟩ := hl.B k (prevT_lt hpi).2
      replace hx : some p.a = ad[k]? := hx
      rw [a1] at hx
      have := one_a hl.wf.nda hp hc (Option.some.inj hx)
      subst this
      have h4 : ¬ (k % 4 = 0 ∨ k % 4 = 3) := by simp at hin; omega
      rw [lastT_prev hpi, if_neg h4]
      exact ih k a5

/-- Where the next one of the line is laid. -/
theorem Line.derive {i : Nat} (hl : Line S ad (List.replicate i true)) (hi : 1 ≤ i) (hi2 : i < 40) : mDerive S (((i - 1) % 4 : Nat) : Int) (((i - 1) / 4 : Nat) : Int) ((i % 4 : Nat) : Int) (-1) 15 = .inr (i / 4) := by
  have hw := hl.wf
  obtain ⟨c, hc, a1, a2, a3, a4, a5⟩ := hl.B (i - 1) (by rw [List.getElem?_replicate, if_pos (by omega)])
  obtain ⟨n0, t0, l0, e0, g0, ht0⟩ := got_open (hl.op (((i - 1) % 4 : Nat) : Int) (by omega) (by omega))
  obtain ⟨n1, t1, l1, e1, g1, ht1⟩ := got_open (hl.op ((i % 4 : Nat) : Int) (by omega) (by omega))
  have hn1 : n1 = i % 4 := by omega
  subst hn1
  have hlk := mLook_of hw hc
  rw [a2, a3] at hlk
  have hlow : low l1 = some (i / 4) := by
    refine low_is (hw.free ht1 (by omega) fun x hx h => ?_) fun s hs h => ?_
    · obtain ⟨j, b1, b2, b3, b4, _⟩ := hl.A x hx
      have hj := (List.getElem?_eq_some_iff.1 b1).1
      rw [List.length_replicate] at hj
      have := divmod (i := i) (j := j) (by omega) (by omega)
      omega
    · have hlt : 4 * s + i % 4 < i := by omega
      obtain ⟨x, hx, b1, b2, b3, _⟩ := hl.B (4 * s + i % 4) (by rw [List.getElem?_replicate, if_pos hlt])
      have := hw.taken ht1 hx (by omega)
      rw [show x.slot = s by omega, h] at this
      cases this
  unfold mDerive
  rw [g0, g1]
  dsimp only
  rw [hlk]
  dsimp only
  rw [find_a hw hc]
  dsimp only
  rw [a4, if_pos ⟨by decide, by decide, by decide⟩, if_pos ⟨by decide, by decide⟩]
  unfold mPlace
  rw [if_neg (by decide), hlow]
end
end Go.Proofs.YthpkgkoojhgedaaDoor.V
