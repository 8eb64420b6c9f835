/- Seat 08: the cells of capabilities in plain Lean: what is laid, taken, derived; what always holds of them. -/
import Derived.Test.YthpkgkoojhgedaaDoorK3
namespace Go.Proofs.YthpkgkoojhgedaaDoor.V
set_option linter.unusedVariables false
set_option linter.unusedSimpArgs false
set_option linter.unusedSectionVars false
set_option linter.unusedSectionVars false
open Go

structure Cp where
  kind : Int
  obj : Int
  serial : Int
  rights : Int
  deriving DecidableEq

/-- A capability where it lies: its block, place, capability, parent's block, children's blocks. -/
structure Ce where
  a : Nat
  env : Nat
  slot : Nat
  cap : Cp
  par : Option Nat
  kids : List Nat

abbrev Tb := List (Option (Nat × List (Option Nat)))
structure Bs where
  tb : Tb
  cs : List Ce

theorem ext_cl {c d : Ce} (h1 : c.a = d.a) (h2 : c.env = d.env) (h3 : c.slot = d.slot) (h4 : c.cap = d.cap) (h5 : c.par = d.par) (h6 : c.kids = d.kids) : c = d := by
  cases c; cases d; simp_all

/-- Rights among rights. -/
def subR (x y : Int) : Bool := (List.range 4).all fun i => !x.toNat.testBit i || y.toNat.testBit i
def grantR (x : Int) : Bool := x.toNat.testBit 2

theorem subR_trans {x y z : Int} (h1 : subR x y = true) (h2 : subR y z = true) : subR x z = true := by
  unfold subR at *
  rw [List.all_eq_true] at *
  intro i hi
  have a := h1 i hi
  have b := h2 i hi
  revert a b
  cases x.toNat.testBit i <;> cases y.toNat.testBit i <;> cases z.toNat.testBit i <;> simp

theorem subR_refl (x : Int) : subR x x = true := by
  unfold subR
  rw [List.all_eq_true]
  intro i hi
  cases x.toNat.testBit i <;> rfl

def setTab (tb : Tb) (e s : Nat) (v : Option Nat) : Tb := match tb[e]? with
  | some (some (t, l)) => tb.set e (some (t, l.set s v))
  | _ => tb

/-- What a good capability is. -/
def okC (c : Cp) : Prop := (1 ≤ c.kind ∧ c.kind ≤ 3) ∧ (0 ≤ c.obj ∧ c.obj ≤ 4611686018427387903) ∧ (1 ≤ c.serial ∧ c.serial ≤ 4611686018427387903) ∧ (0 ≤ c.rights ∧ c.rights ≤ 15)

/-- What always holds. -/
structure WF (S : Bs) : Prop where
  len : S.tb.length = 16
  tl : ∀ {e t : Nat} {l : List (Option Nat)}, S.tb[e]? = some (some (t, l)) → l.length = 48
  t1 : ∀ {e t : Nat} {l : List (Option Nat)} {s a : Nat}, S.tb[e]? = some (some (t, l)) → l[s]? = some (some a) → ∃ c ∈ S.cs, c.a = a ∧ c.env = e ∧ c.slot = s
  t2 : ∀ c ∈ S.cs, ∃ t l, S.tb[c.env]? = some (some (t, l)) ∧ l[c.slot]? = some (some c.a)
  nda : (S.cs.map (·.a)).Nodup
  k1 : ∀ c ∈ S.cs, ∀ k ∈ c.kids, ∃ d ∈ S.cs, d.a = k ∧ d.par = some c.a
  k2 : ∀ d ∈ S.cs, ∀ p, d.par = some p → ∃ c ∈ S.cs, c.a = p ∧ d.a ∈ c.kids
  ndk : ∀ c ∈ S.cs, c.kids.Nodup
  ord : ∃ rk : Nat → Nat, ∀ c ∈ S.cs, ∀ p, c.par = some p → rk p < rk c.a
  okc : ∀ c ∈ S.cs, okC c.cap
  up : ∀ c ∈ S.cs, ∀ d ∈ S.cs, c.par = some d.a → c.cap.kind = d.cap.kind ∧ c.cap.obj = d.cap.obj ∧ c.cap.serial = d.cap.serial ∧ grantR d.cap.rights = true ∧ subR c.cap.rights d.cap.rights = true

theorem one_a {C : List Ce} (hn : (C.map (·.a)).Nodup) {c d : Ce} (hc : c ∈ C) (hd : d ∈ C) (h : c.a = d.a) : c = d := by
  induction C with
  | nil => cases hc
  | cons x C ih =>
    rw [List.map_cons, List.nodup_cons] at hn
    rcases List.mem_cons.1 hc with hc | hc
    · rcases List.mem_cons.1 hd with hd | hd
      · rw [hc, hd]
      · exact absurd (List.mem_map.2 ⟨d, hd, by rw [← h, hc]⟩) hn.1
    · rcases List.mem_cons.1 hd with hd | hd
      · exact absurd (List.mem_map.2 ⟨c, hc, by rw [h, hd]⟩) hn.1
      · exact ih hn.2 hc hd

theorem setTab_len (tb : Tb) (e s : Nat) (v : Option Nat) : (setTab tb e s v).length = tb.length := by
  unfold setTab; split
  · rw [List.length_set]
  · rfl

theorem setTab_at {tb : Tb} {e : Nat} {t : Nat} {l : List (Option Nat)} (h : tb[e]? = some (some (t, l))) (s : Nat) (v : Option Nat) : setTab tb e s v = tb.set e (some (t, l.set s v)) := by
  unfold setTab; rw [h]

theorem setTab_get {tb : Tb} {e : Nat} {t : Nat} {l : List (Option Nat)} (h : tb[e]? = some (some (t, l))) (s : Nat) (v : Option Nat) (e' : Nat) :
    (setTab tb e s v)[e']? = if e = e' then some (some (t, l.set s v)) else tb[e']? := by
  rw [setTab_at h, List.getElem?_set]
  split
  · rename_i he; subst he
    rw [if_pos (List.getElem?_eq_some_iff.1 h).1]
  · rfl

/-! ### Taking one away -/

/-- What becomes of another cell when c goes. -/
def fR (c k : Ce) : Ce := { k with par := if k.par = some c.a then c.par else k.par, kids := if some k.a = c.par then k.kids.filter (fun x => decide (x ≠ c.a)) ++ c.kids else k.kids }
def rmC (C : List Ce) (c : Ce) : List Ce := (C.filter fun k => decide (k.a ≠ c.a)).map (fR c)
def rm (S : Bs) (c : Ce) : Bs := ⟨setTab S.tb c.env c.slot none, rmC S.cs c⟩

theorem mem_rmC {C : List Ce} {c k : Ce} : k ∈ rmC C c ↔ ∃ d ∈ C, d.a ≠ c.a ∧ k = fR c d := by
  unfold rmC
  rw [List.mem_map]
  constructor
  · rintro ⟨d, hd, rfl⟩
    rw [List.mem_filter, decide_eq_true_eq] at hd
    exact ⟨d, hd.1, hd.2, rfl⟩
  · rintro ⟨d, h1, h2, rfl⟩
    exact ⟨d, List.mem_filter.2 ⟨h1, decide_eq_true h2⟩, rfl⟩

section
variable {S : Bs}

theorem WF.noself (hw : WF S) {c : Ce} (hc : c ∈ S.cs) : c.par ≠ some c.a := fun h => by
  obtain ⟨rk, hr⟩ := hw.ord
  have := hr c hc _ h
  omega

theorem WF.rm (hw : WF S) {c : Ce} (hc : c ∈ S.cs) : WF (rm S c) := by
  obtain ⟨t, l, ht, hl⟩ := hw.t2 c hc
  have hns := hw.noself hc
  have hone := fun {x y : Ce} (hx : x ∈ S.cs) (hy : y ∈ S.cs) (h : x.a = y.a) => one_a hw.nda hx hy h
  refine ⟨by rw [← hw.len]; exact setTab_len .., fun {e t' l'} h => ?_, fun {e t' l' s a} h h2 => ?_, fun k hk => ?_, ?_, fun p hp k hk => ?_, fun d hd p hp => ?_, fun k hk => ?_, ?_, fun k hk => ?_, fun x hx y hy hxy => ?_⟩
  · replace h : (setTab S.tb c.env c.slot none)[e]? = _ := h
    rw [setTab_get ht] at h
    split at h
    · cases h; rw [List.length_set]; exact hw.tl ht
    · exact hw.tl h
  · replace h : (setTab S.tb c.env c.slot none)[e]? = _ := h
    rw [setTab_get ht] at h
    have key : ∃ k ∈ S.cs, k.a = a ∧ k.env = e ∧ k.slot = s ∧ k.a ≠ c.a := by
      split at h
      · rename_i he; subst he
        cases h
        have hs : s ≠ c.slot := fun e => by
          subst e
          rw [List.getElem?_set_self (List.getElem?_eq_some_iff.1 hl).1] at h2
          cases h2
        rw [List.getElem?_set_ne (Ne.symm hs)] at h2
        obtain ⟨k, hk, e1, e2, e3⟩ := hw.t1 ht h2
        exact ⟨k, hk, e1, e2, e3, fun e => by rw [hone hk hc e] at e3; exact hs e3.symm⟩
      · rename_i he
        obtain ⟨k, hk, e1, e2, e3⟩ := hw.t1 h h2
        exact ⟨k, hk, e1, e2, e3, fun e => by rw [hone hk hc e] at e2; exact he e2⟩
    obtain ⟨k, hk, e1, e2, e3, e4⟩ := key
    exact ⟨fR c k, mem_rmC.2 ⟨k, hk, e4, rfl⟩, e1, e2, e3⟩
  · obtain ⟨d, hd9, hne, rfl⟩ := mem_rmC.1 hk
    have hd := hd9
    obtain ⟨t', l', h1, h2⟩ := hw.t2 d hd
    show ∃ t l, (setTab S.tb c.env c.slot none)[d.env]? = some (some (t, l)) ∧ l[d.slot]? = some (some d.a)
    rw [setTab_get ht]
    by_cases he : c.env = d.env
    · rw [if_pos he]
      rw [← he, ht] at h1
      cases h1
      refine ⟨_, _, rfl, ?_⟩
      have hs : c.slot ≠ d.slot := fun e => by
        rw [← e, hl] at h2
        exact hne (Option.some.inj (Option.some.inj h2)).symm
      rw [List.getElem?_set_ne hs]
      exact h2
    · rw [if_neg he]; exact ⟨_, _, h1, h2⟩
  · show ((rmC S.cs c).map (·.a)).Nodup
    unfold rmC
    rw [List.map_map]
    exact hw.nda.sublist (List.filter_sublist.map _)
  · obtain ⟨p, hp9, hne, rfl⟩ := mem_rmC.1 hp
    have hp := hp9
    replace hk : k ∈ (if some p.a = c.par then p.kids.filter (fun x => decide (x ≠ c.a)) ++ c.kids else p.kids) := hk
    show ∃ d ∈ rmC S.cs c, d.a = k ∧ d.par = some p.a
    have old : k ∈ p.kids → k ≠ c.a → ∃ d ∈ rmC S.cs c, d.a = k ∧ d.par = some p.a := fun hk hkc => by
      obtain ⟨d, hd, e1, e2⟩ := hw.k1 p hp k hk
      refine ⟨fR c d, mem_rmC.2 ⟨d, hd, by rw [e1]; exact hkc, rfl⟩, e1, ?_⟩
      show (if d.par = some c.a then c.par else d.par) = _
      rw [if_neg (by rw [e2]; exact fun e => hne (Option.some.inj e)), e2]
    split at hk
    · rename_i hpc
      rcases List.mem_append.1 hk with hk | hk
      · rw [List.mem_filter, decide_eq_true_eq] at hk
        exact old hk.1 hk.2
      · obtain ⟨d, hd, e1, e2⟩ := hw.k1 c hc k hk
        refine ⟨fR c d, mem_rmC.2 ⟨d, hd, fun e => ?_, rfl⟩, e1, ?_⟩
        · rw [hone hd hc e] at e2; exact hns e2
        · show (if d.par = some c.a then c.par else d.par) = _
          rw [if_pos e2, hpc]
    · rename_i hpc
      refine old hk fun e => ?_
      obtain ⟨d, hd, e1, e2⟩ := hw.k1 p hp k hk
      rw [hone hd hc (e1.trans e)] at e2
      exact hpc e2.symm
  · obtain ⟨d, hd9, hne, rfl⟩ := mem_rmC.1 hd
    have hd := hd9
    replace hp : (if d.par = some c.a then c.par else d.par) = some p := hp
    show ∃ x ∈ rmC S.cs c, x.a = p ∧ d.a ∈ x.kids
    split at hp
    · rename_i hdc
      obtain ⟨x, hx, e1, e2⟩ := hw.k2 c hc p hp
      refine ⟨fR c x, mem_rmC.2 ⟨x, hx, fun e => ?_, rfl⟩, e1, ?_⟩
      · rw [← e, e1] at hns; exact hns hp
      · show _ ∈ (if some x.a = c.par then x.kids.filter (fun x => decide (x ≠ c.a)) ++ c.kids else x.kids)
        rw [if_pos (by rw [e1, hp])]
        refine List.mem_append_right _ ?_
        obtain ⟨y, hy, f1, f2⟩ := hw.k2 d hd _ hdc
        rwa [hone hy hc f1] at f2
    · rename_i hdc
      obtain ⟨x, hx, e1, e2⟩ := hw.k2 d hd p hp
      refine ⟨fR c x, mem_rmC.2 ⟨x, hx, fun e => hdc (by rw [hp, ← e1, e]), rfl⟩, e1, ?_⟩
      show _ ∈ (if some x.a = c.par then x.kids.filter (fun x => decide (x ≠ c.a)) ++ c.kids else x.kids)
      split
      · exact List.mem_append_left _ (List.mem_filter.2 ⟨e2, decide_eq_true hne⟩)
      · exact e2
  · obtain ⟨k, hk9, hne, rfl⟩ := mem_rmC.1 hk
    have hk := hk9
    show (if some k.a = c.par then k.kids.filter (fun x => decide (x ≠ c.a)) ++ c.kids else k.kids).Nodup
    split
    · rename_i hkc
      refine List.nodup_append.2 ⟨(hw.ndk k hk).sublist List.filter_sublist, hw.ndk c hc, fun x hx y hy hxy => ?_⟩
      subst hxy
      obtain ⟨d, hd, e1, e2⟩ := hw.k1 k hk x (List.mem_filter.1 hx).1
      obtain ⟨d', hd', f1, f2⟩ := hw.k1 c hc x hy
      rw [hone hd hd' (e1.trans f1.symm), f2] at e2
      exact hne (Option.some.inj e2).symm
    · exact hw.ndk k hk
  · obtain ⟨rk, hr⟩ := hw.ord
    refine ⟨rk, fun k hk p hp => ?_⟩
    obtain ⟨k, hk9, hne, rfl⟩ := mem_rmC.1 hk
    have hk := hk9
    replace hp : (if k.par = some c.a then c.par else k.par) = some p := hp
    show rk p < rk k.a
    split at hp
    · rename_i hkc
      have h1 := hr k hk _ hkc
      have h2 := hr c hc _ hp
      omega
    · exact hr k hk _ hp
  · obtain ⟨k, hk9, hne, rfl⟩ := mem_rmC.1 hk
    have hk := hk9
    exact hw.okc k hk
  · obtain ⟨x, hx9, hxn, rfl⟩ := mem_rmC.1 hx
    have hx := hx9
    obtain ⟨y, hy9, hyn, rfl⟩ := mem_rmC.1 hy
    have hy := hy9
    replace hxy : (if x.par = some c.a then c.par else x.par) = some y.a := hxy
    show x.cap.kind = y.cap.kind ∧ x.cap.obj = y.cap.obj ∧ x.cap.serial = y.cap.serial ∧ grantR y.cap.rights = true ∧ subR x.cap.rights y.cap.rights = true
    split at hxy
    · rename_i hxc
      obtain ⟨a1, a2, a3, a4, a5⟩ := hw.up x hx c hc hxc
      obtain ⟨b1, b2, b3, b4, b5⟩ := hw.up c hc y hy hxy
      exact ⟨a1.trans b1, a2.trans b2, a3.trans b3, b4, subR_trans a5 b5⟩
    · exact hw.up x hx y hy hxy

/-! ### Laying one -/

/-- A new cell at a place, under a parent. -/
def addC (C : List Ce) (n : Ce) : List Ce := (C.map fun p => if n.par = some p.a then { p with kids := p.kids ++ [n.a] } else p) ++ [n]
def add (S : Bs) (n : Ce) : Bs := ⟨setTab S.tb n.env n.slot (some n.a), addC S.cs n⟩

def fA (n p : Ce) : Ce := if n.par = some p.a then { p with kids := p.kids ++ [n.a] } else p
theorem fA_a (n p : Ce) : (fA n p).a = p.a := by unfold fA; split <;> rfl
theorem fA_env (n p : Ce) : (fA n p).env = p.env := by unfold fA; split <;> rfl
theorem fA_slot (n p : Ce) : (fA n p).slot = p.slot := by unfold fA; split <;> rfl
theorem fA_cap (n p : Ce) : (fA n p).cap = p.cap := by unfold fA; split <;> rfl
theorem fA_par (n p : Ce) : (fA n p).par = p.par := by unfold fA; split <;> rfl

theorem mem_addC {C : List Ce} {n k : Ce} : k ∈ addC C n ↔ (∃ p ∈ C, k = fA n p) ∨ k = n := by
  unfold addC
  rw [List.mem_append, List.mem_map, List.mem_singleton]
  constructor
  · rintro (⟨p, hp, rfl⟩ | h)
    · exact .inl ⟨p, hp, rfl⟩
    · exact .inr h
  · rintro (⟨p, hp, rfl⟩ | h)
    · exact .inl ⟨p, hp, rfl⟩
    · exact .inr h

theorem WF.add (hw : WF S) {n : Ce} {t : Nat} {l : List (Option Nat)} (ht : S.tb[n.env]? = some (some (t, l))) (hl : l[n.slot]? = some none) (hf : ∀ c ∈ S.cs, c.a ≠ n.a) (hk : n.kids = []) (hok : okC n.cap)
    (hp : ∀ p, n.par = some p → ∃ c ∈ S.cs, c.a = p ∧ n.cap.kind = c.cap.kind ∧ n.cap.obj = c.cap.obj ∧ n.cap.serial = c.cap.serial ∧ grantR c.cap.rights = true ∧ subR n.cap.rights c.cap.rights = true) : WF (add S n) := by
  have hone := fun {x y : Ce} (hx : x ∈ S.cs) (hy : y ∈ S.cs) (h : x.a = y.a) => one_a hw.nda hx hy h
  have hpar : ∀ d ∈ S.cs, d.par ≠ some n.a := fun d hd e => by
    obtain ⟨c, hc, e1, _⟩ := hw.k2 d hd _ e
    exact hf c hc e1
  have hself : n.par ≠ some n.a := fun e => by
    obtain ⟨c, hc, e1, _⟩ := hp _ e
    exact hf c hc e1
  refine ⟨by rw [← hw.len]; exact setTab_len .., fun {e t' l'} h => ?_, fun {e t' l' s a} h h2 => ?_, fun k hk' => ?_, ?_, fun p hp' k hk' => ?_, fun d hd p hp' => ?_, fun k hk' => ?_, ?_, fun k hk' => ?_, fun x hx y hy hxy => ?_⟩
  · replace h : (setTab S.tb n.env n.slot (some n.a))[e]? = _ := h
    rw [setTab_get ht] at h
    split at h
    · cases h; rw [List.length_set]; exact hw.tl ht
    · exact hw.tl h
  · replace h : (setTab S.tb n.env n.slot (some n.a))[e]? = _ := h
    rw [setTab_get ht] at h
    have old : ∀ {l0 t0}, S.tb[e]? = some (some (t0, l0)) → l0[s]? = some (some a) → ∃ c ∈ addC S.cs n, c.a = a ∧ c.env = e ∧ c.slot = s := fun h1 h2 => by
      obtain ⟨k, hk, e1, e2, e3⟩ := hw.t1 h1 h2
      exact ⟨fA n k, mem_addC.2 (.inl ⟨k, hk, rfl⟩), (fA_a ..).trans e1, (fA_env ..).trans e2, (fA_slot ..).trans e3⟩
    split at h
    · rename_i he; subst he
      cases h
      by_cases hs : n.slot = s
      · subst hs
        rw [List.getElem?_set_self (List.getElem?_eq_some_iff.1 hl).1] at h2
        cases h2
        exact ⟨n, mem_addC.2 (.inr rfl), rfl, rfl, rfl⟩
      · rw [List.getElem?_set_ne hs] at h2
        exact old ht h2
    · exact old h h2
  · show ∃ t l, (setTab S.tb n.env n.slot (some n.a))[k.env]? = some (some (t, l)) ∧ l[k.slot]? = some (some k.a)
    rw [setTab_get ht]
    rcases mem_addC.1 hk' with ⟨d, hd9, rfl⟩ | rfl
    · have hd := hd9
      rw [fA_env, fA_slot, fA_a]
      obtain ⟨t', l', h1, h2⟩ := hw.t2 d hd
      by_cases he : n.env = d.env
      · rw [if_pos he]
        rw [← he, ht] at h1
        cases h1
        refine ⟨_, _, rfl, ?_⟩
        rw [List.getElem?_set_ne fun e => by rw [← e, hl] at h2; cases h2]
        exact h2
      · rw [if_neg he]; exact ⟨_, _, h1, h2⟩
    · rw [if_pos rfl]
      exact ⟨_, _, rfl, List.getElem?_set_self (List.getElem?_eq_some_iff.1 hl).1⟩
  · show ((addC S.cs n).map (·.a)).Nodup
    unfold addC
    rw [List.map_append, List.map_map]
    have e : S.cs.map ((fun x : Ce => x.a) ∘ fun p => if n.par = some p.a then { p with kids := p.kids ++ [n.a] } else p) = S.cs.map (·.a) := List.map_congr_left fun p _ => fA_a n p
    rw [e]
    refine List.nodup_append.2 ⟨hw.nda, by simp, fun x hx y hy hxy => ?_⟩
    subst hxy
    obtain ⟨c, hc, rfl⟩ := List.mem_map.1 hx
    exact hf c hc (List.mem_singleton.1 hy)
  · show ∃ d ∈ addC S.cs n, d.a = k ∧ d.par = some p.a
    rcases mem_addC.1 hp' with ⟨q, hq9, rfl⟩ | rfl
    · have hq := hq9
      rw [fA_a]
      by_cases hnq : n.par = some q.a
      · have : (fA n q).kids = q.kids ++ [n.a] := by unfold fA; rw [if_pos hnq]
        rw [this] at hk'
        rcases List.mem_append.1 hk' with hk' | hk'
        · obtain ⟨d, hd, e1, e2⟩ := hw.k1 q hq k hk'
          exact ⟨fA n d, mem_addC.2 (.inl ⟨d, hd, rfl⟩), (fA_a ..).trans e1, (fA_par ..).trans e2⟩
        · exact ⟨n, mem_addC.2 (.inr rfl), (List.mem_singleton.1 hk').symm, hnq⟩
      · have : (fA n q).kids = q.kids := by unfold fA; rw [if_neg hnq]
        rw [this] at hk'
        obtain ⟨d, hd, e1, e2⟩ := hw.k1 q hq k hk'
        exact ⟨fA n d, mem_addC.2 (.inl ⟨d, hd, rfl⟩), (fA_a ..).trans e1, (fA_par ..).trans e2⟩
    · rw [hk] at hk'; cases hk'
  · show ∃ c ∈ addC S.cs n, c.a = p ∧ d.a ∈ c.kids
    rcases mem_addC.1 hd with ⟨q, hq9, rfl⟩ | rfl
    · have hq := hq9
      rw [fA_par] at hp'
      rw [fA_a]
      obtain ⟨c, hc, e1, e2⟩ := hw.k2 q hq p hp'
      refine ⟨fA n c, mem_addC.2 (.inl ⟨c, hc, rfl⟩), (fA_a ..).trans e1, ?_⟩
      unfold fA
      split
      · exact List.mem_append_left _ e2
      · exact e2
    · obtain ⟨c, hc, e1, _⟩ := hp p hp'
      refine ⟨fA d c, mem_addC.2 (.inl ⟨c, hc, rfl⟩), (fA_a ..).trans e1, ?_⟩
      unfold fA
      rw [if_pos (by rw [hp', e1])]
      exact List.mem_append_right _ (List.mem_singleton.2 rfl)
  · rcases mem_addC.1 hk' with ⟨q, hq9, rfl⟩ | rfl
    · have hq := hq9
      unfold fA
      split
      · refine List.nodup_append.2 ⟨hw.ndk q hq, by simp, fun x hx y hy hxy => ?_⟩
        subst hxy
        obtain ⟨d, hd, e1, _⟩ := hw.k1 q hq x hx
        exact hf d hd (e1.trans (List.mem_singleton.1 hy))
      · exact hw.ndk q hq
    · rw [hk]; exact List.nodup_nil
  · obtain ⟨rk, hr⟩ := hw.ord
    refine ⟨fun x => if x = n.a then (match n.par with | some p => rk p + 1 | none => 0) else rk x, fun k hk' p hp' => ?_⟩
    rcases mem_addC.1 hk' with ⟨q, hq9, rfl⟩ | rfl
    · have hq := hq9
      rw [fA_par] at hp'
      rw [fA_a]
      have h1 := hr q hq p hp'
      dsimp only
      rw [if_neg (fun e => hpar q hq (by rw [hp', e])), if_neg (hf q hq)]
      exact h1
    · dsimp only
      rw [if_neg (fun e => hself (by rw [hp', e])), if_pos rfl, hp']
      exact Nat.lt_succ_self _
  · rcases mem_addC.1 hk' with ⟨q, hq9, rfl⟩ | rfl
    · have hq := hq9
      rw [fA_cap]; exact hw.okc q hq
    · exact hok
  · rcases mem_addC.1 hx with ⟨x, hx9, rfl⟩ | rfl
    · have hx := hx9
      rw [fA_par] at hxy
      rcases mem_addC.1 hy with ⟨y, hy9, rfl⟩ | rfl
      · have hy := hy9
        rw [fA_a] at hxy
        rw [fA_cap, fA_cap]
        exact hw.up x hx y hy hxy
      · exact absurd hxy (hpar x hx9)
    · rcases mem_addC.1 hy with ⟨y, hy9, rfl⟩ | rfl
      · have hy := hy9
        rw [fA_a] at hxy
        rw [fA_cap]
        obtain ⟨c, hc, e1, e2⟩ := hp _ hxy
        rwa [hone hc hy e1] at e2
      · exact absurd hxy hself

/-- A list that is opened. -/
def opn (S : Bs) (e t : Nat) : Bs := ⟨S.tb.set e (some (t, List.replicate 48 none)), S.cs⟩

theorem WF.opn (hw : WF S) {e : Nat} (t : Nat) (he : S.tb[e]? = some none) : WF (opn S e t) := by
  have hlt := (List.getElem?_eq_some_iff.1 he).1
  have get : ∀ e', (S.tb.set e (some (t, List.replicate 48 none)))[e']? = if e = e' then some (some (t, List.replicate 48 none)) else S.tb[e']? := fun e' => by
    rw [List.getElem?_set]
    split
    · rename_i he; subst he; simp [hlt]
    · rfl
  refine ⟨by show (S.tb.set _ _).length = _; rw [List.length_set]; exact hw.len, fun {e' t' l'} h => ?_, fun {e' t' l' s a} h h2 => ?_, fun c hc => ?_, hw.nda, hw.k1, hw.k2, hw.ndk, hw.ord, hw.okc, hw.up⟩
  · replace h : (S.tb.set _ _)[e']? = _ := h
    rw [get] at h
    split at h
    · cases h; simp
    · exact hw.tl h
  · replace h : (S.tb.set _ _)[e']? = _ := h
    rw [get] at h
    split at h
    · cases h
      rw [List.getElem?_replicate] at h2
      split at h2 <;> cases h2
    · exact hw.t1 h h2
  · obtain ⟨t', l', h1, h2⟩ := hw.t2 c hc
    refine ⟨t', l', ?_, h2⟩
    show (S.tb.set _ _)[c.env]? = _
    rw [get, if_neg (fun e => by rw [← e, he] at h1; cases h1)]
    exact h1

def st0 : Bs := ⟨List.replicate 16 none, []⟩
theorem wf0 : WF st0 := by
  refine ⟨rfl, fun {e t l} h => ?_, fun {e t l s a} h => ?_, fun c hc => (by cases hc), List.nodup_nil, fun c hc => (by cases hc), fun c hc => (by cases hc), fun c hc => (by cases hc), ⟨fun _ => 0, fun c hc => (by cases hc)⟩, fun c hc => (by cases hc), fun c hc => (by cases hc)⟩ <;>
  · have h : (List.replicate 16 none)[e]? = _ := h
    rw [List.getElem?_replicate] at h
    split at h <;> cases h

end
end Go.Proofs.YthpkgkoojhgedaaDoor.V
