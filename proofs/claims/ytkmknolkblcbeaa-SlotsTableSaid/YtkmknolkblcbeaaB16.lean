/- Knots: a tie of the program beside the reference's. -/
import Derived.Test.YtkmknolkblcbeaaB15
namespace Go.Proofs.Ytkmknolkblcbeaa.V
set_option linter.unusedVariables false
open Go

structure Kn where
  t : Bool
  p : Nat
  r : Nat

def knv (k : Kn) : List Value := match k.t with
  | true => [.bool true, .pointer none, ptr k.p, ptr k.r]
  | false => [.bool false, ptr k.p, .pointer none, ptr k.r]

def BkP (k : Kn) (l : List (Int × Int)) : As := match k.t with
  | true => BjP ce iv k.p l
  | false => BjP iv ce k.p l

def KnP (k : Kn) (l : List (Int × Int)) : As := Has [BkP k l, RefP k.r l]

def opR (kind : Int) (l : List (Int × Int)) (a b : Int) : List (Int × Int) := if kind = 1 then (tieR l a b).2 else (cutR l a).2

theorem missing22 {h : Hp} {Q : Value → Hp → Prop} (k : Kn) (hq : Q (.bool false) h) : Ok PR 22 [.agg (knv k).toArray] h Q := by
  obtain ⟨t, p, r⟩ := k
  refine e22 rfl ?_
  cases t
  · conv => whnf
    exact hq
  · conv => whnf
    exact hq

theorem ties24 (k : Kn) {l : List (Int × Int)} (hl : l.length < 2 ^ 42) (hu : Uq l) (kd t a b : Int) : Sp PR 24 [.agg (knv k).toArray, .agg #[iv kd, iv t, iv a, iv b]] (KnP k l) (X := Unit) (fun _ => .bool true) (fun _ => KnP k (opR kd l a b)) := by
  intro h hh
  obtain ⟨tn, p, r⟩ := k
  refine e24 rfl ?_
  cases tn
  · conv => whnf
    refine cond_beq (fun hc => ?_) (fun hc => ?_)
    · conv => whnf
      refine hh.call 1 rfl (tie77 hl hu a b) fun _ h1 hh1 => ?_
      conv => whnf
      refine ⟨_, _, SubH.refl _, SubB.refl _, ?_⟩
      conv => whnf
      refine cell28 b ?_
      conv => whnf
      refine ⟨⟨SubH.refl _, SubB.refl _⟩, ?_⟩
      conv => whnf
      refine hh1.call 0 rfl (tie27S a b) fun _ h2 hh2 => ?_
      conv => whnf
      rw [beq_self_eq_true]
      conv => whnf
      refine ⟨(), rfl, ?_⟩
      unfold KnP opR
      rw [if_pos hc]
      exact hh2
    · conv => whnf
      refine hh.call 1 rfl (cut79 hl hu a) fun _ h1 hh1 => ?_
      conv => whnf
      refine hh1.call 0 rfl (cut29S a) fun _ h2 hh2 => ?_
      conv => whnf
      rw [beq_self_eq_true]
      conv => whnf
      refine ⟨(), rfl, ?_⟩
      unfold KnP opR
      rw [if_neg hc]
      exact hh2
  · conv => whnf
    refine cond_beq (fun hc => ?_) (fun hc => ?_)
    · conv => whnf
      refine hh.call 1 rfl (tie77 hl hu a b) fun _ h1 hh1 => ?_
      conv => whnf
      refine ⟨_, _, SubH.refl _, SubB.refl _, ?_⟩
      conv => whnf
      refine cell28 a ?_
      conv => whnf
      refine ⟨⟨SubH.refl _, SubB.refl _⟩, ?_⟩
      conv => whnf
      refine hh1.call 0 rfl (tie78S a b) fun _ h2 hh2 => ?_
      conv => whnf
      rw [beq_self_eq_true]
      conv => whnf
      refine ⟨(), rfl, ?_⟩
      unfold KnP opR
      rw [if_pos hc]
      exact hh2
    · conv => whnf
      refine hh.call 1 rfl (cut79 hl hu a) fun _ h1 hh1 => ?_
      conv => whnf
      refine ⟨_, _, SubH.refl _, SubB.refl _, ?_⟩
      conv => whnf
      refine cell28 a ?_
      conv => whnf
      refine ⟨⟨SubH.refl _, SubB.refl _⟩, ?_⟩
      conv => whnf
      refine hh1.call 0 rfl (cut80S a) fun _ h2 hh2 => ?_
      conv => whnf
      rw [beq_self_eq_true]
      conv => whnf
      refine ⟨(), rfl, ?_⟩
      unfold KnP opR
      rw [if_neg hc]
      exact hh2

theorem one82 {h : Hp} {Q : Value → Hp → Prop} (o : Option Int) (hq : Q (.bool true) h) : Ok PR 82 [(o.map iv).getD (iv 0), .bool o.isSome, iv (o.getD 0), .bool o.isSome] h Q := by
  refine e82 rfl ?_
  cases o with
  | none =>
    conv => whnf
    exact hq
  | some a =>
    conv => whnf
    rw [show (a == (some a).getD 0) = true from by simp]
    conv => whnf
    exact hq

theorem two83 {h : Hp} {Q : Value → Hp → Prop} (o : Option Int) (hq : Q (.bool true) h) : Ok PR 83 [(o.map ce).getD ze, .bool o.isSome, iv (o.getD 0), .bool o.isSome] h Q := by
  refine e83 rfl ?_
  cases o with
  | none =>
    conv => whnf
    refine ⟨_, _, SubH.refl _, SubB.refl _, ?_⟩
    conv => whnf
    refine ⟨⟨SubH.refl _, SubB.refl _⟩, ?_⟩
    conv => whnf
    exact hq
  | some a =>
    conv => whnf
    refine ⟨_, _, SubH.refl _, SubB.refl _, ?_⟩
    conv => whnf
    refine cell28 a ?_
    conv => whnf
    refine ⟨⟨SubH.refl _, SubB.refl _⟩, ?_⟩
    conv => whnf
    rw [ce_self a]
    conv => whnf
    exact hq

theorem looks25 (k : Kn) {l : List (Int × Int)} (hl : l.length < 2 ^ 42) (hu : Uq l) (kd t a b : Int) : Sp PR 25 [.agg (knv k).toArray, .agg #[iv kd, iv t, iv a, iv b]] (KnP k l) (X := Unit) (fun _ => .bool true) (fun _ => KnP k l) := by
  intro h hh
  obtain ⟨tn, p, r⟩ := k
  refine e25 rfl ?_
  cases tn
  · conv => whnf
    refine cond_beq (fun hc => ?_) (fun hc => ?_)
    · conv => whnf
      refine hh.call 1 rfl (to81 (by omega) hu.k a) fun _ h1 hh1 => ?_
      conv => whnf
      refine hh1.call 0 rfl (to34S a) fun _ h2 hh2 => ?_
      generalize aget l a = o at *
      cases o with
      | none =>
        conv => whnf
        refine two83 none ?_
        conv => whnf
        exact ⟨(), rfl, hh2⟩
      | some x =>
        conv => whnf
        refine two83 (some x) ?_
        conv => whnf
        exact ⟨(), rfl, hh2⟩
    · conv => whnf
      refine cond_beq (fun hc => ?_) (fun hc => ?_)
      · conv => whnf
        refine hh.call 1 rfl (back84 (by omega) hu b) fun _ h1 hh1 => ?_
        conv => whnf
        refine ⟨_, _, SubH.refl _, SubB.refl _, ?_⟩
        conv => whnf
        refine cell28 b ?_
        conv => whnf
        refine ⟨⟨SubH.refl _, SubB.refl _⟩, ?_⟩
        conv => whnf
        refine hh1.call 0 rfl (back85S b) fun _ h2 hh2 => ?_
        generalize aget (swp l) b = o at *
        cases o with
        | none =>
          conv => whnf
          refine one82 none ?_
          conv => whnf
          exact ⟨(), rfl, hh2⟩
        | some x =>
          conv => whnf
          refine one82 (some x) ?_
          conv => whnf
          exact ⟨(), rfl, hh2⟩
      · conv => whnf
        obtain ⟨g, hg, hgs⟩ := hh.at 1 rfl
        obtain ⟨base, cap, ty, hc1, _⟩ := RefP.get hg
        have hcg := hgs _ _ hc1
        refine ⟨h, _, SubH.refl _, SubB.refl _, ?_⟩
        conv => whnf
        repeat (first | (refine opt_if ⟨by omega, by omega⟩ ?_; conv => whnf) | (refine opt_ld (by assumption) (by first | rfl | assumption) ?_; conv => whnf))
        obtain ⟨g0, hg0, hgs0⟩ := hh.at 0 rfl
        refine len32Q (BjP.sub hg0 hgs0) ?_
        conv => whnf
        refine ⟨⟨SubH.refl _, SubB.refl _⟩, ?_⟩
        conv => whnf
        rw [show ((l.length : Int) == (l.length : Int)) = true from by simp]
        conv => whnf
        exact ⟨(), rfl, hh⟩
  · conv => whnf
    refine cond_beq (fun hc => ?_) (fun hc => ?_)
    · conv => whnf
      refine hh.call 1 rfl (to81 (by omega) hu.k a) fun _ h1 hh1 => ?_
      conv => whnf
      refine ⟨_, _, SubH.refl _, SubB.refl _, ?_⟩
      conv => whnf
      refine cell28 a ?_
      conv => whnf
      refine ⟨⟨SubH.refl _, SubB.refl _⟩, ?_⟩
      conv => whnf
      refine hh1.call 0 rfl (to35S a) fun _ h2 hh2 => ?_
      generalize aget l a = o at *
      cases o with
      | none =>
        conv => whnf
        refine one82 none ?_
        conv => whnf
        exact ⟨(), rfl, hh2⟩
      | some x =>
        conv => whnf
        refine one82 (some x) ?_
        conv => whnf
        exact ⟨(), rfl, hh2⟩
    · conv => whnf
      refine cond_beq (fun hc => ?_) (fun hc => ?_)
      · conv => whnf
        refine hh.call 1 rfl (back84 (by omega) hu b) fun _ h1 hh1 => ?_
        conv => whnf
        refine hh1.call 0 rfl (back36S b) fun _ h2 hh2 => ?_
        generalize aget (swp l) b = o at *
        cases o with
        | none =>
          conv => whnf
          refine two83 none ?_
          conv => whnf
          exact ⟨(), rfl, hh2⟩
        | some x =>
          conv => whnf
          refine two83 (some x) ?_
          conv => whnf
          exact ⟨(), rfl, hh2⟩
      · conv => whnf
        obtain ⟨g, hg, hgs⟩ := hh.at 1 rfl
        obtain ⟨base, cap, ty, hc1, _⟩ := RefP.get hg
        have hcg := hgs _ _ hc1
        refine ⟨h, _, SubH.refl _, SubB.refl _, ?_⟩
        conv => whnf
        repeat (first | (refine opt_if ⟨by omega, by omega⟩ ?_; conv => whnf) | (refine opt_ld (by assumption) (by first | rfl | assumption) ?_; conv => whnf))
        obtain ⟨g0, hg0, hgs0⟩ := hh.at 0 rfl
        refine len31Q (BjP.sub hg0 hgs0) ?_
        conv => whnf
        refine ⟨⟨SubH.refl _, SubB.refl _⟩, ?_⟩
        conv => whnf
        rw [show ((l.length : Int) == (l.length : Int)) = true from by simp]
        conv => whnf
        exact ⟨(), rfl, hh⟩


theorem turn26 (k : Kn) {l : List (Int × Int)} (hl : l.length < 2 ^ 42) : Sp PR 26 [.agg (knv k).toArray] (KnP k l) (X := Kn) (fun k' => .agg (knv k').toArray) (fun k' => Has [KnP k l, KnP k' (swp l)]) := by
  intro h hh
  obtain ⟨tn, p, r⟩ := k
  refine e26 rfl ?_
  have fin : ∀ (A B A' B' : As) (h' : Hp), Has [Has [A, A'], Has [B, B']] h' → Has [Has [A, B], Has [A', B']] h' := fun A B A' B' h' hx => by
    have h1 : Has [A, A', Has [B, B']] h' := hx.flat
    have h2 : Has [Has [B, B'], A, A'] h' := h1.perm (by
      exact ((List.Perm.swap (Has [B, B']) A' []).cons A).trans (List.Perm.swap _ _ _))
    have h3 : Has [B, B', A, A'] h' := h2.flat
    have h4 : Has [A, B, A', B'] h' := h3.perm (by
      refine ((List.Perm.swap A B' [A']).cons B).trans ?_
      refine (List.Perm.swap A B [B', A']).trans ?_
      exact ((List.Perm.swap A' B' []).cons B).cons A)
    have h5 : Has [Has [A, B], A', B'] h' := Has.group (L1 := [A, B]) (L2 := [A', B']) h4
    have h6 : Has [A', B', Has [A, B]] h' := h5.perm (by
      exact (List.Perm.swap A' (Has [A, B]) [B']).trans ((List.Perm.swap B' _ []).cons A'))
    exact (Has.group (L1 := [A', B']) (L2 := [Has [A, B]]) h6).swap
  cases tn
  · conv => whnf
    refine ⟨fun _ => none, _, (fun _ _ h => by cases h), SubB.refl _, ?_⟩
    conv => whnf
    refine hh.call 0 rfl turn30S fun q h1 hh1 => ?_
    conv => whnf
    refine ⟨⟨(fun _ _ h => by cases h), SubB.refl _⟩, ?_⟩
    conv => whnf
    refine hh1.call 1 rfl (turn86 hl) fun q2 h2 hh2 => ?_
    conv => whnf
    exact ⟨⟨true, q, q2⟩, rfl, fin _ _ _ _ _ hh2⟩
  · conv => whnf
    refine ⟨fun _ => none, _, (fun _ _ h => by cases h), SubB.refl _, ?_⟩
    conv => whnf
    refine hh.call 0 rfl turn33S fun q h1 hh1 => ?_
    conv => whnf
    refine ⟨⟨(fun _ _ h => by cases h), SubB.refl _⟩, ?_⟩
    conv => whnf
    refine hh1.call 1 rfl (turn86 hl) fun q2 h2 hh2 => ?_
    conv => whnf
    exact ⟨⟨false, q, q2⟩, rfl, fin _ _ _ _ _ hh2⟩

end Go.Proofs.Ytkmknolkblcbeaa.V
