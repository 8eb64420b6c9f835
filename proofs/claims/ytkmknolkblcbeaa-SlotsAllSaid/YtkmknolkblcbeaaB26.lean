/- The reference's table: two rows. -/
import Derived.Test.YtkmknolkblcbeaaC10
import Derived.Test.YtkmknolkblcbeaaB18
import Derived.Test.YtkmknolkblcbeaaB1
namespace Go.Proofs.Ytkmknolkblcbeaa.V
set_option linter.unusedVariables false
set_option linter.unusedSimpArgs false
set_option linter.unusedSectionVars false
open Go

theorem SubB.new {β : Bx} {r : Nat} {cs : List Value} (h : lookB β r = none) : SubB β ((r, cs) :: β) := fun s ds hs => by
  simp only [lookB]
  split
  · rename_i e; subst e; rw [h] at hs; cases hs
  · exact hs

def bV (x : Option Int) : Value := .bool x.isSome
def iV (x : Option Int) : Value := iv (x.getD 0)

theorem map_get {α : Type} {l : List α} {g : α → Value} {k : Nat} {x : α} (h : l[k]? = some x) : (l.map g).toArray[0 + (k : Int).toNat * 1]? = some (g x) := by
  simp [h]

theorem wr_map {α : Type} (l : List α) (g : α → Value) (k : Nat) (x : α) : wr (l.map g).toArray (0 + (k : Int).toNat * 1) [g x] = ((l.set k x).map g).toArray := by
  simp [wr, List.map_set]

structure RtAt (h : Hp) (p dH dV : Nat) (l : Tb) : Prop where
  cell : ∃ ty, h p = some (.cells #[.slice (some ⟨dH, 0, none⟩) l.length l.length, .slice (some ⟨dV, 0, none⟩) l.length l.length] ty (0, 0))
  has : ∃ ty, h dH = some (.cells (l.map bV).toArray ty (0, 0))
  val : ∃ ty, h dV = some (.cells (l.map iV).toArray ty (0, 0))
  n1 : p ≠ dH
  n2 : p ≠ dV
  n3 : dH ≠ dV
  bound : l.length ≤ 4096

def RtP (p : Nat) (l : Tb) : As := fun h => ∃ dH dV, RtAt h p dH dV l

theorem RtAt.sub {h h' : Hp} {p dH dV : Nat} {l : Tb} (hR : RtAt h p dH dV l) (hs : SubH h h') : RtAt h' p dH dV l := by
  obtain ⟨⟨a, b⟩, ⟨c, d⟩, ⟨e, f⟩, g1, g2, g3, g4⟩ := hR
  exact ⟨⟨a, hs _ _ b⟩, ⟨c, hs _ _ d⟩, ⟨e, hs _ _ f⟩, g1, g2, g3, g4⟩

theorem RtP.sub {h h' : Hp} {p : Nat} {l : Tb} (hR : RtP p l h) (hs : SubH h h') : RtP p l h' := let ⟨a, b, c⟩ := hR; ⟨a, b, c.sub hs⟩

section
variable {h : Hp} {Q : Value → Hp → Prop} {p dH dV : Nat} {l : Tb}

/-- A place turned: first whether it is taken, then what lies there. -/
theorem RtAt.turn {k : Nat} {x : Option Int} (hR : RtAt h p dH dV l) {ty1 ty2 : TypeId} (h1 : h dH = some (.cells (l.map bV).toArray ty1 (0, 0))) (h2 : h dV = some (.cells (l.map iV).toArray ty2 (0, 0))) :
    RtAt (upd (upd h dH (.cells ((l.set k x).map bV).toArray ty1 (0, 0))) dV (.cells ((l.set k x).map iV).toArray ty2 (0, 0))) p dH dV (l.set k x) := by
  obtain ⟨ty, hc⟩ := hR.cell
  refine ⟨⟨ty, ?_⟩, ⟨ty1, ?_⟩, ⟨ty2, upd_same _ _ _⟩, hR.n1, hR.n2, hR.n3, by rw [List.length_set]; exact hR.bound⟩
  · rw [upd_other hR.n2, upd_other hR.n1, List.length_set]; exact hc
  · rw [upd_other hR.n3, upd_same]

theorem bound110 (n : Int) (hq : Q (iv (min (max n 0) 4096)) h) : Ok PR 110 [iv n] h Q := by
  refine e110 rfl ?_
  conv => whnf
  refine cond_dec (fun h0 => ?_) (fun h0 => ?_)
  · rw [show min (max n 0) 4096 = 0 by omega] at hq
    conv => whnf
    exact hq
  · conv => whnf
    refine cond_dec (fun h1 => ?_) (fun h1 => ?_)
    · rw [show min (max n 0) 4096 = 4096 by omega] at hq
      conv => whnf
      exact hq
    · rw [show min (max n 0) 4096 = n by omega] at hq
      conv => whnf
      exact hq

theorem reps_map (n : Nat) (g : Option Int → Value) : reps n [g none] = (List.replicate n (none : Option Int)).map g := by
  induction n with
  | zero => rfl
  | succ n ih => simp only [reps, ih, List.replicate_succ, List.map_cons]; rfl

theorem new91S (a : Int) : Sp PR 91 [iv a] (fun _ => True) (X := Nat) (fun p => ptr p) (fun p => RtP p (List.replicate (min (max a 0) 4096).toNat none)) := by
  intro h _
  refine e91 rfl ?_
  conv => whnf
  refine bound110 a ?_
  generalize hB : (min (max a 0) 4096).toNat = B
  have hBn : (min (max a 0) 4096) = B := by omega
  rw [hBn]
  conv => whnf
  have fin : ∀ (q dH dV : Nat) (g : Hp), g q = some (.cells #[.slice (some ⟨dH, 0, none⟩) B B, .slice (some ⟨dV, 0, none⟩) B B] 138 (0, 0)) → g dH = some (.cells (reps B [.bool false]).toArray 4 (0, 0)) → g dV = some (.cells (reps B [.int .i64 0]).toArray 3 (0, 0)) → q ≠ dH → q ≠ dV → dH ≠ dV → RtP q (List.replicate B none) g := by
    intro q dH dV g e1 e2 e3 n1 n2 n3
    refine ⟨dH, dV, ⟨138, by rw [e1]; simp⟩, ⟨4, ?_⟩, ⟨3, ?_⟩, n1, n2, n3, by simp; omega⟩
    · rw [e2, ← reps_map B bV]; rfl
    · rw [e3, ← reps_map B iV]; rfl
  refine ⟨?_, ?_⟩
  · conv => whnf
    refine ⟨by omega, by omega, by omega, by omega, ?_⟩
    refine fresh_sub fun d1 h1 hd1 hn1 hs1 => ?_
    conv => whnf
    refine ⟨by omega, by omega, by omega, by omega, ?_⟩
    refine fresh_sub fun d2 h2 hd2 hn2 hs2 => ?_
    conv => whnf
    refine fresh_sub fun q h3 hq hn3 hs3 => ?_
    conv => whnf
    exact ⟨q, rfl, fin q d1 d2 h3 hq (hs3 _ _ (hs2 _ _ hd1)) (hs3 _ _ hd2) (fun e => by subst e; rw [hs2 _ _ hd1] at hn3; cases hn3) (fun e => by subst e; rw [hd2] at hn3; cases hn3) (fun e => by subst e; rw [hd1] at hn2; cases hn2)⟩
  · conv => whnf
    refine ⟨by omega, by omega, by omega, by omega, ?_⟩
    refine fresh_sub fun d1 h1 hd1 hn1 hs1 => ?_
    conv => whnf
    refine ⟨by omega, by omega, by omega, by omega, ?_⟩
    refine fresh_sub fun d2 h2 hd2 hn2 hs2 => ?_
    conv => whnf
    refine fresh_sub fun q h3 hq hn3 hs3 => ?_
    conv => whnf
    exact ⟨q, rfl, fin q d2 d1 h3 hq (hs3 _ _ hd2) (hs3 _ _ (hs2 _ _ hd1)) (fun e => by subst e; rw [hd2] at hn3; cases hn3) (fun e => by subst e; rw [hs2 _ _ hd1] at hn3; cases hn3) (fun e => by subst e; rw [hd1] at hn2; cases hn2)⟩

theorem is111 (hR : RtP p l h) (i : Int) (hq : Q (.bool (got l i).isSome) h) : Ok PR 111 [ptr p, iv i] h Q := by
  obtain ⟨dH, dV, hR⟩ := hR
  obtain ⟨ty, hc⟩ := hR.cell
  obtain ⟨ty1, h1⟩ := hR.has
  have hbd := hR.bound
  refine e111 rfl ?_
  by_cases h0 : 0 ≤ i
  · obtain ⟨k, rfl⟩ := Int.eq_ofNat_of_zero_le h0
    conv => whnf
    repeat (first | (refine opt_if ⟨by omega, by omega⟩ ?_; conv => whnf) | (refine opt_ld (by assumption) (by first | rfl | assumption) ?_; conv => whnf))
    by_cases hkl : k < l.length
    · have hk : l[k]? = some l[k] := List.getElem?_eq_getElem hkl
      rw [got_nat, hk] at hq
      rw [show decide ((k : Int) < (l.length : Int)) = true from decide_eq_true (by omega)]
      conv => whnf
      repeat (first | (refine opt_if ⟨by omega, by omega⟩ ?_; conv => whnf) | (refine opt_ld (by assumption) (by first | rfl | assumption) ?_; conv => whnf))
      refine opt_ld h1 (map_get hk) ?_
      cases hx : l[k] with
      | none =>
        rw [hx] at hq
        conv => whnf
        exact hq
      | some w =>
        rw [hx] at hq
        conv => whnf
        exact hq
    · rw [got_big (by omega)] at hq
      rw [show decide ((k : Int) < (l.length : Int)) = false from decide_eq_false (by omega)]
      conv => whnf
      exact hq
  · conv => whnf
    rw [show decide (i ≥ 0) = false from decide_eq_false h0]
    rw [got_neg (by omega)] at hq
    conv => whnf
    exact hq

theorem get97Q (hR : RtP p l h) (i : Int) (hq : Q (.tuple #[iv ((got l i).getD 0), .bool (got l i).isSome]) h) : Ok PR 97 [ptr p, iv i] h Q := by
  refine e97 rfl ?_
  conv => whnf
  refine is111 hR i ?_
  obtain ⟨dH, dV, hR⟩ := hR
  obtain ⟨ty, hc⟩ := hR.cell
  obtain ⟨ty2, h2⟩ := hR.val
  cases hg : got l i with
  | none =>
    rw [hg] at hq
    conv => whnf
    exact hq
  | some w =>
    obtain ⟨k, rfl, hkl, hk⟩ := got_some hg
    rw [hg] at hq
    conv => whnf
    repeat (first | (refine opt_if ⟨by omega, by omega⟩ ?_; conv => whnf) | (refine opt_ld (by assumption) (by first | rfl | assumption) ?_; conv => whnf))
    refine opt_ld h2 (map_get hk) ?_
    conv => whnf
    exact hq

theorem put92S (v : Int) : Sp PR 92 [ptr p, iv v] (RtP p l) (X := Unit) (fun _ => .tuple #[iv (putR l v).1, iv (putR l v).2.1]) (fun _ => RtP p (putR l v).2.2) := by
  rintro h ⟨dH, dV, hR⟩
  obtain ⟨ty, hc⟩ := hR.cell
  obtain ⟨ty1, h1⟩ := hR.has
  obtain ⟨ty2, h2⟩ := hR.val
  have hbd := hR.bound
  refine e92 rfl ?_
  conv => whnf
  refine loop_intro (σ := Nat) (fun k => [(6, .v (iv k)), (0, .v (ptr p)), (1, .v (iv v))]) (fun _ => []) (fun _ => h) (fun k => k ≤ l.length ∧ ∀ j, j < k → l[j]? ≠ some none) (fun k => l.length - k) 0 ⟨Nat.zero_le _, fun j hj => by omega⟩
    (by repeat (first | exact trivial | refine ⟨rfl, ?_⟩ | refine ⟨int_eq (wrap_nat (by omega)) rfl, ?_⟩)) subB_nil rfl ?_
  intro k hkk
  conv => whnf
  repeat (first | (refine opt_if ⟨by omega, by omega⟩ ?_; conv => whnf) | (refine opt_ld (by assumption) (by first | rfl | assumption) ?_; conv => whnf))
  refine cond_dec (fun hlt => ?_) (fun hge => ?_)
  · have hkl : k < l.length := by omega
    have hk : l[k]? = some l[k] := List.getElem?_eq_getElem hkl
    conv => whnf
    repeat (first | (refine opt_if ⟨by omega, by omega⟩ ?_; conv => whnf) | (refine opt_ld (by assumption) (by first | rfl | assumption) ?_; conv => whnf))
    refine opt_ld h1 (map_get hk) ?_
    cases hx : l[k] with
    | none =>
      rw [hx] at hk
      conv => whnf
      repeat (first | (refine opt_if ⟨by omega, by omega⟩ ?_; conv => whnf) | (refine opt_ld (by assumption) (by first | rfl | assumption) ?_; conv => whnf))
      refine opt_st (x := .bool true) h1 rfl (by simp; omega) (.inl (Nat.zero_le _)) rfl ?_
      rw [show (wr (l.map bV).toArray (0 + (k : Int).toNat * 1) (Value.bool true).cells.toList) = ((l.set k (some v)).map bV).toArray from wr_map l bV k (some v)]
      have hcA : upd h dH (.cells ((l.set k (some v)).map bV).toArray ty1 (0, 0)) p = _ := (upd_other hR.n1).trans hc
      have h2A : upd h dH (.cells ((l.set k (some v)).map bV).toArray ty1 (0, 0)) dV = _ := (upd_other hR.n3.symm).trans h2
      conv => whnf
      repeat (first | (refine opt_if ⟨by omega, by omega⟩ ?_; conv => whnf) | (refine opt_ld (by assumption) (by first | rfl | assumption) ?_; conv => whnf))
      refine opt_st (x := iv v) h2A rfl (by simp; omega) (.inl (Nat.zero_le _)) rfl ?_
      rw [show (wr (l.map iV).toArray (0 + (k : Int).toNat * 1) (iv v).cells.toList) = ((l.set k (some v)).map iV).toArray from wr_map l iV k (some v)]
      have hRn := hR.turn (k := k) (x := (some v)) h1 h2
      conv => whnf
      refine ⟨(), ?_, ?_⟩
      · rw [putR_free hkk.2 hk]; rfl
      · rw [putR_free hkk.2 hk]; exact ⟨dH, dV, hRn⟩
    | some w =>
      rw [hx] at hk
      conv => whnf
      refine ⟨k + 1, ⟨hkl, fun j hj => ?_⟩, by omega, (by repeat (first | exact trivial | refine ⟨rfl, ?_⟩ | refine ⟨int_eq (wrap_nat (by omega)) rfl, ?_⟩)), subB_nil, rfl⟩
      rcases Nat.lt_succ_iff_lt_or_eq.1 hj with hj | rfl
      · exact hkk.2 j hj
      · rw [hk]; simp
  · conv => whnf
    refine ⟨(), ?_, ?_⟩
    · rw [putR_full fun j hj => hkk.2 j (by omega)]; rfl
    · rw [putR_full fun j hj => hkk.2 j (by omega)]; exact ⟨dH, dV, hR⟩

theorem putat93S (i v : Int) : Sp PR 93 [ptr p, iv i, iv v] (RtP p l) (X := Unit) (fun _ => iv (putAtR l i v).1) (fun _ => RtP p (putAtR l i v).2) := by
  rintro h ⟨dH, dV, hR⟩
  obtain ⟨ty, hc⟩ := hR.cell
  obtain ⟨ty1, h1⟩ := hR.has
  obtain ⟨ty2, h2⟩ := hR.val
  have hbd := hR.bound
  refine e93 rfl ?_
  by_cases h0 : 0 ≤ i
  · obtain ⟨k, rfl⟩ := Int.eq_ofNat_of_zero_le h0
    conv => whnf
    repeat (first | (refine opt_if ⟨by omega, by omega⟩ ?_; conv => whnf) | (refine opt_ld (by assumption) (by first | rfl | assumption) ?_; conv => whnf))
    by_cases hkl : k < l.length
    · have hk : l[k]? = some l[k] := List.getElem?_eq_getElem hkl
      rw [show decide ((k : Int) ≥ (l.length : Int)) = false from decide_eq_false (by omega)]
      conv => whnf
      repeat (first | (refine opt_if ⟨by omega, by omega⟩ ?_; conv => whnf) | (refine opt_ld (by assumption) (by first | rfl | assumption) ?_; conv => whnf))
      refine opt_ld h1 (map_get hk) ?_
      cases hx : l[k] with
      | none =>
        rw [hx] at hk
        have hp : putAtR l (k : Int) v = (0, l.set k (some v)) := by simp [putAtR, got_nat, hk]; omega
        conv => whnf
        repeat (first | (refine opt_if ⟨by omega, by omega⟩ ?_; conv => whnf) | (refine opt_ld (by assumption) (by first | rfl | assumption) ?_; conv => whnf))
        refine opt_st (x := .bool true) h1 rfl (by simp; omega) (.inl (Nat.zero_le _)) rfl ?_
        rw [show (wr (l.map bV).toArray (0 + (k : Int).toNat * 1) (Value.bool true).cells.toList) = ((l.set k (some v)).map bV).toArray from wr_map l bV k (some v)]
        have hcA : upd h dH (.cells ((l.set k (some v)).map bV).toArray ty1 (0, 0)) p = _ := (upd_other hR.n1).trans hc
        have h2A : upd h dH (.cells ((l.set k (some v)).map bV).toArray ty1 (0, 0)) dV = _ := (upd_other hR.n3.symm).trans h2
        conv => whnf
        repeat (first | (refine opt_if ⟨by omega, by omega⟩ ?_; conv => whnf) | (refine opt_ld (by assumption) (by first | rfl | assumption) ?_; conv => whnf))
        refine opt_st (x := iv v) h2A rfl (by simp; omega) (.inl (Nat.zero_le _)) rfl ?_
        rw [show (wr (l.map iV).toArray (0 + (k : Int).toNat * 1) (iv v).cells.toList) = ((l.set k (some v)).map iV).toArray from wr_map l iV k (some v)]
        have hRn := hR.turn (k := k) (x := (some v)) h1 h2
        conv => whnf
        exact ⟨(), by rw [hp]; rfl, by rw [hp]; exact ⟨dH, dV, hRn⟩⟩
      | some w =>
        rw [hx] at hk
        have hp : putAtR l (k : Int) v = (31, l) := by simp [putAtR, got_nat, hk]; omega
        conv => whnf
        exact ⟨(), by rw [hp]; rfl, by rw [hp]; exact ⟨dH, dV, hR⟩⟩
    · have hp : putAtR l (k : Int) v = (30, l) := by unfold putAtR; rw [if_pos (by omega)]
      rw [show decide ((k : Int) ≥ (l.length : Int)) = true from decide_eq_true (by omega)]
      conv => whnf
      exact ⟨(), by rw [hp]; rfl, by rw [hp]; exact ⟨dH, dV, hR⟩⟩
  · have hp : putAtR l i v = (30, l) := by unfold putAtR; rw [if_pos (by omega)]
    conv => whnf
    rw [show decide (i < 0) = true from decide_eq_true (by omega)]
    conv => whnf
    exact ⟨(), by rw [hp]; rfl, by rw [hp]; exact ⟨dH, dV, hR⟩⟩

theorem set98S (i v : Int) : Sp PR 98 [ptr p, iv i, iv v] (RtP p l) (X := Unit) (fun _ => .bool (setR l i v).1) (fun _ => RtP p (setR l i v).2) := by
  rintro h ⟨dH, dV, hR⟩
  refine e98 rfl ?_
  conv => whnf
  refine is111 ⟨dH, dV, hR⟩ i ?_
  obtain ⟨ty, hc⟩ := hR.cell
  obtain ⟨ty1, h1⟩ := hR.has
  obtain ⟨ty2, h2⟩ := hR.val
  cases hg : got l i with
  | none =>
    have hp : setR l i v = (false, l) := by simp [setR, hg]
    conv => whnf
    exact ⟨(), by rw [hp]; rfl, by rw [hp]; exact ⟨dH, dV, hR⟩⟩
  | some w =>
    obtain ⟨k, rfl, hkl, hk⟩ := got_some hg
    have hp : setR l (k : Int) v = (true, l.set k (some v)) := by simp [setR, hg]
    conv => whnf
    repeat (first | (refine opt_if ⟨by omega, by omega⟩ ?_; conv => whnf) | (refine opt_ld (by assumption) (by first | rfl | assumption) ?_; conv => whnf))
    refine opt_st (x := iv v) h2 rfl (by simp; omega) (.inl (Nat.zero_le _)) rfl ?_
    rw [show (wr (l.map iV).toArray (0 + (k : Int).toNat * 1) (iv v).cells.toList) = ((l.set k (some v)).map iV).toArray from wr_map l iV k (some v)]
    conv => whnf
    refine ⟨(), by rw [hp]; rfl, ?_⟩
    rw [hp]
    have hb : (l.map bV).toArray = ((l.set k (some v)).map bV).toArray := by
      congr 1
      rw [List.map_set]
      refine (List.ext_getElem? fun j => ?_)
      rw [List.getElem?_set]
      split
      · rename_i e; subst e; simp [hk, bV]; exact hkl
      · rfl
    refine ⟨dH, dV, ⟨ty, ?_⟩, ⟨ty1, ?_⟩, ⟨ty2, upd_same _ _ _⟩, hR.n1, hR.n2, hR.n3, by rw [List.length_set]; exact hR.bound⟩
    · rw [upd_other hR.n2, List.length_set]; exact hc
    · rw [upd_other hR.n3, ← hb]; exact h1

theorem drop94S (i : Int) : Sp PR 94 [ptr p, iv i] (RtP p l) (X := Unit) (fun _ => .tuple #[iv ((dropR l i).1.getD 0), .bool (dropR l i).1.isSome]) (fun _ => RtP p (dropR l i).2) := by
  rintro h ⟨dH, dV, hR⟩
  refine e94 rfl ?_
  conv => whnf
  refine get97Q ⟨dH, dV, hR⟩ i ?_
  obtain ⟨ty, hc⟩ := hR.cell
  obtain ⟨ty1, h1⟩ := hR.has
  obtain ⟨ty2, h2⟩ := hR.val
  have hbd := hR.bound
  cases hg : got l i with
  | none =>
    have hp : dropR l i = (none, l) := by simp [dropR, hg]
    conv => whnf
    exact ⟨(), by rw [hp]; rfl, by rw [hp]; exact ⟨dH, dV, hR⟩⟩
  | some w =>
    obtain ⟨k, rfl, hkl, hk⟩ := got_some hg
    have hp : dropR l (k : Int) = (some w, l.set k none) := by simp [dropR, hg]
    conv => whnf
    repeat (first | (refine opt_if ⟨by omega, by omega⟩ ?_; conv => whnf) | (refine opt_ld (by assumption) (by first | rfl | assumption) ?_; conv => whnf))
    refine opt_st (x := .bool false) h1 rfl (by simp; omega) (.inl (Nat.zero_le _)) rfl ?_
    rw [show (wr (l.map bV).toArray (0 + (k : Int).toNat * 1) (Value.bool false).cells.toList) = ((l.set k none).map bV).toArray from wr_map l bV k none]
    have hcA : upd h dH (.cells ((l.set k none).map bV).toArray ty1 (0, 0)) p = _ := (upd_other hR.n1).trans hc
    have h2A : upd h dH (.cells ((l.set k none).map bV).toArray ty1 (0, 0)) dV = _ := (upd_other hR.n3.symm).trans h2
    conv => whnf
    repeat (first | (refine opt_if ⟨by omega, by omega⟩ ?_; conv => whnf) | (refine opt_ld (by assumption) (by first | rfl | assumption) ?_; conv => whnf))
    refine opt_st (x := iv 0) h2A rfl (by simp; omega) (.inl (Nat.zero_le _)) rfl ?_
    rw [show (wr (l.map iV).toArray (0 + (k : Int).toNat * 1) (iv 0).cells.toList) = ((l.set k none).map iV).toArray from wr_map l iV k none]
    have hRn := hR.turn (k := k) (x := none) h1 h2
    conv => whnf
    exact ⟨(), by rw [hp]; rfl, by rw [hp]; exact ⟨dH, dV, hRn⟩⟩

theorem next96Q (hR : RtP p l h) (i : Int) (hq : Q (iv (nextR l i)) h) : Ok PR 96 [ptr p, iv i] h Q := by
  obtain ⟨dH, dV, hR⟩ := hR
  obtain ⟨ty, hc⟩ := hR.cell
  obtain ⟨ty1, h1⟩ := hR.has
  have hbd := hR.bound
  refine e96 rfl ?_
  by_cases h0 : i < 0
  · obtain ⟨s, hs0⟩ : ∃ s : Nat, s = 0 := ⟨0, rfl⟩
    have hs : ∀ j : Nat, i ≤ j ↔ s ≤ j := fun j => by omega
    conv => whnf
    rw [show decide (i < 0) = true from decide_eq_true h0]
    conv => whnf
    refine loop_intro (σ := Nat) (fun k => [(1, .v (iv k)), (0, .v (ptr p))]) (fun _ => []) (fun _ => h) (fun k => s ≤ k ∧ (∀ j : Nat, s ≤ j → j < k → l[j]? = some none ∨ l.length ≤ j)) (fun k => l.length - k) 0 ⟨by omega, fun j h1 h2 => by omega⟩
      (by repeat (first | exact trivial | refine ⟨rfl, ?_⟩ | refine ⟨int_eq (wrap_nat (by omega)) rfl, ?_⟩)) subB_nil rfl ?_
    intro k hkk
    conv => whnf
    repeat (first | (refine opt_if ⟨by omega, by omega⟩ ?_; conv => whnf) | (refine opt_ld (by assumption) (by first | rfl | assumption) ?_; conv => whnf))
    refine cond_dec (fun hlt => ?_) (fun hge => ?_)
    · have hkl : k < l.length := by omega
      have hk : l[k]? = some l[k] := List.getElem?_eq_getElem hkl
      conv => whnf
      repeat (first | (refine opt_if ⟨by omega, by omega⟩ ?_; conv => whnf) | (refine opt_ld (by assumption) (by first | rfl | assumption) ?_; conv => whnf))
      refine opt_ld h1 (map_get hk) ?_
      cases hx : l[k] with
      | some w =>
        rw [hx] at hk
        conv => whnf
        rw [nextR_some ((hs k).2 hkk.1) (fun j h1 h2 => (hkk.2 j ((hs j).1 h1) h2).resolve_right (by omega)) hk] at hq
        exact hq
      | none =>
        rw [hx] at hk
        conv => whnf
        refine ⟨k + 1, ⟨by omega, fun j h1 h2 => ?_⟩, by omega, (by repeat (first | exact trivial | refine ⟨rfl, ?_⟩ | refine ⟨int_eq (wrap_nat (by omega)) rfl, ?_⟩)), subB_nil, rfl⟩
        by_cases hj : j = k
        · subst hj; exact .inl hk
        · exact hkk.2 j h1 (by omega)
    · conv => whnf
      rw [nextR_none fun j h1 h2 => (hkk.2 j ((hs j).1 h1) (by omega)).resolve_right (by omega)] at hq
      exact hq
  · obtain ⟨s, rfl⟩ := Int.eq_ofNat_of_zero_le (show 0 ≤ i by omega)
    have hs : ∀ j : Nat, (s : Int) ≤ j ↔ s ≤ j := fun j => by omega
    conv => whnf
    refine loop_intro (σ := Nat) (fun k => [(1, .v (iv k)), (0, .v (ptr p))]) (fun _ => []) (fun _ => h) (fun k => s ≤ k ∧ (∀ j : Nat, s ≤ j → j < k → l[j]? = some none ∨ l.length ≤ j)) (fun k => l.length - k) s ⟨Nat.le_refl _, fun j h1 h2 => by omega⟩
      (by repeat (first | exact trivial | refine ⟨rfl, ?_⟩ | refine ⟨int_eq (wrap_nat (by omega)) rfl, ?_⟩)) subB_nil rfl ?_
    intro k hkk
    conv => whnf
    repeat (first | (refine opt_if ⟨by omega, by omega⟩ ?_; conv => whnf) | (refine opt_ld (by assumption) (by first | rfl | assumption) ?_; conv => whnf))
    refine cond_dec (fun hlt => ?_) (fun hge => ?_)
    · have hkl : k < l.length := by omega
      have hk : l[k]? = some l[k] := List.getElem?_eq_getElem hkl
      conv => whnf
      repeat (first | (refine opt_if ⟨by omega, by omega⟩ ?_; conv => whnf) | (refine opt_ld (by assumption) (by first | rfl | assumption) ?_; conv => whnf))
      refine opt_ld h1 (map_get hk) ?_
      cases hx : l[k] with
      | some w =>
        rw [hx] at hk
        conv => whnf
        rw [nextR_some ((hs k).2 hkk.1) (fun j h1 h2 => (hkk.2 j ((hs j).1 h1) h2).resolve_right (by omega)) hk] at hq
        exact hq
      | none =>
        rw [hx] at hk
        conv => whnf
        refine ⟨k + 1, ⟨by omega, fun j h1 h2 => ?_⟩, by omega, (by repeat (first | exact trivial | refine ⟨rfl, ?_⟩ | refine ⟨int_eq (wrap_nat (by omega)) rfl, ?_⟩)), subB_nil, rfl⟩
        by_cases hj : j = k
        · subst hj; exact .inl hk
        · exact hkk.2 j h1 (by omega)
    · conv => whnf
      rw [nextR_none fun j h1 h2 => (hkk.2 j ((hs j).1 h1) (by omega)).resolve_right (by omega)] at hq
      exact hq

theorem len100Q (hR : RtP p l h) (hq : Q (iv (cnt l)) h) : Ok PR 100 [ptr p] h Q := by
  obtain ⟨dH, dV, hR⟩ := hR
  obtain ⟨ty, hc⟩ := hR.cell
  obtain ⟨ty1, h1⟩ := hR.has
  have hbd := hR.bound
  refine e100 rfl ?_
  conv => whnf
  refine loop_intro (σ := Nat) (fun k => [(4, .v (iv k)), (3, .v (iv (cnt (l.take k)))), (0, .v (ptr p))]) (fun _ => []) (fun _ => h) (fun k => k ≤ l.length) (fun k => l.length - k) 0 (Nat.zero_le _)
    (by repeat (first | exact trivial | refine ⟨rfl, ?_⟩ | refine ⟨int_eq (wrap_nat (by omega)) rfl, ?_⟩)) subB_nil rfl ?_
  intro k hkk
  have hcl := cnt_le (l.take k)
  rw [List.length_take] at hcl
  conv => whnf
  repeat (first | (refine opt_if ⟨by omega, by omega⟩ ?_; conv => whnf) | (refine opt_ld (by assumption) (by first | rfl | assumption) ?_; conv => whnf))
  refine cond_dec (fun hlt => ?_) (fun hge => ?_)
  · have hkl : k < l.length := by omega
    have hk : l[k]? = some l[k] := List.getElem?_eq_getElem hkl
    have hnext : cnt (l.take (k + 1)) = cnt (l.take k) + (if l[k].isSome then 1 else 0) := by
      rw [List.take_add_one, hk]
      unfold cnt
      cases l[k] <;> simp [List.filter_append]
    conv => whnf
    repeat (first | (refine opt_if ⟨by omega, by omega⟩ ?_; conv => whnf) | (refine opt_ld (by assumption) (by first | rfl | assumption) ?_; conv => whnf))
    refine opt_ld h1 (map_get hk) ?_
    cases hx : l[k] with
    | some w =>
      rw [hx] at hnext
      conv => whnf
      exact ⟨k + 1, hkl, by omega, ⟨int_eq (wrap_nat (by omega)) rfl, int_eq (by rw [hnext]; exact wrap_nat (by omega)) rfl, rfl, trivial⟩, subB_nil, rfl⟩
    | none =>
      rw [hx] at hnext
      conv => whnf
      exact ⟨k + 1, hkl, by omega, ⟨int_eq (wrap_nat (by omega)) rfl, int_eq (by rw [hnext]; rfl) rfl, rfl, trivial⟩, subB_nil, rfl⟩
  · conv => whnf
    rw [List.take_of_length_le (by omega)]
    exact hq

theorem find105Q (hR : RtP p l h) (v : Int) (hq : Q (iv (findR l v)) h) : Ok PR 105 [ptr p, iv v] h Q := by
  obtain ⟨dH, dV, hR⟩ := hR
  obtain ⟨ty, hc⟩ := hR.cell
  obtain ⟨ty1, h1⟩ := hR.has
  obtain ⟨ty2, h2⟩ := hR.val
  have hbd := hR.bound
  refine e105 rfl ?_
  conv => whnf
  refine loop_intro (σ := Nat) (fun k => [(5, .v (iv k)), (0, .v (ptr p)), (1, .v (iv v))]) (fun _ => []) (fun _ => h) (fun k => k ≤ l.length ∧ ∀ j : Nat, j < k → l[j]? ≠ some (some v)) (fun k => l.length - k) 0 ⟨Nat.zero_le _, fun j hj => by omega⟩
    (by repeat (first | exact trivial | refine ⟨rfl, ?_⟩ | refine ⟨int_eq (wrap_nat (by omega)) rfl, ?_⟩)) subB_nil rfl ?_
  intro k hkk
  conv => whnf
  repeat (first | (refine opt_if ⟨by omega, by omega⟩ ?_; conv => whnf) | (refine opt_ld (by assumption) (by first | rfl | assumption) ?_; conv => whnf))
  refine cond_dec (fun hlt => ?_) (fun hge => ?_)
  · have hkl : k < l.length := by omega
    have hk : l[k]? = some l[k] := List.getElem?_eq_getElem hkl
    have nxt : l[k]? ≠ some (some v) → ∀ j : Nat, j < k + 1 → l[j]? ≠ some (some v) := fun hn j hj => by
      rcases Nat.lt_succ_iff_lt_or_eq.1 hj with hj | rfl
      · exact hkk.2 j hj
      · exact hn
    conv => whnf
    repeat (first | (refine opt_if ⟨by omega, by omega⟩ ?_; conv => whnf) | (refine opt_ld (by assumption) (by first | rfl | assumption) ?_; conv => whnf))
    refine opt_ld h1 (map_get hk) ?_
    cases hx : l[k] with
    | some w =>
      rw [hx] at hk
      conv => whnf
      repeat (first | (refine opt_if ⟨by omega, by omega⟩ ?_; conv => whnf) | (refine opt_ld (by assumption) (by first | rfl | assumption) ?_; conv => whnf))
      refine opt_ld h2 (map_get hk) ?_
      conv => whnf
      by_cases he : w = v
      · subst he
        rw [show ((some w).getD 0 == w) = true from by simp]
        conv => whnf
        rw [findR_some hk hkk.2] at hq
        exact hq
      · rw [show ((some w).getD 0 == v) = false from by simpa using he]
        conv => whnf
        exact ⟨k + 1, ⟨hkl, nxt (by rw [hk]; simpa using he)⟩, by omega, (by repeat (first | exact trivial | refine ⟨rfl, ?_⟩ | refine ⟨int_eq (wrap_nat (by omega)) rfl, ?_⟩)), subB_nil, rfl⟩
    | none =>
      rw [hx] at hk
      conv => whnf
      exact ⟨k + 1, ⟨hkl, nxt (by rw [hk]; simp)⟩, by omega, (by repeat (first | exact trivial | refine ⟨rfl, ?_⟩ | refine ⟨int_eq (wrap_nat (by omega)) rfl, ?_⟩)), subB_nil, rfl⟩
  · conv => whnf
    rw [findR_none fun j hj => by
      have hjl := (List.getElem?_eq_some_iff.1 hj).1
      exact hkk.2 j (by omega) hj] at hq
    exact hq

theorem clear99S : Sp PR 99 [ptr p] (RtP p l) (X := Unit) (fun _ => .tuple #[]) (fun _ => RtP p (clearR l)) := by
  rintro h ⟨dH, dV, hR⟩
  refine e99 rfl ?_
  conv => whnf
  refine loop_intro (σ := Nat × Hp) (fun s => [(2, .v (iv s.1)), (0, .v (ptr p))]) (fun _ => []) (fun s => s.2) (fun s => s.1 ≤ l.length ∧ RtAt s.2 p dH dV (clrTo l s.1)) (fun s => l.length - s.1) (0, h) ⟨Nat.zero_le _, by simpa [clrTo] using hR⟩
    (by repeat (first | exact trivial | refine ⟨rfl, ?_⟩ | refine ⟨int_eq (wrap_nat (by omega)) rfl, ?_⟩)) subB_nil rfl ?_
  clear hR
  rintro ⟨k, h⟩ ⟨hkk, hR⟩
  dsimp only at hkk hR ⊢
  have hll := clrTo_len hkk
  obtain ⟨ty, hc⟩ := hR.cell
  obtain ⟨ty1, h1⟩ := hR.has
  obtain ⟨ty2, h2⟩ := hR.val
  have hbd := hR.bound
  rw [hll] at hbd
  have hnx : k < l.length → (clrTo l k).set k none = clrTo l (k + 1) := clrTo_set
  generalize hl' : clrTo l k = l' at *
  conv => whnf
  repeat (first | (refine opt_if ⟨by omega, by omega⟩ ?_; conv => whnf) | (refine opt_ld (by assumption) (by first | rfl | assumption) ?_; conv => whnf))
  refine cond_dec (fun hlt => ?_) (fun hge => ?_)
  · have hkl : k < l.length := by omega
    conv => whnf
    repeat (first | (refine opt_if ⟨by omega, by omega⟩ ?_; conv => whnf) | (refine opt_ld (by assumption) (by first | rfl | assumption) ?_; conv => whnf))
    refine opt_st (x := .bool false) h1 rfl (by simp; omega) (.inl (Nat.zero_le _)) rfl ?_
    rw [show (wr (l'.map bV).toArray (0 + (k : Int).toNat * 1) (Value.bool false).cells.toList) = ((l'.set k none).map bV).toArray from wr_map l' bV k none]
    have hcA : upd h dH (.cells ((l'.set k none).map bV).toArray ty1 (0, 0)) p = _ := (upd_other hR.n1).trans hc
    have h2A : upd h dH (.cells ((l'.set k none).map bV).toArray ty1 (0, 0)) dV = _ := (upd_other hR.n3.symm).trans h2
    conv => whnf
    repeat (first | (refine opt_if ⟨by omega, by omega⟩ ?_; conv => whnf) | (refine opt_ld (by assumption) (by first | rfl | assumption) ?_; conv => whnf))
    refine opt_st (x := iv 0) h2A rfl (by simp; omega) (.inl (Nat.zero_le _)) rfl ?_
    rw [show (wr (l'.map iV).toArray (0 + (k : Int).toNat * 1) (iv 0).cells.toList) = ((l'.set k none).map iV).toArray from wr_map l' iV k none]
    have hRn := hR.turn (k := k) (x := none) h1 h2
    conv => whnf
    refine ⟨(k + 1, _), ⟨hkl, ?_⟩, by simp only; omega, (by repeat (first | exact trivial | refine ⟨rfl, ?_⟩ | refine ⟨int_eq (wrap_nat (by omega)) rfl, ?_⟩)), subB_nil, rfl⟩
    show RtAt _ p dH dV (clrTo l (k + 1))
    rw [← hnx hkl]
    exact hRn
  · conv => whnf
    refine ⟨(), rfl, dH, dV, ?_⟩
    rw [← clrTo_all l, show l.length = k by omega, hl']
    exact hR

theorem join_upd {g1 g2 : Hp} {b : Nat} {o o' : Obj} (hb : g1 b = some o) : upd (join g1 g2) b o' = join (upd g1 b o') g2 := by
  funext x
  unfold join
  by_cases hx : x = b
  · subst hx; rw [upd_same, upd_same]; rfl
  · rw [upd_other hx, upd_other hx]

theorem apart_upd {g1 g2 : Hp} {b : Nat} {o o' : Obj} (ha : V.Apart g1 g2) (hb : g1 b = some o) : V.Apart (upd g1 b o') g2 := fun x p hx => by
  by_cases hxb : x = b
  · subst hxb; exact ha x o hb
  · rw [upd_other hxb] at hx; exact ha x p hx

theorem copy52S : Sp PR 52 [ptr p] (RtP p l) (X := Nat) (fun q => ptr q) (fun q => Has [RtP p l, RtP q l]) := by
  intro h hR
  obtain ⟨dH, dV, hR0⟩ := hR
  obtain ⟨ty, hc⟩ := hR0.cell
  have hbd := hR0.bound
  refine e52 rfl ?_
  conv => whnf
  repeat (first | (refine opt_if ⟨by omega, by omega⟩ ?_; conv => whnf) | (refine opt_ld (by assumption) (by first | rfl | assumption) ?_; conv => whnf))
  refine (Has.one (A := RtP p l) ⟨dH, dV, hR0⟩).make (new91S l.length) fun q h1 hh1 => ?_
  have hrep : List.replicate (min (max (l.length : Int) 0) 4096).toNat (none : Option Int) = cpy l 0 := by
    rw [cpy_zero]; congr 1; omega
  rw [hrep] at hh1
  conv => whnf
  refine loop_intro (σ := Nat × Hp) (fun s => [(4, .v (iv s.1)), (3, .v (ptr q)), (0, .v (ptr p))]) (fun _ => []) (fun s => s.2) (fun s => s.1 ≤ l.length ∧ Has [RtP q (cpy l s.1), RtP p l] s.2) (fun s => l.length - s.1) (0, h1) ⟨Nat.zero_le _, hh1⟩
    (by repeat (first | exact trivial | refine ⟨rfl, ?_⟩ | refine ⟨int_eq (wrap_nat (by omega)) rfl, ?_⟩)) subB_nil rfl ?_
  clear hh1 hc hR0
  rintro ⟨k, h⟩ ⟨hkk, hh⟩
  dsimp only at hkk hh ⊢
  obtain ⟨g1, g2, rfl, ha, ⟨qH, qV, hq⟩, hL⟩ := hh
  obtain ⟨g3, ⟨dH, dV, hR⟩, hg3⟩ := hL.at 0 rfl
  have hsub : SubH g3 (join g1 g2) := hg3.tr (join_sub_right ha)
  obtain ⟨ty, hc⟩ := hR.cell
  obtain ⟨ty1, h1⟩ := hR.has
  obtain ⟨ty2, h2⟩ := hR.val
  have hcg := hsub _ _ hc
  have h1g := hsub _ _ h1
  have h2g := hsub _ _ h2
  conv => whnf
  repeat (first | (refine opt_if ⟨by omega, by omega⟩ ?_; conv => whnf) | (refine opt_ld (by assumption) (by first | rfl | assumption) ?_; conv => whnf))
  refine cond_dec (fun hlt => ?_) (fun hge => ?_)
  · have hkl : k < l.length := by omega
    have hk : l[k]? = some l[k] := List.getElem?_eq_getElem hkl
    have hll : (cpy l k).length = l.length := cpy_len l k
    obtain ⟨tq, hcq⟩ := hq.cell
    obtain ⟨tq1, hq1⟩ := hq.has
    obtain ⟨tq2, hq2⟩ := hq.val
    have hcq' : join g1 g2 q = _ := join_left hcq
    have hq1' : join g1 g2 qH = _ := join_left hq1
    have hq2' : join g1 g2 qV = _ := join_left hq2
    have hnx := cpy_setx hk
    generalize hl' : cpy l k = l' at *
    conv => whnf
    repeat (first | (refine opt_if ⟨by omega, by omega⟩ ?_; conv => whnf) | (refine opt_ld (by assumption) (by first | rfl | assumption) ?_; conv => whnf))
    refine opt_ld h1g (map_get hk) ?_
    conv => whnf
    repeat (first | (refine opt_if ⟨by omega, by omega⟩ ?_; conv => whnf) | (refine opt_ld (by assumption) (by first | rfl | assumption) ?_; conv => whnf))
    refine opt_st (x := bV l[k]) hq1' rfl (by simp; omega) (.inl (Nat.zero_le _)) rfl ?_
    rw [show (wr (l'.map bV).toArray (0 + (k : Int).toNat * 1) (bV l[k]).cells.toList) = ((l'.set k l[k]).map bV).toArray from wr_map l' bV k l[k], join_upd hq1]
    have ha2 := apart_upd (o' := .cells ((l'.set k l[k]).map bV).toArray tq1 (0, 0)) ha hq1
    have kq : join (upd g1 qH (.cells ((l'.set k l[k]).map bV).toArray tq1 (0, 0))) g2 q = _ := join_left ((upd_other hq.n1).trans hcq)
    have kV : upd g1 qH (.cells ((l'.set k l[k]).map bV).toArray tq1 (0, 0)) qV = _ := (upd_other hq.n3.symm).trans hq2
    have kV' : join (upd g1 qH (.cells ((l'.set k l[k]).map bV).toArray tq1 (0, 0))) g2 qV = _ := join_left kV
    have s2 : SubH g3 (join (upd g1 qH (.cells ((l'.set k l[k]).map bV).toArray tq1 (0, 0))) g2) := hg3.tr (join_sub_right ha2)
    have kc := s2 _ _ hc
    have k2 := s2 _ _ h2
    conv => whnf
    repeat (first | (refine opt_if ⟨by omega, by omega⟩ ?_; conv => whnf) | (refine opt_ld (by assumption) (by first | rfl | assumption) ?_; conv => whnf))
    refine opt_ld k2 (map_get hk) ?_
    conv => whnf
    repeat (first | (refine opt_if ⟨by omega, by omega⟩ ?_; conv => whnf) | (refine opt_ld (by assumption) (by first | rfl | assumption) ?_; conv => whnf))
    refine opt_st (x := iV l[k]) kV' rfl (by simp; omega) (.inl (Nat.zero_le _)) rfl ?_
    rw [show (wr (l'.map iV).toArray (0 + (k : Int).toNat * 1) (iV l[k]).cells.toList) = ((l'.set k l[k]).map iV).toArray from wr_map l' iV k l[k], join_upd kV]
    conv => whnf
    refine ⟨(k + 1, _), ⟨hkl, _, g2, rfl, apart_upd ha2 kV, ⟨qH, qV, ?_⟩, hL⟩, by simp only; omega, (by repeat (first | exact trivial | refine ⟨rfl, ?_⟩ | refine ⟨int_eq (wrap_nat (by omega)) rfl, ?_⟩)), subB_nil, rfl⟩
    show RtAt _ q qH qV (cpy l (k + 1))
    rw [← hnx]
    exact hq.turn hq1 hq2
  · conv => whnf
    have hf : Has [RtP q (cpy l k), RtP p l] (join g1 g2) := ⟨g1, g2, rfl, ha, ⟨qH, qV, hq⟩, hL⟩
    rw [show k = l.length by omega, cpy_done fun j h1 h2 => by omega] at hf
    exact ⟨q, rfl, hf.swap⟩

end
end Go.Proofs.Ytkmknolkblcbeaa.V
