/- Seat 04: the disk as parts of a heap; its small calls. -/
import Derived.Test.YtpkleblggehghaaD1
import Derived.Test.YtpkleblggehghaaU1
import Derived.Test.YtpkleblggehghaaE1
import Derived.Test.YtpkleblggehghaaE2
namespace Go.Proofs.Ytpkleblggehghaa.V
set_option linter.unusedVariables false
set_option linter.unusedSimpArgs false
set_option linter.unusedSectionVars false
set_option linter.unusedSectionVars false
open Go

/-- A sector: 128 bytes. -/
structure Sec where
  val : List Int
  len : val.length = 128

def rowS (x : Sec) : List Value := x.val.map by8
theorem rowS_len (x : Sec) : (rowS x).length = 128 := by rw [rowS, List.length_map, x.len]
theorem by8_one (l : List Int) : (l.map by8).all one = true := by
  rw [List.all_eq_true]; intro x hx; obtain ⟨n, _, rfl⟩ := List.mem_map.1 hx; rfl
theorem rowS_one (x : Sec) : (rowS x).all one = true := by8_one _

/-- A write that waits. -/
def rowQ (x : Int × Sec) : List Value := iv x.1 :: rowS x.2
theorem rowQ_len (x : Int × Sec) : (rowQ x).length = 129 := by simp [rowQ, rowS_len]
theorem rowQ_one (x : Int × Sec) : (rowQ x).all one = true := by simp only [rowQ, List.all_cons, rowS_one, Bool.and_true]; rfl

structure Dk where
  med : List Sec
  cache : List (Int × Sec)
  armed : Bool
  left : Int
  down : Bool
  acts : Int

def dkT (d : Dk) (s : Value) : List Value := [s, .bool d.armed, iv d.left, .bool d.down, iv d.acts]
def dkC (d : Dk) (s : Value) : List Value := d.med.flatMap rowS ++ dkT d s

structure Dok (d : Dk) : Prop where
  med : d.med.length = 1024
  at_ : ∀ x ∈ d.cache, 0 ≤ x.1 ∧ x.1 < 1024
  left : 0 ≤ d.left
  left2 : d.left < 2 ^ 63
  acts : -2 ^ 63 ≤ d.acts ∧ d.acts < 2 ^ 63

def DkP (p : Nat) (d : Dk) : As := fun h => Dok d ∧ ∃ s, Has [Pt p (.cells (dkC d s).toArray 84 (0, 0)), WnP 129 s d.cache.length (d.cache.flatMap rowQ)] h

theorem dk_len {d : Dk} (hd : d.med.length = 1024) : (d.med.flatMap rowS).length = 131072 := by rw [flat_len rowS_len, hd]
theorem dk_rd {d : Dk} {s : Value} (hd : d.med.length = 1024) (k : Nat) (v : Value) (hv : (dkT d s)[k]? = some v) : rd (dkC d s).toArray (131072 + k) 1 false = some v := by
  unfold rd dkC
  rw [if_neg (by decide), List.getElem?_toArray, List.getElem?_append_right (by rw [dk_len hd]; omega), dk_len hd, Nat.add_sub_cancel_left]
  exact hv
theorem dk_wr {d d' : Dk} {s s' : Value} (hd : d.med.length = 1024) (k : Nat) (v : Value) (hk : k < 5) (hm : d'.med = d.med) (ht : (dkT d s).set k v = dkT d' s') : wr (dkC d s).toArray (131072 + k) [v] = (dkC d' s').toArray := by
  rw [wr_wrL]
  congr 1
  simp only [wrL]
  unfold dkC
  rw [List.set_append_right _ _ (by rw [dk_len hd]; omega), dk_len hd, Nat.add_sub_cancel_left, ht, hm]
theorem dk_size {d : Dk} {s : Value} (hd : d.med.length = 1024) : (dkC d s).toArray.size = 131077 := by
  rw [List.size_toArray, dkC, List.length_append, dk_len hd]; rfl

theorem wrap_lim (n : Int) : -2 ^ 63 ≤ IntKind.i64.wrap n ∧ IntKind.i64.wrap n < 2 ^ 63 := by
  have e64 : (2 : Int) ^ IntKind.i64.bits = 18446744073709551616 := by decide
  have e63 : (2 : Int) ^ (IntKind.i64.bits - 1) = 9223372036854775808 := by decide
  have h1 : 0 ≤ n % 18446744073709551616 := Int.emod_nonneg _ (by decide)
  have h2 : n % 18446744073709551616 < 18446744073709551616 := Int.emod_lt_of_pos _ (by decide)
  unfold IntKind.wrap
  simp only [e64, e63]
  split
  · rename_i hc
    simp only [Bool.and_eq_true, decide_eq_true_eq] at hc
    omega
  · rename_i hc
    have : ¬ (n % 18446744073709551616 ≥ 9223372036854775808) := fun h => hc (by simp only [Bool.and_eq_true, decide_eq_true_eq]; exact ⟨rfl, h⟩)
    omega

theorem dk_ld {h : Hp} {p off : Nat} {d : Dk} {s : Value} {K : Ent → Prop} (hp : h p = some (.cells (dkC d s).toArray 84 (0, 0))) (hd : d.med.length = 1024) (k : Nat) (v : Value) (ho : off = 131072 + k) (hv : (dkT d s)[k]? = some v) (hk : K (.v v)) :
    optK (toE (ldO off 1 false (h p))) K := by
  subst ho
  exact opt_ld hp (dk_rd hd k v hv) hk

theorem dk_st {L : List As} {h : Hp} {β : Bx} {p off : Nat} {d : Dk} {s : Value} {K : Hp × Bx → Prop} (hh : Has (Pt p (.cells (dkC d s).toArray 84 (0, 0)) :: L) h) (hd : d.med.length = 1024) (k : Nat) (v : Value) (ho : off = 131072 + k) (hk : k < 5)
    (d' : Dk) (s' : Value) (hm : d'.med = d.med) (ht : (dkT d s).set k v = dkT d' s') (h1 : v.cells = #[v]) (h4 : one v = true) (hK : ∀ h', Has (Pt p (.cells (dkC d' s').toArray 84 (0, 0)) :: L) h' → K (h', β)) :
    optK (pSt 1 h β (.v (.pointer (some ⟨p, off, none⟩))) (.v v)) K := by
  subst ho
  refine st_has hh 0 rfl (by rw [h1]; rfl) (by rw [dk_size hd]; omega) (by simp [h1, h4]) fun h' _ _ hh' => hK h' ?_
  rw [h1] at hh'
  have e := dk_wr (s := s) hd k v hk hm ht
  have hh2 : Has (Pt p (.cells (wr (dkC d s).toArray (131072 + k) [v]) 84 (0, 0)) :: L) h' := hh'
  rw [e] at hh2
  exact hh2

section
variable {h : Hp} {Q : Value → Hp → Prop} {p : Nat} {d : Dk}

def Dk.act (d : Dk) : Bool × Dk :=
  if d.down then (false, d)
  else if d.armed then (if d.left = 0 then (false, { d with down := true }) else (true, { d with left := d.left - 1, acts := IntKind.i64.wrap (d.acts + 1) }))
  else (true, { d with acts := IntKind.i64.wrap (d.acts + 1) })

theorem there47 (n : Int) (hq : Q (.bool (decide (0 ≤ n ∧ n < 1024))) h) : Ok PR 47 [iv n] h Q := by
  refine e47 rfl ?_
  conv => whnf
  by_cases h0 : 0 ≤ n
  · rw [show decide (n ≥ 0) = true from decide_eq_true h0]
    conv => whnf
    rw [show (decide (0 ≤ n ∧ n < 1024)) = decide (n < 1024) from by simp [h0]] at hq
    exact hq
  · rw [show decide (n ≥ 0) = false from decide_eq_false h0]
    conv => whnf
    rw [show (decide (0 ≤ n ∧ n < 1024)) = false from by simp [h0]] at hq
    exact hq

theorem act44S : Sp PR 44 [ptr p] (DkP p d) (X := Unit) (fun _ => .bool d.act.1) (fun _ => DkP p d.act.2) := by
  refine Sp.of fun h Q ⟨hok, s, hh⟩ hq => ?_
  replace hq : ∀ h', DkP p d.act.2 h' → Q (.bool d.act.1) h' := fun h' => hq () h'
  refine e44 rfl ?_
  refine seq_step fun K0 hK0 => ?_
  conv => whnf
  refine hK0 _ _ _ (seq_step fun K1 hK1 => ?_)
  conv => whnf
  refine dk_ld (hh.pt 0 rfl) hok.med 3 _ rfl rfl ?_
  conv => whnf
  unfold Dk.act at hq
  refine cond_split (fun hd => ?_) (fun hd => ?_)
  · rw [if_pos hd] at hq
    conv => whnf
    exact hq _ ⟨hok, s, hh⟩
  · rw [if_neg (by rw [hd]; decide)] at hq
    conv => whnf
    refine hK1 _ _ _ (seq_step fun K2 hK2 => ?_)
    conv => whnf
    refine dk_ld (hh.pt 0 rfl) hok.med 1 _ rfl rfl ?_
    conv => whnf
    refine cond_split (fun ha => ?_) (fun ha => ?_)
    · rw [if_pos ha] at hq
      refine seq_step fun K3 hK3 => ?_
      conv => whnf
      refine dk_ld (hh.pt 0 rfl) hok.med 2 _ rfl rfl ?_
      conv => whnf
      refine cond_beq (fun hl => ?_) (fun hl => ?_)
      · rw [if_pos hl] at hq
        conv => whnf
        refine dk_st hh hok.med 3 _ rfl (by omega) { d with down := true } s rfl rfl rfl rfl fun h1 hh1 => ?_
        conv => whnf
        exact hq _ ⟨⟨hok.med, hok.at_, hok.left, hok.left2, hok.acts⟩, s, hh1⟩
      · rw [if_neg hl] at hq
        have g1 := hok.left
        have g2 := hok.left2
        have hw : IntKind.i64.wrap (d.left - 1) = d.left - 1 := wrap_i64 (by omega) (by omega)
        conv => whnf
        refine hK3 _ _ _ ?_
        conv => whnf
        refine dk_ld (hh.pt 0 rfl) hok.med 2 _ rfl rfl ?_
        conv => whnf
        rw [hw]
        refine dk_st hh hok.med 2 _ rfl (by omega) { d with left := d.left - 1 } s rfl rfl rfl rfl fun h1 hh1 => ?_
        conv => whnf
        refine hK2 _ _ _ (seq_step fun K4 hK4 => ?_)
        conv => whnf
        refine dk_ld (hh1.pt 0 rfl) hok.med 4 _ rfl rfl ?_
        conv => whnf
        refine dk_st hh1 hok.med 4 _ rfl (by omega) { d with left := d.left - 1, acts := IntKind.i64.wrap (d.acts + 1) } s rfl rfl rfl rfl fun h2 hh2 => ?_
        conv => whnf
        refine hK4 _ _ _ ?_
        conv => whnf
        exact hq _ ⟨⟨hok.med, hok.at_, by show 0 ≤ d.left - 1; omega, by show d.left - 1 < _; omega, wrap_lim _⟩, s, hh2⟩
    · rw [if_neg (by rw [ha]; decide)] at hq
      conv => whnf
      refine hK2 _ _ _ (seq_step fun K4 hK4 => ?_)
      conv => whnf
      refine dk_ld (hh.pt 0 rfl) hok.med 4 _ rfl rfl ?_
      conv => whnf
      refine dk_st hh hok.med 4 _ rfl (by omega) { d with acts := IntKind.i64.wrap (d.acts + 1) } s rfl rfl rfl rfl fun h2 hh2 => ?_
      conv => whnf
      refine hK4 _ _ _ ?_
      conv => whnf
      exact hq _ ⟨⟨hok.med, hok.at_, hok.left, hok.left2, wrap_lim _⟩, s, hh2⟩

theorem acts13S : Sp PR 13 [ptr p] (DkP p d) (X := Unit) (fun _ => iv d.acts) (fun _ => DkP p d) := by
  intro h hh
  obtain ⟨hok, s, hh⟩ := hh
  refine e13 rfl ?_
  conv => whnf
  refine dk_ld (hh.pt 0 rfl) hok.med 4 _ rfl rfl ?_
  conv => whnf
  exact ⟨(), rfl, hok, s, hh⟩

theorem down18S : Sp PR 18 [ptr p] (DkP p d) (X := Unit) (fun _ => .bool d.down) (fun _ => DkP p d) := by
  intro h hh
  obtain ⟨hok, s, hh⟩ := hh
  refine e18 rfl ?_
  conv => whnf
  refine dk_ld (hh.pt 0 rfl) hok.med 3 _ rfl rfl ?_
  conv => whnf
  exact ⟨(), rfl, hok, s, hh⟩

def Dk.arm (d : Dk) (n : Int) : Int × Dk :=
  if n < 0 then (1, d) else if d.down then (42, d) else (0, { d with armed := true, left := n })

theorem arm12S (n : Int) (hn : n < 2 ^ 63) : Sp PR 12 [ptr p, iv n] (DkP p d) (X := Unit) (fun _ => iv (d.arm n).1) (fun _ => DkP p (d.arm n).2) := by
  intro h hh
  obtain ⟨hok, s, hh⟩ := hh
  refine e12 rfl ?_
  unfold Dk.arm
  conv => whnf
  refine cond_dec (fun h0 => ?_) (fun h0 => ?_)
  · rw [if_pos h0]
    conv => whnf
    exact ⟨(), rfl, hok, s, hh⟩
  · rw [if_neg h0]
    conv => whnf
    refine dk_ld (hh.pt 0 rfl) hok.med 3 _ rfl rfl ?_
    conv => whnf
    refine cond_split (fun hd => ?_) (fun hd => ?_)
    · rw [if_pos hd]
      conv => whnf
      exact ⟨(), rfl, hok, s, hh⟩
    · rw [if_neg (by rw [hd]; decide)]
      conv => whnf
      refine dk_st hh hok.med 1 _ rfl (by omega) { d with armed := true } s rfl rfl rfl rfl fun h1 hh1 => ?_
      conv => whnf
      refine dk_st hh1 hok.med 2 _ rfl (by omega) { d with armed := true, left := n } s rfl rfl rfl rfl fun h2 hh2 => ?_
      conv => whnf
      exact ⟨(), rfl, ⟨hok.med, hok.at_, by show 0 ≤ n; omega, hn, hok.acts⟩, s, hh2⟩

end
end Go.Proofs.Ytpkleblggehghaa.V
