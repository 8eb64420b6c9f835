/- Seat 08: CapsAddUp. -/
import Derived.Test.YthpkgkoojhgedaaDoorK34
import Derived.Test.YthpkgkoojhgedaaDoorK35
namespace Go.Proofs.YthpkgkoojhgedaaDoor.V
set_option linter.unusedVariables false
set_option linter.unusedSimpArgs false
set_option linter.unusedSectionVars false
set_option linter.unusedSectionVars false
open Go

theorem andS2 (y x : Int) (h0 : 0 ≤ x) (h1 : x ≤ 15) (h2 : 0 ≤ y) (h3 : y ≤ 15) : (IntKind.i64.wrap ((BitVec.ofInt IntKind.i64.bits y &&& BitVec.ofInt IntKind.i64.bits x).toNat : Int) != x) = !subR x y := by
  rw [BitVec.and_comm]; exact andS x y h0 h1 h2 h3

theorem count0 {h : Hp} {Q : Value → Hp → Prop} {L : List As} {b : Nat} {S : Bs} (hw : WF S) {n : Nat} (hno : got S.tb (n : Int) = none) (hh : Has (CapsA b S :: L) h) (k : Int) (hq : ∀ h', Has (CapsA b S :: L) h' → Q (iv 0) h') : Ok PR 29 [ptr b, iv n, iv k] h Q := by
  refine count29 hw hh n k (fun _ h' hh' => hq h' hh') (fun n9 hn9 h' hh' => ?_)
  have e0 : S.cs.countP (fun c => decide (c.env = n9) && decide (c.cap.kind = k)) = 0 := by
    rw [List.countP_eq_zero]
    intro c hc hm
    simp only [Bool.and_eq_true, decide_eq_true_eq] at hm
    obtain ⟨t, l0, a1, _⟩ := hw.t2 c hc
    rw [got_nat, show n = c.env by omega, a1] at hno
    cases hno
  rw [e0]
  exact hq h' hh'

theorem opt_ldE2 {r o : Nat} {β : Bx} {cs : List Value} {v : Value} {K : Ent → Prop} (hl : lookB β r = some cs) (hv : cs[o]? = some v) (hk : K (.v v)) : optK (pLd 1 false (fun _ => none) β (.l r o)) K := by
  have : rd cs.toArray o 1 false = some v := by simp only [rd]; rw [if_neg (by decide), List.getElem?_toArray]; exact hv
  exact opt_ldLo hl this hk

theorem opt_stE2 {g : Hp} {r o : Nat} {β : Bx} {x : Value} {c : List Value} {K : Hp × Bx → Prop} (hl : lookB β r = some c) (ho : o < c.length) (h1 : x.cells = #[x]) (h4 : one x = true) (hk : K (g, (r, c.set o x) :: β)) : optK (pSt 1 g β (.l r o) (.v x)) K :=
  opt_stLo hl (by rw [h1]; rfl) (by omega) (by simp [h1, h4]) (by rw [h1]; exact wrL_one x ho) hk

def cpA : Cp := ⟨3, 1, 9, 7⟩
/-- How many of a kind there are among the first ones. -/
def cntK (l : List Hd) (i : Nat) (k : Int) : Nat := (l.take i).countP fun x => decide (x.cap.kind = k)
def cntB (l : List Hd) (i : Nat) : List Value := [iv 0, iv (cntK l i 1 : Nat), iv (cntK l i 2 : Nat), iv (cntK l i 3 : Nat)]

theorem cntK_succ {l : List Hd} {i : Nat} (hi : i < l.length) (k : Int) : cntK l (i + 1) k = cntK l i k + if l[i].cap.kind = k then 1 else 0 := by
  unfold cntK
  rw [← List.take_append_getElem hi, List.countP_append, List.countP_singleton]
  congr 1
  by_cases h : l[i].cap.kind = k
  · rw [decide_eq_true h, if_pos h]; rfl
  · rw [decide_eq_false h, if_neg h]; rfl

theorem cntB_step {l : List Hd} {i : Nat} (hi : i < l.length) (hb : l.length < 1099511627776) (hk : 1 ≤ l[i].cap.kind ∧ l[i].cap.kind ≤ 3) :
    ∃ c : Nat, (cntB l i)[l[i].cap.kind.toNat]? = some (iv c) ∧ c < 1099511627776 ∧ (cntB l i).set l[i].cap.kind.toNat (iv ((c + 1 : Nat) : Int)) = cntB l (i + 1) := by
  have hle : ∀ k, cntK l i k ≤ i := fun k => by
    unfold cntK
    exact Nat.le_trans List.countP_le_length (by rw [List.length_take]; omega)
  obtain ⟨h1, h3⟩ := hk
  have hc : l[i].cap.kind = 1 ∨ l[i].cap.kind = 2 ∨ l[i].cap.kind = 3 := by omega
  have s1 := cntK_succ hi 1
  have s2 := cntK_succ hi 2
  have s3 := cntK_succ hi 3
  have l1 := hle 1; have l2 := hle 2; have l3 := hle 3
  unfold cntB
  rw [s1, s2, s3]
  rcases hc with e | e | e <;> rw [e]
  · exact ⟨_, rfl, by omega, rfl⟩
  · exact ⟨_, rfl, by omega, rfl⟩
  · exact ⟨_, rfl, by omega, rfl⟩

section
variable {h : Hp} {Q : Value → Hp → Prop}

set_option maxRecDepth 100000 in
set_option maxHeartbeats 8000000 in
theorem law8 {a : Option Addr} {len cap : Nat} {l : List (OpV × List Int)} (hR : SlR 12 OpR h [.slice a len cap] l) (hlen : len < 2 ^ 62) (hnone : NoneR h) (hq : ∀ h', SubH h h' → Q (.bool true) h') :
    Ok PR 8 [.slice a len cap] h Q := by
  have hsub : ∀ g, Has [Is h] g → NoneR g := fun g hg => hnone.sub (hg.is 0 rfl)
  refine ex8 rfl (seq_step fun K hK => ?_)
  repeat (first | ((with_reducible refine hK _ _ _ ?_); clear hK) | (with_reducible refine seq_step fun K hK => ?_) | (with_reducible refine block_step ?_) | ((with_reducible refine cond_t ?_ ?_); focus rfl) | ((with_reducible refine cond_f ?_ ?_); focus rfl) | ((with_reducible refine code_id ?_); conv => whnf) | (clear hK; (with_reducible refine hK _ _ _ ?_); clear hK) | (clear hK; clear hK; (with_reducible refine hK _ _ _ ?_); clear hK) | (clear hK; clear hK; clear hK; (with_reducible refine hK _ _ _ ?_); clear hK) | (clear hK; clear hK; clear hK; clear hK; (with_reducible refine hK _ _ _ ?_); clear hK) | (clear hK; clear hK; clear hK; clear hK; clear hK; (with_reducible refine hK _ _ _ ?_); clear hK) | (clear hK; clear hK; clear hK; clear hK; clear hK; clear hK; (with_reducible refine hK _ _ _ ?_); clear hK) | (clear hK; clear hK; clear hK; clear hK; clear hK; clear hK; clear hK; (with_reducible refine hK _ _ _ ?_); clear hK))
  refine begun10 (c := cpA) (by decide) (Has.start h) hnone (fun b S h1 hbeg hn1 hh1 => ?_) hsub
  conv => whnf
  repeat (first | ((with_reducible refine hK _ _ _ ?_); clear hK) | (with_reducible refine seq_step fun K hK => ?_) | (with_reducible refine block_step ?_) | ((with_reducible refine cond_t ?_ ?_); focus rfl) | ((with_reducible refine cond_f ?_ ?_); focus rfl) | ((with_reducible refine code_id ?_); conv => whnf) | (clear hK; (with_reducible refine hK _ _ _ ?_); clear hK) | (clear hK; clear hK; (with_reducible refine hK _ _ _ ?_); clear hK) | (clear hK; clear hK; clear hK; (with_reducible refine hK _ _ _ ?_); clear hK) | (clear hK; clear hK; clear hK; clear hK; (with_reducible refine hK _ _ _ ?_); clear hK) | (clear hK; clear hK; clear hK; clear hK; clear hK; (with_reducible refine hK _ _ _ ?_); clear hK) | (clear hK; clear hK; clear hK; clear hK; clear hK; clear hK; (with_reducible refine hK _ _ _ ?_); clear hK) | (clear hK; clear hK; clear hK; clear hK; clear hK; clear hK; clear hK; (with_reducible refine hK _ _ _ ?_); clear hK))
  refine cut_intro (σ := Bs × Hp) (fun _ => [(3, .v (ptr b))]) (fun _ => []) (fun s => s.2) (fun s => WF s.1 ∧ Has (CapsA b s.1 :: [Is h]) s.2) ?_ ?_
  · repeat (first | ((with_reducible refine hK _ _ _ ?_); clear hK) | (with_reducible refine seq_step fun K hK => ?_) | (with_reducible refine block_step ?_) | ((with_reducible refine cond_t ?_ ?_); focus rfl) | ((with_reducible refine cond_f ?_ ?_); focus rfl) | ((with_reducible refine code_id ?_); conv => whnf) | (clear hK; (with_reducible refine hK _ _ _ ?_); clear hK) | (clear hK; clear hK; (with_reducible refine hK _ _ _ ?_); clear hK) | (clear hK; clear hK; clear hK; (with_reducible refine hK _ _ _ ?_); clear hK) | (clear hK; clear hK; clear hK; clear hK; (with_reducible refine hK _ _ _ ?_); clear hK) | (clear hK; clear hK; clear hK; clear hK; clear hK; (with_reducible refine hK _ _ _ ?_); clear hK) | (clear hK; clear hK; clear hK; clear hK; clear hK; clear hK; (with_reducible refine hK _ _ _ ?_); clear hK) | (clear hK; clear hK; clear hK; clear hK; clear hK; clear hK; clear hK; (with_reducible refine hK _ _ _ ?_); clear hK))
    refine loop_intro (σ := (Nat × Bs) × Hp) (fun s => [(0, .v (.slice a len cap)), (3, .v (ptr b)), (4, .v (iv s.1.1))]) (fun _ => []) (fun s => s.2)
      (fun s => s.1.1 ≤ 1024 ∧ s.1.1 ≤ len ∧ WF s.1.2 ∧ Has (CapsA b s.1.2 :: [Is h]) s.2) (fun s => 1024 - s.1.1) ((0, S), h1) ⟨Nat.zero_le _, Nat.zero_le _, hbeg.wf, hh1⟩
      (subE_cons rfl (subE_cons rfl (subE_cons rfl subE_nil))) subB_nil rfl ?_
    rintro ⟨⟨i, S⟩, g⟩ ⟨hi, hil, hw, hg⟩
    dsimp only at hi hil hw hg ⊢
    have hnext : IntKind.i64.wrap ((i : Int) + 1) = ((i + 1 : Nat) : Int) := wrap_nat (by omega)
    repeat (first | ((with_reducible refine hK _ _ _ ?_); clear hK) | (with_reducible refine seq_step fun K hK => ?_) | (with_reducible refine block_step ?_) | ((with_reducible refine cond_t ?_ ?_); focus rfl) | ((with_reducible refine cond_f ?_ ?_); focus rfl) | ((with_reducible refine code_id ?_); conv => whnf) | (clear hK; (with_reducible refine hK _ _ _ ?_); clear hK) | (clear hK; clear hK; (with_reducible refine hK _ _ _ ?_); clear hK) | (clear hK; clear hK; clear hK; (with_reducible refine hK _ _ _ ?_); clear hK) | (clear hK; clear hK; clear hK; clear hK; (with_reducible refine hK _ _ _ ?_); clear hK) | (clear hK; clear hK; clear hK; clear hK; clear hK; (with_reducible refine hK _ _ _ ?_); clear hK) | (clear hK; clear hK; clear hK; clear hK; clear hK; clear hK; (with_reducible refine hK _ _ _ ?_); clear hK) | (clear hK; clear hK; clear hK; clear hK; clear hK; clear hK; clear hK; (with_reducible refine hK _ _ _ ?_); clear hK))
    by_cases c3 : i < len
    case neg =>
      rw [show decide ((i : Int) < (len : Nat)) = false from decide_eq_false (by omega)]
      conv => whnf
      repeat (first | ((with_reducible refine hK _ _ _ ?_); clear hK) | (with_reducible refine seq_step fun K hK => ?_) | (with_reducible refine block_step ?_) | ((with_reducible refine cond_t ?_ ?_); focus rfl) | ((with_reducible refine cond_f ?_ ?_); focus rfl) | ((with_reducible refine code_id ?_); conv => whnf) | (clear hK; (with_reducible refine hK _ _ _ ?_); clear hK) | (clear hK; clear hK; (with_reducible refine hK _ _ _ ?_); clear hK) | (clear hK; clear hK; clear hK; (with_reducible refine hK _ _ _ ?_); clear hK) | (clear hK; clear hK; clear hK; clear hK; (with_reducible refine hK _ _ _ ?_); clear hK) | (clear hK; clear hK; clear hK; clear hK; clear hK; (with_reducible refine hK _ _ _ ?_); clear hK) | (clear hK; clear hK; clear hK; clear hK; clear hK; clear hK; (with_reducible refine hK _ _ _ ?_); clear hK) | (clear hK; clear hK; clear hK; clear hK; clear hK; clear hK; clear hK; (with_reducible refine hK _ _ _ ?_); clear hK))
      exact ⟨(S, g), ⟨hw, hg⟩, subE_cons rfl subE_nil, subB_nil, rfl⟩
    rw [show decide ((i : Int) < (len : Nat)) = true from decide_eq_true (by omega)]
    conv => whnf
    by_cases c4 : i < 1024
    case neg =>
      rw [show decide ((i : Int) < 1024) = false from decide_eq_false (by omega)]
      conv => whnf
      repeat (first | ((with_reducible refine hK _ _ _ ?_); clear hK) | (with_reducible refine seq_step fun K hK => ?_) | (with_reducible refine block_step ?_) | ((with_reducible refine cond_t ?_ ?_); focus rfl) | ((with_reducible refine cond_f ?_ ?_); focus rfl) | ((with_reducible refine code_id ?_); conv => whnf) | (clear hK; (with_reducible refine hK _ _ _ ?_); clear hK) | (clear hK; clear hK; (with_reducible refine hK _ _ _ ?_); clear hK) | (clear hK; clear hK; clear hK; (with_reducible refine hK _ _ _ ?_); clear hK) | (clear hK; clear hK; clear hK; clear hK; (with_reducible refine hK _ _ _ ?_); clear hK) | (clear hK; clear hK; clear hK; clear hK; clear hK; (with_reducible refine hK _ _ _ ?_); clear hK) | (clear hK; clear hK; clear hK; clear hK; clear hK; clear hK; (with_reducible refine hK _ _ _ ?_); clear hK) | (clear hK; clear hK; clear hK; clear hK; clear hK; clear hK; clear hK; (with_reducible refine hK _ _ _ ?_); clear hK))
      exact ⟨(S, g), ⟨hw, hg⟩, subE_cons rfl subE_nil, subB_nil, rfl⟩
    rw [show decide ((i : Int) < 1024) = true from decide_eq_true (by omega)]
    conv => whnf
    repeat (first | ((with_reducible refine hK _ _ _ ?_); clear hK) | (with_reducible refine seq_step fun K hK => ?_) | (with_reducible refine block_step ?_) | ((with_reducible refine cond_t ?_ ?_); focus rfl) | ((with_reducible refine cond_f ?_ ?_); focus rfl) | ((with_reducible refine code_id ?_); conv => whnf) | (clear hK; (with_reducible refine hK _ _ _ ?_); clear hK) | (clear hK; clear hK; (with_reducible refine hK _ _ _ ?_); clear hK) | (clear hK; clear hK; clear hK; (with_reducible refine hK _ _ _ ?_); clear hK) | (clear hK; clear hK; clear hK; clear hK; (with_reducible refine hK _ _ _ ?_); clear hK) | (clear hK; clear hK; clear hK; clear hK; clear hK; (with_reducible refine hK _ _ _ ?_); clear hK) | (clear hK; clear hK; clear hK; clear hK; clear hK; clear hK; (with_reducible refine hK _ _ _ ?_); clear hK) | (clear hK; clear hK; clear hK; clear hK; clear hK; clear hK; clear hK; (with_reducible refine hK _ _ _ ?_); clear hK))
    obtain ⟨_, o, bk, off, cc, ty, z, ho, ha, hb0, hrd, _⟩ := script_at hR c3
    have hb : g bk = some (.cells cc ty z) := hg.is 1 rfl bk _ hb0
    rw [ha]
    conv => whnf
    refine opt_if ⟨by omega, by omega⟩ ?_
    conv => whnf
    refine opt_ld hb (v := .agg (opV o.1).toArray) (by show rd cc (off + (i : Int).toNat * 12) 12 true = _; rw [Int.toNat_natCast]; exact hrd) ?_
    conv => whnf
    refine play17 hw hg o.1 fun S' g1 hw1 _ hg1 => ?_
    conv => whnf
    repeat (first | ((with_reducible refine hK _ _ _ ?_); clear hK) | (with_reducible refine seq_step fun K hK => ?_) | (with_reducible refine block_step ?_) | ((with_reducible refine cond_t ?_ ?_); focus rfl) | ((with_reducible refine cond_f ?_ ?_); focus rfl) | ((with_reducible refine code_id ?_); conv => whnf) | (clear hK; (with_reducible refine hK _ _ _ ?_); clear hK) | (clear hK; clear hK; (with_reducible refine hK _ _ _ ?_); clear hK) | (clear hK; clear hK; clear hK; (with_reducible refine hK _ _ _ ?_); clear hK) | (clear hK; clear hK; clear hK; clear hK; (with_reducible refine hK _ _ _ ?_); clear hK) | (clear hK; clear hK; clear hK; clear hK; clear hK; (with_reducible refine hK _ _ _ ?_); clear hK) | (clear hK; clear hK; clear hK; clear hK; clear hK; clear hK; (with_reducible refine hK _ _ _ ?_); clear hK) | (clear hK; clear hK; clear hK; clear hK; clear hK; clear hK; clear hK; (with_reducible refine hK _ _ _ ?_); clear hK))
    exact ⟨((i + 1, S'), g1), ⟨by dsimp only; omega, by dsimp only; omega, hw1, hg1⟩, by dsimp only; omega, subE_cons (by rw [ha]; rfl) (subE_cons rfl (subE_cons (int_eq hnext rfl) subE_nil)), subB_nil, rfl⟩
  rintro ⟨S, g⟩ ⟨hw, hg⟩
  dsimp only at hw hg ⊢
  clear hbeg hh1 hn1
  have hal : (allOf S).length ≤ 768 := by have := all_len hw; have := hw.small; omega
  repeat (first | ((with_reducible refine hK _ _ _ ?_); clear hK) | (with_reducible refine seq_step fun K hK => ?_) | (with_reducible refine block_step ?_) | ((with_reducible refine cond_t ?_ ?_); focus rfl) | ((with_reducible refine cond_f ?_ ?_); focus rfl) | ((with_reducible refine code_id ?_); conv => whnf) | (clear hK; (with_reducible refine hK _ _ _ ?_); clear hK) | (clear hK; clear hK; (with_reducible refine hK _ _ _ ?_); clear hK) | (clear hK; clear hK; clear hK; (with_reducible refine hK _ _ _ ?_); clear hK) | (clear hK; clear hK; clear hK; clear hK; (with_reducible refine hK _ _ _ ?_); clear hK) | (clear hK; clear hK; clear hK; clear hK; clear hK; (with_reducible refine hK _ _ _ ?_); clear hK) | (clear hK; clear hK; clear hK; clear hK; clear hK; clear hK; (with_reducible refine hK _ _ _ ?_); clear hK) | (clear hK; clear hK; clear hK; clear hK; clear hK; clear hK; clear hK; (with_reducible refine hK _ _ _ ?_); clear hK))
  refine all15 hw hg fun s g1 hg1 => ?_
  obtain ⟨bl, cl, hs⟩ := hg1.slv 0 rfl
  subst hs
  conv => whnf
  repeat (first | ((with_reducible refine hK _ _ _ ?_); clear hK) | (with_reducible refine seq_step fun K hK => ?_) | (with_reducible refine block_step ?_) | ((with_reducible refine cond_t ?_ ?_); focus rfl) | ((with_reducible refine cond_f ?_ ?_); focus rfl) | ((with_reducible refine code_id ?_); conv => whnf) | (clear hK; (with_reducible refine hK _ _ _ ?_); clear hK) | (clear hK; clear hK; (with_reducible refine hK _ _ _ ?_); clear hK) | (clear hK; clear hK; clear hK; (with_reducible refine hK _ _ _ ?_); clear hK) | (clear hK; clear hK; clear hK; clear hK; (with_reducible refine hK _ _ _ ?_); clear hK) | (clear hK; clear hK; clear hK; clear hK; clear hK; (with_reducible refine hK _ _ _ ?_); clear hK) | (clear hK; clear hK; clear hK; clear hK; clear hK; clear hK; (with_reducible refine hK _ _ _ ?_); clear hK) | (clear hK; clear hK; clear hK; clear hK; clear hK; clear hK; clear hK; (with_reducible refine hK _ _ _ ?_); clear hK))
  refine cut_intro (σ := Hp) (fun _ => [(3, .v (ptr b)), (5, .v (.slice bl (allOf S).length cl))]) (fun _ => []) (fun g => g) (fun g => Has (HsP (.slice bl (allOf S).length cl) (allOf S) :: CapsA b S :: [Is h]) g) ?_ ?_
  · clear hg
    repeat (first | ((with_reducible refine hK _ _ _ ?_); clear hK) | (with_reducible refine seq_step fun K hK => ?_) | (with_reducible refine block_step ?_) | ((with_reducible refine cond_t ?_ ?_); focus rfl) | ((with_reducible refine cond_f ?_ ?_); focus rfl) | ((with_reducible refine code_id ?_); conv => whnf) | (clear hK; (with_reducible refine hK _ _ _ ?_); clear hK) | (clear hK; clear hK; (with_reducible refine hK _ _ _ ?_); clear hK) | (clear hK; clear hK; clear hK; (with_reducible refine hK _ _ _ ?_); clear hK) | (clear hK; clear hK; clear hK; clear hK; (with_reducible refine hK _ _ _ ?_); clear hK) | (clear hK; clear hK; clear hK; clear hK; clear hK; (with_reducible refine hK _ _ _ ?_); clear hK) | (clear hK; clear hK; clear hK; clear hK; clear hK; clear hK; (with_reducible refine hK _ _ _ ?_); clear hK) | (clear hK; clear hK; clear hK; clear hK; clear hK; clear hK; clear hK; (with_reducible refine hK _ _ _ ?_); clear hK))
    refine loop_intro (σ := Nat × Hp) (fun s => [(3, .v (ptr b)), (5, .v (.slice bl (allOf S).length cl)), (6, .v (iv s.1))]) (fun _ => []) (fun s => s.2)
      (fun s => s.1 ≤ 16 ∧ Has (HsP (.slice bl (allOf S).length cl) (allOf S) :: CapsA b S :: [Is h]) s.2) (fun s => 16 - s.1) (0, g1) ⟨Nat.zero_le _, hg1⟩
      (subE_cons rfl (subE_cons rfl (subE_cons rfl subE_nil))) subB_nil rfl ?_
    clear hg1
    rintro ⟨n, g⟩ ⟨hn, hg⟩
    dsimp only at hn hg ⊢
    have hnext : IntKind.i64.wrap ((n : Int) + 1) = ((n + 1 : Nat) : Int) := wrap_nat (by omega)
    have hle2 := lsOf_le S n
    repeat (first | ((with_reducible refine hK _ _ _ ?_); clear hK) | (with_reducible refine seq_step fun K hK => ?_) | (with_reducible refine block_step ?_) | ((with_reducible refine cond_t ?_ ?_); focus rfl) | ((with_reducible refine cond_f ?_ ?_); focus rfl) | ((with_reducible refine code_id ?_); conv => whnf) | (clear hK; (with_reducible refine hK _ _ _ ?_); clear hK) | (clear hK; clear hK; (with_reducible refine hK _ _ _ ?_); clear hK) | (clear hK; clear hK; clear hK; (with_reducible refine hK _ _ _ ?_); clear hK) | (clear hK; clear hK; clear hK; clear hK; (with_reducible refine hK _ _ _ ?_); clear hK) | (clear hK; clear hK; clear hK; clear hK; clear hK; (with_reducible refine hK _ _ _ ?_); clear hK) | (clear hK; clear hK; clear hK; clear hK; clear hK; clear hK; (with_reducible refine hK _ _ _ ?_); clear hK) | (clear hK; clear hK; clear hK; clear hK; clear hK; clear hK; clear hK; (with_reducible refine hK _ _ _ ?_); clear hK))
    refine cond_dec (fun hlt => ?_) (fun hge => ?_)
    · have hn16 : n < 16 := by omega
      repeat (first | ((with_reducible refine hK _ _ _ ?_); clear hK) | (with_reducible refine seq_step fun K hK => ?_) | (with_reducible refine block_step ?_) | ((with_reducible refine cond_t ?_ ?_); focus rfl) | ((with_reducible refine cond_f ?_ ?_); focus rfl) | ((with_reducible refine code_id ?_); conv => whnf) | (clear hK; (with_reducible refine hK _ _ _ ?_); clear hK) | (clear hK; clear hK; (with_reducible refine hK _ _ _ ?_); clear hK) | (clear hK; clear hK; clear hK; (with_reducible refine hK _ _ _ ?_); clear hK) | (clear hK; clear hK; clear hK; clear hK; (with_reducible refine hK _ _ _ ?_); clear hK) | (clear hK; clear hK; clear hK; clear hK; clear hK; (with_reducible refine hK _ _ _ ?_); clear hK) | (clear hK; clear hK; clear hK; clear hK; clear hK; clear hK; (with_reducible refine hK _ _ _ ?_); clear hK) | (clear hK; clear hK; clear hK; clear hK; clear hK; clear hK; clear hK; (with_reducible refine hK _ _ _ ?_); clear hK))
      refine list23 hw hg.swap n (fun hno => ?_) (fun n' he hop m g2 hg2 => ?_)
      · have zero : ∀ k : Int, S.cs.countP (fun c => decide (c.env = n) && decide (c.cap.kind = k)) = 0 := fun k => by
          rw [List.countP_eq_zero]
          intro c hc hm
          simp only [Bool.and_eq_true, decide_eq_true_eq] at hm
          obtain ⟨t, l0, a1, _⟩ := hw.t2 c hc
          rw [got_nat, ← hm.1, a1] at hno
          cases hno
        conv => whnf
        repeat (first | ((with_reducible refine hK _ _ _ ?_); clear hK) | (with_reducible refine seq_step fun K hK => ?_) | (with_reducible refine block_step ?_) | ((with_reducible refine cond_t ?_ ?_); focus rfl) | ((with_reducible refine cond_f ?_ ?_); focus rfl) | ((with_reducible refine code_id ?_); conv => whnf) | (clear hK; (with_reducible refine hK _ _ _ ?_); clear hK) | (clear hK; clear hK; (with_reducible refine hK _ _ _ ?_); clear hK) | (clear hK; clear hK; clear hK; (with_reducible refine hK _ _ _ ?_); clear hK) | (clear hK; clear hK; clear hK; clear hK; (with_reducible refine hK _ _ _ ?_); clear hK) | (clear hK; clear hK; clear hK; clear hK; clear hK; (with_reducible refine hK _ _ _ ?_); clear hK) | (clear hK; clear hK; clear hK; clear hK; clear hK; clear hK; (with_reducible refine hK _ _ _ ?_); clear hK) | (clear hK; clear hK; clear hK; clear hK; clear hK; clear hK; clear hK; (with_reducible refine hK _ _ _ ?_); clear hK))
        refine loop_intro (σ := Unit) (fun _ => [(3, .v (ptr b)), (5, .v (.slice bl (allOf S).length cl)), (6, .v (iv n)), (7, .v (.slice none 0 0)), (8, .v (iv 83)), (9, .l 9 0), (10, .v (iv 0))]) (fun _ => [(9, [iv 0, iv 0, iv 0, iv 0])]) (fun _ => g) (fun _ => True) (fun _ => 0) () trivial
          (subE_cons rfl (subE_cons rfl (subE_cons rfl (subE_cons rfl (subE_cons rfl (subE_cons rfl (subE_cons rfl subE_nil))))))) (subB_cons rfl subB_nil) rfl ?_
        rintro _ -
        repeat (first | ((with_reducible refine hK _ _ _ ?_); clear hK) | (with_reducible refine seq_step fun K hK => ?_) | (with_reducible refine block_step ?_) | ((with_reducible refine cond_t ?_ ?_); focus rfl) | ((with_reducible refine cond_f ?_ ?_); focus rfl) | ((with_reducible refine code_id ?_); conv => whnf) | (clear hK; (with_reducible refine hK _ _ _ ?_); clear hK) | (clear hK; clear hK; (with_reducible refine hK _ _ _ ?_); clear hK) | (clear hK; clear hK; clear hK; (with_reducible refine hK _ _ _ ?_); clear hK) | (clear hK; clear hK; clear hK; clear hK; (with_reducible refine hK _ _ _ ?_); clear hK) | (clear hK; clear hK; clear hK; clear hK; clear hK; (with_reducible refine hK _ _ _ ?_); clear hK) | (clear hK; clear hK; clear hK; clear hK; clear hK; clear hK; (with_reducible refine hK _ _ _ ?_); clear hK) | (clear hK; clear hK; clear hK; clear hK; clear hK; clear hK; clear hK; (with_reducible refine hK _ _ _ ?_); clear hK))
        refine ⟨fun _ => none, _, (fun _ _ h => by cases h), SubB.refl _, ?_⟩
        conv => whnf
        refine ⟨fun _ => none, _, (fun _ _ h => by cases h), SubB.refl _, ?_⟩
        conv => whnf
        refine count0 hw hno (hg.swap) 1 fun g6 hg6 => ?_
        conv => whnf
        refine ⟨fun _ => none, _, ⟨SubH.refl _, SubB.refl _⟩, (fun _ _ h => by cases h), SubB.refl _, ?_⟩
        conv => whnf
        refine count0 hw hno (hg6) 2 fun g7 hg7 => ?_
        conv => whnf
        refine ⟨fun _ => none, _, ⟨SubH.refl _, SubB.refl _⟩, (fun _ _ h => by cases h), SubB.refl _, ?_⟩
        conv => whnf
        refine count0 hw hno (hg7) 3 fun g8 hg8 => ?_
        conv => whnf
        refine ⟨⟨(fun _ _ h => by cases h), SubB.refl _⟩, ?_⟩
        conv => whnf
        repeat (first | ((with_reducible refine hK _ _ _ ?_); clear hK) | (with_reducible refine seq_step fun K hK => ?_) | (with_reducible refine block_step ?_) | ((with_reducible refine cond_t ?_ ?_); focus rfl) | ((with_reducible refine cond_f ?_ ?_); focus rfl) | ((with_reducible refine code_id ?_); conv => whnf) | (clear hK; (with_reducible refine hK _ _ _ ?_); clear hK) | (clear hK; clear hK; (with_reducible refine hK _ _ _ ?_); clear hK) | (clear hK; clear hK; clear hK; (with_reducible refine hK _ _ _ ?_); clear hK) | (clear hK; clear hK; clear hK; clear hK; (with_reducible refine hK _ _ _ ?_); clear hK) | (clear hK; clear hK; clear hK; clear hK; clear hK; (with_reducible refine hK _ _ _ ?_); clear hK) | (clear hK; clear hK; clear hK; clear hK; clear hK; clear hK; (with_reducible refine hK _ _ _ ?_); clear hK) | (clear hK; clear hK; clear hK; clear hK; clear hK; clear hK; clear hK; (with_reducible refine hK _ _ _ ?_); clear hK) | (refine ⟨_, _, SubH.refl _, SubB.refl _, ?_⟩; conv => whnf) | (refine ⟨⟨SubH.refl _, SubB.refl _⟩, ?_⟩; conv => whnf) | (refine ⟨_, _, ⟨SubH.refl _, SubB.refl _⟩, SubH.refl _, SubB.refl _, ?_⟩; conv => whnf))
        exact ⟨(n + 1, g8), ⟨hn16, hg8.swap⟩, by dsimp only; omega, subE_cons rfl (subE_cons rfl (subE_cons (int_eq hnext rfl) subE_nil)), subB_nil, rfl⟩
      · obtain rfl : n = n' := by omega
        obtain ⟨bm, cm, hs⟩ := hg2.slv 0 rfl
        subst hs
        obtain ⟨nt, tt, lt, ent, hgt, htt⟩ := got_open hop
        obtain rfl : n = nt := by omega
        have hcl : cnt lt = (lsOf S n).length := by
          have h1 := ls_cnt hw htt 48 (Nat.le_refl _)
          rw [List.take_of_length_le (by rw [hw.tl htt]; exact Nat.le_refl _)] at h1
          exact h1.symm
        have hg2 : Has (HsP (.slice bm (lsOf S n).length cm) (lsOf S n) :: HsP (.slice bl (allOf S).length cl) (allOf S) :: CapsA b S :: [Is h]) g2 := hg2.map_tail fun g hg => hg.swap
        conv => whnf
        repeat (first | ((with_reducible refine hK _ _ _ ?_); clear hK) | (with_reducible refine seq_step fun K hK => ?_) | (with_reducible refine block_step ?_) | ((with_reducible refine cond_t ?_ ?_); focus rfl) | ((with_reducible refine cond_f ?_ ?_); focus rfl) | ((with_reducible refine code_id ?_); conv => whnf) | (clear hK; (with_reducible refine hK _ _ _ ?_); clear hK) | (clear hK; clear hK; (with_reducible refine hK _ _ _ ?_); clear hK) | (clear hK; clear hK; clear hK; (with_reducible refine hK _ _ _ ?_); clear hK) | (clear hK; clear hK; clear hK; clear hK; (with_reducible refine hK _ _ _ ?_); clear hK) | (clear hK; clear hK; clear hK; clear hK; clear hK; (with_reducible refine hK _ _ _ ?_); clear hK) | (clear hK; clear hK; clear hK; clear hK; clear hK; clear hK; (with_reducible refine hK _ _ _ ?_); clear hK) | (clear hK; clear hK; clear hK; clear hK; clear hK; clear hK; clear hK; (with_reducible refine hK _ _ _ ?_); clear hK))
        refine loop_intro (σ := Nat × Hp) (fun s => [(3, .v (ptr b)), (5, .v (.slice bl (allOf S).length cl)), (6, .v (iv n)), (7, .v (.slice bm (lsOf S n).length cm)), (8, .v (iv 0)), (9, .l 9 0), (10, .v (iv s.1))]) (fun s => [(9, cntB (lsOf S n) s.1)]) (fun s => s.2)
          (fun s => s.1 ≤ (lsOf S n).length ∧ Has (HsP (.slice bm (lsOf S n).length cm) (lsOf S n) :: HsP (.slice bl (allOf S).length cl) (allOf S) :: CapsA b S :: [Is h]) s.2) (fun s => (lsOf S n).length - s.1) (0, g2) ⟨Nat.zero_le _, hg2⟩
          (subE_cons rfl (subE_cons rfl (subE_cons rfl (subE_cons rfl (subE_cons rfl (subE_cons rfl (subE_cons rfl subE_nil))))))) (subB_cons rfl subB_nil) rfl ?_
        clear hg2
        rintro ⟨i, g3⟩ ⟨hi, hg3⟩
        dsimp only at hi hg3 ⊢
        have hnext2 : IntKind.i64.wrap ((i : Int) + 1) = ((i + 1 : Nat) : Int) := wrap_nat (by omega)
        repeat (first | ((with_reducible refine hK _ _ _ ?_); clear hK) | (with_reducible refine seq_step fun K hK => ?_) | (with_reducible refine block_step ?_) | ((with_reducible refine cond_t ?_ ?_); focus rfl) | ((with_reducible refine cond_f ?_ ?_); focus rfl) | ((with_reducible refine code_id ?_); conv => whnf) | (clear hK; (with_reducible refine hK _ _ _ ?_); clear hK) | (clear hK; clear hK; (with_reducible refine hK _ _ _ ?_); clear hK) | (clear hK; clear hK; clear hK; (with_reducible refine hK _ _ _ ?_); clear hK) | (clear hK; clear hK; clear hK; clear hK; (with_reducible refine hK _ _ _ ?_); clear hK) | (clear hK; clear hK; clear hK; clear hK; clear hK; (with_reducible refine hK _ _ _ ?_); clear hK) | (clear hK; clear hK; clear hK; clear hK; clear hK; clear hK; (with_reducible refine hK _ _ _ ?_); clear hK) | (clear hK; clear hK; clear hK; clear hK; clear hK; clear hK; clear hK; (with_reducible refine hK _ _ _ ?_); clear hK))
        refine cond_dec (fun hlt2 => ?_) (fun hge2 => ?_)
        · have hil : i < (lsOf S n).length := by omega
          obtain ⟨bb, o, cap', cc, ty, z, hsl, hbb, h0, h1, h6, _⟩ := hs_at (hg3.wn 0 rfl) hil
          obtain ⟨c, hc, hx0, hcn⟩ := (mem_lsOf hw).1 (List.getElem_mem hil)
          have hok := hw.okc c hc
          obtain ⟨ck, hck1, hck2, hck3⟩ := cntB_step hil (by omega) (by rw [hx0]; exact hok.1)
          rw [hx0] at hck1 hck3
          rw [hsl]
          repeat (first | ((with_reducible refine hK _ _ _ ?_); clear hK) | (with_reducible refine seq_step fun K hK => ?_) | (with_reducible refine block_step ?_) | ((with_reducible refine cond_t ?_ ?_); focus rfl) | ((with_reducible refine cond_f ?_ ?_); focus rfl) | ((with_reducible refine code_id ?_); conv => whnf) | (clear hK; (with_reducible refine hK _ _ _ ?_); clear hK) | (clear hK; clear hK; (with_reducible refine hK _ _ _ ?_); clear hK) | (clear hK; clear hK; clear hK; (with_reducible refine hK _ _ _ ?_); clear hK) | (clear hK; clear hK; clear hK; clear hK; (with_reducible refine hK _ _ _ ?_); clear hK) | (clear hK; clear hK; clear hK; clear hK; clear hK; (with_reducible refine hK _ _ _ ?_); clear hK) | (clear hK; clear hK; clear hK; clear hK; clear hK; clear hK; (with_reducible refine hK _ _ _ ?_); clear hK) | (clear hK; clear hK; clear hK; clear hK; clear hK; clear hK; clear hK; (with_reducible refine hK _ _ _ ?_); clear hK))
          refine opt_if ⟨by omega, by omega⟩ ?_
          conv => whnf
          refine opt_ld hbb (v := .agg (hdC (lsOf S n)[i]).toArray) (by show rd cc (o + (i : Int).toNat * 6) 6 true = _; rw [Int.toNat_natCast]; exact h6) ?_
          rw [hx0]
          conv => whnf
          repeat (first | ((with_reducible refine hK _ _ _ ?_); clear hK) | (with_reducible refine seq_step fun K hK => ?_) | (with_reducible refine block_step ?_) | ((with_reducible refine cond_t ?_ ?_); focus rfl) | ((with_reducible refine cond_f ?_ ?_); focus rfl) | ((with_reducible refine code_id ?_); conv => whnf) | (clear hK; (with_reducible refine hK _ _ _ ?_); clear hK) | (clear hK; clear hK; (with_reducible refine hK _ _ _ ?_); clear hK) | (clear hK; clear hK; clear hK; (with_reducible refine hK _ _ _ ?_); clear hK) | (clear hK; clear hK; clear hK; clear hK; (with_reducible refine hK _ _ _ ?_); clear hK) | (clear hK; clear hK; clear hK; clear hK; clear hK; (with_reducible refine hK _ _ _ ?_); clear hK) | (clear hK; clear hK; clear hK; clear hK; clear hK; clear hK; (with_reducible refine hK _ _ _ ?_); clear hK) | (clear hK; clear hK; clear hK; clear hK; clear hK; clear hK; clear hK; (with_reducible refine hK _ _ _ ?_); clear hK))
          refine get19 hw (CapsA.rd hg3 2 rfl) n (hdOf c).slot (fun k hk => ?_) (fun c' hc' he' hs' => ?_)
          · have h9 := mLook_of hw hc
            rw [hcn] at h9
            have hk : mLook S.tb (n : Int) (c.slot : Int) = .inl k := hk
            rw [h9] at hk; cases hk
          · have hcc' : c = c' := hw.place hc hc' (by omega) (by have : (c.slot : Int) = c'.slot := hs'; omega)
            subst hcc'
            conv => whnf
            repeat (first | ((with_reducible refine hK _ _ _ ?_); clear hK) | (with_reducible refine seq_step fun K hK => ?_) | (with_reducible refine block_step ?_) | ((with_reducible refine cond_t ?_ ?_); focus rfl) | ((with_reducible refine cond_f ?_ ?_); focus rfl) | ((with_reducible refine code_id ?_); conv => whnf) | (clear hK; (with_reducible refine hK _ _ _ ?_); clear hK) | (clear hK; clear hK; (with_reducible refine hK _ _ _ ?_); clear hK) | (clear hK; clear hK; clear hK; (with_reducible refine hK _ _ _ ?_); clear hK) | (clear hK; clear hK; clear hK; clear hK; (with_reducible refine hK _ _ _ ?_); clear hK) | (clear hK; clear hK; clear hK; clear hK; clear hK; (with_reducible refine hK _ _ _ ?_); clear hK) | (clear hK; clear hK; clear hK; clear hK; clear hK; clear hK; (with_reducible refine hK _ _ _ ?_); clear hK) | (clear hK; clear hK; clear hK; clear hK; clear hK; clear hK; clear hK; (with_reducible refine hK _ _ _ ?_); clear hK) | (refine ⟨_, _, SubH.refl _, SubB.refl _, ?_⟩; conv => whnf) | (refine ⟨⟨SubH.refl _, SubB.refl _⟩, ?_⟩; conv => whnf) | (refine ⟨_, _, ⟨SubH.refl _, SubB.refl _⟩, SubH.refl _, SubB.refl _, ?_⟩; conv => whnf))
            rw [show ((c.cap.kind == (hdOf c).cap.kind) && ((c.cap.obj == (hdOf c).cap.obj) && ((c.cap.serial == (hdOf c).cap.serial) && ((c.cap.rights == (hdOf c).cap.rights) && true)))) = true by simp [hdOf]]
            conv => whnf
            rw [show ((((hdOf c).env : Nat) : Int) != (n : Int)) = false by rw [show (hdOf c).env = n from hcn]; exact bne_self_eq_false _]
            conv => whnf
            rw [show decide (c.cap.kind < 1) = false from decide_eq_false (by have := hok.1; omega)]
            conv => whnf
            rw [show decide (c.cap.kind > 3) = false from decide_eq_false (by have := hok.1; omega)]
            conv => whnf
            by_cases hi0 : 0 < i
            · rw [show decide ((i : Int) > 0) = true from decide_eq_true (by omega)]
              conv => whnf
              have hprev : IntKind.i64.wrap ((i : Int) - 1) = ((i - 1 : Nat) : Int) := by rw [wrap_i64] <;> omega
              rw [hprev]
              obtain ⟨bb9, o9, cap9, cc9, ty9, z9, hsl9, hbb9, _, h19, _, _⟩ := hs_at (hg3.wn 0 rfl) (show i - 1 < (lsOf S n).length by omega)
              rw [hsl] at hsl9
              injection hsl9 with e1 e2 e3
              injection e1 with e1
              injection e1 with e1 e4 e5
              subst e1 e4
              have hsorted : (lsOf S n)[i - 1].slot < c.slot := by
                have hp := (lsTo_sorted hw n 48).1
                have h2 := List.pairwise_iff_getElem.1 hp (i - 1) i (show i - 1 < (lsOf S n).length by omega) hil (by omega)
                have h3 : posH (lsOf S n)[i - 1] < posH (lsOf S n)[i] := h2
                rw [hx0] at h3
                obtain ⟨c2, hc2, hx2, hcn2⟩ := (mem_lsOf hw).1 (List.getElem_mem (show i - 1 < (lsOf S n).length by omega))
                rw [hx2] at h3 ⊢
                unfold posH hdOf at h3
                dsimp only at h3
                show c2.slot < c.slot
                omega
              refine opt_if ⟨by omega, by omega⟩ ?_
              conv => whnf
              refine opt_ld hbb9 (v := iv (lsOf S n)[i - 1].slot) (by show cc9[o + ((i - 1 : Nat) : Int).toNat * 6 + 1]? = _; rw [Int.toNat_natCast]; exact h19) ?_
              conv => whnf
              rw [show decide ((((lsOf S n)[i - 1].slot : Nat) : Int) ≥ (((hdOf c).slot : Nat) : Int)) = false from decide_eq_false (by show ¬ ((((lsOf S n)[i - 1].slot : Nat) : Int) ≥ ((c.slot : Nat) : Int)); omega)]
              conv => whnf
              repeat (first | ((with_reducible refine hK _ _ _ ?_); clear hK) | (with_reducible refine seq_step fun K hK => ?_) | (with_reducible refine block_step ?_) | ((with_reducible refine cond_t ?_ ?_); focus rfl) | ((with_reducible refine cond_f ?_ ?_); focus rfl) | ((with_reducible refine code_id ?_); conv => whnf) | (clear hK; (with_reducible refine hK _ _ _ ?_); clear hK) | (clear hK; clear hK; (with_reducible refine hK _ _ _ ?_); clear hK) | (clear hK; clear hK; clear hK; (with_reducible refine hK _ _ _ ?_); clear hK) | (clear hK; clear hK; clear hK; clear hK; (with_reducible refine hK _ _ _ ?_); clear hK) | (clear hK; clear hK; clear hK; clear hK; clear hK; (with_reducible refine hK _ _ _ ?_); clear hK) | (clear hK; clear hK; clear hK; clear hK; clear hK; clear hK; (with_reducible refine hK _ _ _ ?_); clear hK) | (clear hK; clear hK; clear hK; clear hK; clear hK; clear hK; clear hK; (with_reducible refine hK _ _ _ ?_); clear hK) | (refine ⟨_, _, SubH.refl _, SubB.refl _, ?_⟩; conv => whnf) | (refine ⟨⟨SubH.refl _, SubB.refl _⟩, ?_⟩; conv => whnf) | (refine ⟨_, _, ⟨SubH.refl _, SubB.refl _⟩, SubH.refl _, SubB.refl _, ?_⟩; conv => whnf))
              have hopn : ¬ (got S.tb (n : Int) = none ∨ c.cap.rights < 0 ∨ 15 < c.cap.rights) := fun e => by
                rcases e with e | e | e
                · rw [hgt] at e; cases e
                · have := hok.2.2.2; omega
                · have := hok.2.2.2; omega
              have hself : findM c.cap.kind c.cap.serial c.cap.rights c = true := by unfold findM; simp [subR_refl]
              refine opt_if ⟨by have := hok.1; omega, by have := hok.1; omega⟩ ?_
              conv => whnf
              refine opt_ldE2 (v := iv ck) rfl (by rw [show 0 + c.cap.kind.toNat * 1 = c.cap.kind.toNat by omega]; exact hck1) ?_
              conv => whnf
              refine opt_if ⟨by have := hok.1; omega, by have := hok.1; omega⟩ ?_
              conv => whnf
              refine opt_stE2 rfl (by show 0 + c.cap.kind.toNat * 1 < 4; have := hok.1; omega) rfl rfl ?_
              rw [show (cntB (lsOf S n) i).set (0 + c.cap.kind.toNat * 1) (Value.int .i64 (IntKind.i64.wrap ((ck : Int) + 1))) = cntB (lsOf S n) (i + 1) by
                rw [← hck3, show 0 + c.cap.kind.toNat * 1 = c.cap.kind.toNat by omega, wrap_nat (by omega)]; rfl]
              conv => whnf
              repeat (first | ((with_reducible refine hK _ _ _ ?_); clear hK) | (with_reducible refine seq_step fun K hK => ?_) | (with_reducible refine block_step ?_) | ((with_reducible refine cond_t ?_ ?_); focus rfl) | ((with_reducible refine cond_f ?_ ?_); focus rfl) | ((with_reducible refine code_id ?_); conv => whnf) | (clear hK; (with_reducible refine hK _ _ _ ?_); clear hK) | (clear hK; clear hK; (with_reducible refine hK _ _ _ ?_); clear hK) | (clear hK; clear hK; clear hK; (with_reducible refine hK _ _ _ ?_); clear hK) | (clear hK; clear hK; clear hK; clear hK; (with_reducible refine hK _ _ _ ?_); clear hK) | (clear hK; clear hK; clear hK; clear hK; clear hK; (with_reducible refine hK _ _ _ ?_); clear hK) | (clear hK; clear hK; clear hK; clear hK; clear hK; clear hK; (with_reducible refine hK _ _ _ ?_); clear hK) | (clear hK; clear hK; clear hK; clear hK; clear hK; clear hK; clear hK; (with_reducible refine hK _ _ _ ?_); clear hK) | (refine ⟨_, _, SubH.refl _, SubB.refl _, ?_⟩; conv => whnf) | (refine ⟨⟨SubH.refl _, SubB.refl _⟩, ?_⟩; conv => whnf) | (refine ⟨_, _, ⟨SubH.refl _, SubB.refl _⟩, SubH.refl _, SubB.refl _, ?_⟩; conv => whnf))
              refine find27 hw (hg3.pull 2 rfl) n c.cap.kind c.cap.serial c.cap.rights (fun hb9 => absurd hb9 hopn) (fun n9 hn9 _ _ hno g5 hg5 => ?_) (fun n9 hn9 _ _ x hx hxn hxm hxl g5 hg5 => ?_)
              · exfalso
                have := hno c hc (by omega)
                rw [hself] at this; cases this
              have hxs := hxl c hc (by omega) hself
              have hxm2 : (x.cap.kind = c.cap.kind ∧ x.cap.serial = c.cap.serial) ∧ subR c.cap.rights x.cap.rights = true := by
                unfold findM at hxm
                simpa using hxm
              have hokx := (hw.okc x hx).2.2.2
              conv => whnf
              repeat (first | ((with_reducible refine hK _ _ _ ?_); clear hK) | (with_reducible refine seq_step fun K hK => ?_) | (with_reducible refine block_step ?_) | ((with_reducible refine cond_t ?_ ?_); focus rfl) | ((with_reducible refine cond_f ?_ ?_); focus rfl) | ((with_reducible refine code_id ?_); conv => whnf) | (clear hK; (with_reducible refine hK _ _ _ ?_); clear hK) | (clear hK; clear hK; (with_reducible refine hK _ _ _ ?_); clear hK) | (clear hK; clear hK; clear hK; (with_reducible refine hK _ _ _ ?_); clear hK) | (clear hK; clear hK; clear hK; clear hK; (with_reducible refine hK _ _ _ ?_); clear hK) | (clear hK; clear hK; clear hK; clear hK; clear hK; (with_reducible refine hK _ _ _ ?_); clear hK) | (clear hK; clear hK; clear hK; clear hK; clear hK; clear hK; (with_reducible refine hK _ _ _ ?_); clear hK) | (clear hK; clear hK; clear hK; clear hK; clear hK; clear hK; clear hK; (with_reducible refine hK _ _ _ ?_); clear hK) | (refine ⟨_, _, SubH.refl _, SubB.refl _, ?_⟩; conv => whnf) | (refine ⟨⟨SubH.refl _, SubB.refl _⟩, ?_⟩; conv => whnf) | (refine ⟨_, _, ⟨SubH.refl _, SubB.refl _⟩, SubH.refl _, SubB.refl _, ?_⟩; conv => whnf))
              refine has22 (l := lsOf S n) (s := .slice (some ⟨bb, o, none⟩) (lsOf S n).length cap') (by omega) (by rw [← hsl]; exact hg5.wn 1 rfl) n x.slot ?_
              rw [find_ls hw hx (by omega)]
              conv => whnf
              repeat (first | ((with_reducible refine hK _ _ _ ?_); clear hK) | (with_reducible refine seq_step fun K hK => ?_) | (with_reducible refine block_step ?_) | ((with_reducible refine cond_t ?_ ?_); focus rfl) | ((with_reducible refine cond_f ?_ ?_); focus rfl) | ((with_reducible refine code_id ?_); conv => whnf) | (clear hK; (with_reducible refine hK _ _ _ ?_); clear hK) | (clear hK; clear hK; (with_reducible refine hK _ _ _ ?_); clear hK) | (clear hK; clear hK; clear hK; (with_reducible refine hK _ _ _ ?_); clear hK) | (clear hK; clear hK; clear hK; clear hK; (with_reducible refine hK _ _ _ ?_); clear hK) | (clear hK; clear hK; clear hK; clear hK; clear hK; (with_reducible refine hK _ _ _ ?_); clear hK) | (clear hK; clear hK; clear hK; clear hK; clear hK; clear hK; (with_reducible refine hK _ _ _ ?_); clear hK) | (clear hK; clear hK; clear hK; clear hK; clear hK; clear hK; clear hK; (with_reducible refine hK _ _ _ ?_); clear hK) | (refine ⟨_, _, SubH.refl _, SubB.refl _, ?_⟩; conv => whnf) | (refine ⟨⟨SubH.refl _, SubB.refl _⟩, ?_⟩; conv => whnf) | (refine ⟨_, _, ⟨SubH.refl _, SubB.refl _⟩, SubH.refl _, SubB.refl _, ?_⟩; conv => whnf))
              rw [show decide (((x.slot : Nat) : Int) > (((hdOf c).slot : Nat) : Int)) = false from decide_eq_false (by show ¬ (((x.slot : Nat) : Int) > ((c.slot : Nat) : Int)); omega)]
              conv => whnf
              rw [show ((hdOf x).cap.kind != c.cap.kind) = false by rw [show (hdOf x).cap.kind = c.cap.kind from hxm2.1.1]; exact bne_self_eq_false _]
              conv => whnf
              rw [show ((hdOf x).cap.serial != c.cap.serial) = false by rw [show (hdOf x).cap.serial = c.cap.serial from hxm2.1.2]; exact bne_self_eq_false _]
              conv => whnf
              rw [andS2 (hdOf x).cap.rights c.cap.rights hok.2.2.2.1 hok.2.2.2.2 hokx.1 hokx.2, show subR c.cap.rights (hdOf x).cap.rights = true from hxm2.2]
              conv => whnf
              repeat (first | ((with_reducible refine hK _ _ _ ?_); clear hK) | (with_reducible refine seq_step fun K hK => ?_) | (with_reducible refine block_step ?_) | ((with_reducible refine cond_t ?_ ?_); focus rfl) | ((with_reducible refine cond_f ?_ ?_); focus rfl) | ((with_reducible refine code_id ?_); conv => whnf) | (clear hK; (with_reducible refine hK _ _ _ ?_); clear hK) | (clear hK; clear hK; (with_reducible refine hK _ _ _ ?_); clear hK) | (clear hK; clear hK; clear hK; (with_reducible refine hK _ _ _ ?_); clear hK) | (clear hK; clear hK; clear hK; clear hK; (with_reducible refine hK _ _ _ ?_); clear hK) | (clear hK; clear hK; clear hK; clear hK; clear hK; (with_reducible refine hK _ _ _ ?_); clear hK) | (clear hK; clear hK; clear hK; clear hK; clear hK; clear hK; (with_reducible refine hK _ _ _ ?_); clear hK) | (clear hK; clear hK; clear hK; clear hK; clear hK; clear hK; clear hK; (with_reducible refine hK _ _ _ ?_); clear hK) | (refine ⟨_, _, SubH.refl _, SubB.refl _, ?_⟩; conv => whnf) | (refine ⟨⟨SubH.refl _, SubB.refl _⟩, ?_⟩; conv => whnf) | (refine ⟨_, _, ⟨SubH.refl _, SubB.refl _⟩, SubH.refl _, SubB.refl _, ?_⟩; conv => whnf))
              exact ⟨(i + 1, g5), ⟨hil, (hg5.pull 1 rfl).map_tail fun g hg => hg.pull 1 rfl⟩, by dsimp only; omega, subE_cons rfl (subE_cons rfl (subE_cons rfl (subE_cons (by rw [hsl]; rfl) (subE_cons rfl (subE_cons rfl (subE_cons (int_eq hnext2 rfl) subE_nil)))))), subB_cons rfl subB_nil, rfl⟩
            · rw [show decide ((i : Int) > 0) = false from decide_eq_false (by omega)]
              conv => whnf
              repeat (first | ((with_reducible refine hK _ _ _ ?_); clear hK) | (with_reducible refine seq_step fun K hK => ?_) | (with_reducible refine block_step ?_) | ((with_reducible refine cond_t ?_ ?_); focus rfl) | ((with_reducible refine cond_f ?_ ?_); focus rfl) | ((with_reducible refine code_id ?_); conv => whnf) | (clear hK; (with_reducible refine hK _ _ _ ?_); clear hK) | (clear hK; clear hK; (with_reducible refine hK _ _ _ ?_); clear hK) | (clear hK; clear hK; clear hK; (with_reducible refine hK _ _ _ ?_); clear hK) | (clear hK; clear hK; clear hK; clear hK; (with_reducible refine hK _ _ _ ?_); clear hK) | (clear hK; clear hK; clear hK; clear hK; clear hK; (with_reducible refine hK _ _ _ ?_); clear hK) | (clear hK; clear hK; clear hK; clear hK; clear hK; clear hK; (with_reducible refine hK _ _ _ ?_); clear hK) | (clear hK; clear hK; clear hK; clear hK; clear hK; clear hK; clear hK; (with_reducible refine hK _ _ _ ?_); clear hK) | (refine ⟨_, _, SubH.refl _, SubB.refl _, ?_⟩; conv => whnf) | (refine ⟨⟨SubH.refl _, SubB.refl _⟩, ?_⟩; conv => whnf) | (refine ⟨_, _, ⟨SubH.refl _, SubB.refl _⟩, SubH.refl _, SubB.refl _, ?_⟩; conv => whnf))
              have hopn : ¬ (got S.tb (n : Int) = none ∨ c.cap.rights < 0 ∨ 15 < c.cap.rights) := fun e => by
                rcases e with e | e | e
                · rw [hgt] at e; cases e
                · have := hok.2.2.2; omega
                · have := hok.2.2.2; omega
              have hself : findM c.cap.kind c.cap.serial c.cap.rights c = true := by unfold findM; simp [subR_refl]
              refine opt_if ⟨by have := hok.1; omega, by have := hok.1; omega⟩ ?_
              conv => whnf
              refine opt_ldE2 (v := iv ck) rfl (by rw [show 0 + c.cap.kind.toNat * 1 = c.cap.kind.toNat by omega]; exact hck1) ?_
              conv => whnf
              refine opt_if ⟨by have := hok.1; omega, by have := hok.1; omega⟩ ?_
              conv => whnf
              refine opt_stE2 rfl (by show 0 + c.cap.kind.toNat * 1 < 4; have := hok.1; omega) rfl rfl ?_
              rw [show (cntB (lsOf S n) i).set (0 + c.cap.kind.toNat * 1) (Value.int .i64 (IntKind.i64.wrap ((ck : Int) + 1))) = cntB (lsOf S n) (i + 1) by
                rw [← hck3, show 0 + c.cap.kind.toNat * 1 = c.cap.kind.toNat by omega, wrap_nat (by omega)]; rfl]
              conv => whnf
              repeat (first | ((with_reducible refine hK _ _ _ ?_); clear hK) | (with_reducible refine seq_step fun K hK => ?_) | (with_reducible refine block_step ?_) | ((with_reducible refine cond_t ?_ ?_); focus rfl) | ((with_reducible refine cond_f ?_ ?_); focus rfl) | ((with_reducible refine code_id ?_); conv => whnf) | (clear hK; (with_reducible refine hK _ _ _ ?_); clear hK) | (clear hK; clear hK; (with_reducible refine hK _ _ _ ?_); clear hK) | (clear hK; clear hK; clear hK; (with_reducible refine hK _ _ _ ?_); clear hK) | (clear hK; clear hK; clear hK; clear hK; (with_reducible refine hK _ _ _ ?_); clear hK) | (clear hK; clear hK; clear hK; clear hK; clear hK; (with_reducible refine hK _ _ _ ?_); clear hK) | (clear hK; clear hK; clear hK; clear hK; clear hK; clear hK; (with_reducible refine hK _ _ _ ?_); clear hK) | (clear hK; clear hK; clear hK; clear hK; clear hK; clear hK; clear hK; (with_reducible refine hK _ _ _ ?_); clear hK) | (refine ⟨_, _, SubH.refl _, SubB.refl _, ?_⟩; conv => whnf) | (refine ⟨⟨SubH.refl _, SubB.refl _⟩, ?_⟩; conv => whnf) | (refine ⟨_, _, ⟨SubH.refl _, SubB.refl _⟩, SubH.refl _, SubB.refl _, ?_⟩; conv => whnf))
              refine find27 hw (hg3.pull 2 rfl) n c.cap.kind c.cap.serial c.cap.rights (fun hb9 => absurd hb9 hopn) (fun n9 hn9 _ _ hno g5 hg5 => ?_) (fun n9 hn9 _ _ x hx hxn hxm hxl g5 hg5 => ?_)
              · exfalso
                have := hno c hc (by omega)
                rw [hself] at this; cases this
              have hxs := hxl c hc (by omega) hself
              have hxm2 : (x.cap.kind = c.cap.kind ∧ x.cap.serial = c.cap.serial) ∧ subR c.cap.rights x.cap.rights = true := by
                unfold findM at hxm
                simpa using hxm
              have hokx := (hw.okc x hx).2.2.2
              conv => whnf
              repeat (first | ((with_reducible refine hK _ _ _ ?_); clear hK) | (with_reducible refine seq_step fun K hK => ?_) | (with_reducible refine block_step ?_) | ((with_reducible refine cond_t ?_ ?_); focus rfl) | ((with_reducible refine cond_f ?_ ?_); focus rfl) | ((with_reducible refine code_id ?_); conv => whnf) | (clear hK; (with_reducible refine hK _ _ _ ?_); clear hK) | (clear hK; clear hK; (with_reducible refine hK _ _ _ ?_); clear hK) | (clear hK; clear hK; clear hK; (with_reducible refine hK _ _ _ ?_); clear hK) | (clear hK; clear hK; clear hK; clear hK; (with_reducible refine hK _ _ _ ?_); clear hK) | (clear hK; clear hK; clear hK; clear hK; clear hK; (with_reducible refine hK _ _ _ ?_); clear hK) | (clear hK; clear hK; clear hK; clear hK; clear hK; clear hK; (with_reducible refine hK _ _ _ ?_); clear hK) | (clear hK; clear hK; clear hK; clear hK; clear hK; clear hK; clear hK; (with_reducible refine hK _ _ _ ?_); clear hK) | (refine ⟨_, _, SubH.refl _, SubB.refl _, ?_⟩; conv => whnf) | (refine ⟨⟨SubH.refl _, SubB.refl _⟩, ?_⟩; conv => whnf) | (refine ⟨_, _, ⟨SubH.refl _, SubB.refl _⟩, SubH.refl _, SubB.refl _, ?_⟩; conv => whnf))
              refine has22 (l := lsOf S n) (s := .slice (some ⟨bb, o, none⟩) (lsOf S n).length cap') (by omega) (by rw [← hsl]; exact hg5.wn 1 rfl) n x.slot ?_
              rw [find_ls hw hx (by omega)]
              conv => whnf
              repeat (first | ((with_reducible refine hK _ _ _ ?_); clear hK) | (with_reducible refine seq_step fun K hK => ?_) | (with_reducible refine block_step ?_) | ((with_reducible refine cond_t ?_ ?_); focus rfl) | ((with_reducible refine cond_f ?_ ?_); focus rfl) | ((with_reducible refine code_id ?_); conv => whnf) | (clear hK; (with_reducible refine hK _ _ _ ?_); clear hK) | (clear hK; clear hK; (with_reducible refine hK _ _ _ ?_); clear hK) | (clear hK; clear hK; clear hK; (with_reducible refine hK _ _ _ ?_); clear hK) | (clear hK; clear hK; clear hK; clear hK; (with_reducible refine hK _ _ _ ?_); clear hK) | (clear hK; clear hK; clear hK; clear hK; clear hK; (with_reducible refine hK _ _ _ ?_); clear hK) | (clear hK; clear hK; clear hK; clear hK; clear hK; clear hK; (with_reducible refine hK _ _ _ ?_); clear hK) | (clear hK; clear hK; clear hK; clear hK; clear hK; clear hK; clear hK; (with_reducible refine hK _ _ _ ?_); clear hK) | (refine ⟨_, _, SubH.refl _, SubB.refl _, ?_⟩; conv => whnf) | (refine ⟨⟨SubH.refl _, SubB.refl _⟩, ?_⟩; conv => whnf) | (refine ⟨_, _, ⟨SubH.refl _, SubB.refl _⟩, SubH.refl _, SubB.refl _, ?_⟩; conv => whnf))
              rw [show decide (((x.slot : Nat) : Int) > (((hdOf c).slot : Nat) : Int)) = false from decide_eq_false (by show ¬ (((x.slot : Nat) : Int) > ((c.slot : Nat) : Int)); omega)]
              conv => whnf
              rw [show ((hdOf x).cap.kind != c.cap.kind) = false by rw [show (hdOf x).cap.kind = c.cap.kind from hxm2.1.1]; exact bne_self_eq_false _]
              conv => whnf
              rw [show ((hdOf x).cap.serial != c.cap.serial) = false by rw [show (hdOf x).cap.serial = c.cap.serial from hxm2.1.2]; exact bne_self_eq_false _]
              conv => whnf
              rw [andS2 (hdOf x).cap.rights c.cap.rights hok.2.2.2.1 hok.2.2.2.2 hokx.1 hokx.2, show subR c.cap.rights (hdOf x).cap.rights = true from hxm2.2]
              conv => whnf
              repeat (first | ((with_reducible refine hK _ _ _ ?_); clear hK) | (with_reducible refine seq_step fun K hK => ?_) | (with_reducible refine block_step ?_) | ((with_reducible refine cond_t ?_ ?_); focus rfl) | ((with_reducible refine cond_f ?_ ?_); focus rfl) | ((with_reducible refine code_id ?_); conv => whnf) | (clear hK; (with_reducible refine hK _ _ _ ?_); clear hK) | (clear hK; clear hK; (with_reducible refine hK _ _ _ ?_); clear hK) | (clear hK; clear hK; clear hK; (with_reducible refine hK _ _ _ ?_); clear hK) | (clear hK; clear hK; clear hK; clear hK; (with_reducible refine hK _ _ _ ?_); clear hK) | (clear hK; clear hK; clear hK; clear hK; clear hK; (with_reducible refine hK _ _ _ ?_); clear hK) | (clear hK; clear hK; clear hK; clear hK; clear hK; clear hK; (with_reducible refine hK _ _ _ ?_); clear hK) | (clear hK; clear hK; clear hK; clear hK; clear hK; clear hK; clear hK; (with_reducible refine hK _ _ _ ?_); clear hK) | (refine ⟨_, _, SubH.refl _, SubB.refl _, ?_⟩; conv => whnf) | (refine ⟨⟨SubH.refl _, SubB.refl _⟩, ?_⟩; conv => whnf) | (refine ⟨_, _, ⟨SubH.refl _, SubB.refl _⟩, SubH.refl _, SubB.refl _, ?_⟩; conv => whnf))
              exact ⟨(i + 1, g5), ⟨hil, (hg5.pull 1 rfl).map_tail fun g hg => hg.pull 1 rfl⟩, by dsimp only; omega, subE_cons rfl (subE_cons rfl (subE_cons rfl (subE_cons (by rw [hsl]; rfl) (subE_cons rfl (subE_cons rfl (subE_cons (int_eq hnext2 rfl) subE_nil)))))), subB_cons rfl subB_nil, rfl⟩
        · have hie : i = (lsOf S n).length := by omega
          have hk1 : ∀ k : Int, S.cs.countP (fun c => decide (c.env = n) && decide (c.cap.kind = k)) = cntK (lsOf S n) i k := fun k => by
            unfold cntK
            rw [hie, List.take_length]
            exact (ls_count hw n fun c => decide (c.kind = k)).symm
          repeat (first | ((with_reducible refine hK _ _ _ ?_); clear hK) | (with_reducible refine seq_step fun K hK => ?_) | (with_reducible refine block_step ?_) | ((with_reducible refine cond_t ?_ ?_); focus rfl) | ((with_reducible refine cond_f ?_ ?_); focus rfl) | ((with_reducible refine code_id ?_); conv => whnf) | (clear hK; (with_reducible refine hK _ _ _ ?_); clear hK) | (clear hK; clear hK; (with_reducible refine hK _ _ _ ?_); clear hK) | (clear hK; clear hK; clear hK; (with_reducible refine hK _ _ _ ?_); clear hK) | (clear hK; clear hK; clear hK; clear hK; (with_reducible refine hK _ _ _ ?_); clear hK) | (clear hK; clear hK; clear hK; clear hK; clear hK; (with_reducible refine hK _ _ _ ?_); clear hK) | (clear hK; clear hK; clear hK; clear hK; clear hK; clear hK; (with_reducible refine hK _ _ _ ?_); clear hK) | (clear hK; clear hK; clear hK; clear hK; clear hK; clear hK; clear hK; (with_reducible refine hK _ _ _ ?_); clear hK) | (refine ⟨_, _, SubH.refl _, SubB.refl _, ?_⟩; conv => whnf) | (refine ⟨⟨SubH.refl _, SubB.refl _⟩, ?_⟩; conv => whnf) | (refine ⟨_, _, ⟨SubH.refl _, SubB.refl _⟩, SubH.refl _, SubB.refl _, ?_⟩; conv => whnf))
          refine room28 hw (CapsA.rd hg3 2 rfl) n (fun hno => by rw [hgt] at hno; cases hno) (fun t' l' hgt' => ?_)
          rw [hgt] at hgt'
          cases hgt'
          conv => whnf
          refine ⟨fun _ => none, _, (fun _ _ h => by cases h), SubB.refl _, ?_⟩
          conv => whnf
          rw [show ((48 : Int) - ((cnt lt : Nat) : Int) != IntKind.i64.wrap (48 - (((lsOf S n).length : Nat) : Int))) = false by
            rw [hcl, wrap_i64 (by omega) (by omega)]; exact bne_self_eq_false _]
          conv => whnf
          refine count29 hw (hg3.pull 2 rfl) n 1 (fun hno9 _ _ => by rw [hgt] at hno9; cases hno9) (fun n9 hn9 g6 hg6 => ?_)
          obtain rfl : n = n9 := by omega
          rw [hk1 1]
          conv => whnf
          refine ⟨fun _ => none, _, ⟨SubH.refl _, SubB.refl _⟩, (fun _ _ h => by cases h), SubB.refl _, ?_⟩
          conv => whnf
          rw [show (((cntK (lsOf S n) i 1 : Nat) : Int) != (cntK (lsOf S n) i 1 : Nat)) = false from bne_self_eq_false _]
          conv => whnf
          refine count29 hw (hg6) n 2 (fun hno9 _ _ => by rw [hgt] at hno9; cases hno9) (fun n9 hn9 g7 hg7 => ?_)
          obtain rfl : n = n9 := by omega
          rw [hk1 2]
          conv => whnf
          refine ⟨fun _ => none, _, ⟨SubH.refl _, SubB.refl _⟩, (fun _ _ h => by cases h), SubB.refl _, ?_⟩
          conv => whnf
          rw [show (((cntK (lsOf S n) i 2 : Nat) : Int) != (cntK (lsOf S n) i 2 : Nat)) = false from bne_self_eq_false _]
          conv => whnf
          refine count29 hw (hg7) n 3 (fun hno9 _ _ => by rw [hgt] at hno9; cases hno9) (fun n9 hn9 g8 hg8 => ?_)
          obtain rfl : n = n9 := by omega
          rw [hk1 3]
          conv => whnf
          refine ⟨⟨(fun _ _ h => by cases h), SubB.refl _⟩, ?_⟩
          conv => whnf
          rw [show (((cntK (lsOf S n) i 3 : Nat) : Int) != (cntK (lsOf S n) i 3 : Nat)) = false from bne_self_eq_false _]
          repeat (first | ((with_reducible refine hK _ _ _ ?_); clear hK) | (with_reducible refine seq_step fun K hK => ?_) | (with_reducible refine block_step ?_) | ((with_reducible refine cond_t ?_ ?_); focus rfl) | ((with_reducible refine cond_f ?_ ?_); focus rfl) | ((with_reducible refine code_id ?_); conv => whnf) | (clear hK; (with_reducible refine hK _ _ _ ?_); clear hK) | (clear hK; clear hK; (with_reducible refine hK _ _ _ ?_); clear hK) | (clear hK; clear hK; clear hK; (with_reducible refine hK _ _ _ ?_); clear hK) | (clear hK; clear hK; clear hK; clear hK; (with_reducible refine hK _ _ _ ?_); clear hK) | (clear hK; clear hK; clear hK; clear hK; clear hK; (with_reducible refine hK _ _ _ ?_); clear hK) | (clear hK; clear hK; clear hK; clear hK; clear hK; clear hK; (with_reducible refine hK _ _ _ ?_); clear hK) | (clear hK; clear hK; clear hK; clear hK; clear hK; clear hK; clear hK; (with_reducible refine hK _ _ _ ?_); clear hK) | (refine ⟨_, _, SubH.refl _, SubB.refl _, ?_⟩; conv => whnf) | (refine ⟨⟨SubH.refl _, SubB.refl _⟩, ?_⟩; conv => whnf) | (refine ⟨_, _, ⟨SubH.refl _, SubB.refl _⟩, SubH.refl _, SubB.refl _, ?_⟩; conv => whnf))
          exact ⟨(n + 1, g8), ⟨hn16, hg8.swap.tail.swap⟩, by dsimp only; omega, subE_cons rfl (subE_cons rfl (subE_cons (int_eq hnext rfl) subE_nil)), subB_nil, rfl⟩
    · repeat (first | ((with_reducible refine hK _ _ _ ?_); clear hK) | (with_reducible refine seq_step fun K hK => ?_) | (with_reducible refine block_step ?_) | ((with_reducible refine cond_t ?_ ?_); focus rfl) | ((with_reducible refine cond_f ?_ ?_); focus rfl) | ((with_reducible refine code_id ?_); conv => whnf) | (clear hK; (with_reducible refine hK _ _ _ ?_); clear hK) | (clear hK; clear hK; (with_reducible refine hK _ _ _ ?_); clear hK) | (clear hK; clear hK; clear hK; (with_reducible refine hK _ _ _ ?_); clear hK) | (clear hK; clear hK; clear hK; clear hK; (with_reducible refine hK _ _ _ ?_); clear hK) | (clear hK; clear hK; clear hK; clear hK; clear hK; (with_reducible refine hK _ _ _ ?_); clear hK) | (clear hK; clear hK; clear hK; clear hK; clear hK; clear hK; (with_reducible refine hK _ _ _ ?_); clear hK) | (clear hK; clear hK; clear hK; clear hK; clear hK; clear hK; clear hK; (with_reducible refine hK _ _ _ ?_); clear hK))
      exact ⟨g, hg, subE_cons rfl (subE_cons rfl subE_nil), subB_nil, rfl⟩
  clear hg1 hg
  rintro g hg
  refine cut_intro (σ := Hp) (fun _ => [(3, .v (ptr b)), (5, .v (.slice bl (allOf S).length cl))]) (fun _ => []) (fun g => g) (fun g => Has (HsP (.slice bl (allOf S).length cl) (allOf S) :: CapsA b S :: [Is h]) g) ?_ ?_
  · repeat (first | ((with_reducible refine hK _ _ _ ?_); clear hK) | (with_reducible refine seq_step fun K hK => ?_) | (with_reducible refine block_step ?_) | ((with_reducible refine cond_t ?_ ?_); focus rfl) | ((with_reducible refine cond_f ?_ ?_); focus rfl) | ((with_reducible refine code_id ?_); conv => whnf) | (clear hK; (with_reducible refine hK _ _ _ ?_); clear hK) | (clear hK; clear hK; (with_reducible refine hK _ _ _ ?_); clear hK) | (clear hK; clear hK; clear hK; (with_reducible refine hK _ _ _ ?_); clear hK) | (clear hK; clear hK; clear hK; clear hK; (with_reducible refine hK _ _ _ ?_); clear hK) | (clear hK; clear hK; clear hK; clear hK; clear hK; (with_reducible refine hK _ _ _ ?_); clear hK) | (clear hK; clear hK; clear hK; clear hK; clear hK; clear hK; (with_reducible refine hK _ _ _ ?_); clear hK) | (clear hK; clear hK; clear hK; clear hK; clear hK; clear hK; clear hK; (with_reducible refine hK _ _ _ ?_); clear hK))
    refine loop_intro (σ := Nat × Hp) (fun s => [(3, .v (ptr b)), (5, .v (.slice bl (allOf S).length cl)), (17, .v (iv s.1))]) (fun _ => []) (fun s => s.2)
      (fun s => s.1 ≤ (allOf S).length ∧ Has (HsP (.slice bl (allOf S).length cl) (allOf S) :: CapsA b S :: [Is h]) s.2) (fun s => (allOf S).length - s.1) (0, g) ⟨Nat.zero_le _, hg⟩
      (subE_cons rfl (subE_cons rfl (subE_cons rfl subE_nil))) subB_nil rfl ?_
    clear hg
    rintro ⟨i, g⟩ ⟨hi, hg⟩
    dsimp only at hi hg ⊢
    have hnext : IntKind.i64.wrap ((i : Int) + 1) = ((i + 1 : Nat) : Int) := wrap_nat (by omega)
    repeat (first | ((with_reducible refine hK _ _ _ ?_); clear hK) | (with_reducible refine seq_step fun K hK => ?_) | (with_reducible refine block_step ?_) | ((with_reducible refine cond_t ?_ ?_); focus rfl) | ((with_reducible refine cond_f ?_ ?_); focus rfl) | ((with_reducible refine code_id ?_); conv => whnf) | (clear hK; (with_reducible refine hK _ _ _ ?_); clear hK) | (clear hK; clear hK; (with_reducible refine hK _ _ _ ?_); clear hK) | (clear hK; clear hK; clear hK; (with_reducible refine hK _ _ _ ?_); clear hK) | (clear hK; clear hK; clear hK; clear hK; (with_reducible refine hK _ _ _ ?_); clear hK) | (clear hK; clear hK; clear hK; clear hK; clear hK; (with_reducible refine hK _ _ _ ?_); clear hK) | (clear hK; clear hK; clear hK; clear hK; clear hK; clear hK; (with_reducible refine hK _ _ _ ?_); clear hK) | (clear hK; clear hK; clear hK; clear hK; clear hK; clear hK; clear hK; (with_reducible refine hK _ _ _ ?_); clear hK))
    refine cond_dec (fun hlt => ?_) (fun hge => ?_)
    · have hil : i < (allOf S).length := by omega
      obtain ⟨bb, o, cap', cc, ty, z, hsl, hbb, _, _, _, h4⟩ := hs_at (hg.wn 0 rfl) hil
      have rdk : ∀ (j : Nat) (hj : j < (allOf S).length), ∃ cc ty z, g bb = some (.cells cc ty z) ∧ cc[o + j * 6 + 2 + 0]? = some (iv (allOf S)[j].cap.kind) ∧ cc[o + j * 6 + 2 + 1]? = some (iv (allOf S)[j].cap.obj) := fun j hj => by
        obtain ⟨bb2, o2, cap2, cc2, ty2, z2, hsl2, hbb2, _, _, h6, _⟩ := hs_at (hg.wn 0 rfl) hj
        rw [hsl] at hsl2
        injection hsl2 with e1 e2 e3
        injection e1 with e1
        injection e1 with e1 e4 e5
        subst e1 e4
        have hv := (hg.wn 0 rfl)
        obtain ⟨b3, o3, c3, t3, z3, cap3, f1, f2, f3, f4⟩ := hv.at (i := j) hj
        rw [hsl] at f1
        injection f1 with e1 e2 e3
        injection e1 with e1
        injection e1 with e1 e4 e5
        subst e1 e4
        refine ⟨c3, t3, z3, f2, ?_, ?_⟩
        · exact f4 2 _ (by rw [flat_get hdC_len (allOf S) j 2 _ (List.getElem?_eq_getElem hj) (by decide)]; rfl)
        · exact f4 3 _ (by rw [flat_get hdC_len (allOf S) j 3 _ (List.getElem?_eq_getElem hj) (by decide)]; rfl)
      obtain ⟨ci, ti, zi, hci, hki, hoi⟩ := rdk i hil
      repeat (first | ((with_reducible refine hK _ _ _ ?_); clear hK) | (with_reducible refine seq_step fun K hK => ?_) | (with_reducible refine block_step ?_) | ((with_reducible refine cond_t ?_ ?_); focus rfl) | ((with_reducible refine cond_f ?_ ?_); focus rfl) | ((with_reducible refine code_id ?_); conv => whnf) | (clear hK; (with_reducible refine hK _ _ _ ?_); clear hK) | (clear hK; clear hK; (with_reducible refine hK _ _ _ ?_); clear hK) | (clear hK; clear hK; clear hK; (with_reducible refine hK _ _ _ ?_); clear hK) | (clear hK; clear hK; clear hK; clear hK; (with_reducible refine hK _ _ _ ?_); clear hK) | (clear hK; clear hK; clear hK; clear hK; clear hK; (with_reducible refine hK _ _ _ ?_); clear hK) | (clear hK; clear hK; clear hK; clear hK; clear hK; clear hK; (with_reducible refine hK _ _ _ ?_); clear hK) | (clear hK; clear hK; clear hK; clear hK; clear hK; clear hK; clear hK; (with_reducible refine hK _ _ _ ?_); clear hK))
      refine loop_intro (σ := Nat) (fun s => [(3, .v (ptr b)), (5, .v (.slice bl (allOf S).length cl)), (17, .v (iv i)), (18, .v (iv (((allOf S).take s).countP fun x => decide (x.cap.kind = (allOf S)[i].cap.kind) && decide (x.cap.obj = (allOf S)[i].cap.obj) : Nat))), (19, .v (iv s))]) (fun _ => []) (fun _ => g)
        (fun s => s ≤ (allOf S).length) (fun s => (allOf S).length - s) 0 (Nat.zero_le _) (subE_cons rfl (subE_cons rfl (subE_cons rfl (subE_cons rfl (subE_cons rfl subE_nil))))) subB_nil rfl ?_
      intro j hj
      have hnext2 : IntKind.i64.wrap ((j : Int) + 1) = ((j + 1 : Nat) : Int) := wrap_nat (by omega)
      repeat (first | ((with_reducible refine hK _ _ _ ?_); clear hK) | (with_reducible refine seq_step fun K hK => ?_) | (with_reducible refine block_step ?_) | ((with_reducible refine cond_t ?_ ?_); focus rfl) | ((with_reducible refine cond_f ?_ ?_); focus rfl) | ((with_reducible refine code_id ?_); conv => whnf) | (clear hK; (with_reducible refine hK _ _ _ ?_); clear hK) | (clear hK; clear hK; (with_reducible refine hK _ _ _ ?_); clear hK) | (clear hK; clear hK; clear hK; (with_reducible refine hK _ _ _ ?_); clear hK) | (clear hK; clear hK; clear hK; clear hK; (with_reducible refine hK _ _ _ ?_); clear hK) | (clear hK; clear hK; clear hK; clear hK; clear hK; (with_reducible refine hK _ _ _ ?_); clear hK) | (clear hK; clear hK; clear hK; clear hK; clear hK; clear hK; (with_reducible refine hK _ _ _ ?_); clear hK) | (clear hK; clear hK; clear hK; clear hK; clear hK; clear hK; clear hK; (with_reducible refine hK _ _ _ ?_); clear hK))
      refine cond_dec (fun hlt2 => ?_) (fun hge2 => ?_)
      · have hjl : j < (allOf S).length := by omega
        obtain ⟨cj, tj, zj, hcj, hkj, hoj⟩ := rdk j hjl
        obtain ⟨KI, hKI⟩ : ∃ x, x = (allOf S)[i].cap.kind := ⟨_, rfl⟩
        obtain ⟨OI, hOI⟩ : ∃ x, x = (allOf S)[i].cap.obj := ⟨_, rfl⟩
        rw [← hKI] at hki
        rw [← hOI] at hoi
        have hcnt : ((allOf S).take (j + 1)).countP (fun x => decide (x.cap.kind = (allOf S)[i].cap.kind) && decide (x.cap.obj = (allOf S)[i].cap.obj)) = ((allOf S).take j).countP (fun x => decide (x.cap.kind = (allOf S)[i].cap.kind) && decide (x.cap.obj = (allOf S)[i].cap.obj)) + if (allOf S)[j].cap.kind = KI ∧ (allOf S)[j].cap.obj = OI then 1 else 0 := by
          rw [← List.take_append_getElem hjl, List.countP_append, List.countP_singleton, ← hKI, ← hOI]
          congr 1
          by_cases h1 : (allOf S)[j].cap.kind = KI <;> by_cases h2 : (allOf S)[j].cap.obj = OI <;> simp [h1, h2]
        have hcle : ((allOf S).take j).countP (fun x => decide (x.cap.kind = (allOf S)[i].cap.kind) && decide (x.cap.obj = (allOf S)[i].cap.obj)) ≤ 768 := Nat.le_trans List.countP_le_length (by rw [List.length_take]; omega)
        rw [hsl]
        repeat (first | ((with_reducible refine hK _ _ _ ?_); clear hK) | (with_reducible refine seq_step fun K hK => ?_) | (with_reducible refine block_step ?_) | ((with_reducible refine cond_t ?_ ?_); focus rfl) | ((with_reducible refine cond_f ?_ ?_); focus rfl) | ((with_reducible refine code_id ?_); conv => whnf) | (clear hK; (with_reducible refine hK _ _ _ ?_); clear hK) | (clear hK; clear hK; (with_reducible refine hK _ _ _ ?_); clear hK) | (clear hK; clear hK; clear hK; (with_reducible refine hK _ _ _ ?_); clear hK) | (clear hK; clear hK; clear hK; clear hK; (with_reducible refine hK _ _ _ ?_); clear hK) | (clear hK; clear hK; clear hK; clear hK; clear hK; (with_reducible refine hK _ _ _ ?_); clear hK) | (clear hK; clear hK; clear hK; clear hK; clear hK; clear hK; (with_reducible refine hK _ _ _ ?_); clear hK) | (clear hK; clear hK; clear hK; clear hK; clear hK; clear hK; clear hK; (with_reducible refine hK _ _ _ ?_); clear hK) | (refine ⟨_, _, SubH.refl _, SubB.refl _, ?_⟩; conv => whnf) | (refine ⟨⟨SubH.refl _, SubB.refl _⟩, ?_⟩; conv => whnf) | (refine ⟨_, _, ⟨SubH.refl _, SubB.refl _⟩, SubH.refl _, SubB.refl _, ?_⟩; conv => whnf))
        refine opt_if ⟨by omega, by omega⟩ ?_
        conv => whnf
        refine opt_ld hcj (v := iv (allOf S)[j].cap.kind) (by show cj[o + (j : Int).toNat * 6 + 2 + 0]? = _; rw [Int.toNat_natCast]; exact hkj) ?_
        conv => whnf
        refine opt_if ⟨by omega, by omega⟩ ?_
        conv => whnf
        refine opt_ld hci (v := iv KI) (by show ci[o + (i : Int).toNat * 6 + 2 + 0]? = _; rw [Int.toNat_natCast]; exact hki) ?_
        conv => whnf
        by_cases h1 : (allOf S)[j].cap.kind = KI
        · rw [show ((allOf S)[j].cap.kind == KI) = true from beq_iff_eq.2 h1]
          conv => whnf
          refine opt_if ⟨by omega, by omega⟩ ?_
          conv => whnf
          refine opt_ld hcj (v := iv (allOf S)[j].cap.obj) (by show cj[o + (j : Int).toNat * 6 + 2 + 1]? = _; rw [Int.toNat_natCast]; exact hoj) ?_
          conv => whnf
          refine opt_if ⟨by omega, by omega⟩ ?_
          conv => whnf
          refine opt_ld hci (v := iv OI) (by show ci[o + (i : Int).toNat * 6 + 2 + 1]? = _; rw [Int.toNat_natCast]; exact hoi) ?_
          conv => whnf
          by_cases h2 : (allOf S)[j].cap.obj = OI
          · rw [show ((allOf S)[j].cap.obj == OI) = true from beq_iff_eq.2 h2]
            rw [if_pos ⟨h1, h2⟩] at hcnt
            conv => whnf
            repeat (first | ((with_reducible refine hK _ _ _ ?_); clear hK) | (with_reducible refine seq_step fun K hK => ?_) | (with_reducible refine block_step ?_) | ((with_reducible refine cond_t ?_ ?_); focus rfl) | ((with_reducible refine cond_f ?_ ?_); focus rfl) | ((with_reducible refine code_id ?_); conv => whnf) | (clear hK; (with_reducible refine hK _ _ _ ?_); clear hK) | (clear hK; clear hK; (with_reducible refine hK _ _ _ ?_); clear hK) | (clear hK; clear hK; clear hK; (with_reducible refine hK _ _ _ ?_); clear hK) | (clear hK; clear hK; clear hK; clear hK; (with_reducible refine hK _ _ _ ?_); clear hK) | (clear hK; clear hK; clear hK; clear hK; clear hK; (with_reducible refine hK _ _ _ ?_); clear hK) | (clear hK; clear hK; clear hK; clear hK; clear hK; clear hK; (with_reducible refine hK _ _ _ ?_); clear hK) | (clear hK; clear hK; clear hK; clear hK; clear hK; clear hK; clear hK; (with_reducible refine hK _ _ _ ?_); clear hK) | (refine ⟨_, _, SubH.refl _, SubB.refl _, ?_⟩; conv => whnf) | (refine ⟨⟨SubH.refl _, SubB.refl _⟩, ?_⟩; conv => whnf) | (refine ⟨_, _, ⟨SubH.refl _, SubB.refl _⟩, SubH.refl _, SubB.refl _, ?_⟩; conv => whnf))
            exact ⟨j + 1, hjl, by omega, subE_cons rfl (subE_cons (by rw [hsl]; rfl) (subE_cons rfl (subE_cons (by rw [hcnt]; exact int_eq (wrap_nat (by omega)) rfl) (subE_cons (int_eq hnext2 rfl) subE_nil)))), subB_nil, rfl⟩
          · rw [show ((allOf S)[j].cap.obj == OI) = false from beq_eq_false_iff_ne.2 h2]
            rw [if_neg (fun e => h2 e.2)] at hcnt
            conv => whnf
            repeat (first | ((with_reducible refine hK _ _ _ ?_); clear hK) | (with_reducible refine seq_step fun K hK => ?_) | (with_reducible refine block_step ?_) | ((with_reducible refine cond_t ?_ ?_); focus rfl) | ((with_reducible refine cond_f ?_ ?_); focus rfl) | ((with_reducible refine code_id ?_); conv => whnf) | (clear hK; (with_reducible refine hK _ _ _ ?_); clear hK) | (clear hK; clear hK; (with_reducible refine hK _ _ _ ?_); clear hK) | (clear hK; clear hK; clear hK; (with_reducible refine hK _ _ _ ?_); clear hK) | (clear hK; clear hK; clear hK; clear hK; (with_reducible refine hK _ _ _ ?_); clear hK) | (clear hK; clear hK; clear hK; clear hK; clear hK; (with_reducible refine hK _ _ _ ?_); clear hK) | (clear hK; clear hK; clear hK; clear hK; clear hK; clear hK; (with_reducible refine hK _ _ _ ?_); clear hK) | (clear hK; clear hK; clear hK; clear hK; clear hK; clear hK; clear hK; (with_reducible refine hK _ _ _ ?_); clear hK) | (refine ⟨_, _, SubH.refl _, SubB.refl _, ?_⟩; conv => whnf) | (refine ⟨⟨SubH.refl _, SubB.refl _⟩, ?_⟩; conv => whnf) | (refine ⟨_, _, ⟨SubH.refl _, SubB.refl _⟩, SubH.refl _, SubB.refl _, ?_⟩; conv => whnf))
            exact ⟨j + 1, hjl, by omega, subE_cons rfl (subE_cons (by rw [hsl]; rfl) (subE_cons rfl (subE_cons (by rw [hcnt]; rfl) (subE_cons (int_eq hnext2 rfl) subE_nil)))), subB_nil, rfl⟩
        · rw [show ((allOf S)[j].cap.kind == KI) = false from beq_eq_false_iff_ne.2 h1]
          rw [if_neg (fun e => h1 e.1)] at hcnt
          conv => whnf
          repeat (first | ((with_reducible refine hK _ _ _ ?_); clear hK) | (with_reducible refine seq_step fun K hK => ?_) | (with_reducible refine block_step ?_) | ((with_reducible refine cond_t ?_ ?_); focus rfl) | ((with_reducible refine cond_f ?_ ?_); focus rfl) | ((with_reducible refine code_id ?_); conv => whnf) | (clear hK; (with_reducible refine hK _ _ _ ?_); clear hK) | (clear hK; clear hK; (with_reducible refine hK _ _ _ ?_); clear hK) | (clear hK; clear hK; clear hK; (with_reducible refine hK _ _ _ ?_); clear hK) | (clear hK; clear hK; clear hK; clear hK; (with_reducible refine hK _ _ _ ?_); clear hK) | (clear hK; clear hK; clear hK; clear hK; clear hK; (with_reducible refine hK _ _ _ ?_); clear hK) | (clear hK; clear hK; clear hK; clear hK; clear hK; clear hK; (with_reducible refine hK _ _ _ ?_); clear hK) | (clear hK; clear hK; clear hK; clear hK; clear hK; clear hK; clear hK; (with_reducible refine hK _ _ _ ?_); clear hK) | (refine ⟨_, _, SubH.refl _, SubB.refl _, ?_⟩; conv => whnf) | (refine ⟨⟨SubH.refl _, SubB.refl _⟩, ?_⟩; conv => whnf) | (refine ⟨_, _, ⟨SubH.refl _, SubB.refl _⟩, SubH.refl _, SubB.refl _, ?_⟩; conv => whnf))
          exact ⟨j + 1, hjl, by omega, subE_cons rfl (subE_cons (by rw [hsl]; rfl) (subE_cons rfl (subE_cons (by rw [hcnt]; rfl) (subE_cons (int_eq hnext2 rfl) subE_nil)))), subB_nil, rfl⟩
      · have hje : j = (allOf S).length := by omega
        have hco := all_count hw fun c => decide (c.kind = (allOf S)[i].cap.kind) && decide (c.obj = (allOf S)[i].cap.obj)
        have hon : S.cs.countP (onM (allOf S)[i].cap.kind (allOf S)[i].cap.obj) = ((allOf S).take j).countP (fun x => decide (x.cap.kind = (allOf S)[i].cap.kind) && decide (x.cap.obj = (allOf S)[i].cap.obj)) := by
          rw [hje, List.take_length]
          exact hco.symm
        obtain ⟨NN, hNN⟩ : ∃ x, x = ((allOf S).take j).countP (fun x => decide (x.cap.kind = (allOf S)[i].cap.kind) && decide (x.cap.obj = (allOf S)[i].cap.obj)) := ⟨_, rfl⟩
        rw [← hNN] at hon ⊢
        rw [hsl]
        repeat (first | ((with_reducible refine hK _ _ _ ?_); clear hK) | (with_reducible refine seq_step fun K hK => ?_) | (with_reducible refine block_step ?_) | ((with_reducible refine cond_t ?_ ?_); focus rfl) | ((with_reducible refine cond_f ?_ ?_); focus rfl) | ((with_reducible refine code_id ?_); conv => whnf) | (clear hK; (with_reducible refine hK _ _ _ ?_); clear hK) | (clear hK; clear hK; (with_reducible refine hK _ _ _ ?_); clear hK) | (clear hK; clear hK; clear hK; (with_reducible refine hK _ _ _ ?_); clear hK) | (clear hK; clear hK; clear hK; clear hK; (with_reducible refine hK _ _ _ ?_); clear hK) | (clear hK; clear hK; clear hK; clear hK; clear hK; (with_reducible refine hK _ _ _ ?_); clear hK) | (clear hK; clear hK; clear hK; clear hK; clear hK; clear hK; (with_reducible refine hK _ _ _ ?_); clear hK) | (clear hK; clear hK; clear hK; clear hK; clear hK; clear hK; clear hK; (with_reducible refine hK _ _ _ ?_); clear hK) | (refine ⟨_, _, SubH.refl _, SubB.refl _, ?_⟩; conv => whnf) | (refine ⟨⟨SubH.refl _, SubB.refl _⟩, ?_⟩; conv => whnf) | (refine ⟨_, _, ⟨SubH.refl _, SubB.refl _⟩, SubH.refl _, SubB.refl _, ?_⟩; conv => whnf))
        refine opt_if ⟨by omega, by omega⟩ ?_
        conv => whnf
        refine opt_ld hci (v := iv (allOf S)[i].cap.kind) (by show ci[o + (i : Int).toNat * 6 + 2 + 0]? = _; rw [Int.toNat_natCast]; exact hki) ?_
        conv => whnf
        refine opt_if ⟨by omega, by omega⟩ ?_
        conv => whnf
        refine opt_ld hci (v := iv (allOf S)[i].cap.obj) (by show ci[o + (i : Int).toNat * 6 + 2 + 1]? = _; rw [Int.toNat_natCast]; exact hoi) ?_
        conv => whnf
        refine on30 hw (hg.pull 1 rfl) (allOf S)[i].cap.kind (allOf S)[i].cap.obj fun g9 hg9 => ?_
        rw [hon]
        conv => whnf
        rw [show (((NN : Nat) : Int) != (NN : Nat)) = false from bne_self_eq_false _]
        conv => whnf
        repeat (first | ((with_reducible refine hK _ _ _ ?_); clear hK) | (with_reducible refine seq_step fun K hK => ?_) | (with_reducible refine block_step ?_) | ((with_reducible refine cond_t ?_ ?_); focus rfl) | ((with_reducible refine cond_f ?_ ?_); focus rfl) | ((with_reducible refine code_id ?_); conv => whnf) | (clear hK; (with_reducible refine hK _ _ _ ?_); clear hK) | (clear hK; clear hK; (with_reducible refine hK _ _ _ ?_); clear hK) | (clear hK; clear hK; clear hK; (with_reducible refine hK _ _ _ ?_); clear hK) | (clear hK; clear hK; clear hK; clear hK; (with_reducible refine hK _ _ _ ?_); clear hK) | (clear hK; clear hK; clear hK; clear hK; clear hK; (with_reducible refine hK _ _ _ ?_); clear hK) | (clear hK; clear hK; clear hK; clear hK; clear hK; clear hK; (with_reducible refine hK _ _ _ ?_); clear hK) | (clear hK; clear hK; clear hK; clear hK; clear hK; clear hK; clear hK; (with_reducible refine hK _ _ _ ?_); clear hK) | (refine ⟨_, _, SubH.refl _, SubB.refl _, ?_⟩; conv => whnf) | (refine ⟨⟨SubH.refl _, SubB.refl _⟩, ?_⟩; conv => whnf) | (refine ⟨_, _, ⟨SubH.refl _, SubB.refl _⟩, SubH.refl _, SubB.refl _, ?_⟩; conv => whnf))
        exact ⟨(i + 1, g9), ⟨hil, hg9.swap⟩, by dsimp only; omega, subE_cons rfl (subE_cons (by rw [hsl]; rfl) (subE_cons (int_eq hnext rfl) subE_nil)), subB_nil, rfl⟩
    · repeat (first | ((with_reducible refine hK _ _ _ ?_); clear hK) | (with_reducible refine seq_step fun K hK => ?_) | (with_reducible refine block_step ?_) | ((with_reducible refine cond_t ?_ ?_); focus rfl) | ((with_reducible refine cond_f ?_ ?_); focus rfl) | ((with_reducible refine code_id ?_); conv => whnf) | (clear hK; (with_reducible refine hK _ _ _ ?_); clear hK) | (clear hK; clear hK; (with_reducible refine hK _ _ _ ?_); clear hK) | (clear hK; clear hK; clear hK; (with_reducible refine hK _ _ _ ?_); clear hK) | (clear hK; clear hK; clear hK; clear hK; (with_reducible refine hK _ _ _ ?_); clear hK) | (clear hK; clear hK; clear hK; clear hK; clear hK; (with_reducible refine hK _ _ _ ?_); clear hK) | (clear hK; clear hK; clear hK; clear hK; clear hK; clear hK; (with_reducible refine hK _ _ _ ?_); clear hK) | (clear hK; clear hK; clear hK; clear hK; clear hK; clear hK; clear hK; (with_reducible refine hK _ _ _ ?_); clear hK))
      exact ⟨g, hg, subE_cons rfl (subE_cons rfl subE_nil), subB_nil, rfl⟩
  clear hg
  rintro g hg
  repeat (first | ((with_reducible refine hK _ _ _ ?_); clear hK) | (with_reducible refine seq_step fun K hK => ?_) | (with_reducible refine block_step ?_) | ((with_reducible refine cond_t ?_ ?_); focus rfl) | ((with_reducible refine cond_f ?_ ?_); focus rfl) | ((with_reducible refine code_id ?_); conv => whnf) | (clear hK; (with_reducible refine hK _ _ _ ?_); clear hK) | (clear hK; clear hK; (with_reducible refine hK _ _ _ ?_); clear hK) | (clear hK; clear hK; clear hK; (with_reducible refine hK _ _ _ ?_); clear hK) | (clear hK; clear hK; clear hK; clear hK; (with_reducible refine hK _ _ _ ?_); clear hK) | (clear hK; clear hK; clear hK; clear hK; clear hK; (with_reducible refine hK _ _ _ ?_); clear hK) | (clear hK; clear hK; clear hK; clear hK; clear hK; clear hK; (with_reducible refine hK _ _ _ ?_); clear hK) | (clear hK; clear hK; clear hK; clear hK; clear hK; clear hK; clear hK; (with_reducible refine hK _ _ _ ?_); clear hK))
  refine get19 hw (CapsA.rd hg 1 rfl) 0 0 (fun k hk => ?_) (fun c hc he hs => ?_)
  · have hno : (allOf S).find? (isAt 0 0) = none := by
      rw [List.find?_eq_none]
      intro x hx hat
      obtain ⟨d, hd, rfl⟩ := (mem_allOf hw).1 hx
      unfold isAt hdOf at hat
      simp only [Bool.and_eq_true, decide_eq_true_eq] at hat
      have h1 := mLook_of hw hd
      rw [hat.1, hat.2, hk] at h1
      cases h1
    have hk0 : (k == 0) = false := by rcases mLook_k hk with rfl | rfl <;> rfl
    have hk1 : (k != 0) = true := by rcases mLook_k hk with rfl | rfl <;> rfl
    conv => whnf
    repeat (first | ((with_reducible refine hK _ _ _ ?_); clear hK) | (with_reducible refine seq_step fun K hK => ?_) | (with_reducible refine block_step ?_) | ((with_reducible refine cond_t ?_ ?_); focus rfl) | ((with_reducible refine cond_f ?_ ?_); focus rfl) | ((with_reducible refine code_id ?_); conv => whnf) | (clear hK; (with_reducible refine hK _ _ _ ?_); clear hK) | (clear hK; clear hK; (with_reducible refine hK _ _ _ ?_); clear hK) | (clear hK; clear hK; clear hK; (with_reducible refine hK _ _ _ ?_); clear hK) | (clear hK; clear hK; clear hK; clear hK; (with_reducible refine hK _ _ _ ?_); clear hK) | (clear hK; clear hK; clear hK; clear hK; clear hK; (with_reducible refine hK _ _ _ ?_); clear hK) | (clear hK; clear hK; clear hK; clear hK; clear hK; clear hK; (with_reducible refine hK _ _ _ ?_); clear hK) | (clear hK; clear hK; clear hK; clear hK; clear hK; clear hK; clear hK; (with_reducible refine hK _ _ _ ?_); clear hK))
    refine has22 (by omega) (hg.wn 0 rfl) 0 0 ?_
    rw [hno]
    conv => whnf
    repeat (first | ((with_reducible refine hK _ _ _ ?_); clear hK) | (with_reducible refine seq_step fun K hK => ?_) | (with_reducible refine block_step ?_) | ((with_reducible refine cond_t ?_ ?_); focus rfl) | ((with_reducible refine cond_f ?_ ?_); focus rfl) | ((with_reducible refine code_id ?_); conv => whnf) | (clear hK; (with_reducible refine hK _ _ _ ?_); clear hK) | (clear hK; clear hK; (with_reducible refine hK _ _ _ ?_); clear hK) | (clear hK; clear hK; clear hK; (with_reducible refine hK _ _ _ ?_); clear hK) | (clear hK; clear hK; clear hK; clear hK; (with_reducible refine hK _ _ _ ?_); clear hK) | (clear hK; clear hK; clear hK; clear hK; clear hK; (with_reducible refine hK _ _ _ ?_); clear hK) | (clear hK; clear hK; clear hK; clear hK; clear hK; clear hK; (with_reducible refine hK _ _ _ ?_); clear hK) | (clear hK; clear hK; clear hK; clear hK; clear hK; clear hK; clear hK; (with_reducible refine hK _ _ _ ?_); clear hK))
    rw [hk0]
    conv => whnf
    rw [hk1]
    conv => whnf
    repeat (first | ((with_reducible refine hK _ _ _ ?_); clear hK) | (with_reducible refine seq_step fun K hK => ?_) | (with_reducible refine block_step ?_) | ((with_reducible refine cond_t ?_ ?_); focus rfl) | ((with_reducible refine cond_f ?_ ?_); focus rfl) | ((with_reducible refine code_id ?_); conv => whnf) | (clear hK; (with_reducible refine hK _ _ _ ?_); clear hK) | (clear hK; clear hK; (with_reducible refine hK _ _ _ ?_); clear hK) | (clear hK; clear hK; clear hK; (with_reducible refine hK _ _ _ ?_); clear hK) | (clear hK; clear hK; clear hK; clear hK; (with_reducible refine hK _ _ _ ?_); clear hK) | (clear hK; clear hK; clear hK; clear hK; clear hK; (with_reducible refine hK _ _ _ ?_); clear hK) | (clear hK; clear hK; clear hK; clear hK; clear hK; clear hK; (with_reducible refine hK _ _ _ ?_); clear hK) | (clear hK; clear hK; clear hK; clear hK; clear hK; clear hK; clear hK; (with_reducible refine hK _ _ _ ?_); clear hK))
    exact hq _ (hg.is 2 rfl)
  · have hfd : (allOf S).find? (isAt 0 0) = some (hdOf c) := by
      have := find_at hw hc
      rw [← he, ← hs] at this
      exact this
    have hok := (hw.okc c hc).1
    conv => whnf
    repeat (first | ((with_reducible refine hK _ _ _ ?_); clear hK) | (with_reducible refine seq_step fun K hK => ?_) | (with_reducible refine block_step ?_) | ((with_reducible refine cond_t ?_ ?_); focus rfl) | ((with_reducible refine cond_f ?_ ?_); focus rfl) | ((with_reducible refine code_id ?_); conv => whnf) | (clear hK; (with_reducible refine hK _ _ _ ?_); clear hK) | (clear hK; clear hK; (with_reducible refine hK _ _ _ ?_); clear hK) | (clear hK; clear hK; clear hK; (with_reducible refine hK _ _ _ ?_); clear hK) | (clear hK; clear hK; clear hK; clear hK; (with_reducible refine hK _ _ _ ?_); clear hK) | (clear hK; clear hK; clear hK; clear hK; clear hK; (with_reducible refine hK _ _ _ ?_); clear hK) | (clear hK; clear hK; clear hK; clear hK; clear hK; clear hK; (with_reducible refine hK _ _ _ ?_); clear hK) | (clear hK; clear hK; clear hK; clear hK; clear hK; clear hK; clear hK; (with_reducible refine hK _ _ _ ?_); clear hK))
    refine has22 (by omega) (hg.wn 0 rfl) 0 0 ?_
    rw [hfd]
    conv => whnf
    repeat (first | ((with_reducible refine hK _ _ _ ?_); clear hK) | (with_reducible refine seq_step fun K hK => ?_) | (with_reducible refine block_step ?_) | ((with_reducible refine cond_t ?_ ?_); focus rfl) | ((with_reducible refine cond_f ?_ ?_); focus rfl) | ((with_reducible refine code_id ?_); conv => whnf) | (clear hK; (with_reducible refine hK _ _ _ ?_); clear hK) | (clear hK; clear hK; (with_reducible refine hK _ _ _ ?_); clear hK) | (clear hK; clear hK; clear hK; (with_reducible refine hK _ _ _ ?_); clear hK) | (clear hK; clear hK; clear hK; clear hK; (with_reducible refine hK _ _ _ ?_); clear hK) | (clear hK; clear hK; clear hK; clear hK; clear hK; (with_reducible refine hK _ _ _ ?_); clear hK) | (clear hK; clear hK; clear hK; clear hK; clear hK; clear hK; (with_reducible refine hK _ _ _ ?_); clear hK) | (clear hK; clear hK; clear hK; clear hK; clear hK; clear hK; clear hK; (with_reducible refine hK _ _ _ ?_); clear hK))
    rw [show ((c.cap.kind == 0) && ((c.cap.obj == 0) && ((c.cap.serial == 0) && ((c.cap.rights == 0) && true)))) = false by
      rw [beq_eq_false_iff_ne.2 (show c.cap.kind ≠ 0 by omega)]; rfl]
    conv => whnf
    repeat (first | ((with_reducible refine hK _ _ _ ?_); clear hK) | (with_reducible refine seq_step fun K hK => ?_) | (with_reducible refine block_step ?_) | ((with_reducible refine cond_t ?_ ?_); focus rfl) | ((with_reducible refine cond_f ?_ ?_); focus rfl) | ((with_reducible refine code_id ?_); conv => whnf) | (clear hK; (with_reducible refine hK _ _ _ ?_); clear hK) | (clear hK; clear hK; (with_reducible refine hK _ _ _ ?_); clear hK) | (clear hK; clear hK; clear hK; (with_reducible refine hK _ _ _ ?_); clear hK) | (clear hK; clear hK; clear hK; clear hK; (with_reducible refine hK _ _ _ ?_); clear hK) | (clear hK; clear hK; clear hK; clear hK; clear hK; (with_reducible refine hK _ _ _ ?_); clear hK) | (clear hK; clear hK; clear hK; clear hK; clear hK; clear hK; (with_reducible refine hK _ _ _ ?_); clear hK) | (clear hK; clear hK; clear hK; clear hK; clear hK; clear hK; clear hK; (with_reducible refine hK _ _ _ ?_); clear hK))
    exact hq _ (hg.is 2 rfl)
end
end Go.Proofs.YthpkgkoojhgedaaDoor.V
