/- Seat 08: Find. -/
import Derived.Test.YthpkgkoojhgedaaDoorK32
namespace Go.Proofs.YthpkgkoojhgedaaDoor.V
set_option linter.unusedVariables false
set_option linter.unusedSimpArgs false
set_option linter.unusedSectionVars false
set_option linter.unusedSectionVars false
open Go

theorem callableSerial : callable PR 54 = true := by kernel_rfl

theorem andNot4e (x y : Int) (h0 : 0 ≤ x) (h1 : x ≤ 15) (h2 : 0 ≤ y) (h3 : y ≤ 15) : (IntKind.i64.wrap ((BitVec.ofInt IntKind.i64.bits x &&& ~~~(BitVec.ofInt IntKind.i64.bits y)).toNat : Int) == 0) = subR x y := by
  have := andNot4 x y h0 h1 h2 h3
  unfold bne at this
  rw [Bool.not_inj_iff] at this
  exact this

/-- What Find asks of a cell. -/
def findM (kind serial rights : Int) (c : Ce) : Bool := (decide (c.cap.kind = kind) && decide (c.cap.serial = serial)) && subR rights c.cap.rights

section
variable {h : Hp} {Q : Value → Hp → Prop} {L : List As} {b : Nat} {S : Bs}

theorem serial54 {c : Ce} {s : Value} (hc : h c.a = some (.cells (cellC c s).toArray 84 (0, 0))) (hq : Q (iv c.cap.serial) h) : Ok PR 54 [ptr c.a] h Q := by
  refine e54 rfl (seq_step fun K hK => ?_)
  repeat (first | ((with_reducible refine hK _ _ _ ?_); clear hK) | (with_reducible refine seq_step fun K hK => ?_) | (with_reducible refine block_step ?_) | ((with_reducible refine cond_t ?_ ?_); focus rfl) | ((with_reducible refine cond_f ?_ ?_); focus rfl) | ((with_reducible refine code_id ?_); conv => whnf) | (clear hK; (with_reducible refine hK _ _ _ ?_); clear hK) | (clear hK; clear hK; (with_reducible refine hK _ _ _ ?_); clear hK) | (clear hK; clear hK; clear hK; (with_reducible refine hK _ _ _ ?_); clear hK) | (clear hK; clear hK; clear hK; clear hK; (with_reducible refine hK _ _ _ ?_); clear hK) | (clear hK; clear hK; clear hK; clear hK; clear hK; (with_reducible refine hK _ _ _ ?_); clear hK) | (clear hK; clear hK; clear hK; clear hK; clear hK; clear hK; (with_reducible refine hK _ _ _ ?_); clear hK) | (clear hK; clear hK; clear hK; clear hK; clear hK; clear hK; clear hK; (with_reducible refine hK _ _ _ ?_); clear hK))
  refine opt_ld hc (v := iv c.cap.serial) rfl ?_
  conv => whnf
  repeat (first | ((with_reducible refine hK _ _ _ ?_); clear hK) | (with_reducible refine seq_step fun K hK => ?_) | (with_reducible refine block_step ?_) | ((with_reducible refine cond_t ?_ ?_); focus rfl) | ((with_reducible refine cond_f ?_ ?_); focus rfl) | ((with_reducible refine code_id ?_); conv => whnf) | (clear hK; (with_reducible refine hK _ _ _ ?_); clear hK) | (clear hK; clear hK; (with_reducible refine hK _ _ _ ?_); clear hK) | (clear hK; clear hK; clear hK; (with_reducible refine hK _ _ _ ?_); clear hK) | (clear hK; clear hK; clear hK; clear hK; (with_reducible refine hK _ _ _ ?_); clear hK) | (clear hK; clear hK; clear hK; clear hK; clear hK; (with_reducible refine hK _ _ _ ?_); clear hK) | (clear hK; clear hK; clear hK; clear hK; clear hK; clear hK; (with_reducible refine hK _ _ _ ?_); clear hK) | (clear hK; clear hK; clear hK; clear hK; clear hK; clear hK; clear hK; (with_reducible refine hK _ _ _ ?_); clear hK))
  exact hq

theorem fitsKS {c : Ce} {sc : Value} (hc : h c.a = some (.cells (cellC c sc).toArray 84 (0, 0))) {bw : Nat} {ty : TypeId} {kind serial : Int}
    (hb : h bw = some (.cells #[.func (.func 53) #[] #[], iv kind, .func (.func 54) #[] #[], iv serial] ty (0, 0))) (hq : Q (.bool (decide (c.cap.kind = kind) && decide (c.cap.serial = serial))) h) : Ok PR 52 [ptr c.a, .slice (some ⟨bw, 0, none⟩) 2 2] h Q := by
  have hv : Vw 2 h (.slice (some ⟨bw, 0, none⟩) 2 2) 2 [.func (.func 53) #[] #[], iv kind, .func (.func 54) #[] #[], iv serial] := (pt_wn (e := 2) (n := 2) (cap := 2) (cs := [.func (.func 53) #[] #[], iv kind, .func (.func 54) #[] #[], iv serial]) rfl (Nat.le_refl _) rfl hb).vw
  refine fits52 (ws := [(53, kind), (54, serial)]) (fun k => if k = 53 then c.cap.kind else c.cap.serial) (show 2 < 100 by decide) hv (fun w hw => ?_) ?_
  · rcases List.mem_cons.1 hw with rfl | hw
    · exact ⟨callableKind, fun Q hQ => kind53 hc hQ⟩
    · rw [List.mem_singleton.1 hw]
      exact ⟨callableSerial, fun Q hQ => serial54 hc hQ⟩
  · have e : ([((53 : Nat), kind), (54, serial)].all fun w => decide ((if w.1 = 53 then c.cap.kind else c.cap.serial) = w.2)) = (decide (c.cap.kind = kind) && decide (c.cap.serial = serial)) := by
      simp
    rw [e]; exact hq

set_option maxRecDepth 100000 in
set_option maxHeartbeats 2000000 in
theorem find27 (hw : WF S) (hh : Has (CapsA b S :: L) h) (e kind serial rights : Int) (h1 : (got S.tb e = none ∨ rights < 0 ∨ 15 < rights) → ∀ h', Has (CapsA b S :: L) h' → Q (iv (-1)) h')
    (h2 : ∀ n : Nat, e = n → 0 ≤ rights → rights ≤ 15 → (∀ d ∈ S.cs, d.env = n → findM kind serial rights d = false) → ∀ h', Has (CapsA b S :: L) h' → Q (iv (-1)) h')
    (h3 : ∀ n : Nat, e = n → 0 ≤ rights → rights ≤ 15 → ∀ c ∈ S.cs, c.env = n → findM kind serial rights c = true → (∀ d ∈ S.cs, d.env = n → findM kind serial rights d = true → c.slot ≤ d.slot) → ∀ h', Has (CapsA b S :: L) h' → Q (iv c.slot) h') :
    Ok PR 27 [ptr b, iv e, iv kind, iv serial, iv rights] h Q := by
  refine e27 rfl (seq_step fun K hK => ?_)
  repeat (first | ((with_reducible refine hK _ _ _ ?_); clear hK) | (with_reducible refine seq_step fun K hK => ?_) | (with_reducible refine block_step ?_) | ((with_reducible refine cond_t ?_ ?_); focus rfl) | ((with_reducible refine cond_f ?_ ?_); focus rfl) | ((with_reducible refine code_id ?_); conv => whnf) | (clear hK; (with_reducible refine hK _ _ _ ?_); clear hK) | (clear hK; clear hK; (with_reducible refine hK _ _ _ ?_); clear hK) | (clear hK; clear hK; clear hK; (with_reducible refine hK _ _ _ ?_); clear hK) | (clear hK; clear hK; clear hK; clear hK; (with_reducible refine hK _ _ _ ?_); clear hK) | (clear hK; clear hK; clear hK; clear hK; clear hK; (with_reducible refine hK _ _ _ ?_); clear hK) | (clear hK; clear hK; clear hK; clear hK; clear hK; clear hK; (with_reducible refine hK _ _ _ ?_); clear hK) | (clear hK; clear hK; clear hK; clear hK; clear hK; clear hK; clear hK; (with_reducible refine hK _ _ _ ?_); clear hK))
  refine fresh_has hh fun b7 g1 _ _ _ hh1 => ?_
  conv => whnf
  refine fresh_has hh1 fun b8 g2 _ _ _ hh2 => ?_
  conv => whnf
  refine fresh_has hh2 fun b9 g3 _ _ _ hh3 => ?_
  conv => whnf
  refine fresh_has hh3 fun b10 g4 _ _ _ hh4 => ?_
  conv => whnf
  repeat (first | ((with_reducible refine hK _ _ _ ?_); clear hK) | (with_reducible refine seq_step fun K hK => ?_) | (with_reducible refine block_step ?_) | ((with_reducible refine cond_t ?_ ?_); focus rfl) | ((with_reducible refine cond_f ?_ ?_); focus rfl) | ((with_reducible refine code_id ?_); conv => whnf) | (clear hK; (with_reducible refine hK _ _ _ ?_); clear hK) | (clear hK; clear hK; (with_reducible refine hK _ _ _ ?_); clear hK) | (clear hK; clear hK; clear hK; (with_reducible refine hK _ _ _ ?_); clear hK) | (clear hK; clear hK; clear hK; clear hK; (with_reducible refine hK _ _ _ ?_); clear hK) | (clear hK; clear hK; clear hK; clear hK; clear hK; (with_reducible refine hK _ _ _ ?_); clear hK) | (clear hK; clear hK; clear hK; clear hK; clear hK; clear hK; (with_reducible refine hK _ _ _ ?_); clear hK) | (clear hK; clear hK; clear hK; clear hK; clear hK; clear hK; clear hK; (with_reducible refine hK _ _ _ ?_); clear hK))
  refine list37 (CapsA.rd hh4 4 rfl) hw.len e ?_
  have bad : ∀ g v, Has (Pt b10 (.cells #[v] 3 (0, 0)) :: Pt b9 (.cells #[iv rights] 3 (0, 0)) :: Pt b8 (.cells #[iv serial] 3 (0, 0)) :: Pt b7 (.cells #[iv kind] 3 (0, 0)) :: CapsA b S :: L) g → Has (CapsA b S :: L) g := fun g v hg => hg.tail.tail.tail.tail
  cases hge : got S.tb e with
  | none =>
    conv => whnf
    repeat (first | ((with_reducible refine hK _ _ _ ?_); clear hK) | (with_reducible refine seq_step fun K hK => ?_) | (with_reducible refine block_step ?_) | ((with_reducible refine cond_t ?_ ?_); focus rfl) | ((with_reducible refine cond_f ?_ ?_); focus rfl) | ((with_reducible refine code_id ?_); conv => whnf) | (clear hK; (with_reducible refine hK _ _ _ ?_); clear hK) | (clear hK; clear hK; (with_reducible refine hK _ _ _ ?_); clear hK) | (clear hK; clear hK; clear hK; (with_reducible refine hK _ _ _ ?_); clear hK) | (clear hK; clear hK; clear hK; clear hK; (with_reducible refine hK _ _ _ ?_); clear hK) | (clear hK; clear hK; clear hK; clear hK; clear hK; (with_reducible refine hK _ _ _ ?_); clear hK) | (clear hK; clear hK; clear hK; clear hK; clear hK; clear hK; (with_reducible refine hK _ _ _ ?_); clear hK) | (clear hK; clear hK; clear hK; clear hK; clear hK; clear hK; clear hK; (with_reducible refine hK _ _ _ ?_); clear hK))
    refine st_has hh4 0 rfl rfl (by decide) rfl fun g5 _ _ hh5 => ?_
    conv => whnf
    repeat (first | ((with_reducible refine hK _ _ _ ?_); clear hK) | (with_reducible refine seq_step fun K hK => ?_) | (with_reducible refine block_step ?_) | ((with_reducible refine cond_t ?_ ?_); focus rfl) | ((with_reducible refine cond_f ?_ ?_); focus rfl) | ((with_reducible refine code_id ?_); conv => whnf) | (clear hK; (with_reducible refine hK _ _ _ ?_); clear hK) | (clear hK; clear hK; (with_reducible refine hK _ _ _ ?_); clear hK) | (clear hK; clear hK; clear hK; (with_reducible refine hK _ _ _ ?_); clear hK) | (clear hK; clear hK; clear hK; clear hK; (with_reducible refine hK _ _ _ ?_); clear hK) | (clear hK; clear hK; clear hK; clear hK; clear hK; (with_reducible refine hK _ _ _ ?_); clear hK) | (clear hK; clear hK; clear hK; clear hK; clear hK; clear hK; (with_reducible refine hK _ _ _ ?_); clear hK) | (clear hK; clear hK; clear hK; clear hK; clear hK; clear hK; clear hK; (with_reducible refine hK _ _ _ ?_); clear hK))
    refine ret_c rfl (hh5.pt 0 rfl) (v := iv (-1)) rfl ?_
    exact h1 (.inl hge) _ (bad _ _ hh5)
  | some y =>
    obtain ⟨t, l0⟩ := y
    obtain ⟨n, rfl, ht0⟩ := got_at hge
    have hn16 : n < 16 := by rw [← hw.len]; exact (List.getElem?_eq_some_iff.1 ht0).1
    conv => whnf
    repeat (first | ((with_reducible refine hK _ _ _ ?_); clear hK) | (with_reducible refine seq_step fun K hK => ?_) | (with_reducible refine block_step ?_) | ((with_reducible refine cond_t ?_ ?_); focus rfl) | ((with_reducible refine cond_f ?_ ?_); focus rfl) | ((with_reducible refine code_id ?_); conv => whnf) | (clear hK; (with_reducible refine hK _ _ _ ?_); clear hK) | (clear hK; clear hK; (with_reducible refine hK _ _ _ ?_); clear hK) | (clear hK; clear hK; clear hK; (with_reducible refine hK _ _ _ ?_); clear hK) | (clear hK; clear hK; clear hK; clear hK; (with_reducible refine hK _ _ _ ?_); clear hK) | (clear hK; clear hK; clear hK; clear hK; clear hK; (with_reducible refine hK _ _ _ ?_); clear hK) | (clear hK; clear hK; clear hK; clear hK; clear hK; clear hK; (with_reducible refine hK _ _ _ ?_); clear hK) | (clear hK; clear hK; clear hK; clear hK; clear hK; clear hK; clear hK; (with_reducible refine hK _ _ _ ?_); clear hK))
    refine opt_ld (hh4.pt 1 rfl) (v := iv rights) rfl ?_
    conv => whnf
    by_cases c1 : rights < 0
    · rw [show decide (rights < 0) = true from decide_eq_true c1]
      conv => whnf
      repeat (first | ((with_reducible refine hK _ _ _ ?_); clear hK) | (with_reducible refine seq_step fun K hK => ?_) | (with_reducible refine block_step ?_) | ((with_reducible refine cond_t ?_ ?_); focus rfl) | ((with_reducible refine cond_f ?_ ?_); focus rfl) | ((with_reducible refine code_id ?_); conv => whnf) | (clear hK; (with_reducible refine hK _ _ _ ?_); clear hK) | (clear hK; clear hK; (with_reducible refine hK _ _ _ ?_); clear hK) | (clear hK; clear hK; clear hK; (with_reducible refine hK _ _ _ ?_); clear hK) | (clear hK; clear hK; clear hK; clear hK; (with_reducible refine hK _ _ _ ?_); clear hK) | (clear hK; clear hK; clear hK; clear hK; clear hK; (with_reducible refine hK _ _ _ ?_); clear hK) | (clear hK; clear hK; clear hK; clear hK; clear hK; clear hK; (with_reducible refine hK _ _ _ ?_); clear hK) | (clear hK; clear hK; clear hK; clear hK; clear hK; clear hK; clear hK; (with_reducible refine hK _ _ _ ?_); clear hK))
      refine st_has hh4 0 rfl rfl (by decide) rfl fun g5 _ _ hh5 => ?_
      conv => whnf
      repeat (first | ((with_reducible refine hK _ _ _ ?_); clear hK) | (with_reducible refine seq_step fun K hK => ?_) | (with_reducible refine block_step ?_) | ((with_reducible refine cond_t ?_ ?_); focus rfl) | ((with_reducible refine cond_f ?_ ?_); focus rfl) | ((with_reducible refine code_id ?_); conv => whnf) | (clear hK; (with_reducible refine hK _ _ _ ?_); clear hK) | (clear hK; clear hK; (with_reducible refine hK _ _ _ ?_); clear hK) | (clear hK; clear hK; clear hK; (with_reducible refine hK _ _ _ ?_); clear hK) | (clear hK; clear hK; clear hK; clear hK; (with_reducible refine hK _ _ _ ?_); clear hK) | (clear hK; clear hK; clear hK; clear hK; clear hK; (with_reducible refine hK _ _ _ ?_); clear hK) | (clear hK; clear hK; clear hK; clear hK; clear hK; clear hK; (with_reducible refine hK _ _ _ ?_); clear hK) | (clear hK; clear hK; clear hK; clear hK; clear hK; clear hK; clear hK; (with_reducible refine hK _ _ _ ?_); clear hK))
      refine ret_c rfl (hh5.pt 0 rfl) (v := iv (-1)) rfl ?_
      exact h1 (.inr (.inl c1)) _ (bad _ _ hh5)
    rw [show decide (rights < 0) = false from decide_eq_false c1]
    conv => whnf
    refine opt_ld (hh4.pt 1 rfl) (v := iv rights) rfl ?_
    conv => whnf
    by_cases c2 : rights > 15
    · rw [show decide (rights > 15) = true from decide_eq_true c2]
      conv => whnf
      repeat (first | ((with_reducible refine hK _ _ _ ?_); clear hK) | (with_reducible refine seq_step fun K hK => ?_) | (with_reducible refine block_step ?_) | ((with_reducible refine cond_t ?_ ?_); focus rfl) | ((with_reducible refine cond_f ?_ ?_); focus rfl) | ((with_reducible refine code_id ?_); conv => whnf) | (clear hK; (with_reducible refine hK _ _ _ ?_); clear hK) | (clear hK; clear hK; (with_reducible refine hK _ _ _ ?_); clear hK) | (clear hK; clear hK; clear hK; (with_reducible refine hK _ _ _ ?_); clear hK) | (clear hK; clear hK; clear hK; clear hK; (with_reducible refine hK _ _ _ ?_); clear hK) | (clear hK; clear hK; clear hK; clear hK; clear hK; (with_reducible refine hK _ _ _ ?_); clear hK) | (clear hK; clear hK; clear hK; clear hK; clear hK; clear hK; (with_reducible refine hK _ _ _ ?_); clear hK) | (clear hK; clear hK; clear hK; clear hK; clear hK; clear hK; clear hK; (with_reducible refine hK _ _ _ ?_); clear hK))
      refine st_has hh4 0 rfl rfl (by decide) rfl fun g5 _ _ hh5 => ?_
      conv => whnf
      repeat (first | ((with_reducible refine hK _ _ _ ?_); clear hK) | (with_reducible refine seq_step fun K hK => ?_) | (with_reducible refine block_step ?_) | ((with_reducible refine cond_t ?_ ?_); focus rfl) | ((with_reducible refine cond_f ?_ ?_); focus rfl) | ((with_reducible refine code_id ?_); conv => whnf) | (clear hK; (with_reducible refine hK _ _ _ ?_); clear hK) | (clear hK; clear hK; (with_reducible refine hK _ _ _ ?_); clear hK) | (clear hK; clear hK; clear hK; (with_reducible refine hK _ _ _ ?_); clear hK) | (clear hK; clear hK; clear hK; clear hK; (with_reducible refine hK _ _ _ ?_); clear hK) | (clear hK; clear hK; clear hK; clear hK; clear hK; (with_reducible refine hK _ _ _ ?_); clear hK) | (clear hK; clear hK; clear hK; clear hK; clear hK; clear hK; (with_reducible refine hK _ _ _ ?_); clear hK) | (clear hK; clear hK; clear hK; clear hK; clear hK; clear hK; clear hK; (with_reducible refine hK _ _ _ ?_); clear hK))
      refine ret_c rfl (hh5.pt 0 rfl) (v := iv (-1)) rfl ?_
      exact h1 (.inr (.inr c2)) _ (bad _ _ hh5)
    rw [show decide (rights > 15) = false from decide_eq_false c2]
    conv => whnf
    repeat (first | ((with_reducible refine hK _ _ _ ?_); clear hK) | (with_reducible refine seq_step fun K hK => ?_) | (with_reducible refine block_step ?_) | ((with_reducible refine cond_t ?_ ?_); focus rfl) | ((with_reducible refine cond_f ?_ ?_); focus rfl) | ((with_reducible refine code_id ?_); conv => whnf) | (clear hK; (with_reducible refine hK _ _ _ ?_); clear hK) | (clear hK; clear hK; (with_reducible refine hK _ _ _ ?_); clear hK) | (clear hK; clear hK; clear hK; (with_reducible refine hK _ _ _ ?_); clear hK) | (clear hK; clear hK; clear hK; clear hK; (with_reducible refine hK _ _ _ ?_); clear hK) | (clear hK; clear hK; clear hK; clear hK; clear hK; (with_reducible refine hK _ _ _ ?_); clear hK) | (clear hK; clear hK; clear hK; clear hK; clear hK; clear hK; (with_reducible refine hK _ _ _ ?_); clear hK) | (clear hK; clear hK; clear hK; clear hK; clear hK; clear hK; clear hK; (with_reducible refine hK _ _ _ ?_); clear hK))
    refine tallH hh4 fun b4 g5 hh5 _ _ => ?_
    conv => whnf
    repeat (first | ((with_reducible refine hK _ _ _ ?_); clear hK) | (with_reducible refine seq_step fun K hK => ?_) | (with_reducible refine block_step ?_) | ((with_reducible refine cond_t ?_ ?_); focus rfl) | ((with_reducible refine cond_f ?_ ?_); focus rfl) | ((with_reducible refine code_id ?_); conv => whnf) | (clear hK; (with_reducible refine hK _ _ _ ?_); clear hK) | (clear hK; clear hK; (with_reducible refine hK _ _ _ ?_); clear hK) | (clear hK; clear hK; clear hK; (with_reducible refine hK _ _ _ ?_); clear hK) | (clear hK; clear hK; clear hK; clear hK; (with_reducible refine hK _ _ _ ?_); clear hK) | (clear hK; clear hK; clear hK; clear hK; clear hK; (with_reducible refine hK _ _ _ ?_); clear hK) | (clear hK; clear hK; clear hK; clear hK; clear hK; clear hK; (with_reducible refine hK _ _ _ ?_); clear hK) | (clear hK; clear hK; clear hK; clear hK; clear hK; clear hK; clear hK; (with_reducible refine hK _ _ _ ?_); clear hK))
    refine rf_intro trivial callableAll fun r R hr hR hY => ?_
    have hg3 := hh5.new hr (o := R .ready)
    obtain ⟨m, hm⟩ : ∃ m, m = findM kind serial rights := ⟨_, rfl⟩
    rw [← hm] at h2 h3
    have hll := hw.tl ht0
    refine Ok.mono (twalk (p := t) (ty := 77) (Qd := fun h' => (Has (Pt r (R .ready) :: Pt b4 (.cells #[ptr t] 77 (0, 0)) :: Pt b10 (.cells #[iv 0] 3 (0, 0)) :: Pt b9 (.cells #[iv rights] 3 (0, 0)) :: Pt b8 (.cells #[iv serial] 3 (0, 0)) :: Pt b7 (.cells #[iv kind] 3 (0, 0)) :: CapsA b S :: L) h' ∧ ∀ d ∈ S.cs, d.env = n → m d = false) ∨
        (∃ x ∈ S.cs, x.env = n ∧ m x = true ∧ (∀ d ∈ S.cs, d.env = n → m d = true → x.slot ≤ d.slot) ∧ Has (Pt r (R (.done .ret)) :: Pt b4 (.cells #[ptr t] 77 (0, 0)) :: Pt b10 (.cells #[iv x.slot] 3 (0, 0)) :: Pt b9 (.cells #[iv rights] 3 (0, 0)) :: Pt b8 (.cells #[iv serial] 3 (0, 0)) :: Pt b7 (.cells #[iv kind] 3 (0, 0)) :: CapsA b S :: L) h'))
      (fun c h' => 0 ≤ c ∧ (∀ d ∈ S.cs, d.env = n → m d = true → c ≤ d.slot) ∧ Has (Pt r (R .ready) :: Pt b4 (.cells #[ptr t] 77 (0, 0)) :: Pt b10 (.cells #[iv 0] 3 (0, 0)) :: Pt b9 (.cells #[iv rights] 3 (0, 0)) :: Pt b8 (.cells #[iv serial] 3 (0, 0)) :: Pt b7 (.cells #[iv kind] 3 (0, 0)) :: CapsA b S :: L) h')
      (fun c g ⟨hc0, hlow, hg⟩ => ⟨hc0, hg.pt 1 rfl, l0, (CapsA.rd hg 6 rfl).tab ht0, fun hn => ?_, fun j v hj hv => ?_⟩) ⟨Int.le_refl _, fun d _ _ _ => by omega, hg3⟩) ?_
    · have hno : ∀ j : Nat, c ≤ j → j < l0.length → l0[j]? = some none := by
        rcases nextR_spec l0 c with ⟨_, h1⟩ | ⟨k, w, e, _⟩
        · exact h1
        · rw [hn] at e; omega
      refine .inl ⟨hg, fun d hd he => ?_⟩
      cases hmd : m d with
      | false => rfl
      | true =>
        have h4 := hw.taken ht0 hd he
        have h5 := hlow d hd he hmd
        rw [hno d.slot h5 (List.getElem?_eq_some_iff.1 h4).1] at h4
        cases h4
    · obtain ⟨hcj, hno⟩ : c ≤ (j : Int) ∧ ∀ i : Nat, c ≤ i → i < j → l0[i]? = some none := by
        rcases nextR_spec l0 c with ⟨e, _⟩ | ⟨k2, w2, e, h1, h2, h3⟩
        · rw [hj] at e; omega
        · rw [hj] at e
          have : k2 = j := by omega
          subst this
          exact ⟨h1, h2⟩
      obtain ⟨x, hx, x1, x2, x3⟩ := hw.t1 ht0 hv
      have hlow2 : ∀ d ∈ S.cs, d.env = n → m d = true → j ≤ d.slot := fun d hd he hmd => by
        have h4 := hw.taken ht0 hd he
        have h5 := hlow d hd he hmd
        by_cases hdj : d.slot < j
        · rw [hno d.slot h5 hdj] at h4; cases h4
        · omega
      subst x1
      have hokx := (hw.okc x hx).2.2.2
      refine hY _ g _ rfl (hg.pt 0 rfl) ?_
      conv => whnf
      repeat (first | ((with_reducible refine hK _ _ _ ?_); clear hK) | (with_reducible refine seq_step fun K hK => ?_) | (with_reducible refine block_step ?_) | ((with_reducible refine cond_t ?_ ?_); focus rfl) | ((with_reducible refine cond_f ?_ ?_); focus rfl) | ((with_reducible refine code_id ?_); conv => whnf) | (clear hK; (with_reducible refine hK _ _ _ ?_); clear hK) | (clear hK; clear hK; (with_reducible refine hK _ _ _ ?_); clear hK) | (clear hK; clear hK; clear hK; (with_reducible refine hK _ _ _ ?_); clear hK) | (clear hK; clear hK; clear hK; clear hK; (with_reducible refine hK _ _ _ ?_); clear hK) | (clear hK; clear hK; clear hK; clear hK; clear hK; (with_reducible refine hK _ _ _ ?_); clear hK) | (clear hK; clear hK; clear hK; clear hK; clear hK; clear hK; (with_reducible refine hK _ _ _ ?_); clear hK) | (clear hK; clear hK; clear hK; clear hK; clear hK; clear hK; clear hK; (with_reducible refine hK _ _ _ ?_); clear hK))
      refine ⟨hg.pt 0 rfl, ?_⟩
      have hg6 := hg.st 0 rfl (R .busy)
      obtain ⟨sc, hcc, _⟩ := (CapsA.rd hg6 6 rfl).cell x hx
      repeat (first | ((with_reducible refine hK _ _ _ ?_); clear hK) | (with_reducible refine seq_step fun K hK => ?_) | (with_reducible refine block_step ?_) | ((with_reducible refine cond_t ?_ ?_); focus rfl) | ((with_reducible refine cond_f ?_ ?_); focus rfl) | ((with_reducible refine code_id ?_); conv => whnf) | (clear hK; (with_reducible refine hK _ _ _ ?_); clear hK) | (clear hK; clear hK; (with_reducible refine hK _ _ _ ?_); clear hK) | (clear hK; clear hK; clear hK; (with_reducible refine hK _ _ _ ?_); clear hK) | (clear hK; clear hK; clear hK; clear hK; (with_reducible refine hK _ _ _ ?_); clear hK) | (clear hK; clear hK; clear hK; clear hK; clear hK; (with_reducible refine hK _ _ _ ?_); clear hK) | (clear hK; clear hK; clear hK; clear hK; clear hK; clear hK; (with_reducible refine hK _ _ _ ?_); clear hK) | (clear hK; clear hK; clear hK; clear hK; clear hK; clear hK; clear hK; (with_reducible refine hK _ _ _ ?_); clear hK) | (refine ⟨_, _, SubH.refl _, SubB.refl _, ?_⟩; conv => whnf) | (refine ⟨⟨SubH.refl _, SubB.refl _⟩, ?_⟩; conv => whnf) | (refine ⟨_, _, ⟨SubH.refl _, SubB.refl _⟩, SubH.refl _, SubB.refl _, ?_⟩; conv => whnf))
      refine opt_ld (hg6.pt 5 rfl) (v := iv kind) rfl ?_
      conv => whnf
      refine opt_ld (hg6.pt 4 rfl) (v := iv serial) rfl ?_
      conv => whnf
      refine fresh_has hg6 fun bw g8 hbw _ hs8 hg8 => ?_
      conv => whnf
      refine fitsKS (hs8 _ _ hcc) hbw ?_
      have nomat : m x = false → ∀ d ∈ S.cs, d.env = n → m d = true → ((j : Int) + 1) ≤ d.slot := fun hmx d hd he hmd => by
        have h4 := hlow2 d hd he hmd
        by_cases hdj : d.slot = j
        · have := hw.place hd hx (by omega) (by omega)
          subst this
          rw [hmx] at hmd; cases hmd
        · omega
      have next : m x = false → ∀ g, Has (Pt bw (.cells #[.func (.func 53) #[] #[], iv kind, .func (.func 54) #[] #[], iv serial] 103 (0, 0)) :: Pt r (R .busy) :: Pt b4 (.cells #[ptr t] 77 (0, 0)) :: Pt b10 (.cells #[iv 0] 3 (0, 0)) :: Pt b9 (.cells #[iv rights] 3 (0, 0)) :: Pt b8 (.cells #[iv serial] 3 (0, 0)) :: Pt b7 (.cells #[iv kind] 3 (0, 0)) :: CapsA b S :: L) g → Has (Pt r (R .ready) :: Pt b4 (.cells #[ptr t] 77 (0, 0)) :: Pt b10 (.cells #[iv 0] 3 (0, 0)) :: Pt b9 (.cells #[iv rights] 3 (0, 0)) :: Pt b8 (.cells #[iv serial] 3 (0, 0)) :: Pt b7 (.cells #[iv kind] 3 (0, 0)) :: CapsA b S :: L) (upd g r (R .ready)) := fun _ g hg => (hg.st 1 rfl (R .ready)).tail
      cases hfit : (decide (x.cap.kind = kind) && decide (x.cap.serial = serial)) with
      | false =>
        have hmx : m x = false := by rw [hm]; unfold findM; rw [hfit]; rfl
        conv => whnf
        repeat (first | ((with_reducible refine hK _ _ _ ?_); clear hK) | (with_reducible refine seq_step fun K hK => ?_) | (with_reducible refine block_step ?_) | ((with_reducible refine cond_t ?_ ?_); focus rfl) | ((with_reducible refine cond_f ?_ ?_); focus rfl) | ((with_reducible refine code_id ?_); conv => whnf) | (clear hK; (with_reducible refine hK _ _ _ ?_); clear hK) | (clear hK; clear hK; (with_reducible refine hK _ _ _ ?_); clear hK) | (clear hK; clear hK; clear hK; (with_reducible refine hK _ _ _ ?_); clear hK) | (clear hK; clear hK; clear hK; clear hK; (with_reducible refine hK _ _ _ ?_); clear hK) | (clear hK; clear hK; clear hK; clear hK; clear hK; (with_reducible refine hK _ _ _ ?_); clear hK) | (clear hK; clear hK; clear hK; clear hK; clear hK; clear hK; (with_reducible refine hK _ _ _ ?_); clear hK) | (clear hK; clear hK; clear hK; clear hK; clear hK; clear hK; clear hK; (with_reducible refine hK _ _ _ ?_); clear hK) | (refine ⟨_, _, SubH.refl _, SubB.refl _, ?_⟩; conv => whnf) | (refine ⟨⟨SubH.refl _, SubB.refl _⟩, ?_⟩; conv => whnf) | (refine ⟨_, _, ⟨SubH.refl _, SubB.refl _⟩, SubH.refl _, SubB.refl _, ?_⟩; conv => whnf))
        exact ⟨hg8.pt 1 rfl, .inl ⟨rfl, by omega, nomat hmx, next hmx _ hg8⟩⟩
      | true =>
        conv => whnf
        refine opt_ld (hg8.pt 4 rfl) (v := iv rights) rfl ?_
        conv => whnf
        refine opt_ld (hs8 _ _ hcc) (v := iv x.cap.rights) rfl ?_
        conv => whnf
        rw [andNot4e _ _ (by omega) (by omega) hokx.1 hokx.2]
        cases hsub : subR rights x.cap.rights with
        | false =>
          have hmx : m x = false := by rw [hm]; unfold findM; rw [hfit, hsub]; rfl
          conv => whnf
          repeat (first | ((with_reducible refine hK _ _ _ ?_); clear hK) | (with_reducible refine seq_step fun K hK => ?_) | (with_reducible refine block_step ?_) | ((with_reducible refine cond_t ?_ ?_); focus rfl) | ((with_reducible refine cond_f ?_ ?_); focus rfl) | ((with_reducible refine code_id ?_); conv => whnf) | (clear hK; (with_reducible refine hK _ _ _ ?_); clear hK) | (clear hK; clear hK; (with_reducible refine hK _ _ _ ?_); clear hK) | (clear hK; clear hK; clear hK; (with_reducible refine hK _ _ _ ?_); clear hK) | (clear hK; clear hK; clear hK; clear hK; (with_reducible refine hK _ _ _ ?_); clear hK) | (clear hK; clear hK; clear hK; clear hK; clear hK; (with_reducible refine hK _ _ _ ?_); clear hK) | (clear hK; clear hK; clear hK; clear hK; clear hK; clear hK; (with_reducible refine hK _ _ _ ?_); clear hK) | (clear hK; clear hK; clear hK; clear hK; clear hK; clear hK; clear hK; (with_reducible refine hK _ _ _ ?_); clear hK) | (refine ⟨_, _, SubH.refl _, SubB.refl _, ?_⟩; conv => whnf) | (refine ⟨⟨SubH.refl _, SubB.refl _⟩, ?_⟩; conv => whnf) | (refine ⟨_, _, ⟨SubH.refl _, SubB.refl _⟩, SubH.refl _, SubB.refl _, ?_⟩; conv => whnf))
          exact ⟨hg8.pt 1 rfl, .inl ⟨rfl, by omega, nomat hmx, next hmx _ hg8⟩⟩
        | true =>
          have hmx : m x = true := by rw [hm]; unfold findM; rw [hfit, hsub]; rfl
          conv => whnf
          repeat (first | ((with_reducible refine hK _ _ _ ?_); clear hK) | (with_reducible refine seq_step fun K hK => ?_) | (with_reducible refine block_step ?_) | ((with_reducible refine cond_t ?_ ?_); focus rfl) | ((with_reducible refine cond_f ?_ ?_); focus rfl) | ((with_reducible refine code_id ?_); conv => whnf) | (clear hK; (with_reducible refine hK _ _ _ ?_); clear hK) | (clear hK; clear hK; (with_reducible refine hK _ _ _ ?_); clear hK) | (clear hK; clear hK; clear hK; (with_reducible refine hK _ _ _ ?_); clear hK) | (clear hK; clear hK; clear hK; clear hK; (with_reducible refine hK _ _ _ ?_); clear hK) | (clear hK; clear hK; clear hK; clear hK; clear hK; (with_reducible refine hK _ _ _ ?_); clear hK) | (clear hK; clear hK; clear hK; clear hK; clear hK; clear hK; (with_reducible refine hK _ _ _ ?_); clear hK) | (clear hK; clear hK; clear hK; clear hK; clear hK; clear hK; clear hK; (with_reducible refine hK _ _ _ ?_); clear hK) | (refine ⟨_, _, SubH.refl _, SubB.refl _, ?_⟩; conv => whnf) | (refine ⟨⟨SubH.refl _, SubB.refl _⟩, ?_⟩; conv => whnf) | (refine ⟨_, _, ⟨SubH.refl _, SubB.refl _⟩, SubH.refl _, SubB.refl _, ?_⟩; conv => whnf))
          refine st_has hg8 3 rfl rfl (show 0 + 1 ≤ 1 by decide) rfl fun g9 _ _ hg9 => ?_
          conv => whnf
          repeat (first | ((with_reducible refine hK _ _ _ ?_); clear hK) | (with_reducible refine seq_step fun K hK => ?_) | (with_reducible refine block_step ?_) | ((with_reducible refine cond_t ?_ ?_); focus rfl) | ((with_reducible refine cond_f ?_ ?_); focus rfl) | ((with_reducible refine code_id ?_); conv => whnf) | (clear hK; (with_reducible refine hK _ _ _ ?_); clear hK) | (clear hK; clear hK; (with_reducible refine hK _ _ _ ?_); clear hK) | (clear hK; clear hK; clear hK; (with_reducible refine hK _ _ _ ?_); clear hK) | (clear hK; clear hK; clear hK; clear hK; (with_reducible refine hK _ _ _ ?_); clear hK) | (clear hK; clear hK; clear hK; clear hK; clear hK; (with_reducible refine hK _ _ _ ?_); clear hK) | (clear hK; clear hK; clear hK; clear hK; clear hK; clear hK; (with_reducible refine hK _ _ _ ?_); clear hK) | (clear hK; clear hK; clear hK; clear hK; clear hK; clear hK; clear hK; (with_reducible refine hK _ _ _ ?_); clear hK) | (refine ⟨_, _, SubH.refl _, SubB.refl _, ?_⟩; conv => whnf) | (refine ⟨⟨SubH.refl _, SubB.refl _⟩, ?_⟩; conv => whnf) | (refine ⟨_, _, ⟨SubH.refl _, SubB.refl _⟩, SubH.refl _, SubB.refl _, ?_⟩; conv => whnf))
          refine ⟨hg9.pt 1 rfl, .inr ⟨rfl, .inr ⟨x, hx, x2, hmx, fun d hd he hmd => by have := hlow2 d hd he hmd; omega, ?_⟩⟩⟩
          have hg10 := (hg9.st 1 rfl (R (.done .ret))).tail
          rw [show ((x.slot : Nat) : Int) = (j : Int) by omega]
          exact hg10
    · rintro v' h' (⟨hg, hno⟩ | ⟨x, hx, hxn, hmx, hlow, hg⟩)
      · refine ⟨.ready, hg.pt 0 rfl, fun o => ?_⟩
        have hg5 := hg.st 0 rfl o
        repeat (first | ((with_reducible refine hK _ _ _ ?_); clear hK) | (with_reducible refine seq_step fun K hK => ?_) | (with_reducible refine block_step ?_) | ((with_reducible refine cond_t ?_ ?_); focus rfl) | ((with_reducible refine cond_f ?_ ?_); focus rfl) | ((with_reducible refine code_id ?_); conv => whnf) | (clear hK; (with_reducible refine hK _ _ _ ?_); clear hK) | (clear hK; clear hK; (with_reducible refine hK _ _ _ ?_); clear hK) | (clear hK; clear hK; clear hK; (with_reducible refine hK _ _ _ ?_); clear hK) | (clear hK; clear hK; clear hK; clear hK; (with_reducible refine hK _ _ _ ?_); clear hK) | (clear hK; clear hK; clear hK; clear hK; clear hK; (with_reducible refine hK _ _ _ ?_); clear hK) | (clear hK; clear hK; clear hK; clear hK; clear hK; clear hK; (with_reducible refine hK _ _ _ ?_); clear hK) | (clear hK; clear hK; clear hK; clear hK; clear hK; clear hK; clear hK; (with_reducible refine hK _ _ _ ?_); clear hK))
        refine st_has hg5 2 rfl rfl (show 0 + 1 ≤ 1 by decide) rfl fun g9 _ _ hg9 => ?_
        conv => whnf
        repeat (first | ((with_reducible refine hK _ _ _ ?_); clear hK) | (with_reducible refine seq_step fun K hK => ?_) | (with_reducible refine block_step ?_) | ((with_reducible refine cond_t ?_ ?_); focus rfl) | ((with_reducible refine cond_f ?_ ?_); focus rfl) | ((with_reducible refine code_id ?_); conv => whnf) | (clear hK; (with_reducible refine hK _ _ _ ?_); clear hK) | (clear hK; clear hK; (with_reducible refine hK _ _ _ ?_); clear hK) | (clear hK; clear hK; clear hK; (with_reducible refine hK _ _ _ ?_); clear hK) | (clear hK; clear hK; clear hK; clear hK; (with_reducible refine hK _ _ _ ?_); clear hK) | (clear hK; clear hK; clear hK; clear hK; clear hK; (with_reducible refine hK _ _ _ ?_); clear hK) | (clear hK; clear hK; clear hK; clear hK; clear hK; clear hK; (with_reducible refine hK _ _ _ ?_); clear hK) | (clear hK; clear hK; clear hK; clear hK; clear hK; clear hK; clear hK; (with_reducible refine hK _ _ _ ?_); clear hK))
        refine ret_c rfl (hg9.pt 2 rfl) (v := iv (-1)) rfl ?_
        exact h2 n rfl (by omega) (by omega) hno _ (((((((hg9.erase 0).erase 0).erase 0).erase 0).erase 0).erase 0))
      · refine ⟨.done .ret, hg.pt 0 rfl, fun o => ?_⟩
        have hg5 := hg.st 0 rfl o
        conv => whnf
        refine ret_c rfl (hg5.pt 2 rfl) (v := iv x.slot) rfl ?_
        exact h3 n rfl (by omega) (by omega) x hx hxn hmx hlow _ (((((((hg5.erase 0).erase 0).erase 0).erase 0).erase 0).erase 0))
end
end Go.Proofs.YthpkgkoojhgedaaDoor.V
