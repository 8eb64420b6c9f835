/- Seat 08: sound. -/
import Derived.Test.YthpkgkoojhgedaaDoorK26
namespace Go.Proofs.YthpkgkoojhgedaaDoor.V
set_option linter.unusedVariables false
set_option linter.unusedSimpArgs false
set_option linter.unusedSectionVars false
set_option linter.unusedSectionVars false
open Go

theorem andS (x y : Int) (h0 : 0 ≤ x) (h1 : x ≤ 15) (h2 : 0 ≤ y) (h3 : y ≤ 15) : (IntKind.i64.wrap ((BitVec.ofInt IntKind.i64.bits x &&& BitVec.ofInt IntKind.i64.bits y).toNat : Int) != x) = !subR x y := by
  obtain ⟨n, rfl⟩ := Int.eq_ofNat_of_zero_le h0
  obtain ⟨m, rfl⟩ := Int.eq_ofNat_of_zero_le h2
  have key : ∀ n m : Fin 16, (IntKind.i64.wrap ((BitVec.ofInt IntKind.i64.bits (n.val : Int) &&& BitVec.ofInt IntKind.i64.bits (m.val : Int)).toNat : Int) != (n.val : Int)) = !subR (n.val : Int) (m.val : Int) := by decide +kernel
  exact key ⟨n, by omega⟩ ⟨m, by omega⟩

section
variable {h : Hp} {Q : Value → Hp → Prop} {L : List As} {b : Nat} {S : Bs}

set_option maxRecDepth 100000 in
set_option maxHeartbeats 4000000 in
theorem sound16 (hw : WF S) (hr : CapsR b S h) (hn : NoneR h) {s : Value} (hv : Vw 6 h s (allOf S).length ((allOf S).flatMap hdC)) (hq : Q (.bool true) h) : Ok PR 16 [ptr b, s] h Q := by
  have hv0 := hv
  have hlen : (allOf S).length < 1099511627776 := by have := allTo_le S 16; show (allTo S 16).length < _; omega
  have hcl := all_le hw
  obtain ⟨_, bi, ci, rfl, _, _⟩ := hv
  obtain ⟨rk, hrk⟩ := hw.ord
  obtain ⟨l, hl⟩ : ∃ l, l = allOf S := ⟨_, rfl⟩
  rw [← hl] at hv0 hlen hcl ⊢
  have hmem : ∀ x, x ∈ l ↔ ∃ c ∈ S.cs, x = hdOf c := fun x => by rw [hl]; exact mem_allOf hw
  have hfind : ∀ c ∈ S.cs, l.find? (isAt c.env c.slot) = some (hdOf c) := fun c hc => by rw [hl]; exact find_at hw hc
  refine e16 rfl (seq_step fun K hK => ?_)
  repeat (first | ((with_reducible refine hK _ _ _ ?_); clear hK) | (with_reducible refine seq_step fun K hK => ?_) | (with_reducible refine block_step ?_) | ((with_reducible refine cond_t ?_ ?_); focus rfl) | ((with_reducible refine cond_f ?_ ?_); focus rfl) | ((with_reducible refine code_id ?_); conv => whnf) | (clear hK; (with_reducible refine hK _ _ _ ?_); clear hK) | (clear hK; clear hK; (with_reducible refine hK _ _ _ ?_); clear hK) | (clear hK; clear hK; clear hK; (with_reducible refine hK _ _ _ ?_); clear hK) | (clear hK; clear hK; clear hK; clear hK; (with_reducible refine hK _ _ _ ?_); clear hK) | (clear hK; clear hK; clear hK; clear hK; clear hK; (with_reducible refine hK _ _ _ ?_); clear hK) | (clear hK; clear hK; clear hK; clear hK; clear hK; clear hK; (with_reducible refine hK _ _ _ ?_); clear hK) | (clear hK; clear hK; clear hK; clear hK; clear hK; clear hK; clear hK; (with_reducible refine hK _ _ _ ?_); clear hK))
  refine loop_intro (σ := Nat) (fun s => [(0, .v (ptr b)), (1, .v (.slice bi l.length ci)), (5, .v (iv s))]) (fun _ => []) (fun _ => h)
    (fun s => s ≤ l.length) (fun s => l.length - s) 0 (Nat.zero_le _) (subE_cons rfl (subE_cons rfl (subE_cons rfl subE_nil))) subB_nil rfl ?_
  intro i hi
  have hnext : IntKind.i64.wrap ((i : Int) + 1) = ((i + 1 : Nat) : Int) := wrap_nat (by omega)
  repeat (first | ((with_reducible refine hK _ _ _ ?_); clear hK) | (with_reducible refine seq_step fun K hK => ?_) | (with_reducible refine block_step ?_) | ((with_reducible refine cond_t ?_ ?_); focus rfl) | ((with_reducible refine cond_f ?_ ?_); focus rfl) | ((with_reducible refine code_id ?_); conv => whnf) | (clear hK; (with_reducible refine hK _ _ _ ?_); clear hK) | (clear hK; clear hK; (with_reducible refine hK _ _ _ ?_); clear hK) | (clear hK; clear hK; clear hK; (with_reducible refine hK _ _ _ ?_); clear hK) | (clear hK; clear hK; clear hK; clear hK; (with_reducible refine hK _ _ _ ?_); clear hK) | (clear hK; clear hK; clear hK; clear hK; clear hK; (with_reducible refine hK _ _ _ ?_); clear hK) | (clear hK; clear hK; clear hK; clear hK; clear hK; clear hK; (with_reducible refine hK _ _ _ ?_); clear hK) | (clear hK; clear hK; clear hK; clear hK; clear hK; clear hK; clear hK; (with_reducible refine hK _ _ _ ?_); clear hK))
  refine cond_dec (fun hlt => ?_) (fun hge => ?_)
  · have hil : i < l.length := by omega
    obtain ⟨bb, o, cap', cc, ty, z, hsl, hbb, h0, h1, h6, _⟩ := hs_at hv0 hil
    obtain ⟨c0, hc0, hx0⟩ := (hmem l[i]).1 (List.getElem_mem hil)
    rw [hsl]
    repeat (first | ((with_reducible refine hK _ _ _ ?_); clear hK) | (with_reducible refine seq_step fun K hK => ?_) | (with_reducible refine block_step ?_) | ((with_reducible refine cond_t ?_ ?_); focus rfl) | ((with_reducible refine cond_f ?_ ?_); focus rfl) | ((with_reducible refine code_id ?_); conv => whnf) | (clear hK; (with_reducible refine hK _ _ _ ?_); clear hK) | (clear hK; clear hK; (with_reducible refine hK _ _ _ ?_); clear hK) | (clear hK; clear hK; clear hK; (with_reducible refine hK _ _ _ ?_); clear hK) | (clear hK; clear hK; clear hK; clear hK; (with_reducible refine hK _ _ _ ?_); clear hK) | (clear hK; clear hK; clear hK; clear hK; clear hK; (with_reducible refine hK _ _ _ ?_); clear hK) | (clear hK; clear hK; clear hK; clear hK; clear hK; clear hK; (with_reducible refine hK _ _ _ ?_); clear hK) | (clear hK; clear hK; clear hK; clear hK; clear hK; clear hK; clear hK; (with_reducible refine hK _ _ _ ?_); clear hK))
    refine opt_if ⟨by omega, by omega⟩ ?_
    conv => whnf
    refine opt_ld hbb (v := .agg (hdC l[i]).toArray) (by show rd cc (o + (i : Int).toNat * 6) 6 true = _; rw [Int.toNat_natCast]; exact h6) ?_
    rw [hx0]
    conv => whnf
    repeat (first | ((with_reducible refine hK _ _ _ ?_); clear hK) | (with_reducible refine seq_step fun K hK => ?_) | (with_reducible refine block_step ?_) | ((with_reducible refine cond_t ?_ ?_); focus rfl) | ((with_reducible refine cond_f ?_ ?_); focus rfl) | ((with_reducible refine code_id ?_); conv => whnf) | (clear hK; (with_reducible refine hK _ _ _ ?_); clear hK) | (clear hK; clear hK; (with_reducible refine hK _ _ _ ?_); clear hK) | (clear hK; clear hK; clear hK; (with_reducible refine hK _ _ _ ?_); clear hK) | (clear hK; clear hK; clear hK; clear hK; (with_reducible refine hK _ _ _ ?_); clear hK) | (clear hK; clear hK; clear hK; clear hK; clear hK; (with_reducible refine hK _ _ _ ?_); clear hK) | (clear hK; clear hK; clear hK; clear hK; clear hK; clear hK; (with_reducible refine hK _ _ _ ?_); clear hK) | (clear hK; clear hK; clear hK; clear hK; clear hK; clear hK; clear hK; (with_reducible refine hK _ _ _ ?_); clear hK))
    refine loop_intro (σ := Ce × List Nat) (fun s => [(0, .v (ptr b)), (1, .v (.slice bi l.length ci)), (5, .v (iv i)), (6, .l 6 0), (7, .v (iv s.2.length))]) (fun s => [(6, hdC (hdOf s.1))]) (fun _ => h)
      (fun s => s.1 ∈ S.cs ∧ s.2.Nodup ∧ (∀ x ∈ s.2, rk s.1.a < rk x ∧ ∃ d ∈ S.cs, d.a = x)) (fun s => rk s.1.a) (c0, []) ⟨hc0, List.nodup_nil, fun x hx => by cases hx⟩
      (subE_cons rfl (subE_cons (by rw [hsl]; rfl) (subE_cons rfl (subE_cons rfl (subE_cons rfl subE_nil))))) (subB_cons rfl subB_nil) rfl ?_
    rintro ⟨c, V⟩ ⟨hc, hV, hVr⟩
    dsimp only at hc hV hVr ⊢
    have hVl : V.length + 1 ≤ S.cs.length := by
      have h2 := nodup_sub (l := c.a :: V) (m := S.cs.map (·.a)) (List.nodup_cons.2 ⟨fun hm => Nat.lt_irrefl _ (hVr _ hm).1, hV⟩) fun x hx => by
        rcases List.mem_cons.1 hx with rfl | hx
        · exact List.mem_map.2 ⟨c, hc, rfl⟩
        · obtain ⟨d, hd, e⟩ := (hVr x hx).2
          exact List.mem_map.2 ⟨d, hd, e⟩
      rwa [List.length_map, List.length_cons] at h2
    have hnext2 : IntKind.i64.wrap ((V.length : Int) + 1) = ((V.length + 1 : Nat) : Int) := wrap_nat (by omega)
    have hlk := mLook_of hw hc
    repeat (first | ((with_reducible refine hK _ _ _ ?_); clear hK) | (with_reducible refine seq_step fun K hK => ?_) | (with_reducible refine block_step ?_) | ((with_reducible refine cond_t ?_ ?_); focus rfl) | ((with_reducible refine cond_f ?_ ?_); focus rfl) | ((with_reducible refine code_id ?_); conv => whnf) | (clear hK; (with_reducible refine hK _ _ _ ?_); clear hK) | (clear hK; clear hK; (with_reducible refine hK _ _ _ ?_); clear hK) | (clear hK; clear hK; clear hK; (with_reducible refine hK _ _ _ ?_); clear hK) | (clear hK; clear hK; clear hK; clear hK; (with_reducible refine hK _ _ _ ?_); clear hK) | (clear hK; clear hK; clear hK; clear hK; clear hK; (with_reducible refine hK _ _ _ ?_); clear hK) | (clear hK; clear hK; clear hK; clear hK; clear hK; clear hK; (with_reducible refine hK _ _ _ ?_); clear hK) | (clear hK; clear hK; clear hK; clear hK; clear hK; clear hK; clear hK; (with_reducible refine hK _ _ _ ?_); clear hK))
    rw [show decide ((V.length : Int) > (l.length : Nat)) = false from decide_eq_false (by omega)]
    conv => whnf
    repeat (first | ((with_reducible refine hK _ _ _ ?_); clear hK) | (with_reducible refine seq_step fun K hK => ?_) | (with_reducible refine block_step ?_) | ((with_reducible refine cond_t ?_ ?_); focus rfl) | ((with_reducible refine cond_f ?_ ?_); focus rfl) | ((with_reducible refine code_id ?_); conv => whnf) | (clear hK; (with_reducible refine hK _ _ _ ?_); clear hK) | (clear hK; clear hK; (with_reducible refine hK _ _ _ ?_); clear hK) | (clear hK; clear hK; clear hK; (with_reducible refine hK _ _ _ ?_); clear hK) | (clear hK; clear hK; clear hK; clear hK; (with_reducible refine hK _ _ _ ?_); clear hK) | (clear hK; clear hK; clear hK; clear hK; clear hK; (with_reducible refine hK _ _ _ ?_); clear hK) | (clear hK; clear hK; clear hK; clear hK; clear hK; clear hK; (with_reducible refine hK _ _ _ ?_); clear hK) | (clear hK; clear hK; clear hK; clear hK; clear hK; clear hK; clear hK; (with_reducible refine hK _ _ _ ?_); clear hK))
    refine from13 hw hr hn c.env c.slot (fun k hk => by rw [hlk] at hk; cases hk) (fun x hx he hs hp => ?_) (fun x hx p hp he hs hpar => ?_)
    · conv => whnf
      repeat (first | ((with_reducible refine hK _ _ _ ?_); clear hK) | (with_reducible refine seq_step fun K hK => ?_) | (with_reducible refine block_step ?_) | ((with_reducible refine cond_t ?_ ?_); focus rfl) | ((with_reducible refine cond_f ?_ ?_); focus rfl) | ((with_reducible refine code_id ?_); conv => whnf) | (clear hK; (with_reducible refine hK _ _ _ ?_); clear hK) | (clear hK; clear hK; (with_reducible refine hK _ _ _ ?_); clear hK) | (clear hK; clear hK; clear hK; (with_reducible refine hK _ _ _ ?_); clear hK) | (clear hK; clear hK; clear hK; clear hK; (with_reducible refine hK _ _ _ ?_); clear hK) | (clear hK; clear hK; clear hK; clear hK; clear hK; (with_reducible refine hK _ _ _ ?_); clear hK) | (clear hK; clear hK; clear hK; clear hK; clear hK; clear hK; (with_reducible refine hK _ _ _ ?_); clear hK) | (clear hK; clear hK; clear hK; clear hK; clear hK; clear hK; clear hK; (with_reducible refine hK _ _ _ ?_); clear hK))
      exact ⟨i + 1, hil, by omega, subE_cons rfl (subE_cons rfl (subE_cons (int_eq hnext rfl) subE_nil)), subB_nil, rfl⟩
    · have hxc := hw.place hc hx (by omega) (by omega)
      subst hxc
      have hu := hw.up c hx p hp hpar
      have hok := (hw.okc p hp).2.2.2
      have hokx := (hw.okc c hx).2.2.2
      have hrx := hrk c hx _ hpar
      conv => whnf
      repeat (first | ((with_reducible refine hK _ _ _ ?_); clear hK) | (with_reducible refine seq_step fun K hK => ?_) | (with_reducible refine block_step ?_) | ((with_reducible refine cond_t ?_ ?_); focus rfl) | ((with_reducible refine cond_f ?_ ?_); focus rfl) | ((with_reducible refine code_id ?_); conv => whnf) | (clear hK; (with_reducible refine hK _ _ _ ?_); clear hK) | (clear hK; clear hK; (with_reducible refine hK _ _ _ ?_); clear hK) | (clear hK; clear hK; clear hK; (with_reducible refine hK _ _ _ ?_); clear hK) | (clear hK; clear hK; clear hK; clear hK; (with_reducible refine hK _ _ _ ?_); clear hK) | (clear hK; clear hK; clear hK; clear hK; clear hK; (with_reducible refine hK _ _ _ ?_); clear hK) | (clear hK; clear hK; clear hK; clear hK; clear hK; clear hK; (with_reducible refine hK _ _ _ ?_); clear hK) | (clear hK; clear hK; clear hK; clear hK; clear hK; clear hK; clear hK; (with_reducible refine hK _ _ _ ?_); clear hK))
      rw [show ((p.env : Int) == -1) = false from beq_eq_false_iff_ne.2 (by omega)]
      conv => whnf
      repeat (first | ((with_reducible refine hK _ _ _ ?_); clear hK) | (with_reducible refine seq_step fun K hK => ?_) | (with_reducible refine block_step ?_) | ((with_reducible refine cond_t ?_ ?_); focus rfl) | ((with_reducible refine cond_f ?_ ?_); focus rfl) | ((with_reducible refine code_id ?_); conv => whnf) | (clear hK; (with_reducible refine hK _ _ _ ?_); clear hK) | (clear hK; clear hK; (with_reducible refine hK _ _ _ ?_); clear hK) | (clear hK; clear hK; clear hK; (with_reducible refine hK _ _ _ ?_); clear hK) | (clear hK; clear hK; clear hK; clear hK; (with_reducible refine hK _ _ _ ?_); clear hK) | (clear hK; clear hK; clear hK; clear hK; clear hK; (with_reducible refine hK _ _ _ ?_); clear hK) | (clear hK; clear hK; clear hK; clear hK; clear hK; clear hK; (with_reducible refine hK _ _ _ ?_); clear hK) | (clear hK; clear hK; clear hK; clear hK; clear hK; clear hK; clear hK; (with_reducible refine hK _ _ _ ?_); clear hK))
      refine has22 hlen hv0 p.env p.slot ?_
      rw [hfind p hp]
      conv => whnf
      repeat (first | ((with_reducible refine hK _ _ _ ?_); clear hK) | (with_reducible refine seq_step fun K hK => ?_) | (with_reducible refine block_step ?_) | ((with_reducible refine cond_t ?_ ?_); focus rfl) | ((with_reducible refine cond_f ?_ ?_); focus rfl) | ((with_reducible refine code_id ?_); conv => whnf) | (clear hK; (with_reducible refine hK _ _ _ ?_); clear hK) | (clear hK; clear hK; (with_reducible refine hK _ _ _ ?_); clear hK) | (clear hK; clear hK; clear hK; (with_reducible refine hK _ _ _ ?_); clear hK) | (clear hK; clear hK; clear hK; clear hK; (with_reducible refine hK _ _ _ ?_); clear hK) | (clear hK; clear hK; clear hK; clear hK; clear hK; (with_reducible refine hK _ _ _ ?_); clear hK) | (clear hK; clear hK; clear hK; clear hK; clear hK; clear hK; (with_reducible refine hK _ _ _ ?_); clear hK) | (clear hK; clear hK; clear hK; clear hK; clear hK; clear hK; clear hK; (with_reducible refine hK _ _ _ ?_); clear hK))
      rw [show ((hdOf p).cap.kind != (hdOf c).cap.kind) = false by rw [show (hdOf c).cap.kind = (hdOf p).cap.kind from hu.1]; exact bne_self_eq_false _]
      conv => whnf
      rw [show ((hdOf p).cap.obj != (hdOf c).cap.obj) = false by rw [show (hdOf c).cap.obj = (hdOf p).cap.obj from hu.2.1]; exact bne_self_eq_false _]
      conv => whnf
      rw [show ((hdOf p).cap.serial != (hdOf c).cap.serial) = false by rw [show (hdOf c).cap.serial = (hdOf p).cap.serial from hu.2.2.1]; exact bne_self_eq_false _]
      conv => whnf
      repeat (first | ((with_reducible refine hK _ _ _ ?_); clear hK) | (with_reducible refine seq_step fun K hK => ?_) | (with_reducible refine block_step ?_) | ((with_reducible refine cond_t ?_ ?_); focus rfl) | ((with_reducible refine cond_f ?_ ?_); focus rfl) | ((with_reducible refine code_id ?_); conv => whnf) | (clear hK; (with_reducible refine hK _ _ _ ?_); clear hK) | (clear hK; clear hK; (with_reducible refine hK _ _ _ ?_); clear hK) | (clear hK; clear hK; clear hK; (with_reducible refine hK _ _ _ ?_); clear hK) | (clear hK; clear hK; clear hK; clear hK; (with_reducible refine hK _ _ _ ?_); clear hK) | (clear hK; clear hK; clear hK; clear hK; clear hK; (with_reducible refine hK _ _ _ ?_); clear hK) | (clear hK; clear hK; clear hK; clear hK; clear hK; clear hK; (with_reducible refine hK _ _ _ ?_); clear hK) | (clear hK; clear hK; clear hK; clear hK; clear hK; clear hK; clear hK; (with_reducible refine hK _ _ _ ?_); clear hK))
      rw [and4 (hdOf p).cap.rights hok.1 hok.2, show grantR (hdOf p).cap.rights = true from hu.2.2.2.1]
      conv => whnf
      rw [andS (hdOf c).cap.rights (hdOf p).cap.rights hokx.1 hokx.2 hok.1 hok.2, show subR (hdOf c).cap.rights (hdOf p).cap.rights = true from hu.2.2.2.2]
      conv => whnf
      repeat (first | ((with_reducible refine hK _ _ _ ?_); clear hK) | (with_reducible refine seq_step fun K hK => ?_) | (with_reducible refine block_step ?_) | ((with_reducible refine cond_t ?_ ?_); focus rfl) | ((with_reducible refine cond_f ?_ ?_); focus rfl) | ((with_reducible refine code_id ?_); conv => whnf) | (clear hK; (with_reducible refine hK _ _ _ ?_); clear hK) | (clear hK; clear hK; (with_reducible refine hK _ _ _ ?_); clear hK) | (clear hK; clear hK; clear hK; (with_reducible refine hK _ _ _ ?_); clear hK) | (clear hK; clear hK; clear hK; clear hK; (with_reducible refine hK _ _ _ ?_); clear hK) | (clear hK; clear hK; clear hK; clear hK; clear hK; (with_reducible refine hK _ _ _ ?_); clear hK) | (clear hK; clear hK; clear hK; clear hK; clear hK; clear hK; (with_reducible refine hK _ _ _ ?_); clear hK) | (clear hK; clear hK; clear hK; clear hK; clear hK; clear hK; clear hK; (with_reducible refine hK _ _ _ ?_); clear hK))
      exact ⟨(p, c.a :: V), ⟨hp, List.nodup_cons.2 ⟨fun hm => Nat.lt_irrefl _ (hVr _ hm).1, hV⟩, fun y hy => by
        rcases List.mem_cons.1 hy with rfl | hy
        · exact ⟨hrx, c, hx, rfl⟩
        · exact ⟨Nat.lt_trans hrx (hVr y hy).1, (hVr y hy).2⟩⟩, hrx, subE_cons rfl (subE_cons rfl (subE_cons rfl (subE_cons rfl (subE_cons (int_eq hnext2 rfl) subE_nil)))), subB_cons rfl subB_nil, rfl⟩
  · repeat (first | ((with_reducible refine hK _ _ _ ?_); clear hK) | (with_reducible refine seq_step fun K hK => ?_) | (with_reducible refine block_step ?_) | ((with_reducible refine cond_t ?_ ?_); focus rfl) | ((with_reducible refine cond_f ?_ ?_); focus rfl) | ((with_reducible refine code_id ?_); conv => whnf) | (clear hK; (with_reducible refine hK _ _ _ ?_); clear hK) | (clear hK; clear hK; (with_reducible refine hK _ _ _ ?_); clear hK) | (clear hK; clear hK; clear hK; (with_reducible refine hK _ _ _ ?_); clear hK) | (clear hK; clear hK; clear hK; clear hK; (with_reducible refine hK _ _ _ ?_); clear hK) | (clear hK; clear hK; clear hK; clear hK; clear hK; (with_reducible refine hK _ _ _ ?_); clear hK) | (clear hK; clear hK; clear hK; clear hK; clear hK; clear hK; (with_reducible refine hK _ _ _ ?_); clear hK) | (clear hK; clear hK; clear hK; clear hK; clear hK; clear hK; clear hK; (with_reducible refine hK _ _ _ ?_); clear hK))
    exact hq
end
end Go.Proofs.YthpkgkoojhgedaaDoor.V
