/- Seat 04: one call played on both disks. -/
import Derived.Test.YtpkleblggehghaaD35
namespace Go.Proofs.Ytpkleblggehghaa.V
set_option linter.unusedVariables false
set_option linter.unusedSimpArgs false
set_option linter.unusedSectionVars false
set_option linter.unusedSectionVars false
open Go

theorem given_r8 {o : OpD} (h : R8 o.data) : R8 o.given := by
  unfold OpD.given
  split
  · unfold fillB
    intro y hy
    rcases List.mem_append.1 (List.mem_of_mem_take hy) with hy | hy
    · exact h y hy
    · rw [List.eq_of_mem_replicate hy]
      cases hl : o.data.getLast? with
      | none =>
        rw [List.getLastD_eq_getLast?, hl]; decide
      | some z =>
        rw [List.getLastD_eq_getLast?, hl]
        exact h z (List.mem_of_getLast? hl)
  · exact h

theorem given_len {o : OpD} : o.given.length ≤ o.data.length + 128 := by
  unfold OpD.given
  split
  · rw [fillB_len]; omega
  · omega

theorem Rd.flush_n (r : Rd) : r.flush.2.landed.length + r.flush.2.waiting.length = r.landed.length + r.waiting.length := by
  have := r.act_lists
  unfold Rd.flush
  split
  · show (r.act.2.landed ++ r.act.2.waiting).length + 0 = _
    rw [List.length_append, this.1, this.2]; rfl
  · rw [this.1, this.2]

theorem Rd.arm_n (r : Rd) (n : Int) : (r.arm n).2.landed.length + (r.arm n).2.waiting.length = r.landed.length + r.waiting.length := by
  unfold Rd.arm
  repeat' split
  all_goals rfl

theorem Rd.write_n (r : Rd) (n : Int) (l : List Int) : (r.write n l).2.landed.length + (r.write n l).2.waiting.length ≤ r.landed.length + r.waiting.length + 1 := by
  have := r.act_lists
  unfold Rd.write
  repeat' split
  · show r.act.2.landed.length + (r.act.2.waiting ++ _).length ≤ _
    rw [List.length_append, this.1, this.2]; simp; omega
  · rw [this.1, this.2]; omega
  · exact Nat.le_succ _
  · exact Nat.le_succ _

theorem Rd.edit_n (r : Rd) (n a : Int) (l : List Int) : (r.edit n a l).2.landed.length + (r.edit n a l).2.waiting.length ≤ r.landed.length + r.waiting.length + 1 := by
  unfold Rd.edit
  repeat' split
  · exact Nat.le_succ _
  · show (r.landed ++ _).length + r.waiting.length ≤ _
    rw [List.length_append]; simp; omega
  · exact Nat.le_succ _

theorem Rd.crash_n (r : Rd) (ks : List Bool) : (r.crash ks).landed.length + (r.crash ks).waiting.length ≤ r.landed.length + r.waiting.length := by
  have := keptR_len (keep := kept ks) (l := r.waiting) r.waiting.length
  show (r.landed ++ keptR (kept ks) r.waiting r.waiting.length).length + 0 ≤ _
  rw [List.length_append]; omega

def flip8 (y : Int) : Int := IntKind.u8.wrap ↑(BitVec.ofInt IntKind.u8.bits (if IntKind.u8.signed = true then -1 else IntKind.u8.max) ^^^ BitVec.ofInt IntKind.u8.bits y).toNat

section
variable {h : Hp} {Q : Value → Hp → Prop} {L : List As} {p q : Nat} {d : Dk} {r : Rd}

/-- What a played call gives: both disks alike again, at most one part more. -/
def Nxt (L : List As) (p q : Nat) (B : Nat) (Q : Value → Hp → Prop) : Prop := ∀ (d' : Dk) (r' : Rd) (h' : Hp), Rel d' r' → r'.landed.length + r'.waiting.length ≤ B → Has (DkP p d' :: RfP q r' :: L) h' → Q (.bool true) h'

set_option maxRecDepth 20000 in
theorem played41 {o : OpD} {vd vk : Value} {B : Nat} (hh : Has (DkP p d :: RfP q r :: L) h) (hrel : Rel d r) (hd8 : R8 o.data) (hn : o.data.length ≤ 2 ^ 30) (hn2 : o.keep.length ≤ 2 ^ 30) (hat : i64 o.at_) (hvd : ∀ g, Has L g → Vw 1 g vd o.data.length (o.data.map by8)) (hvk : ∀ g, Has L g → Vw 1 g vk o.keep.length (o.keep.map fun t => Value.bool t))
    (hB : B ≤ 2 ^ 36) (hc : r.landed.length + r.waiting.length ≤ B) (hq : Nxt L p q (B + 1) Q) : Ok PR 41 [ptr p, ptr q, .agg (opV o vd vk).toArray] h Q := by
  have hok := (DkP.opn hh).1
  have hrk := (RfP.opn (hh.pull 1 rfl)).1
  have hwl := hrel.len
  refine e41 rfl ?_
  refine seq_step fun K hK => ?_
  conv => whnf
  refine hK _ _ _ (seq_step fun K1 hK1 => ?_)
  refine seq_step fun K2 hK2 => ?_
  conv => whnf
  refine hK2 _ _ _ ?_
  refine seq_step fun K3 hK3 => ?_
  conv => whnf
  refine hK3 _ _ _ ?_
  refine cond_beq (fun hk => ?_) (fun hk => ?_)
  · -- a write
    have hg8 := given_r8 hd8
    have hgl := given_len (o := o)
    refine seq_step fun K4 hK4 => ?_
    conv => whnf
    show Ok PR 52 [.agg (opV o vd vk).toArray] h _
    refine handed52 hh (hvd h hh.tail.tail) (by omega) fun s7 h1 hh1 => ?_
    obtain ⟨b7, c7, hs7⟩ := hh1.slv 0 rfl
    subst hs7
    conv => whnf
    refine hK4 _ _ _ (seq_step fun K5 hK5 => ?_)
    conv => whnf
    show Ok PR 15 [ptr p, iv o.sector, .slice b7 o.given.length c7] h1 _
    refine write15i o.sector o.given (hh1.pull 1 rfl) (by omega) (fun g hg => hg.wn 0 rfl) fun h2 hh2 => ?_
    have hwr := hrel.writeR hok o.sector hg8
    generalize hd2 : (d.writeL o.sector o.given).2 = d2 at hh2 hwr
    conv => whnf
    refine hK5 _ _ _ (seq_step fun K6 hK6 => ?_)
    refine seq_step fun K7 hK7 => ?_
    conv => whnf
    show Ok PR 52 [.agg (opV o vd vk).toArray] h2 _
    refine handed52 hh2 (hvd h2 hh2.tail.tail.tail) (by omega) fun s3 h3 hh3 => ?_
    conv => whnf
    refine same26 (hh3.wn 2 rfl) (hh3.wn 0 rfl) fun t ht => ?_
    rw [ht rfl]
    conv => whnf
    refine hK7 _ _ _ ?_
    conv => whnf
    refine hK6 _ _ _ (seq_step fun K8 hK8 => ?_)
    refine seq_step fun K9 hK9 => ?_
    conv => whnf
    refine hK9 _ _ _ ?_
    generalize ha : (d.writeL o.sector o.given).1 = a1 at hwr
    refine loop_intro (σ := Nat × List Int × Hp) (fun x => [(9, .v (iv x.1)), (8, .v (iv a1)), (7, .v (.slice b7 o.given.length c7)), (5, .l 5 0), (0, .v (ptr p)), (1, .v (ptr q))]) (fun _ => [(5, opV o vd vk)]) (fun x => x.2.2)
      (fun x => x.1 ≤ o.given.length ∧ x.2.1.length = o.given.length ∧ Has (DkP p d2 :: WnP 1 (.slice b7 o.given.length c7) o.given.length (x.2.1.map by8) :: RfP q r :: L) x.2.2) (fun x => o.given.length - x.1) (0, o.given, h3) ⟨Nat.zero_le _, rfl, hh3.tail⟩
      ⟨rfl, rfl, rfl, rfl, rfl, rfl, trivial⟩ ⟨rfl, trivial⟩ rfl ?_
    clear hh hh1 hh2 hh3
    rintro ⟨k, zs, g⟩ ⟨hkl, hzl, hg⟩
    dsimp only at hkl hzl hg ⊢
    refine seq_step fun K10 hK10 => ?_
    refine seq_step fun K11 hK11 => ?_
    conv => whnf
    refine hK11 _ _ _ ?_
    conv => whnf
    refine cond_dec (fun hlt => ?_) (fun hlt => ?_)
    · obtain ⟨b', o', c', ty', z', cap', hs', hbm, hszm, hcm⟩ := (hg.wn 1 rfl).at (i := k) (by omega)
      cases hs'
      obtain ⟨y, hy⟩ : ∃ y, zs[k]? = some y := ⟨_, List.getElem?_eq_getElem (by omega)⟩
      conv => whnf
      refine hK10 _ _ _ ?_
      conv => whnf
      refine opt_if ⟨by omega, by omega⟩ ?_
      conv => whnf
      refine opt_ld hbm (v := by8 y) (by have := hcm 0 (by8 y) (by rw [Nat.mul_one, Nat.add_zero, List.getElem?_map, hy]; rfl); exact this) ?_
      conv => whnf
      refine opt_if ⟨by omega, by omega⟩ ?_
      conv => whnf
      rw [show o' + (k : Int).toNat * 1 = o' + k by omega]
      refine st_hasW hg 1 rfl (k := k) (by omega) rfl rfl fun g1 hg1 => ?_
      conv => whnf
      refine ⟨(k + 1, zs.set k (flip8 y), g1), ⟨(show k + 1 ≤ o.given.length by omega), (by rw [List.length_set]; exact hzl), ?_⟩, (by show o.given.length - (k + 1) < o.given.length - k; omega), ⟨int_eq (wrap_nat (by omega)) rfl, rfl, rfl, rfl, rfl, rfl, trivial⟩, ⟨rfl, trivial⟩, rfl⟩
      show Has (_ :: WnP 1 _ o.given.length ((zs.set k _).map by8) :: _) g1
      rw [List.map_set]
      exact hg1
    · conv => whnf
      refine hK8 _ _ _ (seq_step fun K12 hK12 => ?_)
      conv => whnf
      refine ⟨fun _ => none, _, (fun _ _ h => by cases h), SubB.refl _, ?_⟩
      conv => whnf
      show Ok PR 52 [.agg (opV o vd vk).toArray] g _
      refine handed52 hg (hvd g hg.tail.tail.tail) (by omega) fun s4 h4 hh4 => ?_
      conv => whnf
      refine ⟨⟨(fun _ _ h => by cases h), SubB.refl _⟩, ?_⟩
      conv => whnf
      show Ok PR 53 [ptr q, iv o.sector, _] h4 _
      refine write53 o.sector o.given (hh4.pull 3 rfl) (by omega) (by omega) (fun g hg => hg.wn 0 rfl) fun h5 hh5 => ?_
      rw [← hwr.1]
      conv => whnf
      refine hK12 _ _ _ ?_
      conv => whnf
      rw [beq_self_eq_true]
      have hwn := r.write_n o.sector o.given
      exact hq _ _ _ hwr.2 (by omega) (((hh5.erase 1).erase 2).swap)
  refine seq_step fun K5 hK5 => ?_
  conv => whnf
  refine hK5 _ _ _ ?_
  refine cond_beq (fun hk => ?_) (fun hk => ?_)
  · -- a flush
    refine seq_step fun K4 hK4 => ?_
    conv => whnf
    refine flush14 hh (by omega) fun h1 hh1 => ?_
    conv => whnf
    refine hK4 _ _ _ (seq_step fun K6 hK6 => ?_)
    conv => whnf
    refine flush54 (hh1.pull 1 rfl) (by omega) fun h2 hh2 => ?_
    have hf := hrel.flushR hok
    rw [← hf.1] at *
    conv => whnf
    refine hK6 _ _ _ ?_
    conv => whnf
    rw [beq_self_eq_true]
    refine hq _ _ _ hf.2 ?_ hh2.swap
    have := r.flush_n
    omega
  refine seq_step fun K6 hK6 => ?_
  conv => whnf
  refine hK6 _ _ _ ?_
  refine cond_beq (fun hk => ?_) (fun hk => ?_)
  · -- armed
    refine seq_step fun K4 hK4 => ?_
    conv => whnf
    refine Has.call hh 0 rfl (arm12S o.at_ (i64_lt hat)) fun _ h1 hh1 => ?_
    conv => whnf
    refine hK4 _ _ _ (seq_step fun K7 hK7 => ?_)
    conv => whnf
    refine arm55 o.at_ (i64_lt hat) (hh1.pull 1 rfl) fun h2 hh2 => ?_
    have hf := hrel.armR o.at_
    rw [← hf.1] at *
    conv => whnf
    refine hK7 _ _ _ ?_
    conv => whnf
    rw [beq_self_eq_true]
    refine hq _ _ _ hf.2 ?_ hh2.swap
    have := r.arm_n o.at_
    omega
  refine seq_step fun K7 hK7 => ?_
  conv => whnf
  refine hK7 _ _ _ ?_
  refine cond_beq (fun hk => ?_) (fun hk => ?_)
  · -- a crash
    obtain ⟨bk, ck, hsk⟩ : ∃ base cap, vk = .slice base o.keep.length cap := let ⟨_, x, y, z, _⟩ := hvk h hh.tail.tail; ⟨x, y, z⟩
    subst hsk
    refine seq_step fun K4 hK4 => ?_
    conv => whnf
    show Ok PR 24 [.slice bk o.keep.length ck] h _
    refine flags24 hh (hvk h hh.tail.tail) (bo_one _) (by omega) fun s15 h1 hh1 => ?_
    conv => whnf
    refine hK4 _ _ _ (seq_step fun K9 hK9 => ?_)
    conv => whnf
    refine fresh_has hh1 fun b1 h2 hb1 _ _ hh2 => ?_
    conv => whnf
    have hv2 : Vw 1 h2 (.slice (some ⟨b1, 0, none⟩) 2 2) 2 [.bool true, .bool false] := (pt_wn (e := 1) (n := 2) (cap := 2) (vs := [.bool true, .bool false]) (cs := [.bool true, .bool false]) rfl (Nat.le_refl _) rfl (hh2.pt 0 rfl)).vw
    refine app_hasW (z := [.bool false]) hh2 1 rfl hv2 rfl (by omega) fun s16 h3 hh3 => ?_
    have e1 : (o.keep.map fun t => Value.bool t) ++ [.bool true, .bool false] = (o.keep ++ [true, false]).map fun t => Value.bool t := by rw [List.map_append]; rfl
    rw [e1] at hh3
    replace hh3 : Has (WnP 1 s16 (o.keep.length + 2) ((o.keep ++ [true, false]).map fun t => Value.bool t) :: DkP p d :: RfP q r :: L) h3 := hh3.tail
    obtain ⟨b6, o6, c6, cc6, ty6, z6, hs6, _, _⟩ := hh3.rdw 0 rfl (k := o.keep.length) (v := .bool true) (by omega) (by rw [List.getElem?_map, List.getElem?_append_right (Nat.le_refl _), Nat.sub_self]; rfl)
    subst hs6
    have hcp : o.keep.length + 2 ≤ c6 := by
      obtain ⟨_, _, _, e, hle, _⟩ := hh3.wn 0 rfl
      cases e; exact hle
    have hpart : ∀ g, Vw 1 g (.slice (some ⟨b6, o6, none⟩) (o.keep.length + 2) c6) (o.keep.length + 2) ((o.keep ++ [true, false]).map fun t => Value.bool t) → Vw 1 g (.slice (some ⟨b6, o6, none⟩) o.keep.length c6) o.keep.length (o.keep.map fun t => Value.bool t) := fun g hg => by
      have := hg.part (b := b6) (o := o6) (cap := c6) rfl (lo := 0) (hi := o.keep.length) (c2 := c6) (o2 := o6) (by omega) (by omega) (by omega) (.inl (by omega))
      have e : (((o.keep ++ [true, false]).map fun t => Value.bool t).drop (0 * 1)).take ((o.keep.length - 0) * 1) = o.keep.map fun t => Value.bool t := by
        rw [Nat.zero_mul, List.drop_zero, Nat.sub_zero, Nat.mul_one, List.map_append, List.take_append_of_le_length (by rw [List.length_map]; exact Nat.le_refl _), List.take_of_length_le (by rw [List.length_map]; exact Nat.le_refl _)]
      rw [e] at this
      exact this
    conv => whnf
    refine hK9 _ _ _ (seq_step fun K10 hK10 => ?_)
    conv => whnf
    refine opt_some (slS_hi (hi := o.keep.length) (by omega)) ?_
    conv => whnf
    refine crash20 (hh3.pull 1 rfl) (by omega) (fun g hg => hpart g (hg.wn 0 rfl)) fun h4 hh4 => ?_
    conv => whnf
    refine hK10 _ _ _ (seq_step fun K11 hK11 => ?_)
    refine seq_step fun K12 hK12 => ?_
    conv => whnf
    refine hK12 _ _ _ ?_
    rw [hwl]
    have hcr := hrel.crashR hok o.keep
    generalize d.crash (kept o.keep) = d2 at hh4 hcr
    generalize haN : drN (kept o.keep) r.waiting.length = aN
    refine loop_intro (σ := Nat × List Bool × Hp) (fun x => [(17, .v (iv x.1)), (16, .v (iv aN)), (15, .v (.slice (some ⟨b6, o6, none⟩) (o.keep.length + 2) c6)), (5, .l 5 0), (0, .v (ptr p)), (1, .v (ptr q))]) (fun _ => [(5, opV o vd (.slice bk o.keep.length ck))]) (fun x => x.2.2)
      (fun x => x.1 ≤ o.keep.length ∧ (∀ j, x.1 ≤ j → x.2.1[j]? = (o.keep ++ [true, false])[j]?) ∧ Has (DkP p d2 :: WnP 1 (.slice (some ⟨b6, o6, none⟩) (o.keep.length + 2) c6) (o.keep.length + 2) (x.2.1.map fun t => Value.bool t) :: RfP q r :: L) x.2.2) (fun x => o.keep.length - x.1) (0, o.keep ++ [true, false], h4) ⟨Nat.zero_le _, fun _ _ => rfl, hh4⟩
      ⟨rfl, rfl, rfl, rfl, rfl, rfl, trivial⟩ ⟨rfl, trivial⟩ rfl ?_
    clear hh hh1 hh2 hh3 hh4 hv2
    rintro ⟨k, zs, g⟩ ⟨hkl, hzl, hg⟩
    dsimp only at hkl hzl hg ⊢
    refine seq_step fun K13 hK13 => ?_
    refine seq_step fun K14 hK14 => ?_
    conv => whnf
    refine hK14 _ _ _ ?_
    conv => whnf
    refine cond_dec (fun hlt => ?_) (fun hlt => ?_)
    · obtain ⟨y, hy⟩ : ∃ y, o.keep[k]? = some y := ⟨_, List.getElem?_eq_getElem (by omega)⟩
      have hzy : zs[k]? = some y := by rw [hzl k (Nat.le_refl _), List.getElem?_append_left (by omega)]; exact hy
      obtain ⟨b', o', c', cc', ty', z', hs', hbm, hcm⟩ := hg.rdw 1 rfl (k := k) (v := .bool y) (by omega) (by rw [List.getElem?_map, hzy]; rfl)
      cases hs'
      obtain ⟨b2, o2, c2, t2, z2, _, ew2, hb2, hsz2, hc2⟩ := (hvk g hg.tail.tail.tail).at (i := k) (by omega)
      cases ew2
      conv => whnf
      refine hK13 _ _ _ (seq_step fun K15 hK15 => ?_)
      refine seq_step fun K16 hK16 => ?_
      conv => whnf
      refine opt_if ⟨by omega, by omega⟩ ?_
      conv => whnf
      rw [show o6 + (k : Int).toNat * 1 = o6 + k by omega]
      refine opt_ld hbm (v := .bool y) hcm ?_
      conv => whnf
      refine opt_if ⟨by omega, by omega⟩ ?_
      conv => whnf
      refine opt_ld hb2 (v := .bool y) (hc2 0 _ (by rw [Nat.mul_one, Nat.add_zero, List.getElem?_map, hy]; rfl)) ?_
      conv => whnf
      rw [if_pos rfl, beq_self_eq_true]
      conv => whnf
      refine hK16 _ _ _ ?_
      conv => whnf
      refine opt_if ⟨by omega, by omega⟩ ?_
      conv => whnf
      rw [show o6 + (k : Int).toNat * 1 = o6 + k by omega]
      refine opt_ld hbm (v := .bool y) hcm ?_
      conv => whnf
      refine opt_if ⟨by omega, by omega⟩ ?_
      conv => whnf
      rw [show o6 + (k : Int).toNat * 1 = o6 + k by omega]
      refine st_hasW hg 1 rfl (k := k) (by omega) rfl rfl fun g1 hg1 => ?_
      conv => whnf
      refine hK15 _ _ _ ?_
      conv => whnf
      refine ⟨(k + 1, zs.set k (!y), g1), ⟨(show k + 1 ≤ o.keep.length by omega), fun j hj => ?_, ?_⟩, (by show o.keep.length - (k + 1) < o.keep.length - k; omega), ⟨int_eq (wrap_nat (by omega)) rfl, rfl, rfl, rfl, rfl, rfl, trivial⟩, ⟨rfl, trivial⟩, rfl⟩
      · replace hj : k + 1 ≤ j := hj
        show (zs.set k (!y))[j]? = _
        rw [List.getElem?_set_ne (by omega)]
        exact hzl j (by omega)
      · show Has (_ :: WnP 1 _ (o.keep.length + 2) ((zs.set k _).map fun t => Value.bool t) :: _) g1
        rw [List.map_set]
        exact hg1
    · have hkl : k = o.keep.length := by omega
      subst hkl
      obtain ⟨b', o', c', cc', ty', z', hs', hbm, hcm⟩ := hg.rdw 1 rfl (k := o.keep.length) (v := .bool true) (by omega) (by rw [List.getElem?_map, hzl _ (Nat.le_refl _), List.getElem?_append_right (Nat.le_refl _), Nat.sub_self]; rfl)
      cases hs'
      obtain ⟨b', o', c', cc2', ty2', z2', hs', hbm2, hcm2⟩ := hg.rdw 1 rfl (k := o.keep.length + 1) (v := .bool false) (by omega) (by rw [List.getElem?_map, hzl _ (by omega), List.getElem?_append_right (by omega), Nat.add_sub_cancel_left]; rfl)
      cases hs'
      conv => whnf
      refine hK11 _ _ _ (seq_step fun K15 hK15 => ?_)
      refine seq_step fun K16 hK16 => ?_
      conv => whnf
      refine opt_if ⟨by omega, by omega⟩ ?_
      conv => whnf
      rw [show o6 + (o.keep.length : Int).toNat * 1 = o6 + o.keep.length by omega]
      refine opt_ld hbm (v := .bool true) hcm ?_
      conv => whnf
      rw [show IntKind.i64.wrap ((o.keep.length : Int) + 1) = ((o.keep.length + 1 : Nat) : Int) from wrap_nat (by omega)]
      refine opt_if ⟨by omega, by omega⟩ ?_
      conv => whnf
      rw [show o6 + ((o.keep.length + 1 : Nat) : Int).toNat * 1 = o6 + (o.keep.length + 1) by omega]
      refine opt_ld hbm2 (v := .bool false) hcm2 ?_
      conv => whnf
      refine hK16 _ _ _ ?_
      conv => whnf
      refine hK15 _ _ _ (seq_step fun K17 hK17 => ?_)
      conv => whnf
      show Ok PR 56 [ptr q, .slice bk o.keep.length ck] g _
      refine crash56 (hg.pull 2 rfl) (by omega) (fun g hg => hvk g hg.tail.tail) fun h5 hh5 => ?_
      rw [haN]
      conv => whnf
      refine hK17 _ _ _ ?_
      conv => whnf
      rw [beq_self_eq_true]
      have hcn := r.crash_n o.keep
      exact hq _ _ _ hcr (by omega) ((hh5.erase 2).swap)
  refine seq_step fun K8 hK8 => ?_
  conv => whnf
  refine hK8 _ _ _ ?_
  refine cond_beq (fun hk => ?_) (fun hk => ?_)
  · -- an edit
    obtain ⟨bd, cd, hsd⟩ : ∃ base cap, vd = .slice base o.data.length cap := let ⟨_, x, y, z, _⟩ := hvd h hh.tail.tail; ⟨x, y, z⟩
    subst hsd
    refine seq_step fun K4 hK4 => ?_
    conv => whnf
    show Ok PR 27 [.slice bd o.data.length cd] h _
    refine copied27 hh (hvd h hh.tail.tail) (by8_one _) (by omega) fun s15 h1 hh1 => ?_
    conv => whnf
    refine hK4 _ _ _ (seq_step fun K9 hK9 => ?_)
    conv => whnf
    refine fresh_has hh1 fun b1 h2 hb1 _ _ hh2 => ?_
    conv => whnf
    have hv2 : Vw 1 h2 (.slice (some ⟨b1, 0, none⟩) 3 3) 3 (([165, 166, 167] : List Int).map by8) := (pt_wn (e := 1) (n := 3) (cap := 3) (vs := ([165, 166, 167] : List Int).map by8) (cs := ([165, 166, 167] : List Int).map by8) rfl (Nat.le_refl _) rfl (hh2.pt 0 rfl)).vw
    refine app_hasW (z := [.int .u8 0]) hh2 1 rfl hv2 rfl (by omega) fun s16 h3 hh3 => ?_
    rw [by8_app] at hh3
    replace hh3 : Has (WnP 1 s16 (o.data.length + 3) ((o.data ++ [165, 166, 167]).map by8) :: DkP p d :: RfP q r :: L) h3 := hh3.tail
    obtain ⟨b6, o6, c6, cc6, ty6, z6, hs6, _, _⟩ := hh3.rdw 0 rfl (k := o.data.length) (v := by8 165) (by omega) (by rw [List.getElem?_map, List.getElem?_append_right (Nat.le_refl _), Nat.sub_self]; rfl)
    subst hs6
    have hcp : o.data.length + 3 ≤ c6 := by
      obtain ⟨_, _, _, e, hle, _⟩ := hh3.wn 0 rfl
      cases e; exact hle
    have hpart : ∀ g, Vw 1 g (.slice (some ⟨b6, o6, none⟩) (o.data.length + 3) c6) (o.data.length + 3) ((o.data ++ [165, 166, 167]).map by8) → Vw 1 g (.slice (some ⟨b6, o6, none⟩) o.data.length c6) o.data.length (o.data.map by8) := fun g hg => by
      have := hg.part (b := b6) (o := o6) (cap := c6) rfl (lo := 0) (hi := o.data.length) (c2 := c6) (o2 := o6) (by omega) (by omega) (by omega) (.inl (by omega))
      have e : (((o.data ++ [165, 166, 167]).map by8).drop (0 * 1)).take ((o.data.length - 0) * 1) = o.data.map by8 := by
        rw [Nat.zero_mul, List.drop_zero, Nat.sub_zero, Nat.mul_one, List.map_append, List.take_append_of_le_length (by rw [List.length_map]; exact Nat.le_refl _), List.take_of_length_le (by rw [List.length_map]; exact Nat.le_refl _)]
      rw [e] at this
      exact this
    have hpart2 : ∀ g, Vw 1 g (.slice (some ⟨b6, o6, none⟩) (o.data.length + 3) c6) (o.data.length + 3) ((o.data ++ [165, 166, 167]).map by8) → Vw 1 g (.slice (some ⟨b6, if c6 = o.data.length then o6 else o6 + o.data.length, none⟩) (o.data.length + 3 - o.data.length) (c6 - o.data.length)) 3 (([165, 166, 167] : List Int).map by8) := fun g hg => by
      have := hg.part (b := b6) (o := o6) (cap := c6) rfl (lo := o.data.length) (hi := o.data.length + 3) (c2 := c6 - o.data.length) (o2 := if c6 = o.data.length then o6 else o6 + o.data.length) (by omega) (by omega) (by omega) (.inl (by rw [if_neg (by omega)]; omega))
      rw [Nat.add_sub_cancel_left] at this
      have e : (((o.data ++ [165, 166, 167]).map by8).drop (o.data.length * 1)).take (3 * 1) = ([165, 166, 167] : List Int).map by8 := by
        rw [Nat.mul_one, Nat.mul_one, ← List.map_drop, ← List.map_take, List.drop_left]; rfl
      rw [e] at this
      rw [Nat.add_sub_cancel_left]
      exact this
    conv => whnf
    refine hK9 _ _ _ (seq_step fun K10 hK10 => ?_)
    conv => whnf
    refine opt_some (slS_hi (hi := o.data.length) (by omega)) ?_
    conv => whnf
    show Ok PR 28 [ptr p, iv o.sector, iv o.at_, .slice (some ⟨b6, o6, none⟩) o.data.length c6] h3 _
    refine edit28i o.sector o.at_ o.data (by omega) (hh3.pull 1 rfl) (fun g hg => hpart g (hg.wn 0 rfl)) fun h4 hh4 => ?_
    have hed := hrel.editR hok o.sector o.at_ hd8
    generalize (d.edit o.sector o.at_ o.data).2 = d2 at hh4 hed
    generalize (d.edit o.sector o.at_ o.data).1 = a2 at hed
    conv => whnf
    refine hK10 _ _ _ (seq_step fun K11 hK11 => ?_)
    refine seq_step fun K12 hK12 => ?_
    conv => whnf
    refine ⟨_, _, SubH.refl _, SubB.refl _, ?_⟩
    conv => whnf
    refine opt_some (slS_hi (hi := o.data.length) (by omega)) ?_
    conv => whnf
    show Ok PR 26 [.slice (some ⟨b6, o6, none⟩) o.data.length c6, .slice bd o.data.length cd] h4 _
    refine same26 (hpart h4 (hh4.wn 1 rfl)) (hvd h4 hh4.tail.tail.tail) fun t ht => ?_
    rw [ht rfl]
    conv => whnf
    refine ⟨_, _, SubH.refl _, SubB.refl _, ?_⟩
    conv => whnf
    refine opt_some (slS_lo (lo := o.data.length) (by omega) (by omega)) ?_
    conv => whnf
    refine fresh_has hh4 fun b5 h5 hb5 _ hs5 hh5 => ?_
    conv => whnf
    refine ⟨⟨hs5, SubB.refl _⟩, ?_⟩
    conv => whnf
    refine same26 (l := [165, 166, 167]) (k := [165, 166, 167]) (n := o.data.length + 3 - o.data.length) (m := 3) (by have := hpart2 h5 (hh5.wn 2 rfl); rw [Nat.add_sub_cancel_left] at this ⊢; exact this) (pt_wn (e := 1) (n := 3) (cap := 3) (vs := ([165, 166, 167] : List Int).map by8) (cs := ([165, 166, 167] : List Int).map by8) rfl (Nat.le_refl _) rfl (hh5.pt 0 rfl)).vw fun t ht => ?_
    rw [ht rfl]
    conv => whnf
    refine hK12 _ _ _ ?_
    conv => whnf
    refine hK11 _ _ _ (seq_step fun K13 hK13 => ?_)
    refine seq_step fun K14 hK14 => ?_
    conv => whnf
    refine hK14 _ _ _ ?_
    have hlen : (o.data ++ [165, 166, 167]).length = o.data.length + 3 := by rw [List.length_append]; rfl
    refine loop_intro (σ := Nat × List Int × Hp) (fun x => [(21, .v (iv x.1)), (20, .v (iv a2)), (19, .v (.slice (some ⟨b6, o6, none⟩) (o.data.length + 3) c6)), (5, .l 5 0), (0, .v (ptr p)), (1, .v (ptr q))]) (fun _ => [(5, opV o (.slice bd o.data.length cd) vk)]) (fun x => x.2.2)
      (fun x => x.1 ≤ o.data.length + 3 ∧ x.2.1.length = o.data.length + 3 ∧ Has (DkP p d2 :: WnP 1 (.slice (some ⟨b6, o6, none⟩) (o.data.length + 3) c6) (o.data.length + 3) (x.2.1.map by8) :: RfP q r :: L) x.2.2) (fun x => o.data.length + 3 - x.1) (0, o.data ++ [165, 166, 167], h5) ⟨Nat.zero_le _, hlen, hh5.tail⟩
      ⟨rfl, rfl, rfl, rfl, rfl, rfl, trivial⟩ ⟨rfl, trivial⟩ rfl ?_
    clear hh hh1 hh2 hh3 hh4 hh5 hv2
    rintro ⟨k, zs, g⟩ ⟨hkl, hzl, hg⟩
    dsimp only at hkl hzl hg ⊢
    refine seq_step fun K15 hK15 => ?_
    refine seq_step fun K16 hK16 => ?_
    conv => whnf
    refine hK16 _ _ _ ?_
    conv => whnf
    refine cond_dec (fun hlt => ?_) (fun hlt => ?_)
    · obtain ⟨y, hy⟩ : ∃ y, zs[k]? = some y := ⟨_, List.getElem?_eq_getElem (by omega)⟩
      obtain ⟨b', o', c', cc', ty', z', hs', hbm, hcm⟩ := hg.rdw 1 rfl (k := k) (v := by8 y) (by omega) (by rw [List.getElem?_map, hy]; rfl)
      cases hs'
      conv => whnf
      refine hK15 _ _ _ ?_
      conv => whnf
      refine opt_if ⟨by omega, by omega⟩ ?_
      conv => whnf
      rw [show o6 + (k : Int).toNat * 1 = o6 + k by omega]
      refine opt_ld hbm (v := by8 y) hcm ?_
      conv => whnf
      refine opt_if ⟨by omega, by omega⟩ ?_
      conv => whnf
      rw [show o6 + (k : Int).toNat * 1 = o6 + k by omega]
      refine st_hasW hg 1 rfl (k := k) (by omega) rfl rfl fun g1 hg1 => ?_
      conv => whnf
      refine ⟨(k + 1, zs.set k (flip8 y), g1), ⟨(show k + 1 ≤ o.data.length + 3 by omega), (by rw [List.length_set]; exact hzl), ?_⟩, (by show o.data.length + 3 - (k + 1) < o.data.length + 3 - k; omega), ⟨int_eq (wrap_nat (by omega)) rfl, rfl, rfl, rfl, rfl, rfl, trivial⟩, ⟨rfl, trivial⟩, rfl⟩
      show Has (_ :: WnP 1 _ (o.data.length + 3) ((zs.set k _).map by8) :: _) g1
      rw [List.map_set]
      exact hg1
    · conv => whnf
      refine hK13 _ _ _ (seq_step fun K17 hK17 => ?_)
      conv => whnf
      show Ok PR 57 [ptr q, iv o.sector, iv o.at_, .slice bd o.data.length cd] g _
      refine edit57 o.sector o.at_ o.data (hg.pull 2 rfl) (by omega) (by omega) (fun g hg => hvd g hg.tail.tail) fun h6 hh6 => ?_
      rw [← hed.1]
      conv => whnf
      refine hK17 _ _ _ ?_
      conv => whnf
      rw [beq_self_eq_true]
      have hen := r.edit_n o.sector o.at_ o.data
      exact hq _ _ _ hed.2 (by omega) ((hh6.erase 2).swap)
  conv => whnf
  refine hK1 _ _ _ (seq_step fun K9 hK9 => ?_)
  conv => whnf
  show Ok PR 58 [ptr p, ptr q, .agg (opV o vd vk).toArray] h _
  refine asked58 hh hrel hd8 (by omega) hvd (by omega) (by omega) fun h1 hh1 => ?_
  conv => whnf
  refine hK9 _ _ _ ?_
  conv => whnf
  exact hq _ _ _ hrel (by omega) hh1

end
end Go.Proofs.Ytpkleblggehghaa.V
