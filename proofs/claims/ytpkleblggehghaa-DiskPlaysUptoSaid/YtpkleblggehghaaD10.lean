/- Seat 04: Write. -/
import Derived.Test.YtpkleblggehghaaD9
namespace Go.Proofs.Ytpkleblggehghaa.V
set_option linter.unusedVariables false
set_option linter.unusedSimpArgs false
set_option linter.unusedSectionVars false
set_option linter.unusedSectionVars false
open Go

def zsec : Sec := ⟨List.replicate 128 0, by simp⟩

theorem zQ_len : zQ.length = 129 := by rw [zQ_eq]; simp

theorem rowQ_z (n : Int) : Value.int .i64 n :: List.replicate 128 (Value.int .u8 0) = rowQ (n, zsec) := by
  simp [rowQ, rowS, zsec, iv, by8]

theorem wrQ (n : Int) (z x : Sec) : wr (rowQ (n, z)).toArray 1 (rowS x) = (rowQ (n, x)).toArray := by
  rw [wr_wrL]
  congr 1
  have := wrL_mid (A := [iv n]) (B := rowS z) (C := []) (V := rowS x) (by rw [rowS_len, rowS_len])
  rw [List.append_nil, List.append_nil] at this
  exact this

theorem bldQ {h : Hp} {β : Bx} (n : Int) : prv h β (Pr.bld zQ [(0, 1)]) [Ent.v (iv n)] = some (.v (.agg (rowQ (n, zsec)).toArray)) := by
  show (match fillL zQ [(0, 1)] [Ent.v (iv n)] with | some l => some (Ent.v (.agg l.toArray)) | none => none) = _
  have : fillL zQ [(0, 1)] [Ent.v (iv n)] = some (rowQ (n, zsec)) := by
    unfold fillL
    rw [if_pos ⟨rfl, by rw [zQ_len]; omega⟩]
    show fillL (zQ.set 0 (iv n)) [] [] = _
    rw [zQ_eq, List.set_cons_zero]
    show some _ = _
    rw [← rowQ_z]; rfl
  rw [this]

section
variable {h : Hp} {Q : Value → Hp → Prop} {L : List As} {p : Nat} {d : Dk}

/-- Write: refused, or one more that waits. -/
def Dk.write (d : Dk) (n : Int) (x : Sec) : Int × Dk := if d.act.1 then (0, { d.act.2 with cache := d.act.2.cache ++ [(n, x)] }) else (42, d.act.2)

theorem write15o (n : Int) (a : Value) (hn : ¬ (0 ≤ n ∧ n < 1024)) (hq : Q (iv 40) h) : Ok PR 15 [ptr p, iv n, a] h Q := by
  refine e15 rfl ?_
  refine seq_step fun K hK => ?_
  conv => whnf
  refine hK _ _ _ (seq_step fun K1 hK1 => ?_)
  conv => whnf
  refine there47 n ?_
  rw [show decide (0 ≤ n ∧ n < 1024) = false from decide_eq_false hn]
  conv => whnf
  exact hq

theorem write15z (n : Int) {base : Option Addr} {len cap : Nat} (hn : 0 ≤ n ∧ n < 1024) (hl : len ≠ 128) (hq : Q (iv 41) h) : Ok PR 15 [ptr p, iv n, .slice base len cap] h Q := by
  refine e15 rfl ?_
  refine seq_step fun K hK => ?_
  conv => whnf
  refine hK _ _ _ (seq_step fun K1 hK1 => ?_)
  conv => whnf
  refine there47 n ?_
  rw [show decide (0 ≤ n ∧ n < 1024) = true from decide_eq_true hn]
  conv => whnf
  refine hK1 _ _ _ (seq_step fun K2 hK2 => ?_)
  conv => whnf
  refine cond_bne (fun hne => ?_) (fun he => absurd (by omega) hl)
  conv => whnf
  exact hq

set_option maxRecDepth 20000 in
set_option maxHeartbeats 800000 in
theorem write15 (n : Int) {a : Value} {x : Sec} (hn : 0 ≤ n ∧ n < 1024) (hh : Has (DkP p d :: L) h) (hc : d.cache.length ≤ 2 ^ 38) (ha : ∀ g, Has L g → Vw 1 g a 128 (rowS x)) (hq : ∀ h', Has (DkP p (d.write n x).2 :: L) h' → Q (iv (d.write n x).1) h') : Ok PR 15 [ptr p, iv n, a] h Q := by
  obtain ⟨base, cap, hs⟩ : ∃ base cap, a = .slice base 128 cap := let ⟨_, x, y, z, _⟩ := ha h (Has.tail hh); ⟨x, y, z⟩
  subst hs
  refine e15 rfl ?_
  refine seq_step fun K hK => ?_
  conv => whnf
  refine hK _ _ _ (seq_step fun K1 hK1 => ?_)
  conv => whnf
  refine there47 n ?_
  rw [show decide (0 ≤ n ∧ n < 1024) = true from decide_eq_true hn]
  conv => whnf
  refine hK1 _ _ _ (seq_step fun K2 hK2 => ?_)
  conv => whnf
  refine hK2 _ _ _ (seq_step fun K3 hK3 => ?_)
  conv => whnf
  refine hh.call 0 rfl act44S fun _ h1 hh1 => ?_
  replace hh1 : Has (DkP p d.act.2 :: L) h1 := hh1
  have hca := act_cache d
  unfold Dk.write at hq
  conv => whnf
  refine cond_split (fun hna => ?_) (fun hna => ?_)
  · have ha' : d.act.1 = false := by simpa using hna
    rw [if_neg (by rw [ha']; decide)] at hq
    conv => whnf
    exact hq _ hh1
  · have ha' : d.act.1 = true := by simpa using hna
    rw [if_pos ha'] at hq
    generalize d.act.2 = e at hq hh1 hca
    conv => whnf
    refine hK3 _ _ _ (seq_step fun K4 hK4 => ?_)
    conv => whnf
    refine opt_some (bldQ n) ?_
    conv => whnf
    refine fresh_has hh1 fun b h2 hb2 _ hs2 hh2 => ?_
    conv => whnf
    refine st_has hh2 0 rfl (show (rowQ (n, zsec)).toArray.size = 129 from by rw [List.size_toArray, rowQ_len]) (by rw [List.size_toArray, zQ_len]; omega) (show (rowQ (n, zsec)).toArray.toList.all one = true from rowQ_one _) fun h3 _ _ hh3 => ?_
    have ew : wr zQ.toArray 0 (rowQ (n, zsec)) = (rowQ (n, zsec)).toArray := by rw [wr_wrL, wr_all (by rw [rowQ_len, zQ_len])]
    replace hh3 : Has (Pt b (.cells (wr zQ.toArray 0 (rowQ (n, zsec))) 88 (0, 0)) :: DkP p e :: L) h3 := hh3
    rw [ew] at hh3
    conv => whnf
    refine hK4 _ _ _ (seq_step fun K5 hK5 => ?_)
    conv => whnf
    refine cpy_has hh3 0 rfl (ha h3 (Has.tail (Has.tail hh3))) (rowS_one x) ?_ fun h4 hh4 => ?_
    · rw [if_neg (by decide), List.size_toArray, rowQ_len]; decide
    have ew2 : wr (rowQ (n, zsec)).toArray (if (128 : Nat) = 0 then 0 + 1 else 0 + 1 + 0 * 1) ((rowS x).take (min 128 (128 - 0) * 1)) = (rowQ (n, x)).toArray := by
      rw [if_neg (by decide), show min 128 (128 - 0) * 1 = 128 from by decide, List.take_of_length_le (by rw [rowS_len]; omega)]
      exact wrQ n zsec x
    replace hh4 : Has (Pt b (.cells (wr (rowQ (n, zsec)).toArray (if (128 : Nat) = 0 then 0 + 1 else 0 + 1 + 0 * 1) ((rowS x).take (min 128 (128 - 0) * 1))) 88 (0, 0)) :: DkP p e :: L) h4 := hh4
    rw [ew2] at hh4
    clear hh3 hh2 hh1 ew ew2 hs2 hb2
    conv => whnf
    refine hK5 _ _ _ (seq_step fun K6 hK6 => ?_)
    clear hK5 hK4 hK3 hK2 hK1 hK
    obtain ⟨hok, s, hh5⟩ := DkP.opn hh4.swap
    clear hh4
    conv => whnf
    refine ⟨h4, [], SubH.refl _, SubB.refl _, ?_⟩
    conv => whnf
    refine dk_ld (hh5.pt 0 rfl) hok.med 0 _ rfl rfl ?_
    conv => whnf
    refine opt_ld (hh5.pt 2 rfl) (v := .agg (rowQ (n, x)).toArray) (rowQ_agg (o := 0) (by rw [List.size_toArray, rowQ_len]; omega) (fun j v hv => by rw [Nat.zero_add]; simpa using hv)) ?_
    conv => whnf
    refine opt_up1 (rowQ_len _) (by simp [reps, zQ_len]) ?_
    conv => whnf
    refine fresh_has hh5 fun b2 h6 hb2 _ hs6 hh6 => ?_
    conv => whnf
    refine ⟨⟨hs6, SubB.refl _⟩, ?_⟩
    have hv : Vw zQ.length h6 (.slice (some ⟨b2, 0, none⟩) 1 1) 1 (rowQ (n, x)) := by
      rw [zQ_len]
      exact (pt_wn (e := 129) (n := 1) (cap := 1) (cs := rowQ (n, x)) (by rw [rowQ_len]) (Nat.le_refl _) (by rw [List.take_of_length_le (by rw [rowQ_len]; omega)]) hb2).vw
    have hh7 : Has (Pt b2 (.cells (rowQ (n, x)).toArray 88 (0, 0)) :: Pt p (.cells (dkC e s).toArray 84 (0, 0)) :: WnP zQ.length s e.cache.length (e.cache.flatMap rowQ) :: Pt b (.cells (rowQ (n, x)).toArray 88 (0, 0)) :: L) h6 := by
      rw [zQ_len]; exact hh6
    conv => whnf
    refine app_hasW (z := zQ) hh7 2 rfl hv (rowQ_one _) (by rw [hca]; omega) fun s7 h7 hh8 => ?_
    have hh9 : Has (Pt b2 (.cells (rowQ (n, x)).toArray 88 (0, 0)) :: Pt p (.cells (dkC e s).toArray 84 (0, 0)) :: WnP 129 s7 (e.cache ++ [(n, x)]).length ((e.cache ++ [(n, x)]).flatMap rowQ) :: Pt b (.cells (rowQ (n, x)).toArray 88 (0, 0)) :: L) h7 := by
      have e1 : (e.cache ++ [(n, x)]).length = e.cache.length + 1 := by simp
      have e2 : (e.cache ++ [(n, x)]).flatMap rowQ = e.cache.flatMap rowQ ++ rowQ (n, x) := by simp
      rw [e1, e2, ← zQ_len]; exact hh8
    replace hh9 := Has.tail hh9
    clear hh8 hh7 hh6 hh5 hv
    obtain ⟨base7, cap7, hs7, _⟩ : ∃ base cap, s7 = .slice base (e.cache ++ [(n, x)]).length cap ∧ True := by
      have hW7 : WnP 129 s7 (e.cache ++ [(n, x)]).length ((e.cache ++ [(n, x)]).flatMap rowQ) h7 := Has.get (L := Pt p (.cells (dkC e s).toArray 84 (0, 0)) :: WnP 129 s7 (e.cache ++ [(n, x)]).length ((e.cache ++ [(n, x)]).flatMap rowQ) :: Pt b (.cells (rowQ (n, x)).toArray 88 (0, 0)) :: L) hh9 1 rfl fun _ _ => WnP.sub
      obtain ⟨b8, c8, q8, _⟩ := hW7.val
      exact ⟨b8, c8, q8, trivial⟩
    subst hs7
    conv => whnf
    refine dk_st hh9 hok.med 0 _ rfl (by omega) { e with cache := e.cache ++ [(n, x)] } _ rfl rfl rfl rfl fun h8 hh10 => ?_
    conv => whnf
    refine hK6 _ _ _ ?_
    conv => whnf
    refine hq _ ?_
    have hD : Has (DkP p { e with cache := e.cache ++ [(n, x)] } :: Pt b (.cells (rowQ (n, x)).toArray 88 (0, 0)) :: L) h8 := DkP.cls ⟨hok.med, (fun y hy => by
      rcases List.mem_append.1 hy with hy | hy
      · exact hok.at_ y hy
      · rw [List.mem_singleton] at hy; subst hy; exact hn), hok.left, hok.left2, hok.acts⟩ hh10
    exact Has.tail hD.swap

end
end Go.Proofs.Ytpkleblggehghaa.V
