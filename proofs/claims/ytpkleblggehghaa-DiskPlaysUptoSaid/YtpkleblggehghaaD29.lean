/- Seat 04: the document's disk: writes, flushes, crashes, edits. -/
import Derived.Test.YtpkleblggehghaaD28
namespace Go.Proofs.Ytpkleblggehghaa.V
set_option linter.unusedVariables false
set_option linter.unusedSimpArgs false
set_option linter.unusedSectionVars false
set_option linter.unusedSectionVars false
open Go

/-- Just one block. -/
def only (p : Nat) (o : Obj) : Hp := fun y => if y = p then some o else none
theorem only_at (p : Nat) (o : Obj) : only p o p = some o := if_pos rfl
theorem only_sub {p : Nat} {o : Obj} {h : Hp} (hp : h p = some o) : SubH (only p o) h := fun y o' hy => by
  unfold only at hy
  split at hy
  · rename_i e; subst e; cases hy; exact hp
  · cases hy

theorem DatP.add {xs : List VR} {v : Value} {x : Rc} {L : List As} {h : Hp} (hh : Has (WnP 1 v x.dat.length (x.dat.map by8) :: DatP xs :: L) h) : Has (DatP (xs ++ [(v, x)]) :: L) h := by
  obtain ⟨h1, h2, e, ap, hd, hL⟩ := Has.group (L1 := [_, _]) hh
  refine ⟨h1, h2, e, ap, fun y hy => ?_, hL⟩
  rcases List.mem_append.1 hy with hy | hy
  · exact (Has.get (A := DatP xs) hd 1 rfl fun _ _ => DatP.sub) y hy
  · obtain rfl := List.mem_singleton.1 hy
    exact hd.wn 0 rfl

theorem DatP.weak {xs ys : List VR} (hs : ∀ x ∈ ys, x ∈ xs) {L : List As} {h : Hp} (hh : Has (DatP xs :: L) h) : Has (DatP ys :: L) h := hh.mono1 fun g hg x hx => hg x (hs x hx)

section
variable {h : Hp} {Q : Value → Hp → Prop} {L : List As} {p : Nat} {r : Rd}

/-- Write: refused, or it waits. -/
def Rd.write (r : Rd) (n : Int) (l : List Int) : Int × Rd := if 0 ≤ n ∧ n < 1024 then (if l.length = 128 then (if r.act.1 then (0, { r.act.2 with waiting := r.act.2.waiting ++ [⟨n, 0, l⟩] }) else (42, r.act.2)) else (41, r)) else (40, r)

theorem write53 (n : Int) (l : List Int) {a : Value} (hh : Has (RfP p r :: L) h) (hc : r.waiting.length ≤ 2 ^ 38) (hl : l.length ≤ 2 ^ 40) (ha : ∀ g, Has L g → Vw 1 g a l.length (l.map by8)) (hq : ∀ h', Has (RfP p (r.write n l).2 :: L) h' → Q (iv (r.write n l).1) h') : Ok PR 53 [ptr p, iv n, a] h Q := by
  obtain ⟨base, cap, hs⟩ : ∃ base cap, a = .slice base l.length cap := let ⟨_, x, y, z, _⟩ := ha h hh.tail; ⟨x, y, z⟩
  subst hs
  unfold Rd.write at hq
  refine e53 rfl ?_
  refine seq_step fun K hK => ?_
  conv => whnf
  refine hK _ _ _ (seq_step fun K1 hK1 => ?_)
  refine seq_step fun K2 hK2 => ?_
  conv => whnf
  refine there59 n ?_
  refine Classical.byCases (p := ¬ (0 ≤ n ∧ n < 1024)) (fun hn => ?_) (fun hn => ?_)
  · rw [if_neg hn] at hq
    rw [show decide (0 ≤ n ∧ n < 1024) = false from decide_eq_false hn]
    conv => whnf
    refine hK2 _ _ _ ?_
    conv => whnf
    exact hq _ hh
  replace hn := Classical.not_not.1 hn
  rw [if_pos hn] at hq
  rw [show decide (0 ≤ n ∧ n < 1024) = true from decide_eq_true hn]
  conv => whnf
  refine hK2 _ _ _ ?_
  conv => whnf
  refine hK1 _ _ _ (seq_step fun K3 hK3 => ?_)
  refine seq_step fun K4 hK4 => ?_
  conv => whnf
  refine hK4 _ _ _ ?_
  refine cond_bne (fun hne => ?_) (fun heq => ?_)
  · rw [if_neg (by omega)] at hq
    conv => whnf
    exact hq _ hh
  have hl128 : l.length = 128 := by omega
  rw [if_pos hl128] at hq
  conv => whnf
  refine hK3 _ _ _ (seq_step fun K5 hK5 => ?_)
  refine seq_step fun K6 hK6 => ?_
  conv => whnf
  refine act60 hh fun h1 hh1 => ?_
  cases ha1 : r.act.1 with
  | false =>
    rw [ha1, if_neg (by decide)] at hq
    conv => whnf
    refine hK6 _ _ _ ?_
    conv => whnf
    exact hq _ hh1
  | true =>
    rw [ha1, if_pos rfl] at hq
    have hrw : r.act.2.waiting = r.waiting := by
      unfold Rd.act
      repeat' split
      all_goals rfl
    generalize r.act.2 = r2 at hq hh1 hrw
    clear ha1
    obtain ⟨hok, lv, wv, s1, s2, e1, e2, hh2⟩ := RfP.opn hh1
    have hwl : wv.length ≤ 2 ^ 38 := by rw [← List.length_map (f := fun x : VR => x.2), e2, hrw]; exact hc
    conv => whnf
    refine hK6 _ _ _ ?_
    conv => whnf
    refine hK5 _ _ _ (seq_step fun K7 hK7 => ?_)
    conv => whnf
    refine ⟨only p (.cells (rfT r2 s1 s2).toArray 92 (0, 0)), _, only_sub (hh2.pt 0 rfl), SubB.refl _, ?_⟩
    conv => whnf
    refine opt_ld (only_at _ _) (v := s2) rfl ?_
    conv => whnf
    refine copied51 hh2 (ha _ hh2.tail.tail.tail.tail) (by8_one _) hl fun s3 h3 hh3 => ?_
    obtain ⟨bs3, cp3, hs3⟩ := hh3.slv 0 rfl
    subst hs3
    conv => whnf
    refine ⟨only p (.cells (rfT r2 s1 s2).toArray 92 (0, 0)), _, ⟨SubH.refl _, SubB.refl _⟩, only_sub (hh3.pt 1 rfl), SubB.refl _, ?_⟩
    conv => whnf
    refine fresh_has hh3 fun b4 h4 hb4 _ _ hh4 => ?_
    conv => whnf
    refine ⟨⟨only_sub (hh4.pt 2 rfl), SubB.refl _⟩, ?_⟩
    conv => whnf
    have hv4 : Vw 3 h4 (.slice (some ⟨b4, 0, none⟩) 1 1) 1 (rowR (.slice bs3 l.length cp3, ⟨n, 0, l⟩)) := (pt_wn (e := 3) (n := 1) (cap := 1) (cs := rowR (.slice bs3 l.length cp3, ⟨n, 0, l⟩)) rfl (Nat.le_refl _) rfl (hh4.pt 0 rfl)).vw
    refine app_hasW (z := [.int .i64 0, .int .i64 0, .slice none 0 0]) hh4 4 rfl hv4 rfl (by omega) fun s5 h5 hh5 => ?_
    replace hh5 : Has (Pt b4 (.cells (rowR (.slice bs3 l.length cp3, ⟨n, 0, l⟩)).toArray 94 (0, 0)) :: WnP 1 (.slice bs3 l.length cp3) l.length (l.map by8) :: Pt p (.cells (rfT r2 s1 s2).toArray 92 (0, 0)) :: WnP 3 s1 lv.length (lv.flatMap rowR) :: WnP 3 s5 (wv.length + 1) (wv.flatMap rowR ++ rowR (.slice bs3 l.length cp3, ⟨n, 0, l⟩)) :: DatP (lv ++ wv) :: L) h5 := hh5
    obtain ⟨bs5, cp5, hs5⟩ := hh5.slv 4 rfl
    subst hs5
    conv => whnf
    refine rf_st ((hh5.pull 2 rfl).erase 1) 1 (.slice bs5 (wv.length + 1) cp5) rfl (by omega) { r2 with waiting := r2.waiting ++ [⟨n, 0, l⟩] } s1 (.slice bs5 (wv.length + 1) cp5) rfl rfl rfl fun h6 hh6 => ?_
    replace hh6 : Has (Pt p (.cells (rfT { r2 with waiting := r2.waiting ++ [⟨n, 0, l⟩] } s1 (.slice bs5 (wv.length + 1) cp5)).toArray 92 (0, 0)) :: WnP 1 (.slice bs3 l.length cp3) l.length (l.map by8) :: WnP 3 s1 lv.length (lv.flatMap rowR) :: WnP 3 (.slice bs5 (wv.length + 1) cp5) (wv.length + 1) (wv.flatMap rowR ++ rowR (.slice bs3 l.length cp3, ⟨n, 0, l⟩)) :: DatP (lv ++ wv) :: L) h6 := hh6
    have hh7 := DatP.add (x := ⟨n, 0, l⟩) ((hh6.pull 4 rfl).pull 2 rfl)
    replace hh7 : Has (DatP (lv ++ wv ++ [(.slice bs3 l.length cp3, ⟨n, 0, l⟩)]) :: Pt p (.cells (rfT { r2 with waiting := r2.waiting ++ [⟨n, 0, l⟩] } s1 (.slice bs5 (wv.length + 1) cp5)).toArray 92 (0, 0)) :: WnP 3 s1 lv.length (lv.flatMap rowR) :: WnP 3 (.slice bs5 (wv.length + 1) cp5) (wv.length + 1) (wv.flatMap rowR ++ rowR (.slice bs3 l.length cp3, ⟨n, 0, l⟩)) :: L) h6 := hh7
    rw [List.append_assoc] at hh7
    have hh8 := hh7.swap.map_tail fun g hg => hg.swap.map_tail fun g hg => hg.swap
    conv => whnf
    refine hK7 _ _ _ ?_
    conv => whnf
    refine hq _ (RfP.cls (s1 := s1) (s2 := .slice bs5 (wv.length + 1) cp5) (r := { r2 with waiting := r2.waiting ++ [⟨n, 0, l⟩] }) (lv := lv) (wv := wv ++ [(.slice bs3 l.length cp3, ⟨n, 0, l⟩)]) ⟨hok.l, fun x hx => ?_, hok.armed⟩ e1 (by rw [List.map_append, e2]; rfl) ?_)
    · rcases List.mem_append.1 hx with hx | hx
      · exact hok.w x hx
      · obtain rfl := List.mem_singleton.1 hx
        exact ⟨⟨hn.1, hn.2, Int.le_refl _, by show (0 : Int) + l.length ≤ 128; omega⟩, rfl, hl128⟩
    · have e : (wv ++ [((.slice bs3 l.length cp3 : Value), (⟨n, 0, l⟩ : Rc))]).flatMap rowR = wv.flatMap rowR ++ rowR (.slice bs3 l.length cp3, ⟨n, 0, l⟩) := by rw [List.flatMap_append]; simp
      rw [e, List.length_append]
      exact hh8

/-- Flush: what waits lands. -/
def Rd.flush (r : Rd) : Int × Rd := if r.act.1 then (0, { r.act.2 with landed := r.act.2.landed ++ r.act.2.waiting, waiting := [] }) else (42, r.act.2)

theorem Rd.act_lists (r : Rd) : r.act.2.landed = r.landed ∧ r.act.2.waiting = r.waiting := by
  unfold Rd.act
  repeat' split
  all_goals exact ⟨rfl, rfl⟩

theorem flush54 (hh : Has (RfP p r :: L) h) (hc : r.landed.length + r.waiting.length ≤ 2 ^ 38) (hq : ∀ h', Has (RfP p r.flush.2 :: L) h' → Q (iv r.flush.1) h') : Ok PR 54 [ptr p] h Q := by
  unfold Rd.flush at hq
  refine e54 rfl ?_
  refine seq_step fun K hK => ?_
  conv => whnf
  refine hK _ _ _ (seq_step fun K1 hK1 => ?_)
  refine seq_step fun K2 hK2 => ?_
  conv => whnf
  refine act60 hh fun h1 hh1 => ?_
  cases ha1 : r.act.1 with
  | false =>
    rw [ha1, if_neg (by decide)] at hq
    conv => whnf
    refine hK2 _ _ _ ?_
    conv => whnf
    exact hq _ hh1
  | true =>
    rw [ha1, if_pos rfl] at hq
    obtain ⟨hrl, hrw⟩ := r.act_lists
    generalize r.act.2 = r2 at hq hh1 hrl hrw
    clear ha1
    obtain ⟨hok, lv, wv, s1, s2, e1, e2, hh2⟩ := RfP.opn hh1
    have hwl : wv.length = r.waiting.length := by rw [← List.length_map (f := fun x : VR => x.2), e2, hrw]
    have hll : lv.length = r.landed.length := by rw [← List.length_map (f := fun x : VR => x.2), e1, hrl]
    have hdt : DatP (lv ++ wv) h1 := Has.get (A := DatP (lv ++ wv)) hh2 3 rfl fun _ _ => DatP.sub
    conv => whnf
    refine hK2 _ _ _ ?_
    conv => whnf
    refine hK1 _ _ _ (seq_step fun K3 hK3 => ?_)
    conv => whnf
    refine opt_ld (hh2.pt 0 rfl) (v := s1) rfl ?_
    conv => whnf
    refine opt_ld (hh2.pt 0 rfl) (v := s2) rfl ?_
    conv => whnf
    refine app_hasW (z := [.int .i64 0, .int .i64 0, .slice none 0 0]) hh2 1 rfl (hh2.wn 2 rfl) (rowR_one fun x hx => hdt x (List.mem_append_right _ hx)) (by omega) fun s5 h5 hh5 => ?_
    replace hh5 : Has (Pt p (.cells (rfT r2 s1 s2).toArray 92 (0, 0)) :: WnP 3 s5 (lv.length + wv.length) (lv.flatMap rowR ++ wv.flatMap rowR) :: WnP 3 s2 wv.length (wv.flatMap rowR) :: DatP (lv ++ wv) :: L) h5 := hh5
    obtain ⟨bs5, cp5, hs5⟩ := hh5.slv 1 rfl
    subst hs5
    conv => whnf
    refine rf_st hh5 0 (.slice bs5 (lv.length + wv.length) cp5) rfl (by omega) { r2 with landed := r2.landed ++ r2.waiting } (.slice bs5 (lv.length + wv.length) cp5) s2 rfl rfl rfl fun h6 hh6 => ?_
    conv => whnf
    refine hK3 _ _ _ (seq_step fun K4 hK4 => ?_)
    conv => whnf
    refine rf_st hh6 1 (.slice none 0 0) rfl (by omega) { r2 with landed := r2.landed ++ r2.waiting, waiting := [] } (.slice bs5 (lv.length + wv.length) cp5) (.slice none 0 0) rfl rfl rfl fun h7 hh7 => ?_
    conv => whnf
    refine hK4 _ _ _ ?_
    conv => whnf
    refine hq _ (RfP.cls (s1 := .slice bs5 (lv.length + wv.length) cp5) (s2 := .slice none 0 0) (r := { r2 with landed := r2.landed ++ r2.waiting, waiting := [] }) (lv := lv ++ wv) (wv := []) ⟨fun x hx => ?_, (fun x hx => by cases hx), hok.armed⟩ (by rw [List.map_append, e1, e2]) rfl ?_)
    · rcases List.mem_append.1 hx with hx | hx
      · exact hok.l x hx
      · exact (hok.w x hx).1
    · rw [List.flatMap_append, List.length_append, List.append_nil]
      exact hh7.map_tail fun g hg => hg.map_tail fun g hg => hg.tail.nilW 3

/-- An edit: bytes land at once. -/
def Rd.edit (r : Rd) (n a : Int) (l : List Int) : Int × Rd := if 0 ≤ n ∧ n < 1024 then (if a < 0 ∨ a > 128 ∨ (l.length : Int) > 128 - a then (1, r) else (0, { r with landed := r.landed ++ [⟨n, a, l⟩] })) else (40, r)

theorem edit57 (n a : Int) (l : List Int) {v : Value} (hh : Has (RfP p r :: L) h) (hc : r.landed.length ≤ 2 ^ 38) (hl : l.length ≤ 2 ^ 40) (hv : ∀ g, Has L g → Vw 1 g v l.length (l.map by8)) (hq : ∀ h', Has (RfP p (r.edit n a l).2 :: L) h' → Q (iv (r.edit n a l).1) h') : Ok PR 57 [ptr p, iv n, iv a, v] h Q := by
  obtain ⟨base, cap, hs⟩ : ∃ base cap, v = .slice base l.length cap := let ⟨_, x, y, z, _⟩ := hv h hh.tail; ⟨x, y, z⟩
  subst hs
  unfold Rd.edit at hq
  refine e57 rfl ?_
  refine seq_step fun K hK => ?_
  conv => whnf
  refine hK _ _ _ (seq_step fun K1 hK1 => ?_)
  refine seq_step fun K2 hK2 => ?_
  conv => whnf
  refine there59 n ?_
  refine Classical.byCases (p := ¬ (0 ≤ n ∧ n < 1024)) (fun hn => ?_) (fun hn => ?_)
  · rw [if_neg hn] at hq
    rw [show decide (0 ≤ n ∧ n < 1024) = false from decide_eq_false hn]
    conv => whnf
    refine hK2 _ _ _ ?_
    conv => whnf
    exact hq _ hh
  replace hn := Classical.not_not.1 hn
  rw [if_pos hn] at hq
  rw [show decide (0 ≤ n ∧ n < 1024) = true from decide_eq_true hn]
  conv => whnf
  refine hK2 _ _ _ ?_
  conv => whnf
  refine hK1 _ _ _ (seq_step fun K3 hK3 => ?_)
  refine seq_step fun K4 hK4 => ?_
  conv => whnf
  refine Classical.byCases (p := a < 0) (fun ha => ?_) (fun ha => ?_)
  · rw [if_pos (.inl ha)] at hq
    rw [show decide (a < 0) = true from decide_eq_true ha]
    conv => whnf
    refine hK4 _ _ _ ?_
    conv => whnf
    exact hq _ hh
  rw [show decide (a < 0) = false from decide_eq_false ha]
  conv => whnf
  refine Classical.byCases (p := a > 128) (fun hb => ?_) (fun hb => ?_)
  · rw [if_pos (.inr (.inl hb))] at hq
    rw [show decide (a > 128) = true from decide_eq_true hb]
    conv => whnf
    refine hK4 _ _ _ ?_
    conv => whnf
    exact hq _ hh
  rw [show decide (a > 128) = false from decide_eq_false hb]
  conv => whnf
  have hw : IntKind.i64.wrap (128 - a) = 128 - a := wrap_i64 (by omega) (by omega)
  rw [hw]
  refine hK4 _ _ _ ?_
  conv => whnf
  refine cond_dec (fun hgt => ?_) (fun hgt => ?_)
  · rw [if_pos (.inr (.inr hgt))] at hq
    conv => whnf
    exact hq _ hh
  rw [if_neg (by omega)] at hq
  conv => whnf
  refine hK3 _ _ _ (seq_step fun K7 hK7 => ?_)
  obtain ⟨hok, lv, wv, s1, s2, e1, e2, hh2⟩ := RfP.opn hh
  have hll : lv.length ≤ 2 ^ 38 := by rw [← List.length_map (f := fun x : VR => x.2), e1]; exact hc
  conv => whnf
  refine ⟨only p (.cells (rfT r s1 s2).toArray 92 (0, 0)), _, only_sub (hh2.pt 0 rfl), SubB.refl _, ?_⟩
  conv => whnf
  refine opt_ld (only_at _ _) (v := s1) rfl ?_
  conv => whnf
  refine copied51 hh2 (hv _ hh2.tail.tail.tail.tail) (by8_one _) hl fun s3 h3 hh3 => ?_
  obtain ⟨bs3, cp3, hs3⟩ := hh3.slv 0 rfl
  subst hs3
  conv => whnf
  refine ⟨only p (.cells (rfT r s1 s2).toArray 92 (0, 0)), _, ⟨SubH.refl _, SubB.refl _⟩, only_sub (hh3.pt 1 rfl), SubB.refl _, ?_⟩
  conv => whnf
  refine fresh_has hh3 fun b4 h4 hb4 _ _ hh4 => ?_
  conv => whnf
  refine ⟨⟨only_sub (hh4.pt 2 rfl), SubB.refl _⟩, ?_⟩
  conv => whnf
  have hv4 : Vw 3 h4 (.slice (some ⟨b4, 0, none⟩) 1 1) 1 (rowR (.slice bs3 l.length cp3, ⟨n, a, l⟩)) := (pt_wn (e := 3) (n := 1) (cap := 1) (cs := rowR (.slice bs3 l.length cp3, ⟨n, a, l⟩)) rfl (Nat.le_refl _) rfl (hh4.pt 0 rfl)).vw
  refine app_hasW (z := [.int .i64 0, .int .i64 0, .slice none 0 0]) hh4 3 rfl hv4 rfl (by omega) fun s5 h5 hh5 => ?_
  replace hh5 : Has (Pt b4 (.cells (rowR (.slice bs3 l.length cp3, ⟨n, a, l⟩)).toArray 94 (0, 0)) :: WnP 1 (.slice bs3 l.length cp3) l.length (l.map by8) :: Pt p (.cells (rfT r s1 s2).toArray 92 (0, 0)) :: WnP 3 s5 (lv.length + 1) (lv.flatMap rowR ++ rowR (.slice bs3 l.length cp3, ⟨n, a, l⟩)) :: WnP 3 s2 wv.length (wv.flatMap rowR) :: DatP (lv ++ wv) :: L) h5 := hh5
  obtain ⟨bs5, cp5, hs5⟩ := hh5.slv 3 rfl
  subst hs5
  conv => whnf
  refine rf_st ((hh5.pull 2 rfl).erase 1) 0 (.slice bs5 (lv.length + 1) cp5) rfl (by omega) { r with landed := r.landed ++ [⟨n, a, l⟩] } (.slice bs5 (lv.length + 1) cp5) s2 rfl rfl rfl fun h6 hh6 => ?_
  replace hh6 : Has (Pt p (.cells (rfT { r with landed := r.landed ++ [⟨n, a, l⟩] } (.slice bs5 (lv.length + 1) cp5) s2).toArray 92 (0, 0)) :: WnP 1 (.slice bs3 l.length cp3) l.length (l.map by8) :: WnP 3 (.slice bs5 (lv.length + 1) cp5) (lv.length + 1) (lv.flatMap rowR ++ rowR (.slice bs3 l.length cp3, ⟨n, a, l⟩)) :: WnP 3 s2 wv.length (wv.flatMap rowR) :: DatP (lv ++ wv) :: L) h6 := hh6
  have hh7 := DatP.add (x := ⟨n, a, l⟩) ((hh6.pull 4 rfl).pull 2 rfl)
  replace hh7 : Has (DatP (lv ++ wv ++ [(.slice bs3 l.length cp3, ⟨n, a, l⟩)]) :: Pt p (.cells (rfT { r with landed := r.landed ++ [⟨n, a, l⟩] } (.slice bs5 (lv.length + 1) cp5) s2).toArray 92 (0, 0)) :: WnP 3 (.slice bs5 (lv.length + 1) cp5) (lv.length + 1) (lv.flatMap rowR ++ rowR (.slice bs3 l.length cp3, ⟨n, a, l⟩)) :: WnP 3 s2 wv.length (wv.flatMap rowR) :: L) h6 := hh7
  have hh7' := DatP.weak (ys := lv ++ [(.slice bs3 l.length cp3, ⟨n, a, l⟩)] ++ wv) (fun x hx => by
    simp only [List.mem_append] at hx ⊢
    rcases hx with (hx | hx) | hx
    · exact .inl (.inl hx)
    · exact .inr hx
    · exact .inl (.inr hx)) hh7
  have hh8 := hh7'.swap.map_tail fun g hg => hg.swap.map_tail fun g hg => hg.swap
  conv => whnf
  refine hK7 _ _ _ ?_
  conv => whnf
  refine hq _ (RfP.cls (s1 := .slice bs5 (lv.length + 1) cp5) (s2 := s2) (r := { r with landed := r.landed ++ [⟨n, a, l⟩] }) (lv := lv ++ [(.slice bs3 l.length cp3, ⟨n, a, l⟩)]) (wv := wv) ⟨fun x hx => ?_, hok.w, hok.armed⟩ (by rw [List.map_append, e1]; rfl) e2 ?_)
  · rcases List.mem_append.1 hx with hx | hx
    · exact hok.l x hx
    · obtain rfl := List.mem_singleton.1 hx
      exact ⟨hn.1, hn.2, by show 0 ≤ a; omega, by show a + l.length ≤ 128; omega⟩
  · have e : (lv ++ [((.slice bs3 l.length cp3 : Value), (⟨n, a, l⟩ : Rc))]).flatMap rowR = lv.flatMap rowR ++ rowR (.slice bs3 l.length cp3, ⟨n, a, l⟩) := by rw [List.flatMap_append]; simp
    rw [e, List.length_append]
    exact hh8

/-- The kept ones, of the first k. -/
def keptR (keep : Nat → Bool) (l : List Rc) : Nat → List Rc
  | 0 => []
  | k + 1 => match l[k]? with
    | some x => if keep k then keptR keep l k ++ [x] else keptR keep l k
    | none => keptR keep l k

/-- Crash: the kept ones land. -/
def Rd.crash (r : Rd) (ks : List Bool) : Rd := { r with landed := r.landed ++ keptR (kept ks) r.waiting r.waiting.length, waiting := [], armed := -1, down := false }

theorem keptR_mem {keep : Nat → Bool} {l : List Rc} : ∀ {k : Nat} {x : Rc}, x ∈ keptR keep l k → x ∈ l
  | 0, x, h => by cases h
  | k + 1, x, h => by
    simp only [keptR] at h
    split at h
    · rename_i y hy
      split at h
      · rcases List.mem_append.1 h with h | h
        · exact keptR_mem h
        · obtain rfl := List.mem_singleton.1 h
          exact List.mem_of_getElem? hy
      · exact keptR_mem h
    · exact keptR_mem h

theorem keptR_len {keep : Nat → Bool} {l : List Rc} : ∀ k, (keptR keep l k).length ≤ k
  | 0 => Nat.le_refl _
  | k + 1 => by
    have := keptR_len (keep := keep) (l := l) k
    simp only [keptR]
    split
    · split
      · rw [List.length_append]; simp; omega
      · omega
    · omega

/-- The kept ones, with where they lie. -/
def keptV (keep : Nat → Bool) (l : List VR) : Nat → List VR
  | 0 => []
  | k + 1 => match l[k]? with
    | some x => if keep k then keptV keep l k ++ [x] else keptV keep l k
    | none => keptV keep l k

theorem keptV_map {keep : Nat → Bool} {l : List VR} : ∀ k, (keptV keep l k).map (·.2) = keptR keep (l.map (·.2)) k
  | 0 => rfl
  | k + 1 => by
    have ih := keptV_map (keep := keep) (l := l) k
    simp only [keptV, keptR, List.getElem?_map]
    cases l[k]? with
    | none => exact ih
    | some x =>
      simp only [Option.map_some]
      split
      · rw [List.map_append, ih]; rfl
      · exact ih

theorem keptV_mem {keep : Nat → Bool} {l : List VR} : ∀ {k : Nat} {x : VR}, x ∈ keptV keep l k → x ∈ l
  | 0, x, h => by cases h
  | k + 1, x, h => by
    simp only [keptV] at h
    split at h
    · rename_i y hy
      split at h
      · rcases List.mem_append.1 h with h | h
        · exact keptV_mem h
        · obtain rfl := List.mem_singleton.1 h
          exact List.mem_of_getElem? hy
      · exact keptV_mem h
    · exact keptV_mem h

theorem keptV_len {keep : Nat → Bool} {l : List VR} (k : Nat) : (keptV keep l k).length ≤ k := by
  rw [← List.length_map (f := fun x : VR => x.2), keptV_map]; exact keptR_len k

set_option maxRecDepth 20000 in
theorem crash56 {v : Value} {ks : List Bool} (hh : Has (RfP p r :: L) h) (hc : r.landed.length + r.waiting.length ≤ 2 ^ 38) (hv : ∀ g, Has L g → Vw 1 g v ks.length (ks.map fun t => Value.bool t)) (hq : ∀ h', Has (RfP p (r.crash ks) :: L) h' → Q (iv (drN (kept ks) r.waiting.length)) h') : Ok PR 56 [ptr p, v] h Q := by
  obtain ⟨base, cap, hs⟩ : ∃ base cap, v = .slice base ks.length cap := let ⟨_, x, y, z, _⟩ := hv h hh.tail; ⟨x, y, z⟩
  subst hs
  obtain ⟨hok, lv, wv, s1, s2, e1, e2, hh2⟩ := RfP.opn hh
  have hwl : wv.length = r.waiting.length := by rw [← List.length_map (f := fun x : VR => x.2), e2]
  have hll : lv.length = r.landed.length := by rw [← List.length_map (f := fun x : VR => x.2), e1]
  obtain ⟨bw, cpw, hsw⟩ := hh2.slv 2 rfl
  subst hsw
  refine e56 rfl ?_
  refine seq_step fun K hK => ?_
  conv => whnf
  refine hK _ _ _ (seq_step fun K1 hK1 => ?_)
  conv => whnf
  refine hK1 _ _ _ (seq_step fun K2 hK2 => ?_)
  refine seq_step fun K3 hK3 => ?_
  conv => whnf
  refine hK3 _ _ _ ?_
  refine loop_intro (σ := Nat × Value × Hp) (fun x => [(6, .v (iv x.1)), (5, .v (iv (drN (kept ks) x.1))), (0, .v (ptr p)), (1, .v (.slice base ks.length cap))]) (fun _ => []) (fun x => x.2.2)
    (fun x => x.1 ≤ wv.length ∧ Has (Pt p (.cells (rfT r x.2.1 (.slice bw wv.length cpw)).toArray 92 (0, 0)) :: WnP 3 x.2.1 (lv ++ keptV (kept ks) wv x.1).length ((lv ++ keptV (kept ks) wv x.1).flatMap rowR) :: WnP 3 (.slice bw wv.length cpw) wv.length (wv.flatMap rowR) :: DatP (lv ++ wv) :: L) x.2.2) (fun x => wv.length - x.1) (0, s1, h) ⟨Nat.zero_le _, by
      show Has (Pt p (.cells (rfT r s1 (.slice bw wv.length cpw)).toArray 92 (0, 0)) :: WnP 3 s1 (lv ++ []).length ((lv ++ []).flatMap rowR) :: _) h
      rw [List.append_nil]; exact hh2⟩
    ⟨rfl, rfl, rfl, rfl, trivial⟩ subB_nil rfl ?_
  clear hh hh2
  rintro ⟨k, s5, g⟩ ⟨hkl, hg⟩
  dsimp only at hkl hg ⊢
  refine seq_step fun K4 hK4 => ?_
  refine seq_step fun K5 hK5 => ?_
  conv => whnf
  refine opt_ld (hg.pt 0 rfl) (v := .slice bw wv.length cpw) rfl ?_
  conv => whnf
  refine hK5 _ _ _ ?_
  conv => whnf
  refine cond_dec (fun hlt => ?_) (fun hlt => ?_)
  · conv => whnf
    refine hK4 _ _ _ (seq_step fun K6 hK6 => ?_)
    refine seq_step fun K7 hK7 => ?_
    obtain ⟨x, hx⟩ : ∃ x, wv[k]? = some x := ⟨_, List.getElem?_eq_getElem (by omega)⟩
    have eV : keptV (kept ks) wv (k + 1) = if kept ks k then keptV (kept ks) wv k ++ [x] else keptV (kept ks) wv k := by simp only [keptV, hx]
    have eN : drN (kept ks) (k + 1) = if kept ks k then drN (kept ks) k + 1 else drN (kept ks) k := rfl
    have hNl := drN_le (keep := kept ks) k
    have hVl := keptV_len (keep := kept ks) (l := wv) k
    have hdt : DatP (lv ++ wv) g := Has.get (A := DatP (lv ++ wv)) hg 3 rfl fun _ _ => DatP.sub
    obtain ⟨base3, cap3, hxv⟩ : ∃ base cap, x.1 = .slice base x.2.dat.length cap := let ⟨_, a, b, c, _⟩ := hdt x (List.mem_append_right _ (List.mem_of_getElem? hx)); ⟨a, b, c⟩
    conv => whnf
    have hno : kept ks k = false → ∀ ρ, look ρ 6 = some (.v (iv k)) → look ρ 5 = some (.v (iv (drN (kept ks) k))) → look ρ 0 = some (.v (ptr p)) → look ρ 1 = some (.v (.slice base ks.length cap)) →
        ∃ s' : Nat × Value × Hp, (s'.1 ≤ wv.length ∧ Has (Pt p (.cells (rfT r s'.2.1 (.slice bw wv.length cpw)).toArray 92 (0, 0)) :: WnP 3 s'.2.1 (lv ++ keptV (kept ks) wv s'.1).length ((lv ++ keptV (kept ks) wv s'.1).flatMap rowR) :: WnP 3 (.slice bw wv.length cpw) wv.length (wv.flatMap rowR) :: DatP (lv ++ wv) :: L) s'.2.2) ∧ wv.length - s'.1 < wv.length - k ∧ s'.1 = k + 1 ∧ g = s'.2.2 := fun hk ρ _ _ _ _ => by
      refine ⟨(k + 1, s5, g), ⟨(show k + 1 ≤ wv.length by omega), ?_⟩, (by show wv.length - (k + 1) < wv.length - k; omega), rfl, rfl⟩
      show Has (Pt p _ :: WnP 3 s5 (lv ++ keptV (kept ks) wv (k + 1)).length ((lv ++ keptV (kept ks) wv (k + 1)).flatMap rowR) :: _) g
      rw [eV, hk, if_neg (by decide)]; exact hg
    by_cases hk2 : k < ks.length
    · rw [show decide ((k : Int) < (ks.length : Int)) = true from decide_eq_true (by omega)]
      obtain ⟨b2, off2, c2, ty2, z2, cap2', hs3, hb2, hsz2, hcc2⟩ := (hv g hg.tail.tail.tail.tail).at (i := k) (by omega)
      cases hs3
      have hkv := kept_lt (ks := ks) (k := k) (by omega)
      conv => whnf
      refine opt_if ⟨by omega, by omega⟩ ?_
      conv => whnf
      refine opt_ld hb2 (v := .bool (kept ks k)) (hcc2 0 _ (by rw [Nat.mul_one, Nat.add_zero, List.getElem?_map, hkv]; rfl)) ?_
      cases hkt : kept ks k with
      | true =>
        rw [hkt, if_pos rfl] at eV eN
        obtain ⟨bwb, bwo, c3, ty3, z3, _, ew, hb3, hsz3, hc3⟩ := (hg.wn 2 rfl).at (i := k) (by omega)
        cases ew
        have hcell : ∀ j v, (rowR x)[j]? = some v → c3[bwo + k * 3 + j]? = some v := fun j v hv => by
          have hj : j < 3 := (List.getElem?_eq_some_iff.1 hv).1
          exact hc3 j v (by rw [flat_get rowR_len _ _ _ _ hx hj]; exact hv)
        have hkk : k * 3 + 3 ≤ wv.length * 3 := by omega
        conv => whnf
        refine hK7 _ _ _ ?_
        conv => whnf
        refine ⟨_, _, SubH.refl _, SubB.refl _, ?_⟩
        conv => whnf
        refine opt_ld (hg.pt 0 rfl) (v := s5) rfl ?_
        conv => whnf
        refine opt_ld (hg.pt 0 rfl) (v := .slice (some ⟨bwb, bwo, none⟩) wv.length cpw) rfl ?_
        conv => whnf
        refine opt_if ⟨by omega, by omega⟩ ?_
        conv => whnf
        refine opt_ld hb3 (v := .agg (rowR x).toArray) (agg_rd rfl (by omega) fun j v hj => ?_) ?_
        · rw [show bwo + (k : Int).toNat * 3 + j = bwo + k * 3 + j by omega]; exact hcell j v hj
        conv => whnf
        refine fresh_has hg fun b4 h4 hb4 _ hs4 hh4 => ?_
        conv => whnf
        refine ⟨⟨hs4, SubB.refl _⟩, ?_⟩
        conv => whnf
        have hv4 : Vw 3 h4 (.slice (some ⟨b4, 0, none⟩) 1 1) 1 (rowR x) := (pt_wn (e := 3) (n := 1) (cap := 1) (cs := rowR x) rfl (Nat.le_refl _) rfl (hh4.pt 0 rfl)).vw
        have hone : (rowR x).all one = true := by
          simp only [rowR, hxv]; rfl
        refine app_hasW (z := [.int .i64 0, .int .i64 0, .slice none 0 0]) hh4 2 rfl hv4 hone (by
          have : (lv ++ keptV (kept ks) wv k).length = lv.length + (keptV (kept ks) wv k).length := List.length_append ..
          omega) fun s6 h5 hh5 => ?_
        replace hh5 : Has (Pt b4 (.cells (rowR x).toArray 94 (0, 0)) :: Pt p (.cells (rfT r s5 (.slice (some ⟨bwb, bwo, none⟩) wv.length cpw)).toArray 92 (0, 0)) :: WnP 3 s6 ((lv ++ keptV (kept ks) wv k).length + 1) ((lv ++ keptV (kept ks) wv k).flatMap rowR ++ rowR x) :: WnP 3 (.slice (some ⟨bwb, bwo, none⟩) wv.length cpw) wv.length (wv.flatMap rowR) :: DatP (lv ++ wv) :: L) h5 := hh5
        obtain ⟨bs6, cp6, hs6⟩ := hh5.slv 2 rfl
        subst hs6
        conv => whnf
        refine rf_st (hh5.erase 0) 0 (.slice bs6 ((lv ++ keptV (kept ks) wv k).length + 1) cp6) rfl (by omega) r (.slice bs6 ((lv ++ keptV (kept ks) wv k).length + 1) cp6) (.slice (some ⟨bwb, bwo, none⟩) wv.length cpw) rfl rfl rfl fun h6 hh6 => ?_
        conv => whnf
        refine hK6 _ _ _ ?_
        conv => whnf
        refine ⟨(k + 1, .slice bs6 ((lv ++ keptV (kept ks) wv k).length + 1) cp6, h6), ⟨(show k + 1 ≤ wv.length by omega), ?_⟩, (by show wv.length - (k + 1) < wv.length - k; omega), ⟨int_eq (wrap_nat (by omega)) rfl, int_eq (by rw [wrap_nat (by omega), eN]) rfl, rfl, rfl, trivial⟩, subB_nil, rfl⟩
        show Has (Pt p _ :: WnP 3 _ (lv ++ keptV (kept ks) wv (k + 1)).length ((lv ++ keptV (kept ks) wv (k + 1)).flatMap rowR) :: _) h6
        have eA : lv ++ keptV (kept ks) wv (k + 1) = (lv ++ keptV (kept ks) wv k) ++ [x] := by rw [eV, List.append_assoc]
        have eB : ((lv ++ keptV (kept ks) wv k) ++ [x]).flatMap rowR = (lv ++ keptV (kept ks) wv k).flatMap rowR ++ rowR x := by rw [List.flatMap_append]; simp
        have eC : ((lv ++ keptV (kept ks) wv k) ++ [x]).length = (lv ++ keptV (kept ks) wv k).length + 1 := List.length_append ..
        rw [eA, eB, eC]
        exact hh6
      | false =>
        rw [hkt, if_neg (by decide)] at eN
        conv => whnf
        refine hK7 _ _ _ ?_
        conv => whnf
        refine hK6 _ _ _ ?_
        conv => whnf
        obtain ⟨s', q1, q2, q3, q4⟩ := hno hkt [(6, .v (iv k)), (5, .v (iv (drN (kept ks) k))), (0, .v (ptr p)), (1, .v (.slice (some ⟨b2, off2, none⟩) ks.length cap))] rfl rfl rfl rfl
        exact ⟨s', q1, q2, ⟨int_eq (by rw [wrap_nat (by omega), q3]) rfl, int_eq (by rw [q3, eN]) rfl, rfl, rfl, trivial⟩, subB_nil, q4⟩
    · rw [show decide ((k : Int) < (ks.length : Int)) = false from decide_eq_false (by omega)]
      have hkt := kept_ge (ks := ks) (k := k) (by omega)
      rw [hkt, if_neg (by decide)] at eN
      conv => whnf
      refine hK7 _ _ _ ?_
      conv => whnf
      refine hK6 _ _ _ ?_
      conv => whnf
      obtain ⟨s', q1, q2, q3, q4⟩ := hno hkt [(6, .v (iv k)), (5, .v (iv (drN (kept ks) k))), (0, .v (ptr p)), (1, .v (.slice base ks.length cap))] rfl rfl rfl rfl
      exact ⟨s', q1, q2, ⟨int_eq (by rw [wrap_nat (by omega), q3]) rfl, int_eq (by rw [q3, eN]) rfl, rfl, rfl, trivial⟩, subB_nil, q4⟩
  · have hkl : k = wv.length := by omega
    subst hkl
    conv => whnf
    refine hK2 _ _ _ (seq_step fun K8 hK8 => ?_)
    conv => whnf
    refine rf_st hg 1 (.slice none 0 0) rfl (by omega) r s5 (.slice none 0 0) rfl rfl rfl fun h1 hh1 => ?_
    conv => whnf
    refine hK8 _ _ _ (seq_step fun K9 hK9 => ?_)
    conv => whnf
    refine rf_st hh1 2 (iv (-1)) rfl (by omega) { r with armed := -1 } s5 (.slice none 0 0) rfl rfl rfl fun h2 hh2 => ?_
    conv => whnf
    refine hK9 _ _ _ (seq_step fun K10 hK10 => ?_)
    conv => whnf
    refine rf_st hh2 3 (.bool false) rfl (by omega) { r with armed := -1, down := false } s5 (.slice none 0 0) rfl rfl rfl fun h3 hh3 => ?_
    conv => whnf
    refine hK10 _ _ _ ?_
    conv => whnf
    rw [hwl]
    refine hq _ (RfP.cls (s1 := s5) (s2 := .slice none 0 0) (r := r.crash ks) (lv := lv ++ keptV (kept ks) wv wv.length) (wv := []) ⟨fun x hx => ?_, (fun x hx => by cases hx), by show -1 ≤ (-1 : Int) ∧ (-1 : Int) < 2 ^ 63; decide⟩ ?_ rfl ?_)
    · rcases List.mem_append.1 hx with hx | hx
      · exact hok.l x hx
      · exact (hok.w x (keptR_mem hx)).1
    · show _ = r.landed ++ keptR (kept ks) r.waiting r.waiting.length
      rw [List.map_append, e1, keptV_map, e2, hwl]
    · have h4 : Has (Pt p (.cells (rfT (r.crash ks) s5 (.slice none 0 0)).toArray 92 (0, 0)) :: WnP 3 s5 (lv ++ keptV (kept ks) wv wv.length).length ((lv ++ keptV (kept ks) wv wv.length).flatMap rowR) :: WnP 3 (.slice bw wv.length cpw) wv.length (wv.flatMap rowR) :: DatP (lv ++ wv) :: L) h3 := hh3
      refine h4.map_tail fun g hg => hg.map_tail fun g hg => ?_
      refine Has.nilW (DatP.weak (ys := lv ++ keptV (kept ks) wv wv.length ++ []) (fun x hx => ?_) hg.tail) 3
      rw [List.append_nil] at hx
      rcases List.mem_append.1 hx with hx | hx
      · exact List.mem_append_left _ hx
      · exact List.mem_append_right _ (keptV_mem hx)

end
end Go.Proofs.Ytpkleblggehghaa.V
