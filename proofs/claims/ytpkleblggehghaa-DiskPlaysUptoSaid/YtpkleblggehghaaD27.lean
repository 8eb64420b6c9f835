/- Seat 04: the document's disk. -/
import Derived.Test.YtpkleblggehghaaD24
import Derived.Test.YtpkleblggehghaaE8
import Derived.Test.YtpkleblggehghaaE9
namespace Go.Proofs.Ytpkleblggehghaa.V
set_option linter.unusedVariables false
set_option linter.unusedSimpArgs false
set_option linter.unusedSectionVars false
set_option linter.unusedSectionVars false
open Go

/-- Bytes that go to a place of a sector. -/
structure Rc where
  sec : Int
  at_ : Int
  dat : List Int

abbrev VR := Value × Rc
def rowR (x : VR) : List Value := [iv x.2.sec, iv x.2.at_, x.1]
theorem rowR_len (x : VR) : (rowR x).length = 3 := rfl

def Rc.ok (r : Rc) : Prop := 0 ≤ r.sec ∧ r.sec < 1024 ∧ 0 ≤ r.at_ ∧ r.at_ + r.dat.length ≤ 128

structure Rd where
  landed : List Rc
  waiting : List Rc
  armed : Int
  down : Bool
  count : Int

structure Rok (r : Rd) : Prop where
  l : ∀ x ∈ r.landed, x.ok
  w : ∀ x ∈ r.waiting, x.ok ∧ x.at_ = 0 ∧ x.dat.length = 128
  armed : -1 ≤ r.armed ∧ r.armed < 2 ^ 63

def DatP (xs : List VR) : As := fun g => ∀ x ∈ xs, Vw 1 g x.1 x.2.dat.length (x.2.dat.map by8)

def rfT (r : Rd) (s1 s2 : Value) : List Value := [s1, s2, iv r.armed, .bool r.down, iv r.count]

def RfP (p : Nat) (r : Rd) : As := fun h => Rok r ∧ ∃ (lv wv : List VR) (s1 s2 : Value), lv.map (·.2) = r.landed ∧ wv.map (·.2) = r.waiting ∧
  Has [Pt p (.cells (rfT r s1 s2).toArray 92 (0, 0)), WnP 3 s1 lv.length (lv.flatMap rowR), WnP 3 s2 wv.length (wv.flatMap rowR), DatP (lv ++ wv)] h

theorem DatP.sub {xs : List VR} {g g' : Hp} (h : DatP xs g) (hs : SubH g g') : DatP xs g' := fun x hx => (h x hx).sub hs

theorem rowR_one {xs : List VR} {g : Hp} (h : DatP xs g) : (xs.flatMap rowR).all one = true := by
  rw [List.all_eq_true]
  intro v hv
  obtain ⟨x, hx, hv⟩ := List.mem_flatMap.1 hv
  obtain ⟨_, base, cap, e, _⟩ := h x hx
  simp only [rowR, List.mem_cons, List.not_mem_nil, or_false] at hv
  rcases hv with rfl | rfl | rfl
  · rfl
  · rfl
  · rw [e]; rfl

section
variable {h : Hp} {Q : Value → Hp → Prop} {L : List As} {p : Nat} {r : Rd}

theorem RfP.opn (hh : Has (RfP p r :: L) h) : Rok r ∧ ∃ (lv wv : List VR) (s1 s2 : Value), lv.map (·.2) = r.landed ∧ wv.map (·.2) = r.waiting ∧
    Has (Pt p (.cells (rfT r s1 s2).toArray 92 (0, 0)) :: WnP 3 s1 lv.length (lv.flatMap rowR) :: WnP 3 s2 wv.length (wv.flatMap rowR) :: DatP (lv ++ wv) :: L) h := by
  obtain ⟨h1, h2, e, ap, ⟨hok, lv, wv, s1, s2, e1, e2, hd⟩, hL⟩ := hh
  exact ⟨hok, lv, wv, s1, s2, e1, e2, Has.flat (L1 := [_, _, _, _]) ⟨h1, h2, e, ap, hd, hL⟩⟩

theorem RfP.cls {lv wv : List VR} {s1 s2 : Value} (hok : Rok r) (e1 : lv.map (·.2) = r.landed) (e2 : wv.map (·.2) = r.waiting)
    (hh : Has (Pt p (.cells (rfT r s1 s2).toArray 92 (0, 0)) :: WnP 3 s1 lv.length (lv.flatMap rowR) :: WnP 3 s2 wv.length (wv.flatMap rowR) :: DatP (lv ++ wv) :: L) h) : Has (RfP p r :: L) h := by
  obtain ⟨h1, h2, e, ap, hd, hL⟩ := Has.group (L1 := [_, _, _, _]) hh
  exact ⟨h1, h2, e, ap, ⟨hok, lv, wv, s1, s2, e1, e2, hd⟩, hL⟩

theorem rf_st {β : Bx} {s1 s2 : Value} {K : Hp × Bx → Prop} {off : Nat} (hh : Has (Pt p (.cells (rfT r s1 s2).toArray 92 (0, 0)) :: L) h) (k : Nat) (v : Value) (ho : off = k) (hk : k < 5)
    (r' : Rd) (s1' s2' : Value) (ht : (rfT r s1 s2).set k v = rfT r' s1' s2') (h1 : v.cells = #[v]) (h4 : one v = true) (hK : ∀ h', Has (Pt p (.cells (rfT r' s1' s2').toArray 92 (0, 0)) :: L) h' → K (h', β)) :
    optK (pSt 1 h β (.v (.pointer (some ⟨p, off, none⟩))) (.v v)) K := by
  subst ho
  refine st_has hh 0 rfl (by rw [h1]; rfl) (by show off + 1 ≤ 5; omega) (by simp [h1, h4]) fun h' _ _ hh' => hK h' ?_
  rw [h1] at hh'
  have e : wr (rfT r s1 s2).toArray off [v] = (rfT r' s1' s2').toArray := by
    rw [wr_wrL]; congr 1
  have hh2 : Has (Pt p (.cells (wr (rfT r s1 s2).toArray off [v]) 92 (0, 0)) :: L) h' := hh'
  rw [e] at hh2
  exact hh2

def rd0 : Rd := ⟨[], [], -1, false, 0⟩

theorem new38 (hh : Has L h) (hq : ∀ q h', Has (RfP q rd0 :: L) h' → Q (ptr q) h') : Ok PR 38 [] h Q := by
  refine e38 rfl ?_
  refine seq_step fun K hK => ?_
  conv => whnf
  refine hK _ _ _ (seq_step fun K1 hK1 => ?_)
  conv => whnf
  refine fresh_has hh fun b h1 hb _ _ hh1 => ?_
  conv => whnf
  refine hK1 _ _ _ ?_
  conv => whnf
  refine hq _ _ (RfP.cls (lv := []) (wv := []) (s1 := .slice none 0 0) (s2 := .slice none 0 0) ⟨(fun x hx => by cases hx), (fun x hx => by cases hx), (by decide)⟩ rfl rfl ?_)
  obtain ⟨g1, g2, e, ap, hA, hL⟩ := hh1
  refine ⟨g1, g2, e, ap, hA, ?_⟩
  have h3 : Has (DatP ([] ++ []) :: L) g2 := ⟨fun _ => none, g2, by funext b; simp [join], (fun _ _ h => (by cases h)), (fun x hx => by cases hx), hL⟩
  exact (h3.nilW 3).nilW 3

theorem there59 (n : Int) (hq : Q (.bool (decide (0 ≤ n ∧ n < 1024))) h) : Ok PR 59 [iv n] h Q := by
  refine e59 rfl ?_
  refine seq_step fun K hK => ?_
  conv => whnf
  refine hK _ _ _ ?_
  conv => whnf
  by_cases h0 : 0 ≤ n
  · rw [show decide (n ≥ 0) = true from decide_eq_true h0]
    conv => whnf
    rw [show (decide (0 ≤ n ∧ n < 1024)) = decide (n < 1024) from by simp [h0]] at hq
    exact hq
  · rw [show decide (n ≥ 0) = false from decide_eq_false h0]
    conv => whnf
    rw [show (decide (0 ≤ n ∧ n < 1024)) = false from by simp [h0]] at hq
    exact hq

def Rd.act (r : Rd) : Bool × Rd :=
  if r.down then (false, r) else if r.armed = 0 then (false, { r with down := true })
  else if 0 < r.armed then (true, { r with armed := r.armed - 1, count := IntKind.i64.wrap (r.count + 1) }) else (true, { r with count := IntKind.i64.wrap (r.count + 1) })

theorem act60 (hh : Has (RfP p r :: L) h) (hq : ∀ h', Has (RfP p r.act.2 :: L) h' → Q (.bool r.act.1) h') : Ok PR 60 [ptr p] h Q := by
  obtain ⟨hok, lv, wv, s1, s2, e1, e2, hh⟩ := RfP.opn hh
  have har := hok.armed
  unfold Rd.act at hq
  refine e60 rfl ?_
  refine seq_step fun K hK => ?_
  conv => whnf
  refine hK _ _ _ (seq_step fun K1 hK1 => ?_)
  refine seq_step fun K2 hK2 => ?_
  conv => whnf
  refine opt_ld (hh.pt 0 rfl) (v := .bool r.down) rfl ?_
  conv => whnf
  refine hK2 _ _ _ ?_
  conv => whnf
  refine cond_split (fun hd => ?_) (fun hd => ?_)
  · rw [if_pos hd] at hq
    conv => whnf
    exact hq _ (RfP.cls hok e1 e2 hh)
  rw [if_neg (by rw [hd]; decide)] at hq
  conv => whnf
  refine hK1 _ _ _ (seq_step fun K3 hK3 => ?_)
  refine seq_step fun K4 hK4 => ?_
  conv => whnf
  refine opt_ld (hh.pt 0 rfl) (v := iv r.armed) rfl ?_
  conv => whnf
  refine hK4 _ _ _ ?_
  conv => whnf
  refine cond_beq (fun ha => ?_) (fun ha => ?_)
  · rw [if_pos ha] at hq
    conv => whnf
    refine rf_st hh 3 (.bool true) rfl (by omega) { r with down := true } s1 s2 rfl rfl rfl fun h1 hh1 => ?_
    conv => whnf
    exact hq _ (RfP.cls (r := { r with down := true }) ⟨hok.l, hok.w, hok.armed⟩ e1 e2 hh1)
  rw [if_neg ha] at hq
  conv => whnf
  refine hK3 _ _ _ (seq_step fun K5 hK5 => ?_)
  refine seq_step fun K6 hK6 => ?_
  conv => whnf
  refine opt_ld (hh.pt 0 rfl) (v := iv r.armed) rfl ?_
  conv => whnf
  refine hK6 _ _ _ ?_
  conv => whnf
  refine cond_dec (fun hp => ?_) (fun hp => ?_)
  · rw [if_pos hp] at hq
    have hw : IntKind.i64.wrap (r.armed - 1) = r.armed - 1 := wrap_i64 (by omega) (by omega)
    conv => whnf
    refine opt_ld (hh.pt 0 rfl) (v := iv r.armed) rfl ?_
    conv => whnf
    rw [hw]
    refine rf_st hh 2 (iv (r.armed - 1)) rfl (by omega) { r with armed := r.armed - 1 } s1 s2 rfl rfl rfl fun h1 hh1 => ?_
    conv => whnf
    refine hK5 _ _ _ (seq_step fun K7 hK7 => ?_)
    conv => whnf
    refine opt_ld (hh1.pt 0 rfl) (v := iv r.count) rfl ?_
    conv => whnf
    refine rf_st hh1 4 (iv (IntKind.i64.wrap (r.count + 1))) rfl (by omega) { r with armed := r.armed - 1, count := IntKind.i64.wrap (r.count + 1) } s1 s2 rfl rfl rfl fun h2 hh2 => ?_
    conv => whnf
    refine hK7 _ _ _ ?_
    conv => whnf
    exact hq _ (RfP.cls (r := { r with armed := r.armed - 1, count := IntKind.i64.wrap (r.count + 1) }) ⟨hok.l, hok.w, by show -1 ≤ r.armed - 1 ∧ r.armed - 1 < 2 ^ 63; omega⟩ e1 e2 hh2)
  · rw [if_neg hp] at hq
    conv => whnf
    refine hK5 _ _ _ (seq_step fun K7 hK7 => ?_)
    conv => whnf
    refine opt_ld (hh.pt 0 rfl) (v := iv r.count) rfl ?_
    conv => whnf
    refine rf_st hh 4 (iv (IntKind.i64.wrap (r.count + 1))) rfl (by omega) { r with count := IntKind.i64.wrap (r.count + 1) } s1 s2 rfl rfl rfl fun h2 hh2 => ?_
    conv => whnf
    refine hK7 _ _ _ ?_
    conv => whnf
    exact hq _ (RfP.cls (r := { r with count := IntKind.i64.wrap (r.count + 1) }) ⟨hok.l, hok.w, hok.armed⟩ e1 e2 hh2)

def Rd.arm (r : Rd) (n : Int) : Int × Rd := if n < 0 then (1, r) else if r.down then (42, r) else (0, { r with armed := n })

theorem arm55 (n : Int) (hn : n < 2 ^ 63) (hh : Has (RfP p r :: L) h) (hq : ∀ h', Has (RfP p (r.arm n).2 :: L) h' → Q (iv (r.arm n).1) h') : Ok PR 55 [ptr p, iv n] h Q := by
  obtain ⟨hok, lv, wv, s1, s2, e1, e2, hh⟩ := RfP.opn hh
  unfold Rd.arm at hq
  refine e55 rfl ?_
  refine seq_step fun K hK => ?_
  conv => whnf
  refine hK _ _ _ (seq_step fun K1 hK1 => ?_)
  refine seq_step fun K2 hK2 => ?_
  conv => whnf
  refine hK2 _ _ _ ?_
  refine cond_dec (fun h0 => ?_) (fun h0 => ?_)
  · rw [if_pos h0] at hq
    conv => whnf
    exact hq _ (RfP.cls hok e1 e2 hh)
  rw [if_neg h0] at hq
  conv => whnf
  refine hK1 _ _ _ (seq_step fun K3 hK3 => ?_)
  refine seq_step fun K4 hK4 => ?_
  conv => whnf
  refine opt_ld (hh.pt 0 rfl) (v := .bool r.down) rfl ?_
  conv => whnf
  refine hK4 _ _ _ ?_
  conv => whnf
  refine cond_split (fun hd => ?_) (fun hd => ?_)
  · rw [if_pos hd] at hq
    conv => whnf
    exact hq _ (RfP.cls hok e1 e2 hh)
  rw [if_neg (by rw [hd]; decide)] at hq
  conv => whnf
  refine hK3 _ _ _ (seq_step fun K5 hK5 => ?_)
  conv => whnf
  refine rf_st hh 2 (iv n) rfl (by omega) { r with armed := n } s1 s2 rfl rfl rfl fun h1 hh1 => ?_
  conv => whnf
  refine hK5 _ _ _ ?_
  conv => whnf
  exact hq _ (RfP.cls (r := { r with armed := n }) ⟨hok.l, hok.w, by show -1 ≤ n ∧ n < 2 ^ 63; omega⟩ e1 e2 hh1)

theorem down65 (hh : Has (RfP p r :: L) h) (hq : Q (.bool r.down) h) : Ok PR 65 [ptr p] h Q := by
  obtain ⟨hok, lv, wv, s1, s2, e1, e2, hh⟩ := RfP.opn hh
  refine e65 rfl ?_
  conv => whnf
  refine opt_ld (hh.pt 0 rfl) (v := .bool r.down) rfl ?_
  conv => whnf
  exact hq

theorem acts66 (hh : Has (RfP p r :: L) h) (hq : Q (iv r.count) h) : Ok PR 66 [ptr p] h Q := by
  obtain ⟨hok, lv, wv, s1, s2, e1, e2, hh⟩ := RfP.opn hh
  refine e66 rfl ?_
  conv => whnf
  refine opt_ld (hh.pt 0 rfl) (v := iv r.count) rfl ?_
  conv => whnf
  exact hq

theorem copied51 {a : Value} {n : Nat} {vs : List Value} (hh : Has L h) (ha : Vw 1 h a n vs) (hone : vs.all one = true) (hn : n ≤ 2 ^ 40) (hq : ∀ s h', Has (WnP 1 s n vs :: L) h' → Q s h') : Ok PR 51 [a] h Q := by
  refine e51 rfl ?_
  refine seq_step fun K hK => ?_
  conv => whnf
  refine hK _ _ _ (seq_step fun K1 hK1 => ?_)
  conv => whnf
  refine hK1 _ _ _ (seq_step fun K2 hK2 => ?_)
  conv => whnf
  refine app_hasW (z := [.int .u8 0]) (hh.nilW 1) 0 rfl ha hone (by omega) fun s h1 hh1 => ?_
  replace hh1 : Has (WnP 1 s (0 + n) vs :: L) h1 := hh1
  rw [Nat.zero_add] at hh1
  conv => whnf
  refine hK2 _ _ _ ?_
  conv => whnf
  exact hq _ _ hh1

end
end Go.Proofs.Ytpkleblggehghaa.V
