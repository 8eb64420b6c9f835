/- Seat 04: the document's disk, played again. -/
import Derived.Test.YtpkleblggehghaaD27
namespace Go.Proofs.Ytpkleblggehghaa.V
set_option linter.unusedVariables false
set_option linter.unusedSimpArgs false
set_option linter.unusedSectionVars false
set_option linter.unusedSectionVars false
open Go

/-- Bytes laid over bytes. -/
def layB (b : List Int) (a : Nat) (d : List Int) : List Int := b.take a ++ d ++ b.drop (a + d.length)

theorem layB_len {b : List Int} {a : Nat} {d : List Int} (h : a + d.length ≤ b.length) : (layB b a d).length = b.length := by
  simp only [layB, List.length_append, List.length_take, List.length_drop]; omega

/-- The first k of them are laid. -/
def layK (b : List Int) (a : Nat) (d : List Int) (k : Nat) : List Int := b.take a ++ d.take k ++ b.drop (a + k)

theorem layK_len {b : List Int} {a : Nat} {d : List Int} {k : Nat} (hk : k ≤ d.length) (h : a + d.length ≤ b.length) : (layK b a d k).length = b.length := by
  simp only [layK, List.length_append, List.length_take, List.length_drop]; omega

theorem layK_zero (b : List Int) (a : Nat) (d : List Int) : layK b a d 0 = b := by simp [layK]
theorem layK_all (b : List Int) (a : Nat) (d : List Int) : layK b a d d.length = layB b a d := by simp [layK, layB]

theorem layK_set {b : List Int} {a : Nat} {d : List Int} {k : Nat} {y : Int} (hy : d[k]? = some y) (h : a + d.length ≤ b.length) : (layK b a d k).set (a + k) y = layK b a d (k + 1) := by
  have hk := (List.getElem?_eq_some_iff.1 hy).1
  have hyk := (List.getElem?_eq_some_iff.1 hy).2
  unfold layK
  have e1 : (b.take a ++ d.take k).length = a + k := by simp only [List.length_append, List.length_take]; omega
  rw [List.set_append_right _ _ (by omega), e1, Nat.sub_self]
  have e2 : b.drop (a + k) = b[a + k] :: b.drop (a + k + 1) := (List.drop_eq_getElem_cons (by omega))
  have e3 : d.take (k + 1) = d.take k ++ [y] := by rw [List.take_succ_eq_append_getElem hk, hyk]
  rw [e2, e3, List.set_cons_zero]
  simp only [List.append_assoc, List.singleton_append, List.cons_append, List.nil_append, Nat.add_assoc]

def stp (n : Int) (b : List Int) (r : Rc) : List Int := if r.sec = n then layB b r.at_.toNat r.dat else b

theorem stp_len {n : Int} {b : List Int} {r : Rc} (hr : r.ok) (hb : b.length = 128) : (stp n b r).length = 128 := by
  unfold stp
  obtain ⟨_, _, h1, h2⟩ := hr
  split
  · rw [layB_len (by omega), hb]
  · exact hb

def plays (n : Int) (b : List Int) (l : List Rc) : List Int := l.foldl (stp n) b

theorem plays_len {n : Int} : ∀ {l : List Rc} {b : List Int}, (∀ x ∈ l, x.ok) → b.length = 128 → (plays n b l).length = 128
  | [], b, _, hb => hb
  | r :: l, b, h, hb => plays_len (l := l) (fun x hx => h x (List.mem_cons_of_mem _ hx)) (stp_len (h r (List.mem_cons_self ..)) hb)

theorem plays_app (n : Int) (b : List Int) (l k : List Rc) : plays n b (l ++ k) = plays n (plays n b l) k := by simp [plays]

theorem plays_take {n : Int} {b : List Int} {l : List Rc} {k : Nat} {r : Rc} (hr : l[k]? = some r) : plays n b (l.take (k + 1)) = stp n (plays n b (l.take k)) r := by
  have hk := (List.getElem?_eq_some_iff.1 hr).1
  have := (List.getElem?_eq_some_iff.1 hr).2
  rw [List.take_succ_eq_append_getElem hk, this, plays_app]; rfl

section
variable {h : Hp} {Q : Value → Hp → Prop} {L : List As} {p : Nat} {r : Rd}

set_option maxRecDepth 20000 in
theorem played67 {b o cap : Nat} {sl : Value} {lv : List VR} {bs : List Int} (n : Int) (hh : Has (WnP 1 (.slice (some ⟨b, o, none⟩) 128 cap) 128 (bs.map by8) :: L) h) (hbs : bs.length = 128) (hl : ∀ g, Has L g → Vw 3 g sl lv.length (lv.flatMap rowR) ∧ DatP lv g) (hok : ∀ x ∈ lv, x.2.ok) (hlen : lv.length ≤ 2 ^ 40)
    (hq : ∀ v h', Has (WnP 1 (.slice (some ⟨b, o, none⟩) 128 cap) 128 ((plays n bs (lv.map (·.2))).map by8) :: L) h' → Q v h') : Ok PR 67 [.slice (some ⟨b, o, none⟩) 128 cap, sl, iv n] h Q := by
  obtain ⟨base, cap2, hs⟩ : ∃ base cap, sl = .slice base lv.length cap := let ⟨⟨_, x, y, z, _⟩, _⟩ := hl h hh.tail; ⟨x, y, z⟩
  subst hs
  have hokm : ∀ x ∈ lv.map (·.2), x.ok := fun x hx => by
    obtain ⟨y, hy, rfl⟩ := List.mem_map.1 hx
    exact hok y hy
  refine e67 rfl ?_
  refine seq_step fun K hK => ?_
  conv => whnf
  refine hK _ _ _ ?_
  refine loop_intro (σ := Nat × Hp) (fun x => [(6, .v (iv x.1)), (0, .v (.slice (some ⟨b, o, none⟩) 128 cap)), (1, .v (.slice base lv.length cap2)), (2, .v (iv n))]) (fun _ => []) (fun x => x.2)
    (fun x => x.1 ≤ lv.length ∧ Has (WnP 1 (.slice (some ⟨b, o, none⟩) 128 cap) 128 ((plays n bs ((lv.map (·.2)).take x.1)).map by8) :: L) x.2) (fun x => lv.length - x.1) (0, h) ⟨Nat.zero_le _, by show Has (WnP 1 _ 128 ((plays n bs []).map by8) :: L) h; exact hh⟩
    ⟨rfl, rfl, rfl, rfl, trivial⟩ subB_nil rfl ?_
  clear hh
  rintro ⟨k, g⟩ ⟨hkl, hg⟩
  dsimp only at hkl hg ⊢
  obtain ⟨hvl, hdat⟩ := hl g hg.tail
  have hpl : (plays n bs ((lv.map (·.2)).take k)).length = 128 := plays_len (fun x hx => hokm x (List.mem_of_mem_take hx)) hbs
  refine seq_step fun K1 hK1 => ?_
  refine seq_step fun K2 hK2 => ?_
  conv => whnf
  refine hK2 _ _ _ ?_
  conv => whnf
  refine cond_dec (fun hlt => ?_) (fun hlt => ?_)
  · obtain ⟨x, hx⟩ : ∃ x, lv[k]? = some x := ⟨_, List.getElem?_eq_getElem (by omega)⟩
    have hxm := List.mem_of_getElem? hx
    have hxr : (lv.map (·.2))[k]? = some x.2 := by rw [List.getElem?_map, hx]; rfl
    obtain ⟨x1, x2, x3, x4⟩ := hok x hxm
    obtain ⟨b2, o2, c2, ty2, z2, cap3, e2, hb2, hsz2, hc2⟩ := hvl.at (i := k) (by omega)
    cases e2
    have hcell : ∀ j v, (rowR x)[j]? = some v → c2[o2 + k * 3 + j]? = some v := fun j v hv => by
      have hj : j < 3 := (List.getElem?_eq_some_iff.1 hv).1
      exact hc2 j v (by rw [flat_get rowR_len _ _ _ _ hx hj]; exact hv)
    conv => whnf
    refine hK1 _ _ _ (seq_step fun K3 hK3 => ?_)
    refine seq_step fun K4 hK4 => ?_
    refine seq_step fun K5 hK5 => ?_
    conv => whnf
    refine opt_if ⟨by omega, by omega⟩ ?_
    conv => whnf
    refine opt_ld hb2 (v := iv x.2.sec) (hcell 0 _ rfl) ?_
    conv => whnf
    refine hK5 _ _ _ ?_
    refine cond_bne (fun hne => ?_) (fun heq => ?_)
    · conv => whnf
      refine hK3 _ _ _ ?_
      conv => whnf
      refine ⟨(k + 1, g), ⟨(show k + 1 ≤ lv.length by omega), ?_⟩, (by show lv.length - (k + 1) < lv.length - k; omega), ⟨int_eq (wrap_nat (by omega)) rfl, rfl, rfl, rfl, trivial⟩, subB_nil, rfl⟩
      show Has (WnP 1 _ 128 ((plays n bs ((lv.map (·.2)).take (k + 1))).map by8) :: L) g
      rw [plays_take hxr, stp, if_neg hne]
      exact hg
    · conv => whnf
      refine hK4 _ _ _ ?_
      refine seq_step fun K6 hK6 => ?_
      conv => whnf
      refine hK6 _ _ _ ?_
      generalize hB : plays n bs ((lv.map (·.2)).take k) = B at hg hpl
      have hdv := hdat x hxm
      obtain ⟨xb, xc, hxv, hxle⟩ : ∃ base cap, x.1 = .slice base x.2.dat.length cap ∧ x.2.dat.length ≤ cap := let ⟨_, a, b, c, d, _⟩ := hdv; ⟨a, b, c, d⟩
      refine loop_intro (σ := Nat × Hp) (fun y => [(7, .v (iv y.1)), (6, .v (iv k)), (0, .v (.slice (some ⟨b, o, none⟩) 128 cap)), (1, .v (.slice (some ⟨b2, o2, none⟩) lv.length cap2)), (2, .v (iv n))]) (fun _ => []) (fun y => y.2)
        (fun y => y.1 ≤ x.2.dat.length ∧ Has (WnP 1 (.slice (some ⟨b, o, none⟩) 128 cap) 128 ((layK B x.2.at_.toNat x.2.dat y.1).map by8) :: L) y.2) (fun y => x.2.dat.length - y.1) (0, g) ⟨Nat.zero_le _, by show Has (WnP 1 _ 128 ((layK B x.2.at_.toNat x.2.dat 0).map by8) :: L) g; rw [layK_zero]; exact hg⟩
        ⟨rfl, rfl, rfl, rfl, rfl, trivial⟩ subB_nil rfl ?_
      clear hg hvl hdat hc2 hb2 hdv hcell
      rintro ⟨j, g⟩ ⟨hjl, hg⟩
      dsimp only at hjl hg ⊢
      obtain ⟨hvl, hdat⟩ := hl g hg.tail
      obtain ⟨_, _, c2, ty2, z2, _, e2, hb2, hsz2, hc2⟩ := hvl.at (i := k) (by omega)
      cases e2
      have hcell : ∀ j v, (rowR x)[j]? = some v → c2[o2 + k * 3 + j]? = some v := fun j v hv => by
        have hj : j < 3 := (List.getElem?_eq_some_iff.1 hv).1
        exact hc2 j v (by rw [flat_get rowR_len _ _ _ _ hx hj]; exact hv)
      refine seq_step fun K7 hK7 => ?_
      refine seq_step fun K8 hK8 => ?_
      conv => whnf
      refine opt_if ⟨by omega, by omega⟩ ?_
      conv => whnf
      refine opt_ld hb2 (v := x.1) (hcell 2 _ rfl) ?_
      rw [hxv]
      conv => whnf
      refine hK8 _ _ _ ?_
      conv => whnf
      refine cond_dec (fun hlt2 => ?_) (fun hlt2 => ?_)
      · obtain ⟨y, hy⟩ : ∃ y, x.2.dat[j]? = some y := ⟨_, List.getElem?_eq_getElem (by omega)⟩
        have hdv := hdat x hxm
        obtain ⟨b3, o3, c3, ty3, z3, cap4, e3, hb3, hsz3, hc3⟩ := hdv.at (i := j) (by omega)
        rw [hxv] at e3
        cases e3
        have hw : IntKind.i64.wrap (x.2.at_ + (j : Int)) = ((x.2.at_.toNat + j : Nat) : Int) := by rw [wrap_i64 (by omega) (by omega)]; omega
        conv => whnf
        refine hK7 _ _ _ ?_
        conv => whnf
        refine opt_if ⟨by omega, by omega⟩ ?_
        conv => whnf
        refine opt_ld hb2 (v := iv x.2.at_) (hcell 1 _ rfl) ?_
        conv => whnf
        refine opt_if ⟨by omega, by omega⟩ ?_
        conv => whnf
        refine opt_ld hb2 (v := x.1) (hcell 2 _ rfl) ?_
        rw [hxv]
        conv => whnf
        refine opt_if ⟨by omega, by omega⟩ ?_
        conv => whnf
        refine opt_ld hb3 (v := by8 y) (by have := hc3 0 (by8 y) (by rw [Nat.mul_one, Nat.add_zero, List.getElem?_map, hy]; rfl); exact this) ?_
        conv => whnf
        rw [hw]
        refine opt_if ⟨by omega, by omega⟩ ?_
        conv => whnf
        rw [show o + ((x.2.at_.toNat + j : Nat) : Int).toNat * 1 = o + (x.2.at_.toNat + j) by omega]
        refine st_hasW hg 0 rfl (k := x.2.at_.toNat + j) (x := by8 y) (by omega) rfl rfl fun g1 hg1 => ?_
        conv => whnf
        refine ⟨(j + 1, g1), ⟨(show j + 1 ≤ x.2.dat.length by omega), ?_⟩, (by show x.2.dat.length - (j + 1) < x.2.dat.length - j; omega), ⟨int_eq (wrap_nat (by omega)) rfl, rfl, rfl, rfl, rfl, trivial⟩, subB_nil, rfl⟩
        show Has (WnP 1 _ 128 ((layK B x.2.at_.toNat x.2.dat (j + 1)).map by8) :: L) g1
        rw [← layK_set hy (by omega), List.map_set]
        exact hg1
      · have hjl : j = x.2.dat.length := by omega
        subst hjl
        rw [layK_all] at hg
        conv => whnf
        refine hK3 _ _ _ ?_
        conv => whnf
        refine ⟨(k + 1, g), ⟨(show k + 1 ≤ lv.length by omega), ?_⟩, (by show lv.length - (k + 1) < lv.length - k; omega), ⟨int_eq (wrap_nat (by omega)) rfl, rfl, rfl, rfl, trivial⟩, subB_nil, rfl⟩
        show Has (WnP 1 _ 128 ((plays n bs ((lv.map (·.2)).take (k + 1))).map by8) :: L) g
        rw [plays_take hxr, hB, stp, if_pos heq]
        exact hg
  · have hkl : k = lv.length := by omega
    subst hkl
    rw [show lv.length = (lv.map (·.2)).length from (List.length_map _).symm, List.take_length] at hg
    conv => whnf
    exact hq _ _ hg

def zeroB : List Int := List.replicate 128 0

theorem reps_z (n : Nat) : reps n [.int .u8 0] = (List.replicate n (0 : Int)).map by8 := reps_u0 n

theorem raw62o (n : Int) (hn : ¬ (0 ≤ n ∧ n < 1024)) (hq : Q (.tuple #[.slice none 0 0, iv 40]) h) : Ok PR 62 [ptr p, iv n] h Q := by
  refine e62 rfl ?_
  refine seq_step fun K hK => ?_
  conv => whnf
  refine hK _ _ _ (seq_step fun K1 hK1 => ?_)
  refine seq_step fun K2 hK2 => ?_
  conv => whnf
  refine there59 n ?_
  rw [show decide (0 ≤ n ∧ n < 1024) = false from decide_eq_false hn]
  conv => whnf
  refine hK2 _ _ _ ?_
  conv => whnf
  exact hq

/-- A new window of zeros. -/
theorem zero_wn {b : Nat} {ty : TypeId} (hh : Has (Pt b (.cells (reps (Int.toNat 128) [.int .u8 0]).toArray ty (0, 0)) :: L) h) : Has (WnP 1 (.slice (some ⟨b, 0, none⟩) 128 128) 128 (zeroB.map by8) :: L) h := by
  refine hh.mono1 fun g hg => ?_
  have e : reps (Int.toNat 128) [.int .u8 0] = zeroB.map by8 := reps_u0 128
  rw [e] at hg
  exact pt_wn (e := 1) (n := 128) (cap := 128) (by simp [zeroB]) (Nat.le_refl _) (by rw [List.take_of_length_le (by simp [zeroB])]) hg

theorem raw62 (n : Int) (hn : 0 ≤ n ∧ n < 1024) (hh : Has (RfP p r :: L) h) (hc : r.landed.length ≤ 2 ^ 40) (hq : ∀ s h', Has (WnP 1 s 128 ((plays n zeroB r.landed).map by8) :: RfP p r :: L) h' → Q (.tuple #[s, iv 0]) h') : Ok PR 62 [ptr p, iv n] h Q := by
  obtain ⟨hok, lv, wv, s1, s2, e1, e2, hh⟩ := RfP.opn hh
  refine e62 rfl ?_
  refine seq_step fun K hK => ?_
  conv => whnf
  refine hK _ _ _ (seq_step fun K1 hK1 => ?_)
  refine seq_step fun K2 hK2 => ?_
  conv => whnf
  refine there59 n ?_
  rw [show decide (0 ≤ n ∧ n < 1024) = true from decide_eq_true hn]
  conv => whnf
  refine hK2 _ _ _ ?_
  conv => whnf
  refine hK1 _ _ _ (seq_step fun K3 hK3 => ?_)
  conv => whnf
  refine ⟨by omega, by omega, by omega, by omega, fresh_has hh fun b h1 hb _ _ hh1 => ?_⟩
  have hh2 := zero_wn hh1
  conv => whnf
  refine hK3 _ _ _ (seq_step fun K4 hK4 => ?_)
  conv => whnf
  refine opt_ld (hh2.pt 1 rfl) (v := s1) rfl ?_
  conv => whnf
  refine played67 (lv := lv) n hh2 (by simp [zeroB]) (fun g hg => ⟨hg.wn 1 rfl, fun x hx => (Has.get (A := DatP (lv ++ wv)) hg 3 rfl fun _ _ => DatP.sub) x (List.mem_append_left _ hx)⟩) (fun x hx => hok.l _ (by rw [← e1]; exact List.mem_map_of_mem hx)) (by rw [← List.length_map (f := fun x : VR => x.2), e1]; exact hc) fun v h3 hh3 => ?_
  rw [e1] at hh3
  conv => whnf
  refine hK4 _ _ _ ?_
  conv => whnf
  refine hq _ _ (Has.swap (RfP.cls (s1 := s1) (s2 := s2) hok e1 e2 ?_))
  exact hh3.perm (List.perm_append_comm (l₁ := [WnP 1 (.slice (some ⟨b, 0, none⟩) 128 128) 128 ((plays n zeroB r.landed).map by8)]) (l₂ := [_, _, _, _]) |>.append_right L)

theorem read61o (n : Int) (hn : ¬ (0 ≤ n ∧ n < 1024)) (hq : Q (.tuple #[.slice none 0 0, iv 40]) h) : Ok PR 61 [ptr p, iv n] h Q := by
  refine e61 rfl ?_
  refine seq_step fun K hK => ?_
  conv => whnf
  refine hK _ _ _ (seq_step fun K1 hK1 => ?_)
  refine seq_step fun K2 hK2 => ?_
  conv => whnf
  refine there59 n ?_
  rw [show decide (0 ≤ n ∧ n < 1024) = false from decide_eq_false hn]
  conv => whnf
  refine hK2 _ _ _ ?_
  conv => whnf
  exact hq

theorem read61d (n : Int) (hn : 0 ≤ n ∧ n < 1024) (hd : r.down = true) (hh : Has (RfP p r :: L) h) (hq : Q (.tuple #[.slice none 0 0, iv 42]) h) : Ok PR 61 [ptr p, iv n] h Q := by
  obtain ⟨hok, lv, wv, s1, s2, e1, e2, hh⟩ := RfP.opn hh
  refine e61 rfl ?_
  refine seq_step fun K hK => ?_
  conv => whnf
  refine hK _ _ _ (seq_step fun K1 hK1 => ?_)
  refine seq_step fun K2 hK2 => ?_
  conv => whnf
  refine there59 n ?_
  rw [show decide (0 ≤ n ∧ n < 1024) = true from decide_eq_true hn]
  conv => whnf
  refine hK2 _ _ _ ?_
  conv => whnf
  refine hK1 _ _ _ (seq_step fun K3 hK3 => ?_)
  refine seq_step fun K4 hK4 => ?_
  conv => whnf
  refine opt_ld (hh.pt 0 rfl) (v := .bool r.down) rfl ?_
  rw [hd]
  conv => whnf
  refine hK4 _ _ _ ?_
  conv => whnf
  exact hq

theorem read61 (n : Int) (hn : 0 ≤ n ∧ n < 1024) (hd : r.down = false) (hh : Has (RfP p r :: L) h) (hc : r.landed.length ≤ 2 ^ 40) (hc2 : r.waiting.length ≤ 2 ^ 40) (hq : ∀ s h', Has (WnP 1 s 128 ((plays n (plays n zeroB r.landed) r.waiting).map by8) :: RfP p r :: L) h' → Q (.tuple #[s, iv 0]) h') : Ok PR 61 [ptr p, iv n] h Q := by
  obtain ⟨hok, lv, wv, s1, s2, e1, e2, hh⟩ := RfP.opn hh
  refine e61 rfl ?_
  refine seq_step fun K hK => ?_
  conv => whnf
  refine hK _ _ _ (seq_step fun K1 hK1 => ?_)
  refine seq_step fun K2 hK2 => ?_
  conv => whnf
  refine there59 n ?_
  rw [show decide (0 ≤ n ∧ n < 1024) = true from decide_eq_true hn]
  conv => whnf
  refine hK2 _ _ _ ?_
  conv => whnf
  refine hK1 _ _ _ (seq_step fun K3 hK3 => ?_)
  refine seq_step fun K4 hK4 => ?_
  conv => whnf
  refine opt_ld (hh.pt 0 rfl) (v := .bool r.down) rfl ?_
  rw [hd]
  conv => whnf
  refine hK4 _ _ _ ?_
  conv => whnf
  refine hK3 _ _ _ (seq_step fun K5 hK5 => ?_)
  conv => whnf
  refine ⟨by omega, by omega, by omega, by omega, fresh_has hh fun b h1 hb _ _ hh1 => ?_⟩
  have hh2 := zero_wn hh1
  conv => whnf
  refine hK5 _ _ _ (seq_step fun K6 hK6 => ?_)
  conv => whnf
  refine opt_ld (hh2.pt 1 rfl) (v := s1) rfl ?_
  conv => whnf
  refine played67 (lv := lv) n hh2 (by simp [zeroB]) (fun g hg => ⟨hg.wn 1 rfl, fun x hx => (Has.get (A := DatP (lv ++ wv)) hg 3 rfl fun _ _ => DatP.sub) x (List.mem_append_left _ hx)⟩) (fun x hx => hok.l _ (by rw [← e1]; exact List.mem_map_of_mem hx)) (by rw [← List.length_map (f := fun x : VR => x.2), e1]; exact hc) fun v h3 hh3 => ?_
  rw [e1] at hh3
  conv => whnf
  refine hK6 _ _ _ (seq_step fun K7 hK7 => ?_)
  conv => whnf
  refine opt_ld (hh3.pt 1 rfl) (v := s2) rfl ?_
  conv => whnf
  refine played67 (lv := wv) n hh3 (plays_len hok.l (by simp [zeroB])) (fun g hg => ⟨hg.wn 2 rfl, fun x hx => (Has.get (A := DatP (lv ++ wv)) hg 3 rfl fun _ _ => DatP.sub) x (List.mem_append_right _ hx)⟩) (fun x hx => (hok.w _ (by rw [← e2]; exact List.mem_map_of_mem hx)).1) (by rw [← List.length_map (f := fun x : VR => x.2), e2]; exact hc2) fun v2 h4 hh4 => ?_
  rw [e2] at hh4
  conv => whnf
  refine hK7 _ _ _ ?_
  conv => whnf
  refine hq _ _ (Has.swap (RfP.cls (s1 := s1) (s2 := s2) hok e1 e2 ?_))
  exact hh4.perm (List.perm_append_comm (l₁ := [WnP 1 (.slice (some ⟨b, 0, none⟩) 128 128) 128 ((plays n (plays n zeroB r.landed) r.waiting).map by8)]) (l₂ := [_, _, _, _]) |>.append_right L)

end
end Go.Proofs.Ytpkleblggehghaa.V
