/- Seat 08: CapsPassOn. -/
import Derived.Test.YthpkgkoojhgedaaDoorK12
namespace Go.Proofs.YthpkgkoojhgedaaDoor.V
set_option linter.unusedVariables false
set_option linter.unusedSimpArgs false
set_option linter.unusedSectionVars false
set_option linter.unusedSectionVars false
open Go

def plC (x : Nat × Nat) : List Value := [iv x.1, iv x.2]
theorem plC_len (x : Nat × Nat) : (plC x).length = 2 := rfl
def PlsP (s : Value) (l : List (Nat × Nat)) : As := WnP 2 s l.length (l.flatMap plC)
def BlsP (s : Value) (l : List Bool) : As := WnP 1 s l.length (l.map .bool)
def plsOf (n : Nat) : List (Nat × Nat) := (List.range n).map fun j => (j % 4, j / 4)
theorem plsOf_len (n : Nat) : (plsOf n).length = n := by unfold plsOf; rw [List.length_map, List.length_range]
theorem plsOf_succ (n : Nat) : plsOf (n + 1) = plsOf n ++ [(n % 4, n / 4)] := by unfold plsOf; rw [List.range_succ, List.map_append]; rfl
theorem plsOf_get {n j : Nat} (h : j < n) : (plsOf n)[j]? = some (j % 4, j / 4) := by unfold plsOf; rw [List.getElem?_map, List.getElem?_range h]; rfl

section
variable {h : Hp} {Q : Value → Hp → Prop} {L : List As} {b : Nat} {S : Bs}

/-- Reading a place out of our own list. -/
theorem PlsP.at {s : Value} {l : List (Nat × Nat)} {j : Nat} {x : Nat × Nat} (hh : Has L h) (i : Nat) (hi : L[i]? = some (PlsP s l)) (hx : l[j]? = some x) :
    ∃ bb o cap c ty z, s = .slice (some ⟨bb, o, none⟩) l.length cap ∧ h bb = some (.cells c ty z) ∧ j < l.length ∧ c[o + j * 2]? = some (iv x.1) ∧ c[o + j * 2 + 1]? = some (iv x.2) ∧ rd c (o + j * 2) 2 true = some (.agg #[iv x.1, iv x.2]) := by
  have hj := (List.getElem?_eq_some_iff.1 hx).1
  obtain ⟨bb, o, c, ty, z, cap, e1, e2, e3, e4⟩ := (hh.wn i hi).at (i := j) hj
  have g0 := e4 0 (iv x.1) (by rw [flat_get plC_len l j 0 x hx (by omega)]; rfl)
  have g1 := e4 1 (iv x.2) (by rw [flat_get plC_len l j 1 x hx (by omega)]; rfl)
  refine ⟨bb, o, cap, c, ty, z, e1, e2, hj, by rw [Nat.add_zero] at g0; exact g0, g1, ?_⟩
  refine agg_rd (row := [iv x.1, iv x.2]) rfl (by omega) fun k v hk => ?_
  match k, hk with
  | 0, hk => cases hk; exact g0
  | 1, hk => cases hk; exact g1
  | k + 2, hk => cases hk

theorem PlsP.get {bb o n cap : Nat} {l : List (Nat × Nat)} {j : Nat} {x : Nat × Nat} (hh : Has L h) (i : Nat) (hi : L[i]? = some (PlsP (.slice (some ⟨bb, o, none⟩) n cap) l)) (hx : l[j]? = some x) :
    ∃ c ty z, h bb = some (.cells c ty z) ∧ j < n ∧ c[o + j * 2]? = some (iv x.1) ∧ c[o + j * 2 + 1]? = some (iv x.2) ∧ rd c (o + j * 2) 2 true = some (.agg #[iv x.1, iv x.2]) := by
  obtain ⟨bb', o', cap', c, ty, z, hs, h1, h2, h3⟩ := PlsP.at hh i hi hx
  injection hs with e1 e2 e3
  injection e1 with e1
  injection e1 with e1 e4 e5
  subst e1 e4
  exact ⟨c, ty, z, h1, by rw [e2]; exact h2, h3⟩

theorem app1b {b1 : Nat} {x : Bool} {s : Value} {l : List Bool} {ty ty1 : TypeId} {K : Ent → Hp → Prop} (hh : Has (Pt b1 (.cells #[.bool x] ty1 (0, 0)) :: BlsP s l :: L) h) (hb : l.length < 1099511627776)
    (hK : ∀ s' h', Has (BlsP s' (l ++ [x]) :: L) h' → K (.v s') h') : appK [.bool false] ty 1 h (.v s) (.v (.slice (some ⟨b1, 0, none⟩) 1 1)) K := by
  have hv : Vw 1 h (.slice (some ⟨b1, 0, none⟩) 1 1) 1 [.bool x] := (pt_wn (e := 1) (n := 1) (cap := 1) (cs := [.bool x]) rfl (Nat.le_refl _) rfl (hh.pt 0 rfl)).vw
  refine app_hasW (z := [.bool false]) hh 1 rfl hv rfl (by omega) fun s' h' hh' => hK s' h' ?_
  have h2 := hh'.tail
  show Has (WnP 1 s' (l ++ [x]).length ((l ++ [x]).map .bool) :: L) h'
  rw [List.length_append, List.map_append]
  exact h2

theorem app1pl {b1 : Nat} {x : Nat × Nat} {s : Value} {l : List (Nat × Nat)} {ty ty1 : TypeId} {K : Ent → Hp → Prop} (hh : Has (Pt b1 (.cells #[iv x.1, iv x.2] ty1 (0, 0)) :: PlsP s l :: L) h) (hb : l.length < 1099511627776)
    (hK : ∀ s' h', Has (PlsP s' (l ++ [x]) :: L) h' → K (.v s') h') : appK [.int .i64 0, .int .i64 0] ty 16 h (.v s) (.v (.slice (some ⟨b1, 0, none⟩) 1 1)) K := by
  have hv : Vw 2 h (.slice (some ⟨b1, 0, none⟩) 1 1) 1 (plC x) := (pt_wn (e := 2) (n := 1) (cap := 1) (cs := plC x) rfl (Nat.le_refl _) rfl (hh.pt 0 rfl)).vw
  refine app_hasW (z := [.int .i64 0, .int .i64 0]) hh 1 rfl hv rfl (by omega) fun s' h' hh' => hK s' h' ?_
  have h2 := hh'.tail
  show Has (WnP 2 s' (l ++ [x]).length ((l ++ [x]).flatMap plC) :: L) h'
  rw [List.length_append, List.flatMap_append]
  exact h2

theorem tmod4 (i : Nat) : (i : Int).tmod 4 = ((i % 4 : Nat) : Int) := by
  rw [Int.tmod_eq_emod_of_nonneg (by omega)]; omega

def plL : Option Nat → List Value
  | none => [iv (-1), iv (-1)]
  | some k => [iv ((k % 4 : Nat) : Int), iv ((k / 4 : Nat) : Int)]

theorem plL_two (x : Option Nat) : ∃ u v : Int, plL x = [iv u, iv v] := by
  cases x with
  | none => exact ⟨-1, -1, rfl⟩
  | some k => exact ⟨_, _, rfl⟩

theorem agg_eq {x y u v : Int} {l : List Value} (h1 : l = [iv x, iv y]) (h2 : l = [iv u, iv v]) : Value.agg #[iv x, iv y] = Value.agg #[iv u, iv v] := by
  rw [h1] at h2; injection h2 with a b; injection b with b c; rw [a, b]

theorem Line.from13 {ad : List Nat} {th : List Bool} (hl : Line S ad th) (hr : CapsR b S h) (hn : NoneR h) {i : Nat} (hi : th[i]? = some true) {x y : Int} (hp : plL (prevT th i) = [iv x, iv y]) (hq : Q (.tuple #[.agg #[iv x, iv y], iv 0]) h) :
    Ok PR 13 [ptr b, iv ((i % 4 : Nat) : Int), iv ((i / 4 : Nat) : Int)] h Q := by
  obtain ⟨c0, hc0, a1, a2, a3, a4, a5⟩ := hl.B i hi
  have hlk := mLook_of hl.wf hc0
  rw [a2, a3] at hlk
  refine V.from13 hl.wf hr hn _ _ (fun k hk => by rw [hlk] at hk; cases hk) (fun c hc he hs hpar => ?_) (fun c hc p hpm he hs hpar => ?_)
  · have := hl.wf.place hc hc0 (by omega) (by omega)
    subst this
    rw [a5] at hpar
    cases hpi : prevT th i with
    | none =>
      rw [hpi] at hp
      rw [agg_eq (show plL none = [iv (-1), iv (-1)] from rfl) hp]; exact hq
    | some k =>
      obtain ⟨d, _, b1, _⟩ := hl.B k (prevT_lt hpi).2
      unfold prvA at hpar
      rw [hpi] at hpar
      replace hpar : ad[k]? = none := hpar
      rw [b1] at hpar; cases hpar
  · have := hl.wf.place hc hc0 (by omega) (by omega)
    subst this
    rw [a5] at hpar
    cases hpi : prevT th i with
    | none => unfold prvA at hpar; rw [hpi] at hpar; cases hpar
    | some k =>
      obtain ⟨d, hd, b1, b2, b3, _⟩ := hl.B k (prevT_lt hpi).2
      unfold prvA at hpar
      rw [hpi] at hpar
      replace hpar : ad[k]? = some p.a := hpar
      rw [b1] at hpar
      have := one_a hl.wf.nda hd hpm (Option.some.inj hpar)
      subst this
      rw [hpi] at hp
      rw [b2, b3, agg_eq (show plL (some k) = [iv ((k % 4 : Nat) : Int), iv ((k / 4 : Nat) : Int)] from rfl) hp]; exact hq

theorem Line.up14 {ad : List Nat} {th : List Bool} (hl : Line S ad th) (hr : CapsR b S h) (hn : NoneR h) {i : Nat} (hi : th[i]? = some true) {x y : Int} {si : Value} (hv : Vw 1 h si 2 [iv 3, iv 0]) (hp : plL (lastT th i) = [iv x, iv y])
    (hq : Q (.tuple #[.agg #[iv x, iv y], iv 0]) h) : Ok PR 14 [ptr b, iv ((i % 4 : Nat) : Int), iv ((i / 4 : Nat) : Int), si] h Q := by
  obtain ⟨c0, hc0, a1, a2, a3, a4, a5⟩ := hl.B i hi
  have hlk := mLook_of hl.wf hc0
  rw [a2, a3] at hlk
  refine V.up14 hl.wf hr hn _ _ (ins := [3, 0]) (show 2 < 1099511627776 by decide) hv (fun k hk => by rw [hlk] at hk; cases hk) (fun c hc r he hs hu => ?_)
  have := hl.wf.place hc hc0 (by omega) (by omega)
  subst this
  have h1 := hl.up hu i a5
  rw [h1]
  cases hli : lastT th i with
  | none =>
    rw [hli] at hp
    show Q (.tuple #[.agg #[iv (-1), iv (-1)], iv 0]) h
    rw [agg_eq (show plL none = [iv (-1), iv (-1)] from rfl) hp]; exact hq
  | some k =>
    rw [hli] at hp
    show Q (.tuple #[.agg #[iv ((k % 4 : Nat) : Int), iv ((k / 4 : Nat) : Int)], iv 0]) h
    rw [agg_eq (show plL (some k) = [iv ((k % 4 : Nat) : Int), iv ((k / 4 : Nat) : Int)] from rfl) hp]; exact hq

set_option maxRecDepth 100000 in
set_option maxHeartbeats 4000000 in
theorem law3 (n : Int) {a : Option Addr} {len cap : Nat} {f : Nat → Int} (hR : IntsAt .i64 h a len f) (hlen : len < 2 ^ 62) (hnone : NoneR h) (hq : ∀ h', SubH h h' → Q (.bool true) h') :
    Ok PR 3 [iv n, .slice a len cap] h Q := by
  have hsub : ∀ g, Has [Is h] g → NoneR g := fun g hg => hnone.sub (hg.is 0 rfl)
  refine e3 rfl (seq_step fun K hK => ?_)
  repeat (first | ((with_reducible refine hK _ _ _ ?_); clear hK) | (with_reducible refine seq_step fun K hK => ?_) | (with_reducible refine block_step ?_) | ((with_reducible refine cond_t ?_ ?_); focus rfl) | ((with_reducible refine cond_f ?_ ?_); focus rfl) | ((with_reducible refine code_id ?_); conv => whnf) | (clear hK; (with_reducible refine hK _ _ _ ?_); clear hK) | (clear hK; clear hK; (with_reducible refine hK _ _ _ ?_); clear hK) | (clear hK; clear hK; clear hK; (with_reducible refine hK _ _ _ ?_); clear hK) | (clear hK; clear hK; clear hK; clear hK; (with_reducible refine hK _ _ _ ?_); clear hK) | (clear hK; clear hK; clear hK; clear hK; clear hK; (with_reducible refine hK _ _ _ ?_); clear hK) | (clear hK; clear hK; clear hK; clear hK; clear hK; clear hK; (with_reducible refine hK _ _ _ ?_); clear hK) | (clear hK; clear hK; clear hK; clear hK; clear hK; clear hK; clear hK; (with_reducible refine hK _ _ _ ?_); clear hK))
  by_cases c1 : n < 2
  · rw [show decide (n < 2) = true from decide_eq_true c1]
    conv => whnf
    repeat (first | ((with_reducible refine hK _ _ _ ?_); clear hK) | (with_reducible refine seq_step fun K hK => ?_) | (with_reducible refine block_step ?_) | ((with_reducible refine cond_t ?_ ?_); focus rfl) | ((with_reducible refine cond_f ?_ ?_); focus rfl) | ((with_reducible refine code_id ?_); conv => whnf) | (clear hK; (with_reducible refine hK _ _ _ ?_); clear hK) | (clear hK; clear hK; (with_reducible refine hK _ _ _ ?_); clear hK) | (clear hK; clear hK; clear hK; (with_reducible refine hK _ _ _ ?_); clear hK) | (clear hK; clear hK; clear hK; clear hK; (with_reducible refine hK _ _ _ ?_); clear hK) | (clear hK; clear hK; clear hK; clear hK; clear hK; (with_reducible refine hK _ _ _ ?_); clear hK) | (clear hK; clear hK; clear hK; clear hK; clear hK; clear hK; (with_reducible refine hK _ _ _ ?_); clear hK) | (clear hK; clear hK; clear hK; clear hK; clear hK; clear hK; clear hK; (with_reducible refine hK _ _ _ ?_); clear hK))
    exact hq _ (SubH.refl _)
  rw [show decide (n < 2) = false from decide_eq_false c1]
  conv => whnf
  by_cases c2 : n > 40
  · rw [show decide (n > 40) = true from decide_eq_true c2]
    conv => whnf
    repeat (first | ((with_reducible refine hK _ _ _ ?_); clear hK) | (with_reducible refine seq_step fun K hK => ?_) | (with_reducible refine block_step ?_) | ((with_reducible refine cond_t ?_ ?_); focus rfl) | ((with_reducible refine cond_f ?_ ?_); focus rfl) | ((with_reducible refine code_id ?_); conv => whnf) | (clear hK; (with_reducible refine hK _ _ _ ?_); clear hK) | (clear hK; clear hK; (with_reducible refine hK _ _ _ ?_); clear hK) | (clear hK; clear hK; clear hK; (with_reducible refine hK _ _ _ ?_); clear hK) | (clear hK; clear hK; clear hK; clear hK; (with_reducible refine hK _ _ _ ?_); clear hK) | (clear hK; clear hK; clear hK; clear hK; clear hK; (with_reducible refine hK _ _ _ ?_); clear hK) | (clear hK; clear hK; clear hK; clear hK; clear hK; clear hK; (with_reducible refine hK _ _ _ ?_); clear hK) | (clear hK; clear hK; clear hK; clear hK; clear hK; clear hK; clear hK; (with_reducible refine hK _ _ _ ?_); clear hK))
    exact hq _ (SubH.refl _)
  rw [show decide (n > 40) = false from decide_eq_false c2]
  obtain ⟨N, rfl⟩ := Int.eq_ofNat_of_zero_le (show 0 ≤ n by omega)
  conv => whnf
  repeat (first | ((with_reducible refine hK _ _ _ ?_); clear hK) | (with_reducible refine seq_step fun K hK => ?_) | (with_reducible refine block_step ?_) | ((with_reducible refine cond_t ?_ ?_); focus rfl) | ((with_reducible refine cond_f ?_ ?_); focus rfl) | ((with_reducible refine code_id ?_); conv => whnf) | (clear hK; (with_reducible refine hK _ _ _ ?_); clear hK) | (clear hK; clear hK; (with_reducible refine hK _ _ _ ?_); clear hK) | (clear hK; clear hK; clear hK; (with_reducible refine hK _ _ _ ?_); clear hK) | (clear hK; clear hK; clear hK; clear hK; (with_reducible refine hK _ _ _ ?_); clear hK) | (clear hK; clear hK; clear hK; clear hK; clear hK; (with_reducible refine hK _ _ _ ?_); clear hK) | (clear hK; clear hK; clear hK; clear hK; clear hK; clear hK; (with_reducible refine hK _ _ _ ?_); clear hK) | (clear hK; clear hK; clear hK; clear hK; clear hK; clear hK; clear hK; (with_reducible refine hK _ _ _ ?_); clear hK))
  refine begun10 (c := cp0) (by decide) (Has.start h) hnone (fun b S h1 hbeg hn1 hh1 => ?_) hsub
  obtain ⟨a0, hl0⟩ := Line.start hbeg
  conv => whnf
  repeat (first | ((with_reducible refine hK _ _ _ ?_); clear hK) | (with_reducible refine seq_step fun K hK => ?_) | (with_reducible refine block_step ?_) | ((with_reducible refine cond_t ?_ ?_); focus rfl) | ((with_reducible refine cond_f ?_ ?_); focus rfl) | ((with_reducible refine code_id ?_); conv => whnf) | (clear hK; (with_reducible refine hK _ _ _ ?_); clear hK) | (clear hK; clear hK; (with_reducible refine hK _ _ _ ?_); clear hK) | (clear hK; clear hK; clear hK; (with_reducible refine hK _ _ _ ?_); clear hK) | (clear hK; clear hK; clear hK; clear hK; (with_reducible refine hK _ _ _ ?_); clear hK) | (clear hK; clear hK; clear hK; clear hK; clear hK; (with_reducible refine hK _ _ _ ?_); clear hK) | (clear hK; clear hK; clear hK; clear hK; clear hK; clear hK; (with_reducible refine hK _ _ _ ?_); clear hK) | (clear hK; clear hK; clear hK; clear hK; clear hK; clear hK; clear hK; (with_reducible refine hK _ _ _ ?_); clear hK))
  refine fresh_has hh1 fun b1 h2 _ _ _ hh2 => ?_
  conv => whnf
  repeat (first | ((with_reducible refine hK _ _ _ ?_); clear hK) | (with_reducible refine seq_step fun K hK => ?_) | (with_reducible refine block_step ?_) | ((with_reducible refine cond_t ?_ ?_); focus rfl) | ((with_reducible refine cond_f ?_ ?_); focus rfl) | ((with_reducible refine code_id ?_); conv => whnf) | (clear hK; (with_reducible refine hK _ _ _ ?_); clear hK) | (clear hK; clear hK; (with_reducible refine hK _ _ _ ?_); clear hK) | (clear hK; clear hK; clear hK; (with_reducible refine hK _ _ _ ?_); clear hK) | (clear hK; clear hK; clear hK; clear hK; (with_reducible refine hK _ _ _ ?_); clear hK) | (clear hK; clear hK; clear hK; clear hK; clear hK; (with_reducible refine hK _ _ _ ?_); clear hK) | (clear hK; clear hK; clear hK; clear hK; clear hK; clear hK; (with_reducible refine hK _ _ _ ?_); clear hK) | (clear hK; clear hK; clear hK; clear hK; clear hK; clear hK; clear hK; (with_reducible refine hK _ _ _ ?_); clear hK))
  have hh3 : Has (PlsP (.slice (some ⟨b1, 0, none⟩) 1 1) (plsOf 1) :: CapsA b S :: [Is h]) h2 := hh2.mono1 fun g hg => pt_wn (e := 2) (n := 1) (cap := 1) (cs := [iv 0, iv 0]) rfl (Nat.le_refl _) rfl hg
  refine fresh_has (hh3.nilW 1) fun b2 h4 _ _ _ hh4 => ?_
  conv => whnf
  refine app1b (l := []) hh4 (by decide) fun st1 h5 hh5 => ?_
  conv => whnf
  repeat (first | ((with_reducible refine hK _ _ _ ?_); clear hK) | (with_reducible refine seq_step fun K hK => ?_) | (with_reducible refine block_step ?_) | ((with_reducible refine cond_t ?_ ?_); focus rfl) | ((with_reducible refine cond_f ?_ ?_); focus rfl) | ((with_reducible refine code_id ?_); conv => whnf) | (clear hK; (with_reducible refine hK _ _ _ ?_); clear hK) | (clear hK; clear hK; (with_reducible refine hK _ _ _ ?_); clear hK) | (clear hK; clear hK; clear hK; (with_reducible refine hK _ _ _ ?_); clear hK) | (clear hK; clear hK; clear hK; clear hK; (with_reducible refine hK _ _ _ ?_); clear hK) | (clear hK; clear hK; clear hK; clear hK; clear hK; (with_reducible refine hK _ _ _ ?_); clear hK) | (clear hK; clear hK; clear hK; clear hK; clear hK; clear hK; (with_reducible refine hK _ _ _ ?_); clear hK) | (clear hK; clear hK; clear hK; clear hK; clear hK; clear hK; clear hK; (with_reducible refine hK _ _ _ ?_); clear hK))
  refine loop_intro (σ := (Nat × Value × Value × List Nat × Bs) × Hp) (fun s => [(0, .v (iv N)), (1, .v (.slice a len cap)), (5, .v (ptr b)), (6, .v s.1.2.1), (7, .v s.1.2.2.1), (8, .v (iv s.1.1))]) (fun _ => []) (fun s => s.2)
    (fun s => 1 ≤ s.1.1 ∧ s.1.1 ≤ N ∧ Line s.1.2.2.2.2 s.1.2.2.2.1 (List.replicate s.1.1 true) ∧ Has (BlsP s.1.2.2.1 (List.replicate s.1.1 true) :: PlsP s.1.2.1 (plsOf s.1.1) :: CapsA b s.1.2.2.2.2 :: [Is h]) s.2)
    (fun s => N - s.1.1) ((1, _, st1, [a0], S), h5) ⟨Nat.le_refl _, by dsimp only; omega, hl0, hh5⟩ (subE_cons rfl (subE_cons rfl (subE_cons rfl (subE_cons rfl (subE_cons rfl (subE_cons rfl subE_nil)))))) subB_nil rfl ?_
  rintro ⟨⟨i, sl, st, ad, S⟩, g⟩ ⟨hi1, hiN, hl, hg⟩
  dsimp only at hi1 hiN hl hg ⊢
  have hnext : IntKind.i64.wrap ((i : Int) + 1) = ((i + 1 : Nat) : Int) := wrap_nat (by omega)
  have hprev : IntKind.i64.wrap ((i : Int) - 1) = ((i - 1 : Nat) : Int) := by rw [wrap_i64] <;> omega
  repeat (first | ((with_reducible refine hK _ _ _ ?_); clear hK) | (with_reducible refine seq_step fun K hK => ?_) | (with_reducible refine block_step ?_) | ((with_reducible refine cond_t ?_ ?_); focus rfl) | ((with_reducible refine cond_f ?_ ?_); focus rfl) | ((with_reducible refine code_id ?_); conv => whnf) | (clear hK; (with_reducible refine hK _ _ _ ?_); clear hK) | (clear hK; clear hK; (with_reducible refine hK _ _ _ ?_); clear hK) | (clear hK; clear hK; clear hK; (with_reducible refine hK _ _ _ ?_); clear hK) | (clear hK; clear hK; clear hK; clear hK; (with_reducible refine hK _ _ _ ?_); clear hK) | (clear hK; clear hK; clear hK; clear hK; clear hK; (with_reducible refine hK _ _ _ ?_); clear hK) | (clear hK; clear hK; clear hK; clear hK; clear hK; clear hK; (with_reducible refine hK _ _ _ ?_); clear hK) | (clear hK; clear hK; clear hK; clear hK; clear hK; clear hK; clear hK; (with_reducible refine hK _ _ _ ?_); clear hK))
  refine cond_dec (fun hlt => ?_) (fun hge => ?_)
  · have hiN2 : i < N := by omega
    obtain ⟨bb, o, cap', cc, ty, z, hs, hbb, hjl, hc0, hc1, _⟩ := PlsP.at hg 1 rfl (plsOf_get (n := i) (j := i - 1) (by omega))
    subst hs
    rw [plsOf_len] at hjl
    have hmd := hl.derive hi1 (by omega)
    repeat (first | ((with_reducible refine hK _ _ _ ?_); clear hK) | (with_reducible refine seq_step fun K hK => ?_) | (with_reducible refine block_step ?_) | ((with_reducible refine cond_t ?_ ?_); focus rfl) | ((with_reducible refine cond_f ?_ ?_); focus rfl) | ((with_reducible refine code_id ?_); conv => whnf) | (clear hK; (with_reducible refine hK _ _ _ ?_); clear hK) | (clear hK; clear hK; (with_reducible refine hK _ _ _ ?_); clear hK) | (clear hK; clear hK; clear hK; (with_reducible refine hK _ _ _ ?_); clear hK) | (clear hK; clear hK; clear hK; clear hK; (with_reducible refine hK _ _ _ ?_); clear hK) | (clear hK; clear hK; clear hK; clear hK; clear hK; (with_reducible refine hK _ _ _ ?_); clear hK) | (clear hK; clear hK; clear hK; clear hK; clear hK; clear hK; (with_reducible refine hK _ _ _ ?_); clear hK) | (clear hK; clear hK; clear hK; clear hK; clear hK; clear hK; clear hK; (with_reducible refine hK _ _ _ ?_); clear hK))
    rw [hprev]
    refine opt_if ⟨by omega, by rw [plsOf_len]; omega⟩ ?_
    conv => whnf
    refine opt_ld hbb (v := iv ((i - 1) % 4 : Nat)) (by show cc[o + ((i - 1 : Nat) : Int).toNat * 2]? = _; rw [Int.toNat_natCast]; exact hc0) ?_
    conv => whnf
    rw [hprev]
    refine opt_if ⟨by omega, by rw [plsOf_len]; omega⟩ ?_
    conv => whnf
    refine opt_ld hbb (v := iv ((i - 1) / 4 : Nat)) (by show cc[o + ((i - 1 : Nat) : Int).toNat * 2 + 1]? = _; rw [Int.toNat_natCast]; exact hc1) ?_
    conv => whnf
    rw [tmod4]
    refine derive11 hl.wf (hg.pull 2 rfl) _ _ _ _ _ (fun k hk => by rw [hmd] at hk; cases hk) (fun p hp n2 s2 a2 he hs2 hn2 hi2 hw2 g2 hg2 => ?_)
    rw [hmd] at hi2
    cases hi2
    obtain rfl : n2 = i % 4 := by omega
    have hl2 := hl.grow hi1 hp (by omega) (by omega) hw2
    conv => whnf
    repeat (first | ((with_reducible refine hK _ _ _ ?_); clear hK) | (with_reducible refine seq_step fun K hK => ?_) | (with_reducible refine block_step ?_) | ((with_reducible refine cond_t ?_ ?_); focus rfl) | ((with_reducible refine cond_f ?_ ?_); focus rfl) | ((with_reducible refine code_id ?_); conv => whnf) | (clear hK; (with_reducible refine hK _ _ _ ?_); clear hK) | (clear hK; clear hK; (with_reducible refine hK _ _ _ ?_); clear hK) | (clear hK; clear hK; clear hK; (with_reducible refine hK _ _ _ ?_); clear hK) | (clear hK; clear hK; clear hK; clear hK; (with_reducible refine hK _ _ _ ?_); clear hK) | (clear hK; clear hK; clear hK; clear hK; clear hK; (with_reducible refine hK _ _ _ ?_); clear hK) | (clear hK; clear hK; clear hK; clear hK; clear hK; clear hK; (with_reducible refine hK _ _ _ ?_); clear hK) | (clear hK; clear hK; clear hK; clear hK; clear hK; clear hK; clear hK; (with_reducible refine hK _ _ _ ?_); clear hK))
    rw [tmod4]
    refine fresh_has hg2 fun b3 g3 _ _ _ hg3 => ?_
    conv => whnf
    refine app1pl (x := (i % 4, i / 4)) (hg3.map_tail fun g hg => hg.pull 2 rfl) (by rw [plsOf_len]; omega) fun s4 g4 hg4 => ?_
    conv => whnf
    repeat (first | ((with_reducible refine hK _ _ _ ?_); clear hK) | (with_reducible refine seq_step fun K hK => ?_) | (with_reducible refine block_step ?_) | ((with_reducible refine cond_t ?_ ?_); focus rfl) | ((with_reducible refine cond_f ?_ ?_); focus rfl) | ((with_reducible refine code_id ?_); conv => whnf) | (clear hK; (with_reducible refine hK _ _ _ ?_); clear hK) | (clear hK; clear hK; (with_reducible refine hK _ _ _ ?_); clear hK) | (clear hK; clear hK; clear hK; (with_reducible refine hK _ _ _ ?_); clear hK) | (clear hK; clear hK; clear hK; clear hK; (with_reducible refine hK _ _ _ ?_); clear hK) | (clear hK; clear hK; clear hK; clear hK; clear hK; (with_reducible refine hK _ _ _ ?_); clear hK) | (clear hK; clear hK; clear hK; clear hK; clear hK; clear hK; (with_reducible refine hK _ _ _ ?_); clear hK) | (clear hK; clear hK; clear hK; clear hK; clear hK; clear hK; clear hK; (with_reducible refine hK _ _ _ ?_); clear hK))
    refine fresh_has hg4 fun b5 g5 _ _ _ hg5 => ?_
    conv => whnf
    refine app1b (x := true) (hg5.map_tail fun g hg => hg.pull 2 rfl) (by rw [List.length_replicate]; omega) fun s6 g6 hg6 => ?_
    conv => whnf
    repeat (first | ((with_reducible refine hK _ _ _ ?_); clear hK) | (with_reducible refine seq_step fun K hK => ?_) | (with_reducible refine block_step ?_) | ((with_reducible refine cond_t ?_ ?_); focus rfl) | ((with_reducible refine cond_f ?_ ?_); focus rfl) | ((with_reducible refine code_id ?_); conv => whnf) | (clear hK; (with_reducible refine hK _ _ _ ?_); clear hK) | (clear hK; clear hK; (with_reducible refine hK _ _ _ ?_); clear hK) | (clear hK; clear hK; clear hK; (with_reducible refine hK _ _ _ ?_); clear hK) | (clear hK; clear hK; clear hK; clear hK; (with_reducible refine hK _ _ _ ?_); clear hK) | (clear hK; clear hK; clear hK; clear hK; clear hK; (with_reducible refine hK _ _ _ ?_); clear hK) | (clear hK; clear hK; clear hK; clear hK; clear hK; clear hK; (with_reducible refine hK _ _ _ ?_); clear hK) | (clear hK; clear hK; clear hK; clear hK; clear hK; clear hK; clear hK; (with_reducible refine hK _ _ _ ?_); clear hK))
    refine ⟨((i + 1, s4, s6, _, _), g6), ⟨by dsimp only; omega, by dsimp only; omega, hl2, ?_⟩, by dsimp only; omega, subE_cons rfl (subE_cons rfl (subE_cons rfl (subE_cons rfl (subE_cons rfl (subE_cons (int_eq hnext rfl) subE_nil))))), subB_nil, rfl⟩
    dsimp only
    rw [plsOf_succ, List.replicate_succ']
    exact hg6
  · have hie : i = N := by omega
    rw [hie] at hl hg
    have hadN : ad.length = N := by rw [← hl.len, List.length_replicate]
    obtain ⟨bl, ol, cpl, _, _, _, hs, _⟩ := PlsP.at hg 1 rfl (plsOf_get (n := N) (j := 0) (by omega))
    rw [plsOf_len] at hs
    subst hs
    repeat (first | ((with_reducible refine hK _ _ _ ?_); clear hK) | (with_reducible refine seq_step fun K hK => ?_) | (with_reducible refine block_step ?_) | ((with_reducible refine cond_t ?_ ?_); focus rfl) | ((with_reducible refine cond_f ?_ ?_); focus rfl) | ((with_reducible refine code_id ?_); conv => whnf) | (clear hK; (with_reducible refine hK _ _ _ ?_); clear hK) | (clear hK; clear hK; (with_reducible refine hK _ _ _ ?_); clear hK) | (clear hK; clear hK; clear hK; (with_reducible refine hK _ _ _ ?_); clear hK) | (clear hK; clear hK; clear hK; clear hK; (with_reducible refine hK _ _ _ ?_); clear hK) | (clear hK; clear hK; clear hK; clear hK; clear hK; (with_reducible refine hK _ _ _ ?_); clear hK) | (clear hK; clear hK; clear hK; clear hK; clear hK; clear hK; (with_reducible refine hK _ _ _ ?_); clear hK) | (clear hK; clear hK; clear hK; clear hK; clear hK; clear hK; clear hK; (with_reducible refine hK _ _ _ ?_); clear hK))
    refine loop_intro (σ := (Nat × Value × List Bool × Bs) × Hp) (fun s => [(0, .v (iv N)), (1, .v (.slice a len cap)), (5, .v (ptr b)), (6, .v (.slice (some ⟨bl, ol, none⟩) N cpl)), (7, .v s.1.2.1), (11, .v (iv s.1.1))]) (fun _ => []) (fun s => s.2)
      (fun s => s.1.1 ≤ 100 ∧ s.1.1 ≤ len ∧ Line s.1.2.2.2 ad s.1.2.2.1 ∧ Has (BlsP s.1.2.1 s.1.2.2.1 :: PlsP (.slice (some ⟨bl, ol, none⟩) N cpl) (plsOf N) :: CapsA b s.1.2.2.2 :: [Is h]) s.2)
      (fun s => 100 - s.1.1) ((0, st, List.replicate N true, S), g) ⟨Nat.zero_le _, Nat.zero_le _, hl, hg⟩ (subE_cons rfl (subE_cons rfl (subE_cons rfl (subE_cons rfl (subE_cons rfl (subE_cons rfl subE_nil)))))) subB_nil rfl ?_
    rintro ⟨⟨k, st2, th, S2⟩, g2⟩ ⟨hk, hkl, hl2, hg2⟩
    dsimp only at hk hkl hl2 hg2 ⊢
    have hnext2 : IntKind.i64.wrap ((k : Int) + 1) = ((k + 1 : Nat) : Int) := wrap_nat (by omega)
    have hthN : th.length = N := by rw [hl2.len, hadN]
    obtain ⟨bt, ct, hs⟩ := hg2.slv 0 rfl
    subst hs
    repeat (first | ((with_reducible refine hK _ _ _ ?_); clear hK) | (with_reducible refine seq_step fun K hK => ?_) | (with_reducible refine block_step ?_) | ((with_reducible refine cond_t ?_ ?_); focus rfl) | ((with_reducible refine cond_f ?_ ?_); focus rfl) | ((with_reducible refine code_id ?_); conv => whnf) | (clear hK; (with_reducible refine hK _ _ _ ?_); clear hK) | (clear hK; clear hK; (with_reducible refine hK _ _ _ ?_); clear hK) | (clear hK; clear hK; clear hK; (with_reducible refine hK _ _ _ ?_); clear hK) | (clear hK; clear hK; clear hK; clear hK; (with_reducible refine hK _ _ _ ?_); clear hK) | (clear hK; clear hK; clear hK; clear hK; clear hK; (with_reducible refine hK _ _ _ ?_); clear hK) | (clear hK; clear hK; clear hK; clear hK; clear hK; clear hK; (with_reducible refine hK _ _ _ ?_); clear hK) | (clear hK; clear hK; clear hK; clear hK; clear hK; clear hK; clear hK; (with_reducible refine hK _ _ _ ?_); clear hK))
    by_cases c3 : k < len ∧ k < 100
    · have step : ∀ (st' : Value) (th' : List Bool) (S' : Bs) (g' : Hp), Line S' ad th' → Has (BlsP st' th' :: PlsP (.slice (some ⟨bl, ol, none⟩) N cpl) (plsOf N) :: CapsA b S' :: [Is h]) g' →
          (k + 1 ≤ 100 ∧ k + 1 ≤ len ∧ Line S' ad th' ∧ Has (BlsP st' th' :: PlsP (.slice (some ⟨bl, ol, none⟩) N cpl) (plsOf N) :: CapsA b S' :: [Is h]) g') := fun st' th' S' g' h1 h2 => ⟨by omega, by omega, h1, h2⟩
      rw [show decide ((k : Int) < (len : Nat)) = true from decide_eq_true (by omega)]
      conv => whnf
      rw [show decide ((k : Int) < 100) = true from decide_eq_true (by omega)]
      conv => whnf
      repeat (first | ((with_reducible refine hK _ _ _ ?_); clear hK) | (with_reducible refine seq_step fun K hK => ?_) | (with_reducible refine block_step ?_) | ((with_reducible refine cond_t ?_ ?_); focus rfl) | ((with_reducible refine cond_f ?_ ?_); focus rfl) | ((with_reducible refine code_id ?_); conv => whnf) | (clear hK; (with_reducible refine hK _ _ _ ?_); clear hK) | (clear hK; clear hK; (with_reducible refine hK _ _ _ ?_); clear hK) | (clear hK; clear hK; clear hK; (with_reducible refine hK _ _ _ ?_); clear hK) | (clear hK; clear hK; clear hK; clear hK; (with_reducible refine hK _ _ _ ?_); clear hK) | (clear hK; clear hK; clear hK; clear hK; clear hK; (with_reducible refine hK _ _ _ ?_); clear hK) | (clear hK; clear hK; clear hK; clear hK; clear hK; clear hK; (with_reducible refine hK _ _ _ ?_); clear hK) | (clear hK; clear hK; clear hK; clear hK; clear hK; clear hK; clear hK; (with_reducible refine hK _ _ _ ?_); clear hK))
      obtain ⟨bk, off, c, ty, z, ha, hb0, hc, hwf⟩ := hR k c3.1
      have hb : g2 bk = some (.cells c ty z) := hg2.is 3 rfl bk _ hb0
      obtain ⟨d, hd⟩ : ∃ d, d = f k := ⟨_, rfl⟩
      rw [← hd] at hc
      rw [ha]
      conv => whnf
      refine opt_if ⟨by omega, by omega⟩ ?_
      conv => whnf
      refine opt_ld hb (v := iv d) (by first | exact hc | (show c[off + (k : Int).toNat * 1]? = _; rw [Int.toNat_natCast, Nat.mul_one]; exact hc)) ?_
      conv => whnf
      repeat (first | ((with_reducible refine hK _ _ _ ?_); clear hK) | (with_reducible refine seq_step fun K hK => ?_) | (with_reducible refine block_step ?_) | ((with_reducible refine cond_t ?_ ?_); focus rfl) | ((with_reducible refine cond_f ?_ ?_); focus rfl) | ((with_reducible refine code_id ?_); conv => whnf) | (clear hK; (with_reducible refine hK _ _ _ ?_); clear hK) | (clear hK; clear hK; (with_reducible refine hK _ _ _ ?_); clear hK) | (clear hK; clear hK; clear hK; (with_reducible refine hK _ _ _ ?_); clear hK) | (clear hK; clear hK; clear hK; clear hK; (with_reducible refine hK _ _ _ ?_); clear hK) | (clear hK; clear hK; clear hK; clear hK; clear hK; (with_reducible refine hK _ _ _ ?_); clear hK) | (clear hK; clear hK; clear hK; clear hK; clear hK; clear hK; (with_reducible refine hK _ _ _ ?_); clear hK) | (clear hK; clear hK; clear hK; clear hK; clear hK; clear hK; clear hK; (with_reducible refine hK _ _ _ ?_); clear hK))
      by_cases c4 : d < 0
      · rw [show decide (d < 0) = true from decide_eq_true c4]
        conv => whnf
        repeat (first | ((with_reducible refine hK _ _ _ ?_); clear hK) | (with_reducible refine seq_step fun K hK => ?_) | (with_reducible refine block_step ?_) | ((with_reducible refine cond_t ?_ ?_); focus rfl) | ((with_reducible refine cond_f ?_ ?_); focus rfl) | ((with_reducible refine code_id ?_); conv => whnf) | (clear hK; (with_reducible refine hK _ _ _ ?_); clear hK) | (clear hK; clear hK; (with_reducible refine hK _ _ _ ?_); clear hK) | (clear hK; clear hK; clear hK; (with_reducible refine hK _ _ _ ?_); clear hK) | (clear hK; clear hK; clear hK; clear hK; (with_reducible refine hK _ _ _ ?_); clear hK) | (clear hK; clear hK; clear hK; clear hK; clear hK; (with_reducible refine hK _ _ _ ?_); clear hK) | (clear hK; clear hK; clear hK; clear hK; clear hK; clear hK; (with_reducible refine hK _ _ _ ?_); clear hK) | (clear hK; clear hK; clear hK; clear hK; clear hK; clear hK; clear hK; (with_reducible refine hK _ _ _ ?_); clear hK))
        exact ⟨((k + 1, _, th, S2), g2), step _ _ _ _ hl2 hg2, by dsimp only; omega, subE_cons rfl (subE_cons (by rw [ha]; rfl) (subE_cons rfl (subE_cons rfl (subE_cons rfl (subE_cons (int_eq hnext2 rfl) subE_nil))))), subB_nil, rfl⟩
      rw [show decide (d < 0) = false from decide_eq_false c4]
      obtain ⟨m, rfl⟩ := Int.eq_ofNat_of_zero_le (show 0 ≤ d by omega)
      conv => whnf
      by_cases c5 : (m : Int) ≥ (N : Nat)
      · rw [show decide ((m : Int) ≥ (N : Nat)) = true from decide_eq_true c5]
        conv => whnf
        repeat (first | ((with_reducible refine hK _ _ _ ?_); clear hK) | (with_reducible refine seq_step fun K hK => ?_) | (with_reducible refine block_step ?_) | ((with_reducible refine cond_t ?_ ?_); focus rfl) | ((with_reducible refine cond_f ?_ ?_); focus rfl) | ((with_reducible refine code_id ?_); conv => whnf) | (clear hK; (with_reducible refine hK _ _ _ ?_); clear hK) | (clear hK; clear hK; (with_reducible refine hK _ _ _ ?_); clear hK) | (clear hK; clear hK; clear hK; (with_reducible refine hK _ _ _ ?_); clear hK) | (clear hK; clear hK; clear hK; clear hK; (with_reducible refine hK _ _ _ ?_); clear hK) | (clear hK; clear hK; clear hK; clear hK; clear hK; (with_reducible refine hK _ _ _ ?_); clear hK) | (clear hK; clear hK; clear hK; clear hK; clear hK; clear hK; (with_reducible refine hK _ _ _ ?_); clear hK) | (clear hK; clear hK; clear hK; clear hK; clear hK; clear hK; clear hK; (with_reducible refine hK _ _ _ ?_); clear hK))
        exact ⟨((k + 1, _, th, S2), g2), step _ _ _ _ hl2 hg2, by dsimp only; omega, subE_cons rfl (subE_cons (by rw [ha]; rfl) (subE_cons rfl (subE_cons rfl (subE_cons rfl (subE_cons (int_eq hnext2 rfl) subE_nil))))), subB_nil, rfl⟩
      rw [show decide ((m : Int) ≥ (N : Nat)) = false from decide_eq_false c5]
      have hmN : m < N := by omega
      have hmt : m < th.length := by omega
      obtain ⟨bb, o, cap', cc, ty2, z2, hs, hbb, hcc⟩ := hg2.rdw 0 rfl (k := m) (v := .bool th[m]) hmt (by rw [List.getElem?_map, List.getElem?_eq_getElem hmt]; rfl)
      cases hs
      conv => whnf
      refine opt_if ⟨by omega, by omega⟩ ?_
      conv => whnf
      refine opt_ld hbb (v := .bool th[m]) (by show cc[o + (m : Int).toNat * 1]? = _; rw [Int.toNat_natCast, Nat.mul_one]; exact hcc) ?_
      cases hthm : th[m] with
      | false =>
        conv => whnf
        repeat (first | ((with_reducible refine hK _ _ _ ?_); clear hK) | (with_reducible refine seq_step fun K hK => ?_) | (with_reducible refine block_step ?_) | ((with_reducible refine cond_t ?_ ?_); focus rfl) | ((with_reducible refine cond_f ?_ ?_); focus rfl) | ((with_reducible refine code_id ?_); conv => whnf) | (clear hK; (with_reducible refine hK _ _ _ ?_); clear hK) | (clear hK; clear hK; (with_reducible refine hK _ _ _ ?_); clear hK) | (clear hK; clear hK; clear hK; (with_reducible refine hK _ _ _ ?_); clear hK) | (clear hK; clear hK; clear hK; clear hK; (with_reducible refine hK _ _ _ ?_); clear hK) | (clear hK; clear hK; clear hK; clear hK; clear hK; (with_reducible refine hK _ _ _ ?_); clear hK) | (clear hK; clear hK; clear hK; clear hK; clear hK; clear hK; (with_reducible refine hK _ _ _ ?_); clear hK) | (clear hK; clear hK; clear hK; clear hK; clear hK; clear hK; clear hK; (with_reducible refine hK _ _ _ ?_); clear hK))
        exact ⟨((k + 1, _, th, S2), g2), step _ _ _ _ hl2 hg2, by dsimp only; omega, subE_cons rfl (subE_cons (by rw [ha]; rfl) (subE_cons rfl (subE_cons rfl (subE_cons rfl (subE_cons (int_eq hnext2 rfl) subE_nil))))), subB_nil, rfl⟩
      | true =>
        have htm : th[m]? = some true := by rw [List.getElem?_eq_getElem hmt, hthm]
        obtain ⟨x, hx, x1, x2, x3, _⟩ := hl2.B m htm
        have hlk := mLook_of hl2.wf hx
        rw [x2, x3] at hlk
        obtain ⟨cl, tyl, zl, hbl, hjl, hc0, hc1, _⟩ := PlsP.get hg2 1 rfl (plsOf_get (n := N) (j := m) hmN)
        conv => whnf
        repeat (first | ((with_reducible refine hK _ _ _ ?_); clear hK) | (with_reducible refine seq_step fun K hK => ?_) | (with_reducible refine block_step ?_) | ((with_reducible refine cond_t ?_ ?_); focus rfl) | ((with_reducible refine cond_f ?_ ?_); focus rfl) | ((with_reducible refine code_id ?_); conv => whnf) | (clear hK; (with_reducible refine hK _ _ _ ?_); clear hK) | (clear hK; clear hK; (with_reducible refine hK _ _ _ ?_); clear hK) | (clear hK; clear hK; clear hK; (with_reducible refine hK _ _ _ ?_); clear hK) | (clear hK; clear hK; clear hK; clear hK; (with_reducible refine hK _ _ _ ?_); clear hK) | (clear hK; clear hK; clear hK; clear hK; clear hK; (with_reducible refine hK _ _ _ ?_); clear hK) | (clear hK; clear hK; clear hK; clear hK; clear hK; clear hK; (with_reducible refine hK _ _ _ ?_); clear hK) | (clear hK; clear hK; clear hK; clear hK; clear hK; clear hK; clear hK; (with_reducible refine hK _ _ _ ?_); clear hK))
        refine ⟨g2, [], SubH.refl _, SubB.refl _, ?_⟩
        conv => whnf
        refine opt_if ⟨by omega, by omega⟩ ?_
        conv => whnf
        refine opt_ld hbl (v := iv (m % 4 : Nat)) (by show cl[ol + (m : Int).toNat * 2]? = _; rw [Int.toNat_natCast]; exact hc0) ?_
        conv => whnf
        refine opt_if ⟨by omega, by omega⟩ ?_
        conv => whnf
        refine opt_ld hbl (v := iv (m / 4 : Nat)) (by show cl[ol + (m : Int).toNat * 2 + 1]? = _; rw [Int.toNat_natCast]; exact hc1) ?_
        conv => whnf
        refine ⟨?_, ?_⟩
        · refine drop12 hl2.wf (hg2.pull 2 rfl) _ _ (fun q hq => by rw [hlk] at hq; cases hq) (fun x9 hx9 he9 hs9 g3 hg3 => ?_)
          conv => whnf
          refine ⟨_, _, SubH.refl _, SubB.refl _, ?_⟩
          conv => whnf
          refine ⟨rfl, ?_⟩
          conv => whnf
          refine ⟨⟨SubH.refl _, SubB.new rfl⟩, ?_⟩
          obtain ⟨bs3, ct3, hs⟩ : ∃ bs3 ct3, Value.slice (some ⟨bb, o, none⟩) th.length ct = .slice bs3 th.length ct3 := ⟨_, _, rfl⟩
          clear hs bs3 ct3
          conv => whnf
          repeat (first | ((with_reducible refine hK _ _ _ ?_); clear hK) | (with_reducible refine seq_step fun K hK => ?_) | (with_reducible refine block_step ?_) | ((with_reducible refine cond_t ?_ ?_); focus rfl) | ((with_reducible refine cond_f ?_ ?_); focus rfl) | ((with_reducible refine code_id ?_); conv => whnf) | (clear hK; (with_reducible refine hK _ _ _ ?_); clear hK) | (clear hK; clear hK; (with_reducible refine hK _ _ _ ?_); clear hK) | (clear hK; clear hK; clear hK; (with_reducible refine hK _ _ _ ?_); clear hK) | (clear hK; clear hK; clear hK; clear hK; (with_reducible refine hK _ _ _ ?_); clear hK) | (clear hK; clear hK; clear hK; clear hK; clear hK; (with_reducible refine hK _ _ _ ?_); clear hK) | (clear hK; clear hK; clear hK; clear hK; clear hK; clear hK; (with_reducible refine hK _ _ _ ?_); clear hK) | (clear hK; clear hK; clear hK; clear hK; clear hK; clear hK; clear hK; (with_reducible refine hK _ _ _ ?_); clear hK) | (refine ⟨_, _, SubH.refl _, SubB.refl _, ?_⟩; conv => whnf) | (refine ⟨⟨SubH.refl _, SubB.refl _⟩, ?_⟩; conv => whnf) | (refine ⟨_, _, ⟨SubH.refl _, SubB.refl _⟩, SubH.refl _, SubB.refl _, ?_⟩; conv => whnf))
          refine opt_if ⟨by omega, by omega⟩ ?_
          conv => whnf
          rw [show o + (m : Int).toNat * 1 = o + m by rw [Int.toNat_natCast, Nat.mul_one]]
          refine st_hasW (n := th.length) (vs := th.map .bool) hg3 1 rfl (k := m) (x := .bool false) hmt rfl rfl fun g4 hg4 => ?_
          have hg5 : Has (BlsP (.slice (some ⟨bb, o, none⟩) th.length ct) (th.set m false) :: PlsP (.slice (some ⟨bl, ol, none⟩) N cpl) (plsOf N) :: CapsA b (rm S2 x9) :: [Is h]) g4 := by
            unfold BlsP
            rw [List.length_set, List.map_set]
            exact (hg4.pull 1 rfl).map_tail fun g hg => hg.swap
          conv => whnf
          repeat (first | ((with_reducible refine hK _ _ _ ?_); clear hK) | (with_reducible refine seq_step fun K hK => ?_) | (with_reducible refine block_step ?_) | ((with_reducible refine cond_t ?_ ?_); focus rfl) | ((with_reducible refine cond_f ?_ ?_); focus rfl) | ((with_reducible refine code_id ?_); conv => whnf) | (clear hK; (with_reducible refine hK _ _ _ ?_); clear hK) | (clear hK; clear hK; (with_reducible refine hK _ _ _ ?_); clear hK) | (clear hK; clear hK; clear hK; (with_reducible refine hK _ _ _ ?_); clear hK) | (clear hK; clear hK; clear hK; clear hK; (with_reducible refine hK _ _ _ ?_); clear hK) | (clear hK; clear hK; clear hK; clear hK; clear hK; (with_reducible refine hK _ _ _ ?_); clear hK) | (clear hK; clear hK; clear hK; clear hK; clear hK; clear hK; (with_reducible refine hK _ _ _ ?_); clear hK) | (clear hK; clear hK; clear hK; clear hK; clear hK; clear hK; clear hK; (with_reducible refine hK _ _ _ ?_); clear hK) | (refine ⟨_, _, SubH.refl _, SubB.refl _, ?_⟩; conv => whnf) | (refine ⟨⟨SubH.refl _, SubB.refl _⟩, ?_⟩; conv => whnf) | (refine ⟨_, _, ⟨SubH.refl _, SubB.refl _⟩, SubH.refl _, SubB.refl _, ?_⟩; conv => whnf))
          exact ⟨((k + 1, _, th.set m false, rm S2 x9), g4), step _ _ _ _ (hl2.drop hx9 (by omega) (by omega)) hg5, by dsimp only; omega, subE_cons rfl (subE_cons (by rw [ha]; rfl) (subE_cons rfl (subE_cons rfl (subE_cons rfl (subE_cons (int_eq hnext2 rfl) subE_nil))))), subB_nil, rfl⟩
        · refine ⟨rfl, ?_⟩
          conv => whnf
          refine ⟨⟨SubH.refl _, SubB.new rfl⟩, ?_⟩
          conv => whnf
          refine drop12 hl2.wf (hg2.pull 2 rfl) _ _ (fun q hq => by rw [hlk] at hq; cases hq) (fun x9 hx9 he9 hs9 g3 hg3 => ?_)
          obtain ⟨bs3, ct3, hs⟩ : ∃ bs3 ct3, Value.slice (some ⟨bb, o, none⟩) th.length ct = .slice bs3 th.length ct3 := ⟨_, _, rfl⟩
          clear hs bs3 ct3
          conv => whnf
          repeat (first | ((with_reducible refine hK _ _ _ ?_); clear hK) | (with_reducible refine seq_step fun K hK => ?_) | (with_reducible refine block_step ?_) | ((with_reducible refine cond_t ?_ ?_); focus rfl) | ((with_reducible refine cond_f ?_ ?_); focus rfl) | ((with_reducible refine code_id ?_); conv => whnf) | (clear hK; (with_reducible refine hK _ _ _ ?_); clear hK) | (clear hK; clear hK; (with_reducible refine hK _ _ _ ?_); clear hK) | (clear hK; clear hK; clear hK; (with_reducible refine hK _ _ _ ?_); clear hK) | (clear hK; clear hK; clear hK; clear hK; (with_reducible refine hK _ _ _ ?_); clear hK) | (clear hK; clear hK; clear hK; clear hK; clear hK; (with_reducible refine hK _ _ _ ?_); clear hK) | (clear hK; clear hK; clear hK; clear hK; clear hK; clear hK; (with_reducible refine hK _ _ _ ?_); clear hK) | (clear hK; clear hK; clear hK; clear hK; clear hK; clear hK; clear hK; (with_reducible refine hK _ _ _ ?_); clear hK) | (refine ⟨_, _, SubH.refl _, SubB.refl _, ?_⟩; conv => whnf) | (refine ⟨⟨SubH.refl _, SubB.refl _⟩, ?_⟩; conv => whnf) | (refine ⟨_, _, ⟨SubH.refl _, SubB.refl _⟩, SubH.refl _, SubB.refl _, ?_⟩; conv => whnf))
          refine opt_if ⟨by omega, by omega⟩ ?_
          conv => whnf
          rw [show o + (m : Int).toNat * 1 = o + m by rw [Int.toNat_natCast, Nat.mul_one]]
          refine st_hasW (n := th.length) (vs := th.map .bool) hg3 1 rfl (k := m) (x := .bool false) hmt rfl rfl fun g4 hg4 => ?_
          have hg5 : Has (BlsP (.slice (some ⟨bb, o, none⟩) th.length ct) (th.set m false) :: PlsP (.slice (some ⟨bl, ol, none⟩) N cpl) (plsOf N) :: CapsA b (rm S2 x9) :: [Is h]) g4 := by
            unfold BlsP
            rw [List.length_set, List.map_set]
            exact (hg4.pull 1 rfl).map_tail fun g hg => hg.swap
          conv => whnf
          repeat (first | ((with_reducible refine hK _ _ _ ?_); clear hK) | (with_reducible refine seq_step fun K hK => ?_) | (with_reducible refine block_step ?_) | ((with_reducible refine cond_t ?_ ?_); focus rfl) | ((with_reducible refine cond_f ?_ ?_); focus rfl) | ((with_reducible refine code_id ?_); conv => whnf) | (clear hK; (with_reducible refine hK _ _ _ ?_); clear hK) | (clear hK; clear hK; (with_reducible refine hK _ _ _ ?_); clear hK) | (clear hK; clear hK; clear hK; (with_reducible refine hK _ _ _ ?_); clear hK) | (clear hK; clear hK; clear hK; clear hK; (with_reducible refine hK _ _ _ ?_); clear hK) | (clear hK; clear hK; clear hK; clear hK; clear hK; (with_reducible refine hK _ _ _ ?_); clear hK) | (clear hK; clear hK; clear hK; clear hK; clear hK; clear hK; (with_reducible refine hK _ _ _ ?_); clear hK) | (clear hK; clear hK; clear hK; clear hK; clear hK; clear hK; clear hK; (with_reducible refine hK _ _ _ ?_); clear hK) | (refine ⟨_, _, SubH.refl _, SubB.refl _, ?_⟩; conv => whnf) | (refine ⟨⟨SubH.refl _, SubB.refl _⟩, ?_⟩; conv => whnf) | (refine ⟨_, _, ⟨SubH.refl _, SubB.refl _⟩, SubH.refl _, SubB.refl _, ?_⟩; conv => whnf))
          exact ⟨((k + 1, _, th.set m false, rm S2 x9), g4), step _ _ _ _ (hl2.drop hx9 (by omega) (by omega)) hg5, by dsimp only; omega, subE_cons rfl (subE_cons (by rw [ha]; rfl) (subE_cons rfl (subE_cons rfl (subE_cons rfl (subE_cons (int_eq hnext2 rfl) subE_nil))))), subB_nil, rfl⟩
    · by_cases c6 : k < len
      · rw [show decide ((k : Int) < (len : Nat)) = true from decide_eq_true (by omega)]
        conv => whnf
        rw [show decide ((k : Int) < 100) = false from decide_eq_false (by omega)]
        conv => whnf
        repeat (first | ((with_reducible refine hK _ _ _ ?_); clear hK) | (with_reducible refine seq_step fun K hK => ?_) | (with_reducible refine block_step ?_) | ((with_reducible refine cond_t ?_ ?_); focus rfl) | ((with_reducible refine cond_f ?_ ?_); focus rfl) | ((with_reducible refine code_id ?_); conv => whnf) | (clear hK; (with_reducible refine hK _ _ _ ?_); clear hK) | (clear hK; clear hK; (with_reducible refine hK _ _ _ ?_); clear hK) | (clear hK; clear hK; clear hK; (with_reducible refine hK _ _ _ ?_); clear hK) | (clear hK; clear hK; clear hK; clear hK; (with_reducible refine hK _ _ _ ?_); clear hK) | (clear hK; clear hK; clear hK; clear hK; clear hK; (with_reducible refine hK _ _ _ ?_); clear hK) | (clear hK; clear hK; clear hK; clear hK; clear hK; clear hK; (with_reducible refine hK _ _ _ ?_); clear hK) | (clear hK; clear hK; clear hK; clear hK; clear hK; clear hK; clear hK; (with_reducible refine hK _ _ _ ?_); clear hK))
        obtain ⟨bb, o, cap', cc, ty2, z2, hs, _, _⟩ := hg2.rdw 0 rfl (k := 0) (v := .bool th[0]) (by omega) (by rw [List.getElem?_map, List.getElem?_eq_getElem (by omega)]; rfl)
        cases hs
        refine loop_intro (σ := Nat × Hp) (fun s => [(0, .v (iv N)), (5, .v (ptr b)), (6, .v (.slice (some ⟨bl, ol, none⟩) N cpl)), (7, .v (.slice (some ⟨bb, o, none⟩) th.length ct)), (15, .l 15 0), (16, .l 16 0), (17, .v (iv s.1))]) (fun s => [(15, plL (prevT th s.1)), (16, plL (lastT th s.1))]) (fun s => s.2)
          (fun s => s.1 ≤ N ∧ Has (BlsP (.slice (some ⟨bb, o, none⟩) th.length ct) th :: PlsP (.slice (some ⟨bl, ol, none⟩) N cpl) (plsOf N) :: CapsA b S2 :: [Is h]) s.2)
          (fun s => N - s.1) (0, g2) ⟨Nat.zero_le _, hg2⟩ (subE_cons rfl (subE_cons rfl (subE_cons rfl (subE_cons rfl (subE_cons rfl (subE_cons rfl (subE_cons rfl subE_nil))))))) (subB_cons rfl (subB_cons rfl subB_nil)) rfl ?_
        rintro ⟨j, g5⟩ ⟨hj, hg5⟩
        dsimp only at hj hg5 ⊢
        have hnext3 : IntKind.i64.wrap ((j : Int) + 1) = ((j + 1 : Nat) : Int) := wrap_nat (by omega)
        obtain ⟨x1, y1, hpl1⟩ := plL_two (prevT th j)
        obtain ⟨x2, y2, hpl2⟩ := plL_two (lastT th j)
        rw [hpl1, hpl2]
        repeat (first | ((with_reducible refine hK _ _ _ ?_); clear hK) | (with_reducible refine seq_step fun K hK => ?_) | (with_reducible refine block_step ?_) | ((with_reducible refine cond_t ?_ ?_); focus rfl) | ((with_reducible refine cond_f ?_ ?_); focus rfl) | ((with_reducible refine code_id ?_); conv => whnf) | (clear hK; (with_reducible refine hK _ _ _ ?_); clear hK) | (clear hK; clear hK; (with_reducible refine hK _ _ _ ?_); clear hK) | (clear hK; clear hK; clear hK; (with_reducible refine hK _ _ _ ?_); clear hK) | (clear hK; clear hK; clear hK; clear hK; (with_reducible refine hK _ _ _ ?_); clear hK) | (clear hK; clear hK; clear hK; clear hK; clear hK; (with_reducible refine hK _ _ _ ?_); clear hK) | (clear hK; clear hK; clear hK; clear hK; clear hK; clear hK; (with_reducible refine hK _ _ _ ?_); clear hK) | (clear hK; clear hK; clear hK; clear hK; clear hK; clear hK; clear hK; (with_reducible refine hK _ _ _ ?_); clear hK))
        refine cond_dec (fun hlt9 => ?_) (fun hge9 => ?_)
        · have hjN : j < N := by omega
          have hjt : j < th.length := by omega
          obtain ⟨bb2, o2, cap2, cc2, ty3, z3, hs, hbb2, hcc2⟩ := hg5.rdw 0 rfl (k := j) (v := .bool th[j]) hjt (by rw [List.getElem?_map, List.getElem?_eq_getElem hjt]; rfl)
          injection hs with e1 e2 e3
          injection e1 with e1
          injection e1 with e1 e4 e5
          subst e1 e4
          repeat (first | ((with_reducible refine hK _ _ _ ?_); clear hK) | (with_reducible refine seq_step fun K hK => ?_) | (with_reducible refine block_step ?_) | ((with_reducible refine cond_t ?_ ?_); focus rfl) | ((with_reducible refine cond_f ?_ ?_); focus rfl) | ((with_reducible refine code_id ?_); conv => whnf) | (clear hK; (with_reducible refine hK _ _ _ ?_); clear hK) | (clear hK; clear hK; (with_reducible refine hK _ _ _ ?_); clear hK) | (clear hK; clear hK; clear hK; (with_reducible refine hK _ _ _ ?_); clear hK) | (clear hK; clear hK; clear hK; clear hK; (with_reducible refine hK _ _ _ ?_); clear hK) | (clear hK; clear hK; clear hK; clear hK; clear hK; (with_reducible refine hK _ _ _ ?_); clear hK) | (clear hK; clear hK; clear hK; clear hK; clear hK; clear hK; (with_reducible refine hK _ _ _ ?_); clear hK) | (clear hK; clear hK; clear hK; clear hK; clear hK; clear hK; clear hK; (with_reducible refine hK _ _ _ ?_); clear hK))
          refine opt_if ⟨by omega, by omega⟩ ?_
          conv => whnf
          refine opt_ld hbb2 (v := .bool th[j]) (by show cc2[o + (j : Int).toNat * 1]? = _; rw [Int.toNat_natCast, Nat.mul_one]; exact hcc2) ?_
          cases hthj : th[j] with
          | false =>
            have hne : th[j]? ≠ some true := by rw [List.getElem?_eq_getElem hjt, hthj]; simp
            conv => whnf
            repeat (first | ((with_reducible refine hK _ _ _ ?_); clear hK) | (with_reducible refine seq_step fun K hK => ?_) | (with_reducible refine block_step ?_) | ((with_reducible refine cond_t ?_ ?_); focus rfl) | ((with_reducible refine cond_f ?_ ?_); focus rfl) | ((with_reducible refine code_id ?_); conv => whnf) | (clear hK; (with_reducible refine hK _ _ _ ?_); clear hK) | (clear hK; clear hK; (with_reducible refine hK _ _ _ ?_); clear hK) | (clear hK; clear hK; clear hK; (with_reducible refine hK _ _ _ ?_); clear hK) | (clear hK; clear hK; clear hK; clear hK; (with_reducible refine hK _ _ _ ?_); clear hK) | (clear hK; clear hK; clear hK; clear hK; clear hK; (with_reducible refine hK _ _ _ ?_); clear hK) | (clear hK; clear hK; clear hK; clear hK; clear hK; clear hK; (with_reducible refine hK _ _ _ ?_); clear hK) | (clear hK; clear hK; clear hK; clear hK; clear hK; clear hK; clear hK; (with_reducible refine hK _ _ _ ?_); clear hK))
            refine ⟨(j + 1, g5), ⟨hjN, hg5⟩, by dsimp only; omega, subE_cons rfl (subE_cons rfl (subE_cons rfl (subE_cons rfl (subE_cons rfl (subE_cons rfl (subE_cons (int_eq hnext3 rfl) subE_nil)))))), ?_, rfl⟩
            dsimp only
            rw [prevT_succ, if_neg hne, lastT_succ, if_neg (fun e => hne e.1), hpl1, hpl2]
            exact subB_cons rfl (subB_cons rfl subB_nil)
          | true =>
            have htj : th[j]? = some true := by rw [List.getElem?_eq_getElem hjt, hthj]
            obtain ⟨cl, tyl, zl, hbl, hjl, hc0, hc1, hc2⟩ := PlsP.get hg5 1 rfl (plsOf_get (n := N) (j := j) hjN)
            conv => whnf
            repeat (first | ((with_reducible refine hK _ _ _ ?_); clear hK) | (with_reducible refine seq_step fun K hK => ?_) | (with_reducible refine block_step ?_) | ((with_reducible refine cond_t ?_ ?_); focus rfl) | ((with_reducible refine cond_f ?_ ?_); focus rfl) | ((with_reducible refine code_id ?_); conv => whnf) | (clear hK; (with_reducible refine hK _ _ _ ?_); clear hK) | (clear hK; clear hK; (with_reducible refine hK _ _ _ ?_); clear hK) | (clear hK; clear hK; clear hK; (with_reducible refine hK _ _ _ ?_); clear hK) | (clear hK; clear hK; clear hK; clear hK; (with_reducible refine hK _ _ _ ?_); clear hK) | (clear hK; clear hK; clear hK; clear hK; clear hK; (with_reducible refine hK _ _ _ ?_); clear hK) | (clear hK; clear hK; clear hK; clear hK; clear hK; clear hK; (with_reducible refine hK _ _ _ ?_); clear hK) | (clear hK; clear hK; clear hK; clear hK; clear hK; clear hK; clear hK; (with_reducible refine hK _ _ _ ?_); clear hK))
            refine ⟨g5, _, SubH.refl _, SubB.refl _, ?_⟩
            conv => whnf
            refine opt_if ⟨by omega, by omega⟩ ?_
            conv => whnf
            refine opt_ld hbl (v := iv (j % 4 : Nat)) (by show cl[ol + (j : Int).toNat * 2]? = _; rw [Int.toNat_natCast]; exact hc0) ?_
            conv => whnf
            refine opt_if ⟨by omega, by omega⟩ ?_
            conv => whnf
            refine opt_ld hbl (v := iv (j / 4 : Nat)) (by show cl[ol + (j : Int).toNat * 2 + 1]? = _; rw [Int.toNat_natCast]; exact hc1) ?_
            conv => whnf
            refine ⟨?_, ?_⟩
            · refine hl2.from13 (CapsA.rd hg5 2 rfl) (hnone.sub (hg5.is 3 rfl)) htj hpl1 ?_
              conv => whnf
              refine ⟨_, _, SubH.refl _, SubB.refl _, ?_⟩
              conv => whnf
              refine ⟨rfl, ?_⟩
              conv => whnf
              refine ⟨⟨SubH.refl _, SubB.new rfl⟩, ?_⟩
              conv => whnf
              repeat (first | ((with_reducible refine hK _ _ _ ?_); clear hK) | (with_reducible refine seq_step fun K hK => ?_) | (with_reducible refine block_step ?_) | ((with_reducible refine cond_t ?_ ?_); focus rfl) | ((with_reducible refine cond_f ?_ ?_); focus rfl) | ((with_reducible refine code_id ?_); conv => whnf) | (clear hK; (with_reducible refine hK _ _ _ ?_); clear hK) | (clear hK; clear hK; (with_reducible refine hK _ _ _ ?_); clear hK) | (clear hK; clear hK; clear hK; (with_reducible refine hK _ _ _ ?_); clear hK) | (clear hK; clear hK; clear hK; clear hK; (with_reducible refine hK _ _ _ ?_); clear hK) | (clear hK; clear hK; clear hK; clear hK; clear hK; (with_reducible refine hK _ _ _ ?_); clear hK) | (clear hK; clear hK; clear hK; clear hK; clear hK; clear hK; (with_reducible refine hK _ _ _ ?_); clear hK) | (clear hK; clear hK; clear hK; clear hK; clear hK; clear hK; clear hK; (with_reducible refine hK _ _ _ ?_); clear hK) | (refine ⟨_, _, SubH.refl _, SubB.refl _, ?_⟩; conv => whnf) | (refine ⟨⟨SubH.refl _, SubB.refl _⟩, ?_⟩; conv => whnf) | (refine ⟨_, _, ⟨SubH.refl _, SubB.refl _⟩, SubH.refl _, SubB.refl _, ?_⟩; conv => whnf))
              refine opt_if ⟨by omega, by omega⟩ ?_
              conv => whnf
              refine opt_ld hbl (v := iv (j % 4 : Nat)) (by show cl[ol + (j : Int).toNat * 2]? = _; rw [Int.toNat_natCast]; exact hc0) ?_
              conv => whnf
              refine opt_if ⟨by omega, by omega⟩ ?_
              conv => whnf
              refine opt_ld hbl (v := iv (j / 4 : Nat)) (by show cl[ol + (j : Int).toNat * 2 + 1]? = _; rw [Int.toNat_natCast]; exact hc1) ?_
              conv => whnf
              refine ⟨?_, ?_⟩
              · refine fresh_has hg5 fun b7 g7 _ _ hs7 hg7 => ?_
                have hv7 : Vw 1 g7 (.slice (some ⟨b7, 0, none⟩) 2 2) 2 [iv 3, iv 0] := (pt_wn (e := 1) (n := 2) (cap := 2) (cs := [iv 3, iv 0]) rfl (Nat.le_refl _) rfl (hg7.pt 0 rfl)).vw
                have hbl7 := hs7 _ _ hbl
                conv => whnf
                refine ⟨g7, _, ⟨hs7, SubB.refl _⟩, SubH.refl _, SubB.refl _, ?_⟩
                conv => whnf
                refine ⟨?_, ?_⟩
                · refine hl2.up14 (CapsA.rd hg7 3 rfl) (hnone.sub (hg7.is 4 rfl)) htj hv7 hpl2 ?_
                  conv => whnf
                  refine ⟨_, _, SubH.refl _, SubB.refl _, ?_⟩
                  conv => whnf
                  refine ⟨rfl, ?_⟩
                  conv => whnf
                  refine ⟨⟨SubH.refl _, SubB.new rfl⟩, ?_⟩
                  conv => whnf
                  repeat (first | ((with_reducible refine hK _ _ _ ?_); clear hK) | (with_reducible refine seq_step fun K hK => ?_) | (with_reducible refine block_step ?_) | ((with_reducible refine cond_t ?_ ?_); focus rfl) | ((with_reducible refine cond_f ?_ ?_); focus rfl) | ((with_reducible refine code_id ?_); conv => whnf) | (clear hK; (with_reducible refine hK _ _ _ ?_); clear hK) | (clear hK; clear hK; (with_reducible refine hK _ _ _ ?_); clear hK) | (clear hK; clear hK; clear hK; (with_reducible refine hK _ _ _ ?_); clear hK) | (clear hK; clear hK; clear hK; clear hK; (with_reducible refine hK _ _ _ ?_); clear hK) | (clear hK; clear hK; clear hK; clear hK; clear hK; (with_reducible refine hK _ _ _ ?_); clear hK) | (clear hK; clear hK; clear hK; clear hK; clear hK; clear hK; (with_reducible refine hK _ _ _ ?_); clear hK) | (clear hK; clear hK; clear hK; clear hK; clear hK; clear hK; clear hK; (with_reducible refine hK _ _ _ ?_); clear hK) | (refine ⟨_, _, SubH.refl _, SubB.refl _, ?_⟩; conv => whnf) | (refine ⟨⟨SubH.refl _, SubB.refl _⟩, ?_⟩; conv => whnf) | (refine ⟨_, _, ⟨SubH.refl _, SubB.refl _⟩, SubH.refl _, SubB.refl _, ?_⟩; conv => whnf))
                  rw [show ((x1 == x1) && ((y1 == y1) && true)) = true by simp]
                  conv => whnf
                  rw [show ((x2 == x2) && ((y2 == y2) && true)) = true by simp]
                  conv => whnf
                  repeat (first | ((with_reducible refine hK _ _ _ ?_); clear hK) | (with_reducible refine seq_step fun K hK => ?_) | (with_reducible refine block_step ?_) | ((with_reducible refine cond_t ?_ ?_); focus rfl) | ((with_reducible refine cond_f ?_ ?_); focus rfl) | ((with_reducible refine code_id ?_); conv => whnf) | (clear hK; (with_reducible refine hK _ _ _ ?_); clear hK) | (clear hK; clear hK; (with_reducible refine hK _ _ _ ?_); clear hK) | (clear hK; clear hK; clear hK; (with_reducible refine hK _ _ _ ?_); clear hK) | (clear hK; clear hK; clear hK; clear hK; (with_reducible refine hK _ _ _ ?_); clear hK) | (clear hK; clear hK; clear hK; clear hK; clear hK; (with_reducible refine hK _ _ _ ?_); clear hK) | (clear hK; clear hK; clear hK; clear hK; clear hK; clear hK; (with_reducible refine hK _ _ _ ?_); clear hK) | (clear hK; clear hK; clear hK; clear hK; clear hK; clear hK; clear hK; (with_reducible refine hK _ _ _ ?_); clear hK) | (refine ⟨_, _, SubH.refl _, SubB.refl _, ?_⟩; conv => whnf) | (refine ⟨⟨SubH.refl _, SubB.refl _⟩, ?_⟩; conv => whnf) | (refine ⟨_, _, ⟨SubH.refl _, SubB.refl _⟩, SubH.refl _, SubB.refl _, ?_⟩; conv => whnf))
                  refine opt_if ⟨by omega, by omega⟩ ?_
                  conv => whnf
                  refine opt_ld hbl7 (v := .agg #[iv (j % 4 : Nat), iv (j / 4 : Nat)]) (by show rd cl (ol + (j : Int).toNat * 2) 2 true = _; rw [Int.toNat_natCast]; exact hc2) ?_
                  conv => whnf
                  repeat (first | ((with_reducible refine hK _ _ _ ?_); clear hK) | (with_reducible refine seq_step fun K hK => ?_) | (with_reducible refine block_step ?_) | ((with_reducible refine cond_t ?_ ?_); focus rfl) | ((with_reducible refine cond_f ?_ ?_); focus rfl) | ((with_reducible refine code_id ?_); conv => whnf) | (clear hK; (with_reducible refine hK _ _ _ ?_); clear hK) | (clear hK; clear hK; (with_reducible refine hK _ _ _ ?_); clear hK) | (clear hK; clear hK; clear hK; (with_reducible refine hK _ _ _ ?_); clear hK) | (clear hK; clear hK; clear hK; clear hK; (with_reducible refine hK _ _ _ ?_); clear hK) | (clear hK; clear hK; clear hK; clear hK; clear hK; (with_reducible refine hK _ _ _ ?_); clear hK) | (clear hK; clear hK; clear hK; clear hK; clear hK; clear hK; (with_reducible refine hK _ _ _ ?_); clear hK) | (clear hK; clear hK; clear hK; clear hK; clear hK; clear hK; clear hK; (with_reducible refine hK _ _ _ ?_); clear hK) | (refine ⟨_, _, SubH.refl _, SubB.refl _, ?_⟩; conv => whnf) | (refine ⟨⟨SubH.refl _, SubB.refl _⟩, ?_⟩; conv => whnf) | (refine ⟨_, _, ⟨SubH.refl _, SubB.refl _⟩, SubH.refl _, SubB.refl _, ?_⟩; conv => whnf))
                  by_cases d0 : j % 4 = 0
                  · rw [show (((j % 4 : Nat) : Int) == 0) = true by rw [d0]; rfl]
                    conv => whnf
                    repeat (first | ((with_reducible refine hK _ _ _ ?_); clear hK) | (with_reducible refine seq_step fun K hK => ?_) | (with_reducible refine block_step ?_) | ((with_reducible refine cond_t ?_ ?_); focus rfl) | ((with_reducible refine cond_f ?_ ?_); focus rfl) | ((with_reducible refine code_id ?_); conv => whnf) | (clear hK; (with_reducible refine hK _ _ _ ?_); clear hK) | (clear hK; clear hK; (with_reducible refine hK _ _ _ ?_); clear hK) | (clear hK; clear hK; clear hK; (with_reducible refine hK _ _ _ ?_); clear hK) | (clear hK; clear hK; clear hK; clear hK; (with_reducible refine hK _ _ _ ?_); clear hK) | (clear hK; clear hK; clear hK; clear hK; clear hK; (with_reducible refine hK _ _ _ ?_); clear hK) | (clear hK; clear hK; clear hK; clear hK; clear hK; clear hK; (with_reducible refine hK _ _ _ ?_); clear hK) | (clear hK; clear hK; clear hK; clear hK; clear hK; clear hK; clear hK; (with_reducible refine hK _ _ _ ?_); clear hK) | (refine ⟨_, _, SubH.refl _, SubB.refl _, ?_⟩; conv => whnf) | (refine ⟨⟨SubH.refl _, SubB.refl _⟩, ?_⟩; conv => whnf) | (refine ⟨_, _, ⟨SubH.refl _, SubB.refl _⟩, SubH.refl _, SubB.refl _, ?_⟩; conv => whnf))
                    exact ⟨(j + 1, g7), ⟨hjN, hg7.tail⟩, by dsimp only; omega, subE_cons rfl (subE_cons rfl (subE_cons rfl (subE_cons rfl (subE_cons rfl (subE_cons rfl (subE_cons (int_eq hnext3 rfl) subE_nil)))))), by
                      dsimp only
                      rw [prevT_succ, if_pos htj, lastT_succ, if_pos ⟨htj, .inl d0⟩]
                      exact subB_cons rfl (subB_cons rfl subB_nil), rfl⟩
                  rw [show (((j % 4 : Nat) : Int) == 0) = false from beq_eq_false_iff_ne.2 (by omega)]
                  conv => whnf
                  by_cases d3 : j % 4 = 3
                  · rw [show (((j % 4 : Nat) : Int) == 3) = true by rw [d3]; rfl]
                    conv => whnf
                    repeat (first | ((with_reducible refine hK _ _ _ ?_); clear hK) | (with_reducible refine seq_step fun K hK => ?_) | (with_reducible refine block_step ?_) | ((with_reducible refine cond_t ?_ ?_); focus rfl) | ((with_reducible refine cond_f ?_ ?_); focus rfl) | ((with_reducible refine code_id ?_); conv => whnf) | (clear hK; (with_reducible refine hK _ _ _ ?_); clear hK) | (clear hK; clear hK; (with_reducible refine hK _ _ _ ?_); clear hK) | (clear hK; clear hK; clear hK; (with_reducible refine hK _ _ _ ?_); clear hK) | (clear hK; clear hK; clear hK; clear hK; (with_reducible refine hK _ _ _ ?_); clear hK) | (clear hK; clear hK; clear hK; clear hK; clear hK; (with_reducible refine hK _ _ _ ?_); clear hK) | (clear hK; clear hK; clear hK; clear hK; clear hK; clear hK; (with_reducible refine hK _ _ _ ?_); clear hK) | (clear hK; clear hK; clear hK; clear hK; clear hK; clear hK; clear hK; (with_reducible refine hK _ _ _ ?_); clear hK) | (refine ⟨_, _, SubH.refl _, SubB.refl _, ?_⟩; conv => whnf) | (refine ⟨⟨SubH.refl _, SubB.refl _⟩, ?_⟩; conv => whnf) | (refine ⟨_, _, ⟨SubH.refl _, SubB.refl _⟩, SubH.refl _, SubB.refl _, ?_⟩; conv => whnf))
                    exact ⟨(j + 1, g7), ⟨hjN, hg7.tail⟩, by dsimp only; omega, subE_cons rfl (subE_cons rfl (subE_cons rfl (subE_cons rfl (subE_cons rfl (subE_cons rfl (subE_cons (int_eq hnext3 rfl) subE_nil)))))), by
                      dsimp only
                      rw [prevT_succ, if_pos htj, lastT_succ, if_pos ⟨htj, .inr d3⟩]
                      exact subB_cons rfl (subB_cons rfl subB_nil), rfl⟩
                  rw [show (((j % 4 : Nat) : Int) == 3) = false from beq_eq_false_iff_ne.2 (by omega)]
                  conv => whnf
                  repeat (first | ((with_reducible refine hK _ _ _ ?_); clear hK) | (with_reducible refine seq_step fun K hK => ?_) | (with_reducible refine block_step ?_) | ((with_reducible refine cond_t ?_ ?_); focus rfl) | ((with_reducible refine cond_f ?_ ?_); focus rfl) | ((with_reducible refine code_id ?_); conv => whnf) | (clear hK; (with_reducible refine hK _ _ _ ?_); clear hK) | (clear hK; clear hK; (with_reducible refine hK _ _ _ ?_); clear hK) | (clear hK; clear hK; clear hK; (with_reducible refine hK _ _ _ ?_); clear hK) | (clear hK; clear hK; clear hK; clear hK; (with_reducible refine hK _ _ _ ?_); clear hK) | (clear hK; clear hK; clear hK; clear hK; clear hK; (with_reducible refine hK _ _ _ ?_); clear hK) | (clear hK; clear hK; clear hK; clear hK; clear hK; clear hK; (with_reducible refine hK _ _ _ ?_); clear hK) | (clear hK; clear hK; clear hK; clear hK; clear hK; clear hK; clear hK; (with_reducible refine hK _ _ _ ?_); clear hK) | (refine ⟨_, _, SubH.refl _, SubB.refl _, ?_⟩; conv => whnf) | (refine ⟨⟨SubH.refl _, SubB.refl _⟩, ?_⟩; conv => whnf) | (refine ⟨_, _, ⟨SubH.refl _, SubB.refl _⟩, SubH.refl _, SubB.refl _, ?_⟩; conv => whnf))
                  exact ⟨(j + 1, g7), ⟨hjN, hg7.tail⟩, by dsimp only; omega, subE_cons rfl (subE_cons rfl (subE_cons rfl (subE_cons rfl (subE_cons rfl (subE_cons rfl (subE_cons (int_eq hnext3 rfl) subE_nil)))))), by
                    dsimp only
                    rw [prevT_succ, if_pos htj, lastT_succ, if_neg (fun e => e.2.elim d0 d3), hpl2]
                    exact subB_cons rfl (subB_cons rfl subB_nil), rfl⟩
                · refine ⟨rfl, ?_⟩
                  conv => whnf
                  refine ⟨⟨SubH.refl _, SubB.new rfl⟩, ?_⟩
                  conv => whnf
                  refine hl2.up14 (CapsA.rd hg7 3 rfl) (hnone.sub (hg7.is 4 rfl)) htj hv7 hpl2 ?_
                  conv => whnf
                  repeat (first | ((with_reducible refine hK _ _ _ ?_); clear hK) | (with_reducible refine seq_step fun K hK => ?_) | (with_reducible refine block_step ?_) | ((with_reducible refine cond_t ?_ ?_); focus rfl) | ((with_reducible refine cond_f ?_ ?_); focus rfl) | ((with_reducible refine code_id ?_); conv => whnf) | (clear hK; (with_reducible refine hK _ _ _ ?_); clear hK) | (clear hK; clear hK; (with_reducible refine hK _ _ _ ?_); clear hK) | (clear hK; clear hK; clear hK; (with_reducible refine hK _ _ _ ?_); clear hK) | (clear hK; clear hK; clear hK; clear hK; (with_reducible refine hK _ _ _ ?_); clear hK) | (clear hK; clear hK; clear hK; clear hK; clear hK; (with_reducible refine hK _ _ _ ?_); clear hK) | (clear hK; clear hK; clear hK; clear hK; clear hK; clear hK; (with_reducible refine hK _ _ _ ?_); clear hK) | (clear hK; clear hK; clear hK; clear hK; clear hK; clear hK; clear hK; (with_reducible refine hK _ _ _ ?_); clear hK) | (refine ⟨_, _, SubH.refl _, SubB.refl _, ?_⟩; conv => whnf) | (refine ⟨⟨SubH.refl _, SubB.refl _⟩, ?_⟩; conv => whnf) | (refine ⟨_, _, ⟨SubH.refl _, SubB.refl _⟩, SubH.refl _, SubB.refl _, ?_⟩; conv => whnf))
                  rw [show ((x1 == x1) && ((y1 == y1) && true)) = true by simp]
                  conv => whnf
                  rw [show ((x2 == x2) && ((y2 == y2) && true)) = true by simp]
                  conv => whnf
                  repeat (first | ((with_reducible refine hK _ _ _ ?_); clear hK) | (with_reducible refine seq_step fun K hK => ?_) | (with_reducible refine block_step ?_) | ((with_reducible refine cond_t ?_ ?_); focus rfl) | ((with_reducible refine cond_f ?_ ?_); focus rfl) | ((with_reducible refine code_id ?_); conv => whnf) | (clear hK; (with_reducible refine hK _ _ _ ?_); clear hK) | (clear hK; clear hK; (with_reducible refine hK _ _ _ ?_); clear hK) | (clear hK; clear hK; clear hK; (with_reducible refine hK _ _ _ ?_); clear hK) | (clear hK; clear hK; clear hK; clear hK; (with_reducible refine hK _ _ _ ?_); clear hK) | (clear hK; clear hK; clear hK; clear hK; clear hK; (with_reducible refine hK _ _ _ ?_); clear hK) | (clear hK; clear hK; clear hK; clear hK; clear hK; clear hK; (with_reducible refine hK _ _ _ ?_); clear hK) | (clear hK; clear hK; clear hK; clear hK; clear hK; clear hK; clear hK; (with_reducible refine hK _ _ _ ?_); clear hK) | (refine ⟨_, _, SubH.refl _, SubB.refl _, ?_⟩; conv => whnf) | (refine ⟨⟨SubH.refl _, SubB.refl _⟩, ?_⟩; conv => whnf) | (refine ⟨_, _, ⟨SubH.refl _, SubB.refl _⟩, SubH.refl _, SubB.refl _, ?_⟩; conv => whnf))
                  refine opt_if ⟨by omega, by omega⟩ ?_
                  conv => whnf
                  refine opt_ld hbl7 (v := .agg #[iv (j % 4 : Nat), iv (j / 4 : Nat)]) (by show rd cl (ol + (j : Int).toNat * 2) 2 true = _; rw [Int.toNat_natCast]; exact hc2) ?_
                  conv => whnf
                  repeat (first | ((with_reducible refine hK _ _ _ ?_); clear hK) | (with_reducible refine seq_step fun K hK => ?_) | (with_reducible refine block_step ?_) | ((with_reducible refine cond_t ?_ ?_); focus rfl) | ((with_reducible refine cond_f ?_ ?_); focus rfl) | ((with_reducible refine code_id ?_); conv => whnf) | (clear hK; (with_reducible refine hK _ _ _ ?_); clear hK) | (clear hK; clear hK; (with_reducible refine hK _ _ _ ?_); clear hK) | (clear hK; clear hK; clear hK; (with_reducible refine hK _ _ _ ?_); clear hK) | (clear hK; clear hK; clear hK; clear hK; (with_reducible refine hK _ _ _ ?_); clear hK) | (clear hK; clear hK; clear hK; clear hK; clear hK; (with_reducible refine hK _ _ _ ?_); clear hK) | (clear hK; clear hK; clear hK; clear hK; clear hK; clear hK; (with_reducible refine hK _ _ _ ?_); clear hK) | (clear hK; clear hK; clear hK; clear hK; clear hK; clear hK; clear hK; (with_reducible refine hK _ _ _ ?_); clear hK) | (refine ⟨_, _, SubH.refl _, SubB.refl _, ?_⟩; conv => whnf) | (refine ⟨⟨SubH.refl _, SubB.refl _⟩, ?_⟩; conv => whnf) | (refine ⟨_, _, ⟨SubH.refl _, SubB.refl _⟩, SubH.refl _, SubB.refl _, ?_⟩; conv => whnf))
                  by_cases d0 : j % 4 = 0
                  · rw [show (((j % 4 : Nat) : Int) == 0) = true by rw [d0]; rfl]
                    conv => whnf
                    repeat (first | ((with_reducible refine hK _ _ _ ?_); clear hK) | (with_reducible refine seq_step fun K hK => ?_) | (with_reducible refine block_step ?_) | ((with_reducible refine cond_t ?_ ?_); focus rfl) | ((with_reducible refine cond_f ?_ ?_); focus rfl) | ((with_reducible refine code_id ?_); conv => whnf) | (clear hK; (with_reducible refine hK _ _ _ ?_); clear hK) | (clear hK; clear hK; (with_reducible refine hK _ _ _ ?_); clear hK) | (clear hK; clear hK; clear hK; (with_reducible refine hK _ _ _ ?_); clear hK) | (clear hK; clear hK; clear hK; clear hK; (with_reducible refine hK _ _ _ ?_); clear hK) | (clear hK; clear hK; clear hK; clear hK; clear hK; (with_reducible refine hK _ _ _ ?_); clear hK) | (clear hK; clear hK; clear hK; clear hK; clear hK; clear hK; (with_reducible refine hK _ _ _ ?_); clear hK) | (clear hK; clear hK; clear hK; clear hK; clear hK; clear hK; clear hK; (with_reducible refine hK _ _ _ ?_); clear hK) | (refine ⟨_, _, SubH.refl _, SubB.refl _, ?_⟩; conv => whnf) | (refine ⟨⟨SubH.refl _, SubB.refl _⟩, ?_⟩; conv => whnf) | (refine ⟨_, _, ⟨SubH.refl _, SubB.refl _⟩, SubH.refl _, SubB.refl _, ?_⟩; conv => whnf))
                    exact ⟨(j + 1, g7), ⟨hjN, hg7.tail⟩, by dsimp only; omega, subE_cons rfl (subE_cons rfl (subE_cons rfl (subE_cons rfl (subE_cons rfl (subE_cons rfl (subE_cons (int_eq hnext3 rfl) subE_nil)))))), by
                      dsimp only
                      rw [prevT_succ, if_pos htj, lastT_succ, if_pos ⟨htj, .inl d0⟩]
                      exact subB_cons rfl (subB_cons rfl subB_nil), rfl⟩
                  rw [show (((j % 4 : Nat) : Int) == 0) = false from beq_eq_false_iff_ne.2 (by omega)]
                  conv => whnf
                  by_cases d3 : j % 4 = 3
                  · rw [show (((j % 4 : Nat) : Int) == 3) = true by rw [d3]; rfl]
                    conv => whnf
                    repeat (first | ((with_reducible refine hK _ _ _ ?_); clear hK) | (with_reducible refine seq_step fun K hK => ?_) | (with_reducible refine block_step ?_) | ((with_reducible refine cond_t ?_ ?_); focus rfl) | ((with_reducible refine cond_f ?_ ?_); focus rfl) | ((with_reducible refine code_id ?_); conv => whnf) | (clear hK; (with_reducible refine hK _ _ _ ?_); clear hK) | (clear hK; clear hK; (with_reducible refine hK _ _ _ ?_); clear hK) | (clear hK; clear hK; clear hK; (with_reducible refine hK _ _ _ ?_); clear hK) | (clear hK; clear hK; clear hK; clear hK; (with_reducible refine hK _ _ _ ?_); clear hK) | (clear hK; clear hK; clear hK; clear hK; clear hK; (with_reducible refine hK _ _ _ ?_); clear hK) | (clear hK; clear hK; clear hK; clear hK; clear hK; clear hK; (with_reducible refine hK _ _ _ ?_); clear hK) | (clear hK; clear hK; clear hK; clear hK; clear hK; clear hK; clear hK; (with_reducible refine hK _ _ _ ?_); clear hK) | (refine ⟨_, _, SubH.refl _, SubB.refl _, ?_⟩; conv => whnf) | (refine ⟨⟨SubH.refl _, SubB.refl _⟩, ?_⟩; conv => whnf) | (refine ⟨_, _, ⟨SubH.refl _, SubB.refl _⟩, SubH.refl _, SubB.refl _, ?_⟩; conv => whnf))
                    exact ⟨(j + 1, g7), ⟨hjN, hg7.tail⟩, by dsimp only; omega, subE_cons rfl (subE_cons rfl (subE_cons rfl (subE_cons rfl (subE_cons rfl (subE_cons rfl (subE_cons (int_eq hnext3 rfl) subE_nil)))))), by
                      dsimp only
                      rw [prevT_succ, if_pos htj, lastT_succ, if_pos ⟨htj, .inr d3⟩]
                      exact subB_cons rfl (subB_cons rfl subB_nil), rfl⟩
                  rw [show (((j % 4 : Nat) : Int) == 3) = false from beq_eq_false_iff_ne.2 (by omega)]
                  conv => whnf
                  repeat (first | ((with_reducible refine hK _ _ _ ?_); clear hK) | (with_reducible refine seq_step fun K hK => ?_) | (with_reducible refine block_step ?_) | ((with_reducible refine cond_t ?_ ?_); focus rfl) | ((with_reducible refine cond_f ?_ ?_); focus rfl) | ((with_reducible refine code_id ?_); conv => whnf) | (clear hK; (with_reducible refine hK _ _ _ ?_); clear hK) | (clear hK; clear hK; (with_reducible refine hK _ _ _ ?_); clear hK) | (clear hK; clear hK; clear hK; (with_reducible refine hK _ _ _ ?_); clear hK) | (clear hK; clear hK; clear hK; clear hK; (with_reducible refine hK _ _ _ ?_); clear hK) | (clear hK; clear hK; clear hK; clear hK; clear hK; (with_reducible refine hK _ _ _ ?_); clear hK) | (clear hK; clear hK; clear hK; clear hK; clear hK; clear hK; (with_reducible refine hK _ _ _ ?_); clear hK) | (clear hK; clear hK; clear hK; clear hK; clear hK; clear hK; clear hK; (with_reducible refine hK _ _ _ ?_); clear hK) | (refine ⟨_, _, SubH.refl _, SubB.refl _, ?_⟩; conv => whnf) | (refine ⟨⟨SubH.refl _, SubB.refl _⟩, ?_⟩; conv => whnf) | (refine ⟨_, _, ⟨SubH.refl _, SubB.refl _⟩, SubH.refl _, SubB.refl _, ?_⟩; conv => whnf))
                  exact ⟨(j + 1, g7), ⟨hjN, hg7.tail⟩, by dsimp only; omega, subE_cons rfl (subE_cons rfl (subE_cons rfl (subE_cons rfl (subE_cons rfl (subE_cons rfl (subE_cons (int_eq hnext3 rfl) subE_nil)))))), by
                    dsimp only
                    rw [prevT_succ, if_pos htj, lastT_succ, if_neg (fun e => e.2.elim d0 d3), hpl2]
                    exact subB_cons rfl (subB_cons rfl subB_nil), rfl⟩
              · refine ⟨rfl, ?_⟩
                conv => whnf
                refine ⟨_, _, ⟨SubH.refl _, SubB.new rfl⟩, SubH.refl _, SubB.refl _, ?_⟩
                conv => whnf
                refine fresh_has hg5 fun b7 g7 _ _ hs7 hg7 => ?_
                have hv7 : Vw 1 g7 (.slice (some ⟨b7, 0, none⟩) 2 2) 2 [iv 3, iv 0] := (pt_wn (e := 1) (n := 2) (cap := 2) (cs := [iv 3, iv 0]) rfl (Nat.le_refl _) rfl (hg7.pt 0 rfl)).vw
                have hbl7 := hs7 _ _ hbl
                conv => whnf
                refine ⟨⟨hs7, SubB.refl _⟩, ?_⟩
                conv => whnf
                refine hl2.up14 (CapsA.rd hg7 3 rfl) (hnone.sub (hg7.is 4 rfl)) htj hv7 hpl2 ?_
                conv => whnf
                repeat (first | ((with_reducible refine hK _ _ _ ?_); clear hK) | (with_reducible refine seq_step fun K hK => ?_) | (with_reducible refine block_step ?_) | ((with_reducible refine cond_t ?_ ?_); focus rfl) | ((with_reducible refine cond_f ?_ ?_); focus rfl) | ((with_reducible refine code_id ?_); conv => whnf) | (clear hK; (with_reducible refine hK _ _ _ ?_); clear hK) | (clear hK; clear hK; (with_reducible refine hK _ _ _ ?_); clear hK) | (clear hK; clear hK; clear hK; (with_reducible refine hK _ _ _ ?_); clear hK) | (clear hK; clear hK; clear hK; clear hK; (with_reducible refine hK _ _ _ ?_); clear hK) | (clear hK; clear hK; clear hK; clear hK; clear hK; (with_reducible refine hK _ _ _ ?_); clear hK) | (clear hK; clear hK; clear hK; clear hK; clear hK; clear hK; (with_reducible refine hK _ _ _ ?_); clear hK) | (clear hK; clear hK; clear hK; clear hK; clear hK; clear hK; clear hK; (with_reducible refine hK _ _ _ ?_); clear hK) | (refine ⟨_, _, SubH.refl _, SubB.refl _, ?_⟩; conv => whnf) | (refine ⟨⟨SubH.refl _, SubB.refl _⟩, ?_⟩; conv => whnf) | (refine ⟨_, _, ⟨SubH.refl _, SubB.refl _⟩, SubH.refl _, SubB.refl _, ?_⟩; conv => whnf))
                rw [show ((x1 == x1) && ((y1 == y1) && true)) = true by simp]
                conv => whnf
                rw [show ((x2 == x2) && ((y2 == y2) && true)) = true by simp]
                conv => whnf
                repeat (first | ((with_reducible refine hK _ _ _ ?_); clear hK) | (with_reducible refine seq_step fun K hK => ?_) | (with_reducible refine block_step ?_) | ((with_reducible refine cond_t ?_ ?_); focus rfl) | ((with_reducible refine cond_f ?_ ?_); focus rfl) | ((with_reducible refine code_id ?_); conv => whnf) | (clear hK; (with_reducible refine hK _ _ _ ?_); clear hK) | (clear hK; clear hK; (with_reducible refine hK _ _ _ ?_); clear hK) | (clear hK; clear hK; clear hK; (with_reducible refine hK _ _ _ ?_); clear hK) | (clear hK; clear hK; clear hK; clear hK; (with_reducible refine hK _ _ _ ?_); clear hK) | (clear hK; clear hK; clear hK; clear hK; clear hK; (with_reducible refine hK _ _ _ ?_); clear hK) | (clear hK; clear hK; clear hK; clear hK; clear hK; clear hK; (with_reducible refine hK _ _ _ ?_); clear hK) | (clear hK; clear hK; clear hK; clear hK; clear hK; clear hK; clear hK; (with_reducible refine hK _ _ _ ?_); clear hK) | (refine ⟨_, _, SubH.refl _, SubB.refl _, ?_⟩; conv => whnf) | (refine ⟨⟨SubH.refl _, SubB.refl _⟩, ?_⟩; conv => whnf) | (refine ⟨_, _, ⟨SubH.refl _, SubB.refl _⟩, SubH.refl _, SubB.refl _, ?_⟩; conv => whnf))
                refine opt_if ⟨by omega, by omega⟩ ?_
                conv => whnf
                refine opt_ld hbl7 (v := .agg #[iv (j % 4 : Nat), iv (j / 4 : Nat)]) (by show rd cl (ol + (j : Int).toNat * 2) 2 true = _; rw [Int.toNat_natCast]; exact hc2) ?_
                conv => whnf
                repeat (first | ((with_reducible refine hK _ _ _ ?_); clear hK) | (with_reducible refine seq_step fun K hK => ?_) | (with_reducible refine block_step ?_) | ((with_reducible refine cond_t ?_ ?_); focus rfl) | ((with_reducible refine cond_f ?_ ?_); focus rfl) | ((with_reducible refine code_id ?_); conv => whnf) | (clear hK; (with_reducible refine hK _ _ _ ?_); clear hK) | (clear hK; clear hK; (with_reducible refine hK _ _ _ ?_); clear hK) | (clear hK; clear hK; clear hK; (with_reducible refine hK _ _ _ ?_); clear hK) | (clear hK; clear hK; clear hK; clear hK; (with_reducible refine hK _ _ _ ?_); clear hK) | (clear hK; clear hK; clear hK; clear hK; clear hK; (with_reducible refine hK _ _ _ ?_); clear hK) | (clear hK; clear hK; clear hK; clear hK; clear hK; clear hK; (with_reducible refine hK _ _ _ ?_); clear hK) | (clear hK; clear hK; clear hK; clear hK; clear hK; clear hK; clear hK; (with_reducible refine hK _ _ _ ?_); clear hK) | (refine ⟨_, _, SubH.refl _, SubB.refl _, ?_⟩; conv => whnf) | (refine ⟨⟨SubH.refl _, SubB.refl _⟩, ?_⟩; conv => whnf) | (refine ⟨_, _, ⟨SubH.refl _, SubB.refl _⟩, SubH.refl _, SubB.refl _, ?_⟩; conv => whnf))
                by_cases d0 : j % 4 = 0
                · rw [show (((j % 4 : Nat) : Int) == 0) = true by rw [d0]; rfl]
                  conv => whnf
                  repeat (first | ((with_reducible refine hK _ _ _ ?_); clear hK) | (with_reducible refine seq_step fun K hK => ?_) | (with_reducible refine block_step ?_) | ((with_reducible refine cond_t ?_ ?_); focus rfl) | ((with_reducible refine cond_f ?_ ?_); focus rfl) | ((with_reducible refine code_id ?_); conv => whnf) | (clear hK; (with_reducible refine hK _ _ _ ?_); clear hK) | (clear hK; clear hK; (with_reducible refine hK _ _ _ ?_); clear hK) | (clear hK; clear hK; clear hK; (with_reducible refine hK _ _ _ ?_); clear hK) | (clear hK; clear hK; clear hK; clear hK; (with_reducible refine hK _ _ _ ?_); clear hK) | (clear hK; clear hK; clear hK; clear hK; clear hK; (with_reducible refine hK _ _ _ ?_); clear hK) | (clear hK; clear hK; clear hK; clear hK; clear hK; clear hK; (with_reducible refine hK _ _ _ ?_); clear hK) | (clear hK; clear hK; clear hK; clear hK; clear hK; clear hK; clear hK; (with_reducible refine hK _ _ _ ?_); clear hK) | (refine ⟨_, _, SubH.refl _, SubB.refl _, ?_⟩; conv => whnf) | (refine ⟨⟨SubH.refl _, SubB.refl _⟩, ?_⟩; conv => whnf) | (refine ⟨_, _, ⟨SubH.refl _, SubB.refl _⟩, SubH.refl _, SubB.refl _, ?_⟩; conv => whnf))
                  exact ⟨(j + 1, g7), ⟨hjN, hg7.tail⟩, by dsimp only; omega, subE_cons rfl (subE_cons rfl (subE_cons rfl (subE_cons rfl (subE_cons rfl (subE_cons rfl (subE_cons (int_eq hnext3 rfl) subE_nil)))))), by
                    dsimp only
                    rw [prevT_succ, if_pos htj, lastT_succ, if_pos ⟨htj, .inl d0⟩]
                    exact subB_cons rfl (subB_cons rfl subB_nil), rfl⟩
                rw [show (((j % 4 : Nat) : Int) == 0) = false from beq_eq_false_iff_ne.2 (by omega)]
                conv => whnf
                by_cases d3 : j % 4 = 3
                · rw [show (((j % 4 : Nat) : Int) == 3) = true by rw [d3]; rfl]
                  conv => whnf
                  repeat (first | ((with_reducible refine hK _ _ _ ?_); clear hK) | (with_reducible refine seq_step fun K hK => ?_) | (with_reducible refine block_step ?_) | ((with_reducible refine cond_t ?_ ?_); focus rfl) | ((with_reducible refine cond_f ?_ ?_); focus rfl) | ((with_reducible refine code_id ?_); conv => whnf) | (clear hK; (with_reducible refine hK _ _ _ ?_); clear hK) | (clear hK; clear hK; (with_reducible refine hK _ _ _ ?_); clear hK) | (clear hK; clear hK; clear hK; (with_reducible refine hK _ _ _ ?_); clear hK) | (clear hK; clear hK; clear hK; clear hK; (with_reducible refine hK _ _ _ ?_); clear hK) | (clear hK; clear hK; clear hK; clear hK; clear hK; (with_reducible refine hK _ _ _ ?_); clear hK) | (clear hK; clear hK; clear hK; clear hK; clear hK; clear hK; (with_reducible refine hK _ _ _ ?_); clear hK) | (clear hK; clear hK; clear hK; clear hK; clear hK; clear hK; clear hK; (with_reducible refine hK _ _ _ ?_); clear hK) | (refine ⟨_, _, SubH.refl _, SubB.refl _, ?_⟩; conv => whnf) | (refine ⟨⟨SubH.refl _, SubB.refl _⟩, ?_⟩; conv => whnf) | (refine ⟨_, _, ⟨SubH.refl _, SubB.refl _⟩, SubH.refl _, SubB.refl _, ?_⟩; conv => whnf))
                  exact ⟨(j + 1, g7), ⟨hjN, hg7.tail⟩, by dsimp only; omega, subE_cons rfl (subE_cons rfl (subE_cons rfl (subE_cons rfl (subE_cons rfl (subE_cons rfl (subE_cons (int_eq hnext3 rfl) subE_nil)))))), by
                    dsimp only
                    rw [prevT_succ, if_pos htj, lastT_succ, if_pos ⟨htj, .inr d3⟩]
                    exact subB_cons rfl (subB_cons rfl subB_nil), rfl⟩
                rw [show (((j % 4 : Nat) : Int) == 3) = false from beq_eq_false_iff_ne.2 (by omega)]
                conv => whnf
                repeat (first | ((with_reducible refine hK _ _ _ ?_); clear hK) | (with_reducible refine seq_step fun K hK => ?_) | (with_reducible refine block_step ?_) | ((with_reducible refine cond_t ?_ ?_); focus rfl) | ((with_reducible refine cond_f ?_ ?_); focus rfl) | ((with_reducible refine code_id ?_); conv => whnf) | (clear hK; (with_reducible refine hK _ _ _ ?_); clear hK) | (clear hK; clear hK; (with_reducible refine hK _ _ _ ?_); clear hK) | (clear hK; clear hK; clear hK; (with_reducible refine hK _ _ _ ?_); clear hK) | (clear hK; clear hK; clear hK; clear hK; (with_reducible refine hK _ _ _ ?_); clear hK) | (clear hK; clear hK; clear hK; clear hK; clear hK; (with_reducible refine hK _ _ _ ?_); clear hK) | (clear hK; clear hK; clear hK; clear hK; clear hK; clear hK; (with_reducible refine hK _ _ _ ?_); clear hK) | (clear hK; clear hK; clear hK; clear hK; clear hK; clear hK; clear hK; (with_reducible refine hK _ _ _ ?_); clear hK) | (refine ⟨_, _, SubH.refl _, SubB.refl _, ?_⟩; conv => whnf) | (refine ⟨⟨SubH.refl _, SubB.refl _⟩, ?_⟩; conv => whnf) | (refine ⟨_, _, ⟨SubH.refl _, SubB.refl _⟩, SubH.refl _, SubB.refl _, ?_⟩; conv => whnf))
                exact ⟨(j + 1, g7), ⟨hjN, hg7.tail⟩, by dsimp only; omega, subE_cons rfl (subE_cons rfl (subE_cons rfl (subE_cons rfl (subE_cons rfl (subE_cons rfl (subE_cons (int_eq hnext3 rfl) subE_nil)))))), by
                  dsimp only
                  rw [prevT_succ, if_pos htj, lastT_succ, if_neg (fun e => e.2.elim d0 d3), hpl2]
                  exact subB_cons rfl (subB_cons rfl subB_nil), rfl⟩
            · refine ⟨rfl, ?_⟩
              conv => whnf
              refine ⟨⟨SubH.refl _, SubB.new rfl⟩, ?_⟩
              conv => whnf
              refine hl2.from13 (CapsA.rd hg5 2 rfl) (hnone.sub (hg5.is 3 rfl)) htj hpl1 ?_
              conv => whnf
              repeat (first | ((with_reducible refine hK _ _ _ ?_); clear hK) | (with_reducible refine seq_step fun K hK => ?_) | (with_reducible refine block_step ?_) | ((with_reducible refine cond_t ?_ ?_); focus rfl) | ((with_reducible refine cond_f ?_ ?_); focus rfl) | ((with_reducible refine code_id ?_); conv => whnf) | (clear hK; (with_reducible refine hK _ _ _ ?_); clear hK) | (clear hK; clear hK; (with_reducible refine hK _ _ _ ?_); clear hK) | (clear hK; clear hK; clear hK; (with_reducible refine hK _ _ _ ?_); clear hK) | (clear hK; clear hK; clear hK; clear hK; (with_reducible refine hK _ _ _ ?_); clear hK) | (clear hK; clear hK; clear hK; clear hK; clear hK; (with_reducible refine hK _ _ _ ?_); clear hK) | (clear hK; clear hK; clear hK; clear hK; clear hK; clear hK; (with_reducible refine hK _ _ _ ?_); clear hK) | (clear hK; clear hK; clear hK; clear hK; clear hK; clear hK; clear hK; (with_reducible refine hK _ _ _ ?_); clear hK) | (refine ⟨_, _, SubH.refl _, SubB.refl _, ?_⟩; conv => whnf) | (refine ⟨⟨SubH.refl _, SubB.refl _⟩, ?_⟩; conv => whnf) | (refine ⟨_, _, ⟨SubH.refl _, SubB.refl _⟩, SubH.refl _, SubB.refl _, ?_⟩; conv => whnf))
              refine opt_if ⟨by omega, by omega⟩ ?_
              conv => whnf
              refine opt_ld hbl (v := iv (j % 4 : Nat)) (by show cl[ol + (j : Int).toNat * 2]? = _; rw [Int.toNat_natCast]; exact hc0) ?_
              conv => whnf
              refine opt_if ⟨by omega, by omega⟩ ?_
              conv => whnf
              refine opt_ld hbl (v := iv (j / 4 : Nat)) (by show cl[ol + (j : Int).toNat * 2 + 1]? = _; rw [Int.toNat_natCast]; exact hc1) ?_
              conv => whnf
              refine ⟨?_, ?_⟩
              · refine fresh_has hg5 fun b7 g7 _ _ hs7 hg7 => ?_
                have hv7 : Vw 1 g7 (.slice (some ⟨b7, 0, none⟩) 2 2) 2 [iv 3, iv 0] := (pt_wn (e := 1) (n := 2) (cap := 2) (cs := [iv 3, iv 0]) rfl (Nat.le_refl _) rfl (hg7.pt 0 rfl)).vw
                have hbl7 := hs7 _ _ hbl
                conv => whnf
                refine ⟨g7, _, ⟨hs7, SubB.refl _⟩, SubH.refl _, SubB.refl _, ?_⟩
                conv => whnf
                refine ⟨?_, ?_⟩
                · refine hl2.up14 (CapsA.rd hg7 3 rfl) (hnone.sub (hg7.is 4 rfl)) htj hv7 hpl2 ?_
                  conv => whnf
                  refine ⟨_, _, SubH.refl _, SubB.refl _, ?_⟩
                  conv => whnf
                  refine ⟨rfl, ?_⟩
                  conv => whnf
                  refine ⟨⟨SubH.refl _, SubB.new rfl⟩, ?_⟩
                  conv => whnf
                  repeat (first | ((with_reducible refine hK _ _ _ ?_); clear hK) | (with_reducible refine seq_step fun K hK => ?_) | (with_reducible refine block_step ?_) | ((with_reducible refine cond_t ?_ ?_); focus rfl) | ((with_reducible refine cond_f ?_ ?_); focus rfl) | ((with_reducible refine code_id ?_); conv => whnf) | (clear hK; (with_reducible refine hK _ _ _ ?_); clear hK) | (clear hK; clear hK; (with_reducible refine hK _ _ _ ?_); clear hK) | (clear hK; clear hK; clear hK; (with_reducible refine hK _ _ _ ?_); clear hK) | (clear hK; clear hK; clear hK; clear hK; (with_reducible refine hK _ _ _ ?_); clear hK) | (clear hK; clear hK; clear hK; clear hK; clear hK; (with_reducible refine hK _ _ _ ?_); clear hK) | (clear hK; clear hK; clear hK; clear hK; clear hK; clear hK; (with_reducible refine hK _ _ _ ?_); clear hK) | (clear hK; clear hK; clear hK; clear hK; clear hK; clear hK; clear hK; (with_reducible refine hK _ _ _ ?_); clear hK) | (refine ⟨_, _, SubH.refl _, SubB.refl _, ?_⟩; conv => whnf) | (refine ⟨⟨SubH.refl _, SubB.refl _⟩, ?_⟩; conv => whnf) | (refine ⟨_, _, ⟨SubH.refl _, SubB.refl _⟩, SubH.refl _, SubB.refl _, ?_⟩; conv => whnf))
                  rw [show ((x1 == x1) && ((y1 == y1) && true)) = true by simp]
                  conv => whnf
                  rw [show ((x2 == x2) && ((y2 == y2) && true)) = true by simp]
                  conv => whnf
                  repeat (first | ((with_reducible refine hK _ _ _ ?_); clear hK) | (with_reducible refine seq_step fun K hK => ?_) | (with_reducible refine block_step ?_) | ((with_reducible refine cond_t ?_ ?_); focus rfl) | ((with_reducible refine cond_f ?_ ?_); focus rfl) | ((with_reducible refine code_id ?_); conv => whnf) | (clear hK; (with_reducible refine hK _ _ _ ?_); clear hK) | (clear hK; clear hK; (with_reducible refine hK _ _ _ ?_); clear hK) | (clear hK; clear hK; clear hK; (with_reducible refine hK _ _ _ ?_); clear hK) | (clear hK; clear hK; clear hK; clear hK; (with_reducible refine hK _ _ _ ?_); clear hK) | (clear hK; clear hK; clear hK; clear hK; clear hK; (with_reducible refine hK _ _ _ ?_); clear hK) | (clear hK; clear hK; clear hK; clear hK; clear hK; clear hK; (with_reducible refine hK _ _ _ ?_); clear hK) | (clear hK; clear hK; clear hK; clear hK; clear hK; clear hK; clear hK; (with_reducible refine hK _ _ _ ?_); clear hK) | (refine ⟨_, _, SubH.refl _, SubB.refl _, ?_⟩; conv => whnf) | (refine ⟨⟨SubH.refl _, SubB.refl _⟩, ?_⟩; conv => whnf) | (refine ⟨_, _, ⟨SubH.refl _, SubB.refl _⟩, SubH.refl _, SubB.refl _, ?_⟩; conv => whnf))
                  refine opt_if ⟨by omega, by omega⟩ ?_
                  conv => whnf
                  refine opt_ld hbl7 (v := .agg #[iv (j % 4 : Nat), iv (j / 4 : Nat)]) (by show rd cl (ol + (j : Int).toNat * 2) 2 true = _; rw [Int.toNat_natCast]; exact hc2) ?_
                  conv => whnf
                  repeat (first | ((with_reducible refine hK _ _ _ ?_); clear hK) | (with_reducible refine seq_step fun K hK => ?_) | (with_reducible refine block_step ?_) | ((with_reducible refine cond_t ?_ ?_); focus rfl) | ((with_reducible refine cond_f ?_ ?_); focus rfl) | ((with_reducible refine code_id ?_); conv => whnf) | (clear hK; (with_reducible refine hK _ _ _ ?_); clear hK) | (clear hK; clear hK; (with_reducible refine hK _ _ _ ?_); clear hK) | (clear hK; clear hK; clear hK; (with_reducible refine hK _ _ _ ?_); clear hK) | (clear hK; clear hK; clear hK; clear hK; (with_reducible refine hK _ _ _ ?_); clear hK) | (clear hK; clear hK; clear hK; clear hK; clear hK; (with_reducible refine hK _ _ _ ?_); clear hK) | (clear hK; clear hK; clear hK; clear hK; clear hK; clear hK; (with_reducible refine hK _ _ _ ?_); clear hK) | (clear hK; clear hK; clear hK; clear hK; clear hK; clear hK; clear hK; (with_reducible refine hK _ _ _ ?_); clear hK) | (refine ⟨_, _, SubH.refl _, SubB.refl _, ?_⟩; conv => whnf) | (refine ⟨⟨SubH.refl _, SubB.refl _⟩, ?_⟩; conv => whnf) | (refine ⟨_, _, ⟨SubH.refl _, SubB.refl _⟩, SubH.refl _, SubB.refl _, ?_⟩; conv => whnf))
                  by_cases d0 : j % 4 = 0
                  · rw [show (((j % 4 : Nat) : Int) == 0) = true by rw [d0]; rfl]
                    conv => whnf
                    repeat (first | ((with_reducible refine hK _ _ _ ?_); clear hK) | (with_reducible refine seq_step fun K hK => ?_) | (with_reducible refine block_step ?_) | ((with_reducible refine cond_t ?_ ?_); focus rfl) | ((with_reducible refine cond_f ?_ ?_); focus rfl) | ((with_reducible refine code_id ?_); conv => whnf) | (clear hK; (with_reducible refine hK _ _ _ ?_); clear hK) | (clear hK; clear hK; (with_reducible refine hK _ _ _ ?_); clear hK) | (clear hK; clear hK; clear hK; (with_reducible refine hK _ _ _ ?_); clear hK) | (clear hK; clear hK; clear hK; clear hK; (with_reducible refine hK _ _ _ ?_); clear hK) | (clear hK; clear hK; clear hK; clear hK; clear hK; (with_reducible refine hK _ _ _ ?_); clear hK) | (clear hK; clear hK; clear hK; clear hK; clear hK; clear hK; (with_reducible refine hK _ _ _ ?_); clear hK) | (clear hK; clear hK; clear hK; clear hK; clear hK; clear hK; clear hK; (with_reducible refine hK _ _ _ ?_); clear hK) | (refine ⟨_, _, SubH.refl _, SubB.refl _, ?_⟩; conv => whnf) | (refine ⟨⟨SubH.refl _, SubB.refl _⟩, ?_⟩; conv => whnf) | (refine ⟨_, _, ⟨SubH.refl _, SubB.refl _⟩, SubH.refl _, SubB.refl _, ?_⟩; conv => whnf))
                    exact ⟨(j + 1, g7), ⟨hjN, hg7.tail⟩, by dsimp only; omega, subE_cons rfl (subE_cons rfl (subE_cons rfl (subE_cons rfl (subE_cons rfl (subE_cons rfl (subE_cons (int_eq hnext3 rfl) subE_nil)))))), by
                      dsimp only
                      rw [prevT_succ, if_pos htj, lastT_succ, if_pos ⟨htj, .inl d0⟩]
                      exact subB_cons rfl (subB_cons rfl subB_nil), rfl⟩
                  rw [show (((j % 4 : Nat) : Int) == 0) = false from beq_eq_false_iff_ne.2 (by omega)]
                  conv => whnf
                  by_cases d3 : j % 4 = 3
                  · rw [show (((j % 4 : Nat) : Int) == 3) = true by rw [d3]; rfl]
                    conv => whnf
                    repeat (first | ((with_reducible refine hK _ _ _ ?_); clear hK) | (with_reducible refine seq_step fun K hK => ?_) | (with_reducible refine block_step ?_) | ((with_reducible refine cond_t ?_ ?_); focus rfl) | ((with_reducible refine cond_f ?_ ?_); focus rfl) | ((with_reducible refine code_id ?_); conv => whnf) | (clear hK; (with_reducible refine hK _ _ _ ?_); clear hK) | (clear hK; clear hK; (with_reducible refine hK _ _ _ ?_); clear hK) | (clear hK; clear hK; clear hK; (with_reducible refine hK _ _ _ ?_); clear hK) | (clear hK; clear hK; clear hK; clear hK; (with_reducible refine hK _ _ _ ?_); clear hK) | (clear hK; clear hK; clear hK; clear hK; clear hK; (with_reducible refine hK _ _ _ ?_); clear hK) | (clear hK; clear hK; clear hK; clear hK; clear hK; clear hK; (with_reducible refine hK _ _ _ ?_); clear hK) | (clear hK; clear hK; clear hK; clear hK; clear hK; clear hK; clear hK; (with_reducible refine hK _ _ _ ?_); clear hK) | (refine ⟨_, _, SubH.refl _, SubB.refl _, ?_⟩; conv => whnf) | (refine ⟨⟨SubH.refl _, SubB.refl _⟩, ?_⟩; conv => whnf) | (refine ⟨_, _, ⟨SubH.refl _, SubB.refl _⟩, SubH.refl _, SubB.refl _, ?_⟩; conv => whnf))
                    exact ⟨(j + 1, g7), ⟨hjN, hg7.tail⟩, by dsimp only; omega, subE_cons rfl (subE_cons rfl (subE_cons rfl (subE_cons rfl (subE_cons rfl (subE_cons rfl (subE_cons (int_eq hnext3 rfl) subE_nil)))))), by
                      dsimp only
                      rw [prevT_succ, if_pos htj, lastT_succ, if_pos ⟨htj, .inr d3⟩]
                      exact subB_cons rfl (subB_cons rfl subB_nil), rfl⟩
                  rw [show (((j % 4 : Nat) : Int) == 3) = false from beq_eq_false_iff_ne.2 (by omega)]
                  conv => whnf
                  repeat (first | ((with_reducible refine hK _ _ _ ?_); clear hK) | (with_reducible refine seq_step fun K hK => ?_) | (with_reducible refine block_step ?_) | ((with_reducible refine cond_t ?_ ?_); focus rfl) | ((with_reducible refine cond_f ?_ ?_); focus rfl) | ((with_reducible refine code_id ?_); conv => whnf) | (clear hK; (with_reducible refine hK _ _ _ ?_); clear hK) | (clear hK; clear hK; (with_reducible refine hK _ _ _ ?_); clear hK) | (clear hK; clear hK; clear hK; (with_reducible refine hK _ _ _ ?_); clear hK) | (clear hK; clear hK; clear hK; clear hK; (with_reducible refine hK _ _ _ ?_); clear hK) | (clear hK; clear hK; clear hK; clear hK; clear hK; (with_reducible refine hK _ _ _ ?_); clear hK) | (clear hK; clear hK; clear hK; clear hK; clear hK; clear hK; (with_reducible refine hK _ _ _ ?_); clear hK) | (clear hK; clear hK; clear hK; clear hK; clear hK; clear hK; clear hK; (with_reducible refine hK _ _ _ ?_); clear hK) | (refine ⟨_, _, SubH.refl _, SubB.refl _, ?_⟩; conv => whnf) | (refine ⟨⟨SubH.refl _, SubB.refl _⟩, ?_⟩; conv => whnf) | (refine ⟨_, _, ⟨SubH.refl _, SubB.refl _⟩, SubH.refl _, SubB.refl _, ?_⟩; conv => whnf))
                  exact ⟨(j + 1, g7), ⟨hjN, hg7.tail⟩, by dsimp only; omega, subE_cons rfl (subE_cons rfl (subE_cons rfl (subE_cons rfl (subE_cons rfl (subE_cons rfl (subE_cons (int_eq hnext3 rfl) subE_nil)))))), by
                    dsimp only
                    rw [prevT_succ, if_pos htj, lastT_succ, if_neg (fun e => e.2.elim d0 d3), hpl2]
                    exact subB_cons rfl (subB_cons rfl subB_nil), rfl⟩
                · refine ⟨rfl, ?_⟩
                  conv => whnf
                  refine ⟨⟨SubH.refl _, SubB.new rfl⟩, ?_⟩
                  conv => whnf
                  refine hl2.up14 (CapsA.rd hg7 3 rfl) (hnone.sub (hg7.is 4 rfl)) htj hv7 hpl2 ?_
                  conv => whnf
                  repeat (first | ((with_reducible refine hK _ _ _ ?_); clear hK) | (with_reducible refine seq_step fun K hK => ?_) | (with_reducible refine block_step ?_) | ((with_reducible refine cond_t ?_ ?_); focus rfl) | ((with_reducible refine cond_f ?_ ?_); focus rfl) | ((with_reducible refine code_id ?_); conv => whnf) | (clear hK; (with_reducible refine hK _ _ _ ?_); clear hK) | (clear hK; clear hK; (with_reducible refine hK _ _ _ ?_); clear hK) | (clear hK; clear hK; clear hK; (with_reducible refine hK _ _ _ ?_); clear hK) | (clear hK; clear hK; clear hK; clear hK; (with_reducible refine hK _ _ _ ?_); clear hK) | (clear hK; clear hK; clear hK; clear hK; clear hK; (with_reducible refine hK _ _ _ ?_); clear hK) | (clear hK; clear hK; clear hK; clear hK; clear hK; clear hK; (with_reducible refine hK _ _ _ ?_); clear hK) | (clear hK; clear hK; clear hK; clear hK; clear hK; clear hK; clear hK; (with_reducible refine hK _ _ _ ?_); clear hK) | (refine ⟨_, _, SubH.refl _, SubB.refl _, ?_⟩; conv => whnf) | (refine ⟨⟨SubH.refl _, SubB.refl _⟩, ?_⟩; conv => whnf) | (refine ⟨_, _, ⟨SubH.refl _, SubB.refl _⟩, SubH.refl _, SubB.refl _, ?_⟩; conv => whnf))
                  rw [show ((x1 == x1) && ((y1 == y1) && true)) = true by simp]
                  conv => whnf
                  rw [show ((x2 == x2) && ((y2 == y2) && true)) = true by simp]
                  conv => whnf
                  repeat (first | ((with_reducible refine hK _ _ _ ?_); clear hK) | (with_reducible refine seq_step fun K hK => ?_) | (with_reducible refine block_step ?_) | ((with_reducible refine cond_t ?_ ?_); focus rfl) | ((with_reducible refine cond_f ?_ ?_); focus rfl) | ((with_reducible refine code_id ?_); conv => whnf) | (clear hK; (with_reducible refine hK _ _ _ ?_); clear hK) | (clear hK; clear hK; (with_reducible refine hK _ _ _ ?_); clear hK) | (clear hK; clear hK; clear hK; (with_reducible refine hK _ _ _ ?_); clear hK) | (clear hK; clear hK; clear hK; clear hK; (with_reducible refine hK _ _ _ ?_); clear hK) | (clear hK; clear hK; clear hK; clear hK; clear hK; (with_reducible refine hK _ _ _ ?_); clear hK) | (clear hK; clear hK; clear hK; clear hK; clear hK; clear hK; (with_reducible refine hK _ _ _ ?_); clear hK) | (clear hK; clear hK; clear hK; clear hK; clear hK; clear hK; clear hK; (with_reducible refine hK _ _ _ ?_); clear hK) | (refine ⟨_, _, SubH.refl _, SubB.refl _, ?_⟩; conv => whnf) | (refine ⟨⟨SubH.refl _, SubB.refl _⟩, ?_⟩; conv => whnf) | (refine ⟨_, _, ⟨SubH.refl _, SubB.refl _⟩, SubH.refl _, SubB.refl _, ?_⟩; conv => whnf))
                  refine opt_if ⟨by omega, by omega⟩ ?_
                  conv => whnf
                  refine opt_ld hbl7 (v := .agg #[iv (j % 4 : Nat), iv (j / 4 : Nat)]) (by show rd cl (ol + (j : Int).toNat * 2) 2 true = _; rw [Int.toNat_natCast]; exact hc2) ?_
                  conv => whnf
                  repeat (first | ((with_reducible refine hK _ _ _ ?_); clear hK) | (with_reducible refine seq_step fun K hK => ?_) | (with_reducible refine block_step ?_) | ((with_reducible refine cond_t ?_ ?_); focus rfl) | ((with_reducible refine cond_f ?_ ?_); focus rfl) | ((with_reducible refine code_id ?_); conv => whnf) | (clear hK; (with_reducible refine hK _ _ _ ?_); clear hK) | (clear hK; clear hK; (with_reducible refine hK _ _ _ ?_); clear hK) | (clear hK; clear hK; clear hK; (with_reducible refine hK _ _ _ ?_); clear hK) | (clear hK; clear hK; clear hK; clear hK; (with_reducible refine hK _ _ _ ?_); clear hK) | (clear hK; clear hK; clear hK; clear hK; clear hK; (with_reducible refine hK _ _ _ ?_); clear hK) | (clear hK; clear hK; clear hK; clear hK; clear hK; clear hK; (with_reducible refine hK _ _ _ ?_); clear hK) | (clear hK; clear hK; clear hK; clear hK; clear hK; clear hK; clear hK; (with_reducible refine hK _ _ _ ?_); clear hK) | (refine ⟨_, _, SubH.refl _, SubB.refl _, ?_⟩; conv => whnf) | (refine ⟨⟨SubH.refl _, SubB.refl _⟩, ?_⟩; conv => whnf) | (refine ⟨_, _, ⟨SubH.refl _, SubB.refl _⟩, SubH.refl _, SubB.refl _, ?_⟩; conv => whnf))
                  by_cases d0 : j % 4 = 0
                  · rw [show (((j % 4 : Nat) : Int) == 0) = true by rw [d0]; rfl]
                    conv => whnf
                    repeat (first | ((with_reducible refine hK _ _ _ ?_); clear hK) | (with_reducible refine seq_step fun K hK => ?_) | (with_reducible refine block_step ?_) | ((with_reducible refine cond_t ?_ ?_); focus rfl) | ((with_reducible refine cond_f ?_ ?_); focus rfl) | ((with_reducible refine code_id ?_); conv => whnf) | (clear hK; (with_reducible refine hK _ _ _ ?_); clear hK) | (clear hK; clear hK; (with_reducible refine hK _ _ _ ?_); clear hK) | (clear hK; clear hK; clear hK; (with_reducible refine hK _ _ _ ?_); clear hK) | (clear hK; clear hK; clear hK; clear hK; (with_reducible refine hK _ _ _ ?_); clear hK) | (clear hK; clear hK; clear hK; clear hK; clear hK; (with_reducible refine hK _ _ _ ?_); clear hK) | (clear hK; clear hK; clear hK; clear hK; clear hK; clear hK; (with_reducible refine hK _ _ _ ?_); clear hK) | (clear hK; clear hK; clear hK; clear hK; clear hK; clear hK; clear hK; (with_reducible refine hK _ _ _ ?_); clear hK) | (refine ⟨_, _, SubH.refl _, SubB.refl _, ?_⟩; conv => whnf) | (refine ⟨⟨SubH.refl _, SubB.refl _⟩, ?_⟩; conv => whnf) | (refine ⟨_, _, ⟨SubH.refl _, SubB.refl _⟩, SubH.refl _, SubB.refl _, ?_⟩; conv => whnf))
                    exact ⟨(j + 1, g7), ⟨hjN, hg7.tail⟩, by dsimp only; omega, subE_cons rfl (subE_cons rfl (subE_cons rfl (subE_cons rfl (subE_cons rfl (subE_cons rfl (subE_cons (int_eq hnext3 rfl) subE_nil)))))), by
                      dsimp only
                      rw [prevT_succ, if_pos htj, lastT_succ, if_pos ⟨htj, .inl d0⟩]
                      exact subB_cons rfl (subB_cons rfl subB_nil), rfl⟩
                  rw [show (((j % 4 : Nat) : Int) == 0) = false from beq_eq_false_iff_ne.2 (by omega)]
                  conv => whnf
                  by_cases d3 : j % 4 = 3
                  · rw [show (((j % 4 : Nat) : Int) == 3) = true by rw [d3]; rfl]
                    conv => whnf
                    repeat (first | ((with_reducible refine hK _ _ _ ?_); clear hK) | (with_reducible refine seq_step fun K hK => ?_) | (with_reducible refine block_step ?_) | ((with_reducible refine cond_t ?_ ?_); focus rfl) | ((with_reducible refine cond_f ?_ ?_); focus rfl) | ((with_reducible refine code_id ?_); conv => whnf) | (clear hK; (with_reducible refine hK _ _ _ ?_); clear hK) | (clear hK; clear hK; (with_reducible refine hK _ _ _ ?_); clear hK) | (clear hK; clear hK; clear hK; (with_reducible refine hK _ _ _ ?_); clear hK) | (clear hK; clear hK; clear hK; clear hK; (with_reducible refine hK _ _ _ ?_); clear hK) | (clear hK; clear hK; clear hK; clear hK; clear hK; (with_reducible refine hK _ _ _ ?_); clear hK) | (clear hK; clear hK; clear hK; clear hK; clear hK; clear hK; (with_reducible refine hK _ _ _ ?_); clear hK) | (clear hK; clear hK; clear hK; clear hK; clear hK; clear hK; clear hK; (with_reducible refine hK _ _ _ ?_); clear hK) | (refine ⟨_, _, SubH.refl _, SubB.refl _, ?_⟩; conv => whnf) | (refine ⟨⟨SubH.refl _, SubB.refl _⟩, ?_⟩; conv => whnf) | (refine ⟨_, _, ⟨SubH.refl _, SubB.refl _⟩, SubH.refl _, SubB.refl _, ?_⟩; conv => whnf))
                    exact ⟨(j + 1, g7), ⟨hjN, hg7.tail⟩, by dsimp only; omega, subE_cons rfl (subE_cons rfl (subE_cons rfl (subE_cons rfl (subE_cons rfl (subE_cons rfl (subE_cons (int_eq hnext3 rfl) subE_nil)))))), by
                      dsimp only
                      rw [prevT_succ, if_pos htj, lastT_succ, if_pos ⟨htj, .inr d3⟩]
                      exact subB_cons rfl (subB_cons rfl subB_nil), rfl⟩
                  rw [show (((j % 4 : Nat) : Int) == 3) = false from beq_eq_false_iff_ne.2 (by omega)]
                  conv => whnf
                  repeat (first | ((with_reducible refine hK _ _ _ ?_); clear hK) | (with_reducible refine seq_step fun K hK => ?_) | (with_reducible refine block_step ?_) | ((with_reducible refine cond_t ?_ ?_); focus rfl) | ((with_reducible refine cond_f ?_ ?_); focus rfl) | ((with_reducible refine code_id ?_); conv => whnf) | (clear hK; (with_reducible refine hK _ _ _ ?_); clear hK) | (clear hK; clear hK; (with_reducible refine hK _ _ _ ?_); clear hK) | (clear hK; clear hK; clear hK; (with_reducible refine hK _ _ _ ?_); clear hK) | (clear hK; clear hK; clear hK; clear hK; (with_reducible refine hK _ _ _ ?_); clear hK) | (clear hK; clear hK; clear hK; clear hK; clear hK; (with_reducible refine hK _ _ _ ?_); clear hK) | (clear hK; clear hK; clear hK; clear hK; clear hK; clear hK; (with_reducible refine hK _ _ _ ?_); clear hK) | (clear hK; clear hK; clear hK; clear hK; clear hK; clear hK; clear hK; (with_reducible refine hK _ _ _ ?_); clear hK) | (refine ⟨_, _, SubH.refl _, SubB.refl _, ?_⟩; conv => whnf) | (refine ⟨⟨SubH.refl _, SubB.refl _⟩, ?_⟩; conv => whnf) | (refine ⟨_, _, ⟨SubH.refl _, SubB.refl _⟩, SubH.refl _, SubB.refl _, ?_⟩; conv => whnf))
                  exact ⟨(j + 1, g7), ⟨hjN, hg7.tail⟩, by dsimp only; omega, subE_cons rfl (subE_cons rfl (subE_cons rfl (subE_cons rfl (subE_cons rfl (subE_cons rfl (subE_cons (int_eq hnext3 rfl) subE_nil)))))), by
                    dsimp only
                    rw [prevT_succ, if_pos htj, lastT_succ, if_neg (fun e => e.2.elim d0 d3), hpl2]
                    exact subB_cons rfl (subB_cons rfl subB_nil), rfl⟩
              · refine ⟨rfl, ?_⟩
                conv => whnf
                refine ⟨_, _, ⟨SubH.refl _, SubB.new rfl⟩, SubH.refl _, SubB.refl _, ?_⟩
                conv => whnf
                refine fresh_has hg5 fun b7 g7 _ _ hs7 hg7 => ?_
                have hv7 : Vw 1 g7 (.slice (some ⟨b7, 0, none⟩) 2 2) 2 [iv 3, iv 0] := (pt_wn (e := 1) (n := 2) (cap := 2) (cs := [iv 3, iv 0]) rfl (Nat.le_refl _) rfl (hg7.pt 0 rfl)).vw
                have hbl7 := hs7 _ _ hbl
                conv => whnf
                refine ⟨⟨hs7, SubB.refl _⟩, ?_⟩
                conv => whnf
                refine hl2.up14 (CapsA.rd hg7 3 rfl) (hnone.sub (hg7.is 4 rfl)) htj hv7 hpl2 ?_
                conv => whnf
                repeat (first | ((with_reducible refine hK _ _ _ ?_); clear hK) | (with_reducible refine seq_step fun K hK => ?_) | (with_reducible refine block_step ?_) | ((with_reducible refine cond_t ?_ ?_); focus rfl) | ((with_reducible refine cond_f ?_ ?_); focus rfl) | ((with_reducible refine code_id ?_); conv => whnf) | (clear hK; (with_reducible refine hK _ _ _ ?_); clear hK) | (clear hK; clear hK; (with_reducible refine hK _ _ _ ?_); clear hK) | (clear hK; clear hK; clear hK; (with_reducible refine hK _ _ _ ?_); clear hK) | (clear hK; clear hK; clear hK; clear hK; (with_reducible refine hK _ _ _ ?_); clear hK) | (clear hK; clear hK; clear hK; clear hK; clear hK; (with_reducible refine hK _ _ _ ?_); clear hK) | (clear hK; clear hK; clear hK; clear hK; clear hK; clear hK; (with_reducible refine hK _ _ _ ?_); clear hK) | (clear hK; clear hK; clear hK; clear hK; clear hK; clear hK; clear hK; (with_reducible refine hK _ _ _ ?_); clear hK) | (refine ⟨_, _, SubH.refl _, SubB.refl _, ?_⟩; conv => whnf) | (refine ⟨⟨SubH.refl _, SubB.refl _⟩, ?_⟩; conv => whnf) | (refine ⟨_, _, ⟨SubH.refl _, SubB.refl _⟩, SubH.refl _, SubB.refl _, ?_⟩; conv => whnf))
                rw [show ((x1 == x1) && ((y1 == y1) && true)) = true by simp]
                conv => whnf
                rw [show ((x2 == x2) && ((y2 == y2) && true)) = true by simp]
                conv => whnf
                repeat (first | ((with_reducible refine hK _ _ _ ?_); clear hK) | (with_reducible refine seq_step fun K hK => ?_) | (with_reducible refine block_step ?_) | ((with_reducible refine cond_t ?_ ?_); focus rfl) | ((with_reducible refine cond_f ?_ ?_); focus rfl) | ((with_reducible refine code_id ?_); conv => whnf) | (clear hK; (with_reducible refine hK _ _ _ ?_); clear hK) | (clear hK; clear hK; (with_reducible refine hK _ _ _ ?_); clear hK) | (clear hK; clear hK; clear hK; (with_reducible refine hK _ _ _ ?_); clear hK) | (clear hK; clear hK; clear hK; clear hK; (with_reducible refine hK _ _ _ ?_); clear hK) | (clear hK; clear hK; clear hK; clear hK; clear hK; (with_reducible refine hK _ _ _ ?_); clear hK) | (clear hK; clear hK; clear hK; clear hK; clear hK; clear hK; (with_reducible refine hK _ _ _ ?_); clear hK) | (clear hK; clear hK; clear hK; clear hK; clear hK; clear hK; clear hK; (with_reducible refine hK _ _ _ ?_); clear hK) | (refine ⟨_, _, SubH.refl _, SubB.refl _, ?_⟩; conv => whnf) | (refine ⟨⟨SubH.refl _, SubB.refl _⟩, ?_⟩; conv => whnf) | (refine ⟨_, _, ⟨SubH.refl _, SubB.refl _⟩, SubH.refl _, SubB.refl _, ?_⟩; conv => whnf))
                refine opt_if ⟨by omega, by omega⟩ ?_
                conv => whnf
                refine opt_ld hbl7 (v := .agg #[iv (j % 4 : Nat), iv (j / 4 : Nat)]) (by show rd cl (ol + (j : Int).toNat * 2) 2 true = _; rw [Int.toNat_natCast]; exact hc2) ?_
                conv => whnf
                repeat (first | ((with_reducible refine hK _ _ _ ?_); clear hK) | (with_reducible refine seq_step fun K hK => ?_) | (with_reducible refine block_step ?_) | ((with_reducible refine cond_t ?_ ?_); focus rfl) | ((with_reducible refine cond_f ?_ ?_); focus rfl) | ((with_reducible refine code_id ?_); conv => whnf) | (clear hK; (with_reducible refine hK _ _ _ ?_); clear hK) | (clear hK; clear hK; (with_reducible refine hK _ _ _ ?_); clear hK) | (clear hK; clear hK; clear hK; (with_reducible refine hK _ _ _ ?_); clear hK) | (clear hK; clear hK; clear hK; clear hK; (with_reducible refine hK _ _ _ ?_); clear hK) | (clear hK; clear hK; clear hK; clear hK; clear hK; (with_reducible refine hK _ _ _ ?_); clear hK) | (clear hK; clear hK; clear hK; clear hK; clear hK; clear hK; (with_reducible refine hK _ _ _ ?_); clear hK) | (clear hK; clear hK; clear hK; clear hK; clear hK; clear hK; clear hK; (with_reducible refine hK _ _ _ ?_); clear hK) | (refine ⟨_, _, SubH.refl _, SubB.refl _, ?_⟩; conv => whnf) | (refine ⟨⟨SubH.refl _, SubB.refl _⟩, ?_⟩; conv => whnf) | (refine ⟨_, _, ⟨SubH.refl _, SubB.refl _⟩, SubH.refl _, SubB.refl _, ?_⟩; conv => whnf))
                by_cases d0 : j % 4 = 0
                · rw [show (((j % 4 : Nat) : Int) == 0) = true by rw [d0]; rfl]
                  conv => whnf
                  repeat (first | ((with_reducible refine hK _ _ _ ?_); clear hK) | (with_reducible refine seq_step fun K hK => ?_) | (with_reducible refine block_step ?_) | ((with_reducible refine cond_t ?_ ?_); focus rfl) | ((with_reducible refine cond_f ?_ ?_); focus rfl) | ((with_reducible refine code_id ?_); conv => whnf) | (clear hK; (with_reducible refine hK _ _ _ ?_); clear hK) | (clear hK; clear hK; (with_reducible refine hK _ _ _ ?_); clear hK) | (clear hK; clear hK; clear hK; (with_reducible refine hK _ _ _ ?_); clear hK) | (clear hK; clear hK; clear hK; clear hK; (with_reducible refine hK _ _ _ ?_); clear hK) | (clear hK; clear hK; clear hK; clear hK; clear hK; (with_reducible refine hK _ _ _ ?_); clear hK) | (clear hK; clear hK; clear hK; clear hK; clear hK; clear hK; (with_reducible refine hK _ _ _ ?_); clear hK) | (clear hK; clear hK; clear hK; clear hK; clear hK; clear hK; clear hK; (with_reducible refine hK _ _ _ ?_); clear hK) | (refine ⟨_, _, SubH.refl _, SubB.refl _, ?_⟩; conv => whnf) | (refine ⟨⟨SubH.refl _, SubB.refl _⟩, ?_⟩; conv => whnf) | (refine ⟨_, _, ⟨SubH.refl _, SubB.refl _⟩, SubH.refl _, SubB.refl _, ?_⟩; conv => whnf))
                  exact ⟨(j + 1, g7), ⟨hjN, hg7.tail⟩, by dsimp only; omega, subE_cons rfl (subE_cons rfl (subE_cons rfl (subE_cons rfl (subE_cons rfl (subE_cons rfl (subE_cons (int_eq hnext3 rfl) subE_nil)))))), by
                    dsimp only
                    rw [prevT_succ, if_pos htj, lastT_succ, if_pos ⟨htj, .inl d0⟩]
                    exact subB_cons rfl (subB_cons rfl subB_nil), rfl⟩
                rw [show (((j % 4 : Nat) : Int) == 0) = false from beq_eq_false_iff_ne.2 (by omega)]
                conv => whnf
                by_cases d3 : j % 4 = 3
                · rw [show (((j % 4 : Nat) : Int) == 3) = true by rw [d3]; rfl]
                  conv => whnf
                  repeat (first | ((with_reducible refine hK _ _ _ ?_); clear hK) | (with_reducible refine seq_step fun K hK => ?_) | (with_reducible refine block_step ?_) | ((with_reducible refine cond_t ?_ ?_); focus rfl) | ((with_reducible refine cond_f ?_ ?_); focus rfl) | ((with_reducible refine code_id ?_); conv => whnf) | (clear hK; (with_reducible refine hK _ _ _ ?_); clear hK) | (clear hK; clear hK; (with_reducible refine hK _ _ _ ?_); clear hK) | (clear hK; clear hK; clear hK; (with_reducible refine hK _ _ _ ?_); clear hK) | (clear hK; clear hK; clear hK; clear hK; (with_reducible refine hK _ _ _ ?_); clear hK) | (clear hK; clear hK; clear hK; clear hK; clear hK; (with_reducible refine hK _ _ _ ?_); clear hK) | (clear hK; clear hK; clear hK; clear hK; clear hK; clear hK; (with_reducible refine hK _ _ _ ?_); clear hK) | (clear hK; clear hK; clear hK; clear hK; clear hK; clear hK; clear hK; (with_reducible refine hK _ _ _ ?_); clear hK) | (refine ⟨_, _, SubH.refl _, SubB.refl _, ?_⟩; conv => whnf) | (refine ⟨⟨SubH.refl _, SubB.refl _⟩, ?_⟩; conv => whnf) | (refine ⟨_, _, ⟨SubH.refl _, SubB.refl _⟩, SubH.refl _, SubB.refl _, ?_⟩; conv => whnf))
                  exact ⟨(j + 1, g7), ⟨hjN, hg7.tail⟩, by dsimp only; omega, subE_cons rfl (subE_cons rfl (subE_cons rfl (subE_cons rfl (subE_cons rfl (subE_cons rfl (subE_cons (int_eq hnext3 rfl) subE_nil)))))), by
                    dsimp only
                    rw [prevT_succ, if_pos htj, lastT_succ, if_pos ⟨htj, .inr d3⟩]
                    exact subB_cons rfl (subB_cons rfl subB_nil), rfl⟩
                rw [show (((j % 4 : Nat) : Int) == 3) = false from beq_eq_false_iff_ne.2 (by omega)]
                conv => whnf
                repeat (first | ((with_reducible refine hK _ _ _ ?_); clear hK) | (with_reducible refine seq_step fun K hK => ?_) | (with_reducible refine block_step ?_) | ((with_reducible refine cond_t ?_ ?_); focus rfl) | ((with_reducible refine cond_f ?_ ?_); focus rfl) | ((with_reducible refine code_id ?_); conv => whnf) | (clear hK; (with_reducible refine hK _ _ _ ?_); clear hK) | (clear hK; clear hK; (with_reducible refine hK _ _ _ ?_); clear hK) | (clear hK; clear hK; clear hK; (with_reducible refine hK _ _ _ ?_); clear hK) | (clear hK; clear hK; clear hK; clear hK; (with_reducible refine hK _ _ _ ?_); clear hK) | (clear hK; clear hK; clear hK; clear hK; clear hK; (with_reducible refine hK _ _ _ ?_); clear hK) | (clear hK; clear hK; clear hK; clear hK; clear hK; clear hK; (with_reducible refine hK _ _ _ ?_); clear hK) | (clear hK; clear hK; clear hK; clear hK; clear hK; clear hK; clear hK; (with_reducible refine hK _ _ _ ?_); clear hK) | (refine ⟨_, _, SubH.refl _, SubB.refl _, ?_⟩; conv => whnf) | (refine ⟨⟨SubH.refl _, SubB.refl _⟩, ?_⟩; conv => whnf) | (refine ⟨_, _, ⟨SubH.refl _, SubB.refl _⟩, SubH.refl _, SubB.refl _, ?_⟩; conv => whnf))
                exact ⟨(j + 1, g7), ⟨hjN, hg7.tail⟩, by dsimp only; omega, subE_cons rfl (subE_cons rfl (subE_cons rfl (subE_cons rfl (subE_cons rfl (subE_cons rfl (subE_cons (int_eq hnext3 rfl) subE_nil)))))), by
                  dsimp only
                  rw [prevT_succ, if_pos htj, lastT_succ, if_neg (fun e => e.2.elim d0 d3), hpl2]
                  exact subB_cons rfl (subB_cons rfl subB_nil), rfl⟩
        · repeat (first | ((with_reducible refine hK _ _ _ ?_); clear hK) | (with_reducible refine seq_step fun K hK => ?_) | (with_reducible refine block_step ?_) | ((with_reducible refine cond_t ?_ ?_); focus rfl) | ((with_reducible refine cond_f ?_ ?_); focus rfl) | ((with_reducible refine code_id ?_); conv => whnf) | (clear hK; (with_reducible refine hK _ _ _ ?_); clear hK) | (clear hK; clear hK; (with_reducible refine hK _ _ _ ?_); clear hK) | (clear hK; clear hK; clear hK; (with_reducible refine hK _ _ _ ?_); clear hK) | (clear hK; clear hK; clear hK; clear hK; (with_reducible refine hK _ _ _ ?_); clear hK) | (clear hK; clear hK; clear hK; clear hK; clear hK; (with_reducible refine hK _ _ _ ?_); clear hK) | (clear hK; clear hK; clear hK; clear hK; clear hK; clear hK; (with_reducible refine hK _ _ _ ?_); clear hK) | (clear hK; clear hK; clear hK; clear hK; clear hK; clear hK; clear hK; (with_reducible refine hK _ _ _ ?_); clear hK) | (refine ⟨_, _, SubH.refl _, SubB.refl _, ?_⟩; conv => whnf) | (refine ⟨⟨SubH.refl _, SubB.refl _⟩, ?_⟩; conv => whnf) | (refine ⟨_, _, ⟨SubH.refl _, SubB.refl _⟩, SubH.refl _, SubB.refl _, ?_⟩; conv => whnf))
          exact hq _ (hg5.is 3 rfl)
      · rw [show decide ((k : Int) < (len : Nat)) = false from decide_eq_false (by omega)]
        conv => whnf
        repeat (first | ((with_reducible refine hK _ _ _ ?_); clear hK) | (with_reducible refine seq_step fun K hK => ?_) | (with_reducible refine block_step ?_) | ((with_reducible refine cond_t ?_ ?_); focus rfl) | ((with_reducible refine cond_f ?_ ?_); focus rfl) | ((with_reducible refine code_id ?_); conv => whnf) | (clear hK; (with_reducible refine hK _ _ _ ?_); clear hK) | (clear hK; clear hK; (with_reducible refine hK _ _ _ ?_); clear hK) | (clear hK; clear hK; clear hK; (with_reducible refine hK _ _ _ ?_); clear hK) | (clear hK; clear hK; clear hK; clear hK; (with_reducible refine hK _ _ _ ?_); clear hK) | (clear hK; clear hK; clear hK; clear hK; clear hK; (with_reducible refine hK _ _ _ ?_); clear hK) | (clear hK; clear hK; clear hK; clear hK; clear hK; clear hK; (with_reducible refine hK _ _ _ ?_); clear hK) | (clear hK; clear hK; clear hK; clear hK; clear hK; clear hK; clear hK; (with_reducible refine hK _ _ _ ?_); clear hK))
        obtain ⟨bb, o, cap', cc, ty2, z2, hs, _, _⟩ := hg2.rdw 0 rfl (k := 0) (v := .bool th[0]) (by omega) (by rw [List.getElem?_map, List.getElem?_eq_getElem (by omega)]; rfl)
        cases hs
        refine loop_intro (σ := Nat × Hp) (fun s => [(0, .v (iv N)), (5, .v (ptr b)), (6, .v (.slice (some ⟨bl, ol, none⟩) N cpl)), (7, .v (.slice (some ⟨bb, o, none⟩) th.length ct)), (15, .l 15 0), (16, .l 16 0), (17, .v (iv s.1))]) (fun s => [(15, plL (prevT th s.1)), (16, plL (lastT th s.1))]) (fun s => s.2)
          (fun s => s.1 ≤ N ∧ Has (BlsP (.slice (some ⟨bb, o, none⟩) th.length ct) th :: PlsP (.slice (some ⟨bl, ol, none⟩) N cpl) (plsOf N) :: CapsA b S2 :: [Is h]) s.2)
          (fun s => N - s.1) (0, g2) ⟨Nat.zero_le _, hg2⟩ (subE_cons rfl (subE_cons rfl (subE_cons rfl (subE_cons rfl (subE_cons rfl (subE_cons rfl (subE_cons rfl subE_nil))))))) (subB_cons rfl (subB_cons rfl subB_nil)) rfl ?_
        rintro ⟨j, g5⟩ ⟨hj, hg5⟩
        dsimp only at hj hg5 ⊢
        have hnext3 : IntKind.i64.wrap ((j : Int) + 1) = ((j + 1 : Nat) : Int) := wrap_nat (by omega)
        obtain ⟨x1, y1, hpl1⟩ := plL_two (prevT th j)
        obtain ⟨x2, y2, hpl2⟩ := plL_two (lastT th j)
        rw [hpl1, hpl2]
        repeat (first | ((with_reducible refine hK _ _ _ ?_); clear hK) | (with_reducible refine seq_step fun K hK => ?_) | (with_reducible refine block_step ?_) | ((with_reducible refine cond_t ?_ ?_); focus rfl) | ((with_reducible refine cond_f ?_ ?_); focus rfl) | ((with_reducible refine code_id ?_); conv => whnf) | (clear hK; (with_reducible refine hK _ _ _ ?_); clear hK) | (clear hK; clear hK; (with_reducible refine hK _ _ _ ?_); clear hK) | (clear hK; clear hK; clear hK; (with_reducible refine hK _ _ _ ?_); clear hK) | (clear hK; clear hK; clear hK; clear hK; (with_reducible refine hK _ _ _ ?_); clear hK) | (clear hK; clear hK; clear hK; clear hK; clear hK; (with_reducible refine hK _ _ _ ?_); clear hK) | (clear hK; clear hK; clear hK; clear hK; clear hK; clear hK; (with_reducible refine hK _ _ _ ?_); clear hK) | (clear hK; clear hK; clear hK; clear hK; clear hK; clear hK; clear hK; (with_reducible refine hK _ _ _ ?_); clear hK))
        refine cond_dec (fun hlt9 => ?_) (fun hge9 => ?_)
        · have hjN : j < N := by omega
          have hjt : j < th.length := by omega
          obtain ⟨bb2, o2, cap2, cc2, ty3, z3, hs, hbb2, hcc2⟩ := hg5.rdw 0 rfl (k := j) (v := .bool th[j]) hjt (by rw [List.getElem?_map, List.getElem?_eq_getElem hjt]; rfl)
          injection hs with e1 e2 e3
          injection e1 with e1
          injection e1 with e1 e4 e5
          subst e1 e4
          repeat (first | ((with_reducible refine hK _ _ _ ?_); clear hK) | (with_reducible refine seq_step fun K hK => ?_) | (with_reducible refine block_step ?_) | ((with_reducible refine cond_t ?_ ?_); focus rfl) | ((with_reducible refine cond_f ?_ ?_); focus rfl) | ((with_reducible refine code_id ?_); conv => whnf) | (clear hK; (with_reducible refine hK _ _ _ ?_); clear hK) | (clear hK; clear hK; (with_reducible refine hK _ _ _ ?_); clear hK) | (clear hK; clear hK; clear hK; (with_reducible refine hK _ _ _ ?_); clear hK) | (clear hK; clear hK; clear hK; clear hK; (with_reducible refine hK _ _ _ ?_); clear hK) | (clear hK; clear hK; clear hK; clear hK; clear hK; (with_reducible refine hK _ _ _ ?_); clear hK) | (clear hK; clear hK; clear hK; clear hK; clear hK; clear hK; (with_reducible refine hK _ _ _ ?_); clear hK) | (clear hK; clear hK; clear hK; clear hK; clear hK; clear hK; clear hK; (with_reducible refine hK _ _ _ ?_); clear hK))
          refine opt_if ⟨by omega, by omega⟩ ?_
          conv => whnf
          refine opt_ld hbb2 (v := .bool th[j]) (by show cc2[o + (j : Int).toNat * 1]? = _; rw [Int.toNat_natCast, Nat.mul_one]; exact hcc2) ?_
          cases hthj : th[j] with
          | false =>
            have hne : th[j]? ≠ some true := by rw [List.getElem?_eq_getElem hjt, hthj]; simp
            conv => whnf
            repeat (first | ((with_reducible refine hK _ _ _ ?_); clear hK) | (with_reducible refine seq_step fun K hK => ?_) | (with_reducible refine block_step ?_) | ((with_reducible refine cond_t ?_ ?_); focus rfl) | ((with_reducible refine cond_f ?_ ?_); focus rfl) | ((with_reducible refine code_id ?_); conv => whnf) | (clear hK; (with_reducible refine hK _ _ _ ?_); clear hK) | (clear hK; clear hK; (with_reducible refine hK _ _ _ ?_); clear hK) | (clear hK; clear hK; clear hK; (with_reducible refine hK _ _ _ ?_); clear hK) | (clear hK; clear hK; clear hK; clear hK; (with_reducible refine hK _ _ _ ?_); clear hK) | (clear hK; clear hK; clear hK; clear hK; clear hK; (with_reducible refine hK _ _ _ ?_); clear hK) | (clear hK; clear hK; clear hK; clear hK; clear hK; clear hK; (with_reducible refine hK _ _ _ ?_); clear hK) | (clear hK; clear hK; clear hK; clear hK; clear hK; clear hK; clear hK; (with_reducible refine hK _ _ _ ?_); clear hK))
            refine ⟨(j + 1, g5), ⟨hjN, hg5⟩, by dsimp only; omega, subE_cons rfl (subE_cons rfl (subE_cons rfl (subE_cons rfl (subE_cons rfl (subE_cons rfl (subE_cons (int_eq hnext3 rfl) subE_nil)))))), ?_, rfl⟩
            dsimp only
            rw [prevT_succ, if_neg hne, lastT_succ, if_neg (fun e => hne e.1), hpl1, hpl2]
            exact subB_cons rfl (subB_cons rfl subB_nil)
          | true =>
            have htj : th[j]? = some true := by rw [List.getElem?_eq_getElem hjt, hthj]
            obtain ⟨cl, tyl, zl, hbl, hjl, hc0, hc1, hc2⟩ := PlsP.get hg5 1 rfl (plsOf_get (n := N) (j := j) hjN)
            conv => whnf
            repeat (first | ((with_reducible refine hK _ _ _ ?_); clear hK) | (with_reducible refine seq_step fun K hK => ?_) | (with_reducible refine block_step ?_) | ((with_reducible refine cond_t ?_ ?_); focus rfl) | ((with_reducible refine cond_f ?_ ?_); focus rfl) | ((with_reducible refine code_id ?_); conv => whnf) | (clear hK; (with_reducible refine hK _ _ _ ?_); clear hK) | (clear hK; clear hK; (with_reducible refine hK _ _ _ ?_); clear hK) | (clear hK; clear hK; clear hK; (with_reducible refine hK _ _ _ ?_); clear hK) | (clear hK; clear hK; clear hK; clear hK; (with_reducible refine hK _ _ _ ?_); clear hK) | (clear hK; clear hK; clear hK; clear hK; clear hK; (with_reducible refine hK _ _ _ ?_); clear hK) | (clear hK; clear hK; clear hK; clear hK; clear hK; clear hK; (with_reducible refine hK _ _ _ ?_); clear hK) | (clear hK; clear hK; clear hK; clear hK; clear hK; clear hK; clear hK; (with_reducible refine hK _ _ _ ?_); clear hK))
            refine ⟨g5, _, SubH.refl _, SubB.refl _, ?_⟩
            conv => whnf
            refine opt_if ⟨by omega, by omega⟩ ?_
            conv => whnf
            refine opt_ld hbl (v := iv (j % 4 : Nat)) (by show cl[ol + (j : Int).toNat * 2]? = _; rw [Int.toNat_natCast]; exact hc0) ?_
            conv => whnf
            refine opt_if ⟨by omega, by omega⟩ ?_
            conv => whnf
            refine opt_ld hbl (v := iv (j / 4 : Nat)) (by show cl[ol + (j : Int).toNat * 2 + 1]? = _; rw [Int.toNat_natCast]; exact hc1) ?_
            conv => whnf
            refine ⟨?_, ?_⟩
            · refine hl2.from13 (CapsA.rd hg5 2 rfl) (hnone.sub (hg5.is 3 rfl)) htj hpl1 ?_
              conv => whnf
              refine ⟨_, _, SubH.refl _, SubB.refl _, ?_⟩
              conv => whnf
              refine ⟨rfl, ?_⟩
              conv => whnf
              refine ⟨⟨SubH.refl _, SubB.new rfl⟩, ?_⟩
              conv => whnf
              repeat (first | ((with_reducible refine hK _ _ _ ?_); clear hK) | (with_reducible refine seq_step fun K hK => ?_) | (with_reducible refine block_step ?_) | ((with_reducible refine cond_t ?_ ?_); focus rfl) | ((with_reducible refine cond_f ?_ ?_); focus rfl) | ((with_reducible refine code_id ?_); conv => whnf) | (clear hK; (with_reducible refine hK _ _ _ ?_); clear hK) | (clear hK; clear hK; (with_reducible refine hK _ _ _ ?_); clear hK) | (clear hK; clear hK; clear hK; (with_reducible refine hK _ _ _ ?_); clear hK) | (clear hK; clear hK; clear hK; clear hK; (with_reducible refine hK _ _ _ ?_); clear hK) | (clear hK; clear hK; clear hK; clear hK; clear hK; (with_reducible refine hK _ _ _ ?_); clear hK) | (clear hK; clear hK; clear hK; clear hK; clear hK; clear hK; (with_reducible refine hK _ _ _ ?_); clear hK) | (clear hK; clear hK; clear hK; clear hK; clear hK; clear hK; clear hK; (with_reducible refine hK _ _ _ ?_); clear hK) | (refine ⟨_, _, SubH.refl _, SubB.refl _, ?_⟩; conv => whnf) | (refine ⟨⟨SubH.refl _, SubB.refl _⟩, ?_⟩; conv => whnf) | (refine ⟨_, _, ⟨SubH.refl _, SubB.refl _⟩, SubH.refl _, SubB.refl _, ?_⟩; conv => whnf))
              refine opt_if ⟨by omega, by omega⟩ ?_
              conv => whnf
              refine opt_ld hbl (v := iv (j % 4 : Nat)) (by show cl[ol + (j : Int).toNat * 2]? = _; rw [Int.toNat_natCast]; exact hc0) ?_
              conv => whnf
              refine opt_if ⟨by omega, by omega⟩ ?_
              conv => whnf
              refine opt_ld hbl (v := iv (j / 4 : Nat)) (by show cl[ol + (j : Int).toNat * 2 + 1]? = _; rw [Int.toNat_natCast]; exact hc1) ?_
              conv => whnf
              refine ⟨?_, ?_⟩
              · refine fresh_has hg5 fun b7 g7 _ _ hs7 hg7 => ?_
                have hv7 : Vw 1 g7 (.slice (some ⟨b7, 0, none⟩) 2 2) 2 [iv 3, iv 0] := (pt_wn (e := 1) (n := 2) (cap := 2) (cs := [iv 3, iv 0]) rfl (Nat.le_refl _) rfl (hg7.pt 0 rfl)).vw
                have hbl7 := hs7 _ _ hbl
                conv => whnf
                refine ⟨g7, _, ⟨hs7, SubB.refl _⟩, SubH.refl _, SubB.refl _, ?_⟩
                conv => whnf
                refine ⟨?_, ?_⟩
                · refine hl2.up14 (CapsA.rd hg7 3 rfl) (hnone.sub (hg7.is 4 rfl)) htj hv7 hpl2 ?_
                  conv => whnf
                  refine ⟨_, _, SubH.refl _, SubB.refl _, ?_⟩
                  conv => whnf
                  refine ⟨rfl, ?_⟩
                  conv => whnf
                  refine ⟨⟨SubH.refl _, SubB.new rfl⟩, ?_⟩
                  conv => whnf
                  repeat (first | ((with_reducible refine hK _ _ _ ?_); clear hK) | (with_reducible refine seq_step fun K hK => ?_) | (with_reducible refine block_step ?_) | ((with_reducible refine cond_t ?_ ?_); focus rfl) | ((with_reducible refine cond_f ?_ ?_); focus rfl) | ((with_reducible refine code_id ?_); conv => whnf) | (clear hK; (with_reducible refine hK _ _ _ ?_); clear hK) | (clear hK; clear hK; (with_reducible refine hK _ _ _ ?_); clear hK) | (clear hK; clear hK; clear hK; (with_reducible refine hK _ _ _ ?_); clear hK) | (clear hK; clear hK; clear hK; clear hK; (with_reducible refine hK _ _ _ ?_); clear hK) | (clear hK; clear hK; clear hK; clear hK; clear hK; (with_reducible refine hK _ _ _ ?_); clear hK) | (clear hK; clear hK; clear hK; clear hK; clear hK; clear hK; (with_reducible refine hK _ _ _ ?_); clear hK) | (clear hK; clear hK; clear hK; clear hK; clear hK; clear hK; clear hK; (with_reducible refine hK _ _ _ ?_); clear hK) | (refine ⟨_, _, SubH.refl _, SubB.refl _, ?_⟩; conv => whnf) | (refine ⟨⟨SubH.refl _, SubB.refl _⟩, ?_⟩; conv => whnf) | (refine ⟨_, _, ⟨SubH.refl _, SubB.refl _⟩, SubH.refl _, SubB.refl _, ?_⟩; conv => whnf))
                  rw [show ((x1 == x1) && ((y1 == y1) && true)) = true by simp]
                  conv => whnf
                  rw [show ((x2 == x2) && ((y2 == y2) && true)) = true by simp]
                  conv => whnf
                  repeat (first | ((with_reducible refine hK _ _ _ ?_); clear hK) | (with_reducible refine seq_step fun K hK => ?_) | (with_reducible refine block_step ?_) | ((with_reducible refine cond_t ?_ ?_); focus rfl) | ((with_reducible refine cond_f ?_ ?_); focus rfl) | ((with_reducible refine code_id ?_); conv => whnf) | (clear hK; (with_reducible refine hK _ _ _ ?_); clear hK) | (clear hK; clear hK; (with_reducible refine hK _ _ _ ?_); clear hK) | (clear hK; clear hK; clear hK; (with_reducible refine hK _ _ _ ?_); clear hK) | (clear hK; clear hK; clear hK; clear hK; (with_reducible refine hK _ _ _ ?_); clear hK) | (clear hK; clear hK; clear hK; clear hK; clear hK; (with_reducible refine hK _ _ _ ?_); clear hK) | (clear hK; clear hK; clear hK; clear hK; clear hK; clear hK; (with_reducible refine hK _ _ _ ?_); clear hK) | (clear hK; clear hK; clear hK; clear hK; clear hK; clear hK; clear hK; (with_reducible refine hK _ _ _ ?_); clear hK) | (refine ⟨_, _, SubH.refl _, SubB.refl _, ?_⟩; conv => whnf) | (refine ⟨⟨SubH.refl _, SubB.refl _⟩, ?_⟩; conv => whnf) | (refine ⟨_, _, ⟨SubH.refl _, SubB.refl _⟩, SubH.refl _, SubB.refl _, ?_⟩; conv => whnf))
                  refine opt_if ⟨by omega, by omega⟩ ?_
                  conv => whnf
                  refine opt_ld hbl7 (v := .agg #[iv (j % 4 : Nat), iv (j / 4 : Nat)]) (by show rd cl (ol + (j : Int).toNat * 2) 2 true = _; rw [Int.toNat_natCast]; exact hc2) ?_
                  conv => whnf
                  repeat (first | ((with_reducible refine hK _ _ _ ?_); clear hK) | (with_reducible refine seq_step fun K hK => ?_) | (with_reducible refine block_step ?_) | ((with_reducible refine cond_t ?_ ?_); focus rfl) | ((with_reducible refine cond_f ?_ ?_); focus rfl) | ((with_reducible refine code_id ?_); conv => whnf) | (clear hK; (with_reducible refine hK _ _ _ ?_); clear hK) | (clear hK; clear hK; (with_reducible refine hK _ _ _ ?_); clear hK) | (clear hK; clear hK; clear hK; (with_reducible refine hK _ _ _ ?_); clear hK) | (clear hK; clear hK; clear hK; clear hK; (with_reducible refine hK _ _ _ ?_); clear hK) | (clear hK; clear hK; clear hK; clear hK; clear hK; (with_reducible refine hK _ _ _ ?_); clear hK) | (clear hK; clear hK; clear hK; clear hK; clear hK; clear hK; (with_reducible refine hK _ _ _ ?_); clear hK) | (clear hK; clear hK; clear hK; clear hK; clear hK; clear hK; clear hK; (with_reducible refine hK _ _ _ ?_); clear hK) | (refine ⟨_, _, SubH.refl _, SubB.refl _, ?_⟩; conv => whnf) | (refine ⟨⟨SubH.refl _, SubB.refl _⟩, ?_⟩; conv => whnf) | (refine ⟨_, _, ⟨SubH.refl _, SubB.refl _⟩, SubH.refl _, SubB.refl _, ?_⟩; conv => whnf))
                  by_cases d0 : j % 4 = 0
                  · rw [show (((j % 4 : Nat) : Int) == 0) = true by rw [d0]; rfl]
                    conv => whnf
                    repeat (first | ((with_reducible refine hK _ _ _ ?_); clear hK) | (with_reducible refine seq_step fun K hK => ?_) | (with_reducible refine block_step ?_) | ((with_reducible refine cond_t ?_ ?_); focus rfl) | ((with_reducible refine cond_f ?_ ?_); focus rfl) | ((with_reducible refine code_id ?_); conv => whnf) | (clear hK; (with_reducible refine hK _ _ _ ?_); clear hK) | (clear hK; clear hK; (with_reducible refine hK _ _ _ ?_); clear hK) | (clear hK; clear hK; clear hK; (with_reducible refine hK _ _ _ ?_); clear hK) | (clear hK; clear hK; clear hK; clear hK; (with_reducible refine hK _ _ _ ?_); clear hK) | (clear hK; clear hK; clear hK; clear hK; clear hK; (with_reducible refine hK _ _ _ ?_); clear hK) | (clear hK; clear hK; clear hK; clear hK; clear hK; clear hK; (with_reducible refine hK _ _ _ ?_); clear hK) | (clear hK; clear hK; clear hK; clear hK; clear hK; clear hK; clear hK; (with_reducible refine hK _ _ _ ?_); clear hK) | (refine ⟨_, _, SubH.refl _, SubB.refl _, ?_⟩; conv => whnf) | (refine ⟨⟨SubH.refl _, SubB.refl _⟩, ?_⟩; conv => whnf) | (refine ⟨_, _, ⟨SubH.refl _, SubB.refl _⟩, SubH.refl _, SubB.refl _, ?_⟩; conv => whnf))
                    exact ⟨(j + 1, g7), ⟨hjN, hg7.tail⟩, by dsimp only; omega, subE_cons rfl (subE_cons rfl (subE_cons rfl (subE_cons rfl (subE_cons rfl (subE_cons rfl (subE_cons (int_eq hnext3 rfl) subE_nil)))))), by
                      dsimp only
                      rw [prevT_succ, if_pos htj, lastT_succ, if_pos ⟨htj, .inl d0⟩]
                      exact subB_cons rfl (subB_cons rfl subB_nil), rfl⟩
                  rw [show (((j % 4 : Nat) : Int) == 0) = false from beq_eq_false_iff_ne.2 (by omega)]
                  conv => whnf
                  by_cases d3 : j % 4 = 3
                  · rw [show (((j % 4 : Nat) : Int) == 3) = true by rw [d3]; rfl]
                    conv => whnf
                    repeat (first | ((with_reducible refine hK _ _ _ ?_); clear hK) | (with_reducible refine seq_step fun K hK => ?_) | (with_reducible refine block_step ?_) | ((with_reducible refine cond_t ?_ ?_); focus rfl) | ((with_reducible refine cond_f ?_ ?_); focus rfl) | ((with_reducible refine code_id ?_); conv => whnf) | (clear hK; (with_reducible refine hK _ _ _ ?_); clear hK) | (clear hK; clear hK; (with_reducible refine hK _ _ _ ?_); clear hK) | (clear hK; clear hK; clear hK; (with_reducible refine hK _ _ _ ?_); clear hK) | (clear hK; clear hK; clear hK; clear hK; (with_reducible refine hK _ _ _ ?_); clear hK) | (clear hK; clear hK; clear hK; clear hK; clear hK; (with_reducible refine hK _ _ _ ?_); clear hK) | (clear hK; clear hK; clear hK; clear hK; clear hK; clear hK; (with_reducible refine hK _ _ _ ?_); clear hK) | (clear hK; clear hK; clear hK; clear hK; clear hK; clear hK; clear hK; (with_reducible refine hK _ _ _ ?_); clear hK) | (refine ⟨_, _, SubH.refl _, SubB.refl _, ?_⟩; conv => whnf) | (refine ⟨⟨SubH.refl _, SubB.refl _⟩, ?_⟩; conv => whnf) | (refine ⟨_, _, ⟨SubH.refl _, SubB.refl _⟩, SubH.refl _, SubB.refl _, ?_⟩; conv => whnf))
                    exact ⟨(j + 1, g7), ⟨hjN, hg7.tail⟩, by dsimp only; omega, subE_cons rfl (subE_cons rfl (subE_cons rfl (subE_cons rfl (subE_cons rfl (subE_cons rfl (subE_cons (int_eq hnext3 rfl) subE_nil)))))), by
                      dsimp only
                      rw [prevT_succ, if_pos htj, lastT_succ, if_pos ⟨htj, .inr d3⟩]
                      exact subB_cons rfl (subB_cons rfl subB_nil), rfl⟩
                  rw [show (((j % 4 : Nat) : Int) == 3) = false from beq_eq_false_iff_ne.2 (by omega)]
                  conv => whnf
                  repeat (first | ((with_reducible refine hK _ _ _ ?_); clear hK) | (with_reducible refine seq_step fun K hK => ?_) | (with_reducible refine block_step ?_) | ((with_reducible refine cond_t ?_ ?_); focus rfl) | ((with_reducible refine cond_f ?_ ?_); focus rfl) | ((with_reducible refine code_id ?_); conv => whnf) | (clear hK; (with_reducible refine hK _ _ _ ?_); clear hK) | (clear hK; clear hK; (with_reducible refine hK _ _ _ ?_); clear hK) | (clear hK; clear hK; clear hK; (with_reducible refine hK _ _ _ ?_); clear hK) | (clear hK; clear hK; clear hK; clear hK; (with_reducible refine hK _ _ _ ?_); clear hK) | (clear hK; clear hK; clear hK; clear hK; clear hK; (with_reducible refine hK _ _ _ ?_); clear hK) | (clear hK; clear hK; clear hK; clear hK; clear hK; clear hK; (with_reducible refine hK _ _ _ ?_); clear hK) | (clear hK; clear hK; clear hK; clear hK; clear hK; clear hK; clear hK; (with_reducible refine hK _ _ _ ?_); clear hK) | (refine ⟨_, _, SubH.refl _, SubB.refl _, ?_⟩; conv => whnf) | (refine ⟨⟨SubH.refl _, SubB.refl _⟩, ?_⟩; conv => whnf) | (refine ⟨_, _, ⟨SubH.refl _, SubB.refl _⟩, SubH.refl _, SubB.refl _, ?_⟩; conv => whnf))
                  exact ⟨(j + 1, g7), ⟨hjN, hg7.tail⟩, by dsimp only; omega, subE_cons rfl (subE_cons rfl (subE_cons rfl (subE_cons rfl (subE_cons rfl (subE_cons rfl (subE_cons (int_eq hnext3 rfl) subE_nil)))))), by
                    dsimp only
                    rw [prevT_succ, if_pos htj, lastT_succ, if_neg (fun e => e.2.elim d0 d3), hpl2]
                    exact subB_cons rfl (subB_cons rfl subB_nil), rfl⟩
                · refine ⟨rfl, ?_⟩
                  conv => whnf
                  refine ⟨⟨SubH.refl _, SubB.new rfl⟩, ?_⟩
                  conv => whnf
                  refine hl2.up14 (CapsA.rd hg7 3 rfl) (hnone.sub (hg7.is 4 rfl)) htj hv7 hpl2 ?_
                  conv => whnf
                  repeat (first | ((with_reducible refine hK _ _ _ ?_); clear hK) | (with_reducible refine seq_step fun K hK => ?_) | (with_reducible refine block_step ?_) | ((with_reducible refine cond_t ?_ ?_); focus rfl) | ((with_reducible refine cond_f ?_ ?_); focus rfl) | ((with_reducible refine code_id ?_); conv => whnf) | (clear hK; (with_reducible refine hK _ _ _ ?_); clear hK) | (clear hK; clear hK; (with_reducible refine hK _ _ _ ?_); clear hK) | (clear hK; clear hK; clear hK; (with_reducible refine hK _ _ _ ?_); clear hK) | (clear hK; clear hK; clear hK; clear hK; (with_reducible refine hK _ _ _ ?_); clear hK) | (clear hK; clear hK; clear hK; clear hK; clear hK; (with_reducible refine hK _ _ _ ?_); clear hK) | (clear hK; clear hK; clear hK; clear hK; clear hK; clear hK; (with_reducible refine hK _ _ _ ?_); clear hK) | (clear hK; clear hK; clear hK; clear hK; clear hK; clear hK; clear hK; (with_reducible refine hK _ _ _ ?_); clear hK) | (refine ⟨_, _, SubH.refl _, SubB.refl _, ?_⟩; conv => whnf) | (refine ⟨⟨SubH.refl _, SubB.refl _⟩, ?_⟩; conv => whnf) | (refine ⟨_, _, ⟨SubH.refl _, SubB.refl _⟩, SubH.refl _, SubB.refl _, ?_⟩; conv => whnf))
                  rw [show ((x1 == x1) && ((y1 == y1) && true)) = true by simp]
                  conv => whnf
                  rw [show ((x2 == x2) && ((y2 == y2) && true)) = true by simp]
                  conv => whnf
                  repeat (first | ((with_reducible refine hK _ _ _ ?_); clear hK) | (with_reducible refine seq_step fun K hK => ?_) | (with_reducible refine block_step ?_) | ((with_reducible refine cond_t ?_ ?_); focus rfl) | ((with_reducible refine cond_f ?_ ?_); focus rfl) | ((with_reducible refine code_id ?_); conv => whnf) | (clear hK; (with_reducible refine hK _ _ _ ?_); clear hK) | (clear hK; clear hK; (with_reducible refine hK _ _ _ ?_); clear hK) | (clear hK; clear hK; clear hK; (with_reducible refine hK _ _ _ ?_); clear hK) | (clear hK; clear hK; clear hK; clear hK; (with_reducible refine hK _ _ _ ?_); clear hK) | (clear hK; clear hK; clear hK; clear hK; clear hK; (with_reducible refine hK _ _ _ ?_); clear hK) | (clear hK; clear hK; clear hK; clear hK; clear hK; clear hK; (with_reducible refine hK _ _ _ ?_); clear hK) | (clear hK; clear hK; clear hK; clear hK; clear hK; clear hK; clear hK; (with_reducible refine hK _ _ _ ?_); clear hK) | (refine ⟨_, _, SubH.refl _, SubB.refl _, ?_⟩; conv => whnf) | (refine ⟨⟨SubH.refl _, SubB.refl _⟩, ?_⟩; conv => whnf) | (refine ⟨_, _, ⟨SubH.refl _, SubB.refl _⟩, SubH.refl _, SubB.refl _, ?_⟩; conv => whnf))
                  refine opt_if ⟨by omega, by omega⟩ ?_
                  conv => whnf
                  refine opt_ld hbl7 (v := .agg #[iv (j % 4 : Nat), iv (j / 4 : Nat)]) (by show rd cl (ol + (j : Int).toNat * 2) 2 true = _; rw [Int.toNat_natCast]; exact hc2) ?_
                  conv => whnf
                  repeat (first | ((with_reducible refine hK _ _ _ ?_); clear hK) | (with_reducible refine seq_step fun K hK => ?_) | (with_reducible refine block_step ?_) | ((with_reducible refine cond_t ?_ ?_); focus rfl) | ((with_reducible refine cond_f ?_ ?_); focus rfl) | ((with_reducible refine code_id ?_); conv => whnf) | (clear hK; (with_reducible refine hK _ _ _ ?_); clear hK) | (clear hK; clear hK; (with_reducible refine hK _ _ _ ?_); clear hK) | (clear hK; clear hK; clear hK; (with_reducible refine hK _ _ _ ?_); clear hK) | (clear hK; clear hK; clear hK; clear hK; (with_reducible refine hK _ _ _ ?_); clear hK) | (clear hK; clear hK; clear hK; clear hK; clear hK; (with_reducible refine hK _ _ _ ?_); clear hK) | (clear hK; clear hK; clear hK; clear hK; clear hK; clear hK; (with_reducible refine hK _ _ _ ?_); clear hK) | (clear hK; clear hK; clear hK; clear hK; clear hK; clear hK; clear hK; (with_reducible refine hK _ _ _ ?_); clear hK) | (refine ⟨_, _, SubH.refl _, SubB.refl _, ?_⟩; conv => whnf) | (refine ⟨⟨SubH.refl _, SubB.refl _⟩, ?_⟩; conv => whnf) | (refine ⟨_, _, ⟨SubH.refl _, SubB.refl _⟩, SubH.refl _, SubB.refl _, ?_⟩; conv => whnf))
                  by_cases d0 : j % 4 = 0
                  · rw [show (((j % 4 : Nat) : Int) == 0) = true by rw [d0]; rfl]
                    conv => whnf
                    repeat (first | ((with_reducible refine hK _ _ _ ?_); clear hK) | (with_reducible refine seq_step fun K hK => ?_) | (with_reducible refine block_step ?_) | ((with_reducible refine cond_t ?_ ?_); focus rfl) | ((with_reducible refine cond_f ?_ ?_); focus rfl) | ((with_reducible refine code_id ?_); conv => whnf) | (clear hK; (with_reducible refine hK _ _ _ ?_); clear hK) | (clear hK; clear hK; (with_reducible refine hK _ _ _ ?_); clear hK) | (clear hK; clear hK; clear hK; (with_reducible refine hK _ _ _ ?_); clear hK) | (clear hK; clear hK; clear hK; clear hK; (with_reducible refine hK _ _ _ ?_); clear hK) | (clear hK; clear hK; clear hK; clear hK; clear hK; (with_reducible refine hK _ _ _ ?_); clear hK) | (clear hK; clear hK; clear hK; clear hK; clear hK; clear hK; (with_reducible refine hK _ _ _ ?_); clear hK) | (clear hK; clear hK; clear hK; clear hK; clear hK; clear hK; clear hK; (with_reducible refine hK _ _ _ ?_); clear hK) | (refine ⟨_, _, SubH.refl _, SubB.refl _, ?_⟩; conv => whnf) | (refine ⟨⟨SubH.refl _, SubB.refl _⟩, ?_⟩; conv => whnf) | (refine ⟨_, _, ⟨SubH.refl _, SubB.refl _⟩, SubH.refl _, SubB.refl _, ?_⟩; conv => whnf))
                    exact ⟨(j + 1, g7), ⟨hjN, hg7.tail⟩, by dsimp only; omega, subE_cons rfl (subE_cons rfl (subE_cons rfl (subE_cons rfl (subE_cons rfl (subE_cons rfl (subE_cons (int_eq hnext3 rfl) subE_nil)))))), by
                      dsimp only
                      rw [prevT_succ, if_pos htj, lastT_succ, if_pos ⟨htj, .inl d0⟩]
                      exact subB_cons rfl (subB_cons rfl subB_nil), rfl⟩
                  rw [show (((j % 4 : Nat) : Int) == 0) = false from beq_eq_false_iff_ne.2 (by omega)]
                  conv => whnf
                  by_cases d3 : j % 4 = 3
                  · rw [show (((j % 4 : Nat) : Int) == 3) = true by rw [d3]; rfl]
                    conv => whnf
                    repeat (first | ((with_reducible refine hK _ _ _ ?_); clear hK) | (with_reducible refine seq_step fun K hK => ?_) | (with_reducible refine block_step ?_) | ((with_reducible refine cond_t ?_ ?_); focus rfl) | ((with_reducible refine cond_f ?_ ?_); focus rfl) | ((with_reducible refine code_id ?_); conv => whnf) | (clear hK; (with_reducible refine hK _ _ _ ?_); clear hK) | (clear hK; clear hK; (with_reducible refine hK _ _ _ ?_); clear hK) | (clear hK; clear hK; clear hK; (with_reducible refine hK _ _ _ ?_); clear hK) | (clear hK; clear hK; clear hK; clear hK; (with_reducible refine hK _ _ _ ?_); clear hK) | (clear hK; clear hK; clear hK; clear hK; clear hK; (with_reducible refine hK _ _ _ ?_); clear hK) | (clear hK; clear hK; clear hK; clear hK; clear hK; clear hK; (with_reducible refine hK _ _ _ ?_); clear hK) | (clear hK; clear hK; clear hK; clear hK; clear hK; clear hK; clear hK; (with_reducible refine hK _ _ _ ?_); clear hK) | (refine ⟨_, _, SubH.refl _, SubB.refl _, ?_⟩; conv => whnf) | (refine ⟨⟨SubH.refl _, SubB.refl _⟩, ?_⟩; conv => whnf) | (refine ⟨_, _, ⟨SubH.refl _, SubB.refl _⟩, SubH.refl _, SubB.refl _, ?_⟩; conv => whnf))
                    exact ⟨(j + 1, g7), ⟨hjN, hg7.tail⟩, by dsimp only; omega, subE_cons rfl (subE_cons rfl (subE_cons rfl (subE_cons rfl (subE_cons rfl (subE_cons rfl (subE_cons (int_eq hnext3 rfl) subE_nil)))))), by
                      dsimp only
                      rw [prevT_succ, if_pos htj, lastT_succ, if_pos ⟨htj, .inr d3⟩]
                      exact subB_cons rfl (subB_cons rfl subB_nil), rfl⟩
                  rw [show (((j % 4 : Nat) : Int) == 3) = false from beq_eq_false_iff_ne.2 (by omega)]
                  conv => whnf
                  repeat (first | ((with_reducible refine hK _ _ _ ?_); clear hK) | (with_reducible refine seq_step fun K hK => ?_) | (with_reducible refine block_step ?_) | ((with_reducible refine cond_t ?_ ?_); focus rfl) | ((with_reducible refine cond_f ?_ ?_); focus rfl) | ((with_reducible refine code_id ?_); conv => whnf) | (clear hK; (with_reducible refine hK _ _ _ ?_); clear hK) | (clear hK; clear hK; (with_reducible refine hK _ _ _ ?_); clear hK) | (clear hK; clear hK; clear hK; (with_reducible refine hK _ _ _ ?_); clear hK) | (clear hK; clear hK; clear hK; clear hK; (with_reducible refine hK _ _ _ ?_); clear hK) | (clear hK; clear hK; clear hK; clear hK; clear hK; (with_reducible refine hK _ _ _ ?_); clear hK) | (clear hK; clear hK; clear hK; clear hK; clear hK; clear hK; (with_reducible refine hK _ _ _ ?_); clear hK) | (clear hK; clear hK; clear hK; clear hK; clear hK; clear hK; clear hK; (with_reducible refine hK _ _ _ ?_); clear hK) | (refine ⟨_, _, SubH.refl _, SubB.refl _, ?_⟩; conv => whnf) | (refine ⟨⟨SubH.refl _, SubB.refl _⟩, ?_⟩; conv => whnf) | (refine ⟨_, _, ⟨SubH.refl _, SubB.refl _⟩, SubH.refl _, SubB.refl _, ?_⟩; conv => whnf))
                  exact ⟨(j + 1, g7), ⟨hjN, hg7.tail⟩, by dsimp only; omega, subE_cons rfl (subE_cons rfl (subE_cons rfl (subE_cons rfl (subE_cons rfl (subE_cons rfl (subE_cons (int_eq hnext3 rfl) subE_nil)))))), by
                    dsimp only
                    rw [prevT_succ, if_pos htj, lastT_succ, if_neg (fun e => e.2.elim d0 d3), hpl2]
                    exact subB_cons rfl (subB_cons rfl subB_nil), rfl⟩
              · refine ⟨rfl, ?_⟩
                conv => whnf
                refine ⟨_, _, ⟨SubH.refl _, SubB.new rfl⟩, SubH.refl _, SubB.refl _, ?_⟩
                conv => whnf
                refine fresh_has hg5 fun b7 g7 _ _ hs7 hg7 => ?_
                have hv7 : Vw 1 g7 (.slice (some ⟨b7, 0, none⟩) 2 2) 2 [iv 3, iv 0] := (pt_wn (e := 1) (n := 2) (cap := 2) (cs := [iv 3, iv 0]) rfl (Nat.le_refl _) rfl (hg7.pt 0 rfl)).vw
                have hbl7 := hs7 _ _ hbl
                conv => whnf
                refine ⟨⟨hs7, SubB.refl _⟩, ?_⟩
                conv => whnf
                refine hl2.up14 (CapsA.rd hg7 3 rfl) (hnone.sub (hg7.is 4 rfl)) htj hv7 hpl2 ?_
                conv => whnf
                repeat (first | ((with_reducible refine hK _ _ _ ?_); clear hK) | (with_reducible refine seq_step fun K hK => ?_) | (with_reducible refine block_step ?_) | ((with_reducible refine cond_t ?_ ?_); focus rfl) | ((with_reducible refine cond_f ?_ ?_); focus rfl) | ((with_reducible refine code_id ?_); conv => whnf) | (clear hK; (with_reducible refine hK _ _ _ ?_); clear hK) | (clear hK; clear hK; (with_reducible refine hK _ _ _ ?_); clear hK) | (clear hK; clear hK; clear hK; (with_reducible refine hK _ _ _ ?_); clear hK) | (clear hK; clear hK; clear hK; clear hK; (with_reducible refine hK _ _ _ ?_); clear hK) | (clear hK; clear hK; clear hK; clear hK; clear hK; (with_reducible refine hK _ _ _ ?_); clear hK) | (clear hK; clear hK; clear hK; clear hK; clear hK; clear hK; (with_reducible refine hK _ _ _ ?_); clear hK) | (clear hK; clear hK; clear hK; clear hK; clear hK; clear hK; clear hK; (with_reducible refine hK _ _ _ ?_); clear hK) | (refine ⟨_, _, SubH.refl _, SubB.refl _, ?_⟩; conv => whnf) | (refine ⟨⟨SubH.refl _, SubB.refl _⟩, ?_⟩; conv => whnf) | (refine ⟨_, _, ⟨SubH.refl _, SubB.refl _⟩, SubH.refl _, SubB.refl _, ?_⟩; conv => whnf))
                rw [show ((x1 == x1) && ((y1 == y1) && true)) = true by simp]
                conv => whnf
                rw [show ((x2 == x2) && ((y2 == y2) && true)) = true by simp]
                conv => whnf
                repeat (first | ((with_reducible refine hK _ _ _ ?_); clear hK) | (with_reducible refine seq_step fun K hK => ?_) | (with_reducible refine block_step ?_) | ((with_reducible refine cond_t ?_ ?_); focus rfl) | ((with_reducible refine cond_f ?_ ?_); focus rfl) | ((with_reducible refine code_id ?_); conv => whnf) | (clear hK; (with_reducible refine hK _ _ _ ?_); clear hK) | (clear hK; clear hK; (with_reducible refine hK _ _ _ ?_); clear hK) | (clear hK; clear hK; clear hK; (with_reducible refine hK _ _ _ ?_); clear hK) | (clear hK; clear hK; clear hK; clear hK; (with_reducible refine hK _ _ _ ?_); clear hK) | (clear hK; clear hK; clear hK; clear hK; clear hK; (with_reducible refine hK _ _ _ ?_); clear hK) | (clear hK; clear hK; clear hK; clear hK; clear hK; clear hK; (with_reducible refine hK _ _ _ ?_); clear hK) | (clear hK; clear hK; clear hK; clear hK; clear hK; clear hK; clear hK; (with_reducible refine hK _ _ _ ?_); clear hK) | (refine ⟨_, _, SubH.refl _, SubB.refl _, ?_⟩; conv => whnf) | (refine ⟨⟨SubH.refl _, SubB.refl _⟩, ?_⟩; conv => whnf) | (refine ⟨_, _, ⟨SubH.refl _, SubB.refl _⟩, SubH.refl _, SubB.refl _, ?_⟩; conv => whnf))
                refine opt_if ⟨by omega, by omega⟩ ?_
                conv => whnf
                refine opt_ld hbl7 (v := .agg #[iv (j % 4 : Nat), iv (j / 4 : Nat)]) (by show rd cl (ol + (j : Int).toNat * 2) 2 true = _; rw [Int.toNat_natCast]; exact hc2) ?_
                conv => whnf
                repeat (first | ((with_reducible refine hK _ _ _ ?_); clear hK) | (with_reducible refine seq_step fun K hK => ?_) | (with_reducible refine block_step ?_) | ((with_reducible refine cond_t ?_ ?_); focus rfl) | ((with_reducible refine cond_f ?_ ?_); focus rfl) | ((with_reducible refine code_id ?_); conv => whnf) | (clear hK; (with_reducible refine hK _ _ _ ?_); clear hK) | (clear hK; clear hK; (with_reducible refine hK _ _ _ ?_); clear hK) | (clear hK; clear hK; clear hK; (with_reducible refine hK _ _ _ ?_); clear hK) | (clear hK; clear hK; clear hK; clear hK; (with_reducible refine hK _ _ _ ?_); clear hK) | (clear hK; clear hK; clear hK; clear hK; clear hK; (with_reducible refine hK _ _ _ ?_); clear hK) | (clear hK; clear hK; clear hK; clear hK; clear hK; clear hK; (with_reducible refine hK _ _ _ ?_); clear hK) | (clear hK; clear hK; clear hK; clear hK; clear hK; clear hK; clear hK; (with_reducible refine hK _ _ _ ?_); clear hK) | (refine ⟨_, _, SubH.refl _, SubB.refl _, ?_⟩; conv => whnf) | (refine ⟨⟨SubH.refl _, SubB.refl _⟩, ?_⟩; conv => whnf) | (refine ⟨_, _, ⟨SubH.refl _, SubB.refl _⟩, SubH.refl _, SubB.refl _, ?_⟩; conv => whnf))
                by_cases d0 : j % 4 = 0
                · rw [show (((j % 4 : Nat) : Int) == 0) = true by rw [d0]; rfl]
                  conv => whnf
                  repeat (first | ((with_reducible refine hK _ _ _ ?_); clear hK) | (with_reducible refine seq_step fun K hK => ?_) | (with_reducible refine block_step ?_) | ((with_reducible refine cond_t ?_ ?_); focus rfl) | ((with_reducible refine cond_f ?_ ?_); focus rfl) | ((with_reducible refine code_id ?_); conv => whnf) | (clear hK; (with_reducible refine hK _ _ _ ?_); clear hK) | (clear hK; clear hK; (with_reducible refine hK _ _ _ ?_); clear hK) | (clear hK; clear hK; clear hK; (with_reducible refine hK _ _ _ ?_); clear hK) | (clear hK; clear hK; clear hK; clear hK; (with_reducible refine hK _ _ _ ?_); clear hK) | (clear hK; clear hK; clear hK; clear hK; clear hK; (with_reducible refine hK _ _ _ ?_); clear hK) | (clear hK; clear hK; clear hK; clear hK; clear hK; clear hK; (with_reducible refine hK _ _ _ ?_); clear hK) | (clear hK; clear hK; clear hK; clear hK; clear hK; clear hK; clear hK; (with_reducible refine hK _ _ _ ?_); clear hK) | (refine ⟨_, _, SubH.refl _, SubB.refl _, ?_⟩; conv => whnf) | (refine ⟨⟨SubH.refl _, SubB.refl _⟩, ?_⟩; conv => whnf) | (refine ⟨_, _, ⟨SubH.refl _, SubB.refl _⟩, SubH.refl _, SubB.refl _, ?_⟩; conv => whnf))
                  exact ⟨(j + 1, g7), ⟨hjN, hg7.tail⟩, by dsimp only; omega, subE_cons rfl (subE_cons rfl (subE_cons rfl (subE_cons rfl (subE_cons rfl (subE_cons rfl (subE_cons (int_eq hnext3 rfl) subE_nil)))))), by
                    dsimp only
                    rw [prevT_succ, if_pos htj, lastT_succ, if_pos ⟨htj, .inl d0⟩]
                    exact subB_cons rfl (subB_cons rfl subB_nil), rfl⟩
                rw [show (((j % 4 : Nat) : Int) == 0) = false from beq_eq_false_iff_ne.2 (by omega)]
                conv => whnf
                by_cases d3 : j % 4 = 3
                · rw [show (((j % 4 : Nat) : Int) == 3) = true by rw [d3]; rfl]
                  conv => whnf
                  repeat (first | ((with_reducible refine hK _ _ _ ?_); clear hK) | (with_reducible refine seq_step fun K hK => ?_) | (with_reducible refine block_step ?_) | ((with_reducible refine cond_t ?_ ?_); focus rfl) | ((with_reducible refine cond_f ?_ ?_); focus rfl) | ((with_reducible refine code_id ?_); conv => whnf) | (clear hK; (with_reducible refine hK _ _ _ ?_); clear hK) | (clear hK; clear hK; (with_reducible refine hK _ _ _ ?_); clear hK) | (clear hK; clear hK; clear hK; (with_reducible refine hK _ _ _ ?_); clear hK) | (clear hK; clear hK; clear hK; clear hK; (with_reducible refine hK _ _ _ ?_); clear hK) | (clear hK; clear hK; clear hK; clear hK; clear hK; (with_reducible refine hK _ _ _ ?_); clear hK) | (clear hK; clear hK; clear hK; clear hK; clear hK; clear hK; (with_reducible refine hK _ _ _ ?_); clear hK) | (clear hK; clear hK; clear hK; clear hK; clear hK; clear hK; clear hK; (with_reducible refine hK _ _ _ ?_); clear hK) | (refine ⟨_, _, SubH.refl _, SubB.refl _, ?_⟩; conv => whnf) | (refine ⟨⟨SubH.refl _, SubB.refl _⟩, ?_⟩; conv => whnf) | (refine ⟨_, _, ⟨SubH.refl _, SubB.refl _⟩, SubH.refl _, SubB.refl _, ?_⟩; conv => whnf))
                  exact ⟨(j + 1, g7), ⟨hjN, hg7.tail⟩, by dsimp only; omega, subE_cons rfl (subE_cons rfl (subE_cons rfl (subE_cons rfl (subE_cons rfl (subE_cons rfl (subE_cons (int_eq hnext3 rfl) subE_nil)))))), by
                    dsimp only
                    rw [prevT_succ, if_pos htj, lastT_succ, if_pos ⟨htj, .inr d3⟩]
                    exact subB_cons rfl (subB_cons rfl subB_nil), rfl⟩
                rw [show (((j % 4 : Nat) : Int) == 3) = false from beq_eq_false_iff_ne.2 (by omega)]
                conv => whnf
                repeat (first | ((with_reducible refine hK _ _ _ ?_); clear hK) | (with_reducible refine seq_step fun K hK => ?_) | (with_reducible refine block_step ?_) | ((with_reducible refine cond_t ?_ ?_); focus rfl) | ((with_reducible refine cond_f ?_ ?_); focus rfl) | ((with_reducible refine code_id ?_); conv => whnf) | (clear hK; (with_reducible refine hK _ _ _ ?_); clear hK) | (clear hK; clear hK; (with_reducible refine hK _ _ _ ?_); clear hK) | (clear hK; clear hK; clear hK; (with_reducible refine hK _ _ _ ?_); clear hK) | (clear hK; clear hK; clear hK; clear hK; (with_reducible refine hK _ _ _ ?_); clear hK) | (clear hK; clear hK; clear hK; clear hK; clear hK; (with_reducible refine hK _ _ _ ?_); clear hK) | (clear hK; clear hK; clear hK; clear hK; clear hK; clear hK; (with_reducible refine hK _ _ _ ?_); clear hK) | (clear hK; clear hK; clear hK; clear hK; clear hK; clear hK; clear hK; (with_reducible refine hK _ _ _ ?_); clear hK) | (refine ⟨_, _, SubH.refl _, SubB.refl _, ?_⟩; conv => whnf) | (refine ⟨⟨SubH.refl _, SubB.refl _⟩, ?_⟩; conv => whnf) | (refine ⟨_, _, ⟨SubH.refl _, SubB.refl _⟩, SubH.refl _, SubB.refl _, ?_⟩; conv => whnf))
                exact ⟨(j + 1, g7), ⟨hjN, hg7.tail⟩, by dsimp only; omega, subE_cons rfl (subE_cons rfl (subE_cons rfl (subE_cons rfl (subE_cons rfl (subE_cons rfl (subE_cons (int_eq hnext3 rfl) subE_nil)))))), by
                  dsimp only
                  rw [prevT_succ, if_pos htj, lastT_succ, if_neg (fun e => e.2.elim d0 d3), hpl2]
                  exact subB_cons rfl (subB_cons rfl subB_nil), rfl⟩
            · refine ⟨rfl, ?_⟩
              conv => whnf
              refine ⟨⟨SubH.refl _, SubB.new rfl⟩, ?_⟩
              conv => whnf
              refine hl2.from13 (CapsA.rd hg5 2 rfl) (hnone.sub (hg5.is 3 rfl)) htj hpl1 ?_
              conv => whnf
              repeat (first | ((with_reducible refine hK _ _ _ ?_); clear hK) | (with_reducible refine seq_step fun K hK => ?_) | (with_reducible refine block_step ?_) | ((with_reducible refine cond_t ?_ ?_); focus rfl) | ((with_reducible refine cond_f ?_ ?_); focus rfl) | ((with_reducible refine code_id ?_); conv => whnf) | (clear hK; (with_reducible refine hK _ _ _ ?_); clear hK) | (clear hK; clear hK; (with_reducible refine hK _ _ _ ?_); clear hK) | (clear hK; clear hK; clear hK; (with_reducible refine hK _ _ _ ?_); clear hK) | (clear hK; clear hK; clear hK; clear hK; (with_reducible refine hK _ _ _ ?_); clear hK) | (clear hK; clear hK; clear hK; clear hK; clear hK; (with_reducible refine hK _ _ _ ?_); clear hK) | (clear hK; clear hK; clear hK; clear hK; clear hK; clear hK; (with_reducible refine hK _ _ _ ?_); clear hK) | (clear hK; clear hK; clear hK; clear hK; clear hK; clear hK; clear hK; (with_reducible refine hK _ _ _ ?_); clear hK) | (refine ⟨_, _, SubH.refl _, SubB.refl _, ?_⟩; conv => whnf) | (refine ⟨⟨SubH.refl _, SubB.refl _⟩, ?_⟩; conv => whnf) | (refine ⟨_, _, ⟨SubH.refl _, SubB.refl _⟩, SubH.refl _, SubB.refl _, ?_⟩; conv => whnf))
              refine opt_if ⟨by omega, by omega⟩ ?_
              conv => whnf
              refine opt_ld hbl (v := iv (j % 4 : Nat)) (by show cl[ol + (j : Int).toNat * 2]? = _; rw [Int.toNat_natCast]; exact hc0) ?_
              conv => whnf
              refine opt_if ⟨by omega, by omega⟩ ?_
              conv => whnf
              refine opt_ld hbl (v := iv (j / 4 : Nat)) (by show cl[ol + (j : Int).toNat * 2 + 1]? = _; rw [Int.toNat_natCast]; exact hc1) ?_
              conv => whnf
              refine ⟨?_, ?_⟩
              · refine fresh_has hg5 fun b7 g7 _ _ hs7 hg7 => ?_
                have hv7 : Vw 1 g7 (.slice (some ⟨b7, 0, none⟩) 2 2) 2 [iv 3, iv 0] := (pt_wn (e := 1) (n := 2) (cap := 2) (cs := [iv 3, iv 0]) rfl (Nat.le_refl _) rfl (hg7.pt 0 rfl)).vw
                have hbl7 := hs7 _ _ hbl
                conv => whnf
                refine ⟨g7, _, ⟨hs7, SubB.refl _⟩, SubH.refl _, SubB.refl _, ?_⟩
                conv => whnf
                refine ⟨?_, ?_⟩
                · refine hl2.up14 (CapsA.rd hg7 3 rfl) (hnone.sub (hg7.is 4 rfl)) htj hv7 hpl2 ?_
                  conv => whnf
                  refine ⟨_, _, SubH.refl _, SubB.refl _, ?_⟩
                  conv => whnf
                  refine ⟨rfl, ?_⟩
                  conv => whnf
                  refine ⟨⟨SubH.refl _, SubB.new rfl⟩, ?_⟩
                  conv => whnf
                  repeat (first | ((with_reducible refine hK _ _ _ ?_); clear hK) | (with_reducible refine seq_step fun K hK => ?_) | (with_reducible refine block_step ?_) | ((with_reducible refine cond_t ?_ ?_); focus rfl) | ((with_reducible refine cond_f ?_ ?_); focus rfl) | ((with_reducible refine code_id ?_); conv => whnf) | (clear hK; (with_reducible refine hK _ _ _ ?_); clear hK) | (clear hK; clear hK; (with_reducible refine hK _ _ _ ?_); clear hK) | (clear hK; clear hK; clear hK; (with_reducible refine hK _ _ _ ?_); clear hK) | (clear hK; clear hK; clear hK; clear hK; (with_reducible refine hK _ _ _ ?_); clear hK) | (clear hK; clear hK; clear hK; clear hK; clear hK; (with_reducible refine hK _ _ _ ?_); clear hK) | (clear hK; clear hK; clear hK; clear hK; clear hK; clear hK; (with_reducible refine hK _ _ _ ?_); clear hK) | (clear hK; clear hK; clear hK; clear hK; clear hK; clear hK; clear hK; (with_reducible refine hK _ _ _ ?_); clear hK) | (refine ⟨_, _, SubH.refl _, SubB.refl _, ?_⟩; conv => whnf) | (refine ⟨⟨SubH.refl _, SubB.refl _⟩, ?_⟩; conv => whnf) | (refine ⟨_, _, ⟨SubH.refl _, SubB.refl _⟩, SubH.refl _, SubB.refl _, ?_⟩; conv => whnf))
                  rw [show ((x1 == x1) && ((y1 == y1) && true)) = true by simp]
                  conv => whnf
                  rw [show ((x2 == x2) && ((y2 == y2) && true)) = true by simp]
                  conv => whnf
                  repeat (first | ((with_reducible refine hK _ _ _ ?_); clear hK) | (with_reducible refine seq_step fun K hK => ?_) | (with_reducible refine block_step ?_) | ((with_reducible refine cond_t ?_ ?_); focus rfl) | ((with_reducible refine cond_f ?_ ?_); focus rfl) | ((with_reducible refine code_id ?_); conv => whnf) | (clear hK; (with_reducible refine hK _ _ _ ?_); clear hK) | (clear hK; clear hK; (with_reducible refine hK _ _ _ ?_); clear hK) | (clear hK; clear hK; clear hK; (with_reducible refine hK _ _ _ ?_); clear hK) | (clear hK; clear hK; clear hK; clear hK; (with_reducible refine hK _ _ _ ?_); clear hK) | (clear hK; clear hK; clear hK; clear hK; clear hK; (with_reducible refine hK _ _ _ ?_); clear hK) | (clear hK; clear hK; clear hK; clear hK; clear hK; clear hK; (with_reducible refine hK _ _ _ ?_); clear hK) | (clear hK; clear hK; clear hK; clear hK; clear hK; clear hK; clear hK; (with_reducible refine hK _ _ _ ?_); clear hK) | (refine ⟨_, _, SubH.refl _, SubB.refl _, ?_⟩; conv => whnf) | (refine ⟨⟨SubH.refl _, SubB.refl _⟩, ?_⟩; conv => whnf) | (refine ⟨_, _, ⟨SubH.refl _, SubB.refl _⟩, SubH.refl _, SubB.refl _, ?_⟩; conv => whnf))
                  refine opt_if ⟨by omega, by omega⟩ ?_
                  conv => whnf
                  refine opt_ld hbl7 (v := .agg #[iv (j % 4 : Nat), iv (j / 4 : Nat)]) (by show rd cl (ol + (j : Int).toNat * 2) 2 true = _; rw [Int.toNat_natCast]; exact hc2) ?_
                  conv => whnf
                  repeat (first | ((with_reducible refine hK _ _ _ ?_); clear hK) | (with_reducible refine seq_step fun K hK => ?_) | (with_reducible refine block_step ?_) | ((with_reducible refine cond_t ?_ ?_); focus rfl) | ((with_reducible refine cond_f ?_ ?_); focus rfl) | ((with_reducible refine code_id ?_); conv => whnf) | (clear hK; (with_reducible refine hK _ _ _ ?_); clear hK) | (clear hK; clear hK; (with_reducible refine hK _ _ _ ?_); clear hK) | (clear hK; clear hK; clear hK; (with_reducible refine hK _ _ _ ?_); clear hK) | (clear hK; clear hK; clear hK; clear hK; (with_reducible refine hK _ _ _ ?_); clear hK) | (clear hK; clear hK; clear hK; clear hK; clear hK; (with_reducible refine hK _ _ _ ?_); clear hK) | (clear hK; clear hK; clear hK; clear hK; clear hK; clear hK; (with_reducible refine hK _ _ _ ?_); clear hK) | (clear hK; clear hK; clear hK; clear hK; clear hK; clear hK; clear hK; (with_reducible refine hK _ _ _ ?_); clear hK) | (refine ⟨_, _, SubH.refl _, SubB.refl _, ?_⟩; conv => whnf) | (refine ⟨⟨SubH.refl _, SubB.refl _⟩, ?_⟩; conv => whnf) | (refine ⟨_, _, ⟨SubH.refl _, SubB.refl _⟩, SubH.refl _, SubB.refl _, ?_⟩; conv => whnf))
                  by_cases d0 : j % 4 = 0
                  · rw [show (((j % 4 : Nat) : Int) == 0) = true by rw [d0]; rfl]
                    conv => whnf
                    repeat (first | ((with_reducible refine hK _ _ _ ?_); clear hK) | (with_reducible refine seq_step fun K hK => ?_) | (with_reducible refine block_step ?_) | ((with_reducible refine cond_t ?_ ?_); focus rfl) | ((with_reducible refine cond_f ?_ ?_); focus rfl) | ((with_reducible refine code_id ?_); conv => whnf) | (clear hK; (with_reducible refine hK _ _ _ ?_); clear hK) | (clear hK; clear hK; (with_reducible refine hK _ _ _ ?_); clear hK) | (clear hK; clear hK; clear hK; (with_reducible refine hK _ _ _ ?_); clear hK) | (clear hK; clear hK; clear hK; clear hK; (with_reducible refine hK _ _ _ ?_); clear hK) | (clear hK; clear hK; clear hK; clear hK; clear hK; (with_reducible refine hK _ _ _ ?_); clear hK) | (clear hK; clear hK; clear hK; clear hK; clear hK; clear hK; (with_reducible refine hK _ _ _ ?_); clear hK) | (clear hK; clear hK; clear hK; clear hK; clear hK; clear hK; clear hK; (with_reducible refine hK _ _ _ ?_); clear hK) | (refine ⟨_, _, SubH.refl _, SubB.refl _, ?_⟩; conv => whnf) | (refine ⟨⟨SubH.refl _, SubB.refl _⟩, ?_⟩; conv => whnf) | (refine ⟨_, _, ⟨SubH.refl _, SubB.refl _⟩, SubH.refl _, SubB.refl _, ?_⟩; conv => whnf))
                    exact ⟨(j + 1, g7), ⟨hjN, hg7.tail⟩, by dsimp only; omega, subE_cons rfl (subE_cons rfl (subE_cons rfl (subE_cons rfl (subE_cons rfl (subE_cons rfl (subE_cons (int_eq hnext3 rfl) subE_nil)))))), by
                      dsimp only
                      rw [prevT_succ, if_pos htj, lastT_succ, if_pos ⟨htj, .inl d0⟩]
                      exact subB_cons rfl (subB_cons rfl subB_nil), rfl⟩
                  rw [show (((j % 4 : Nat) : Int) == 0) = false from beq_eq_false_iff_ne.2 (by omega)]
                  conv => whnf
                  by_cases d3 : j % 4 = 3
                  · rw [show (((j % 4 : Nat) : Int) == 3) = true by rw [d3]; rfl]
                    conv => whnf
                    repeat (first | ((with_reducible refine hK _ _ _ ?_); clear hK) | (with_reducible refine seq_step fun K hK => ?_) | (with_reducible refine block_step ?_) | ((with_reducible refine cond_t ?_ ?_); focus rfl) | ((with_reducible refine cond_f ?_ ?_); focus rfl) | ((with_reducible refine code_id ?_); conv => whnf) | (clear hK; (with_reducible refine hK _ _ _ ?_); clear hK) | (clear hK; clear hK; (with_reducible refine hK _ _ _ ?_); clear hK) | (clear hK; clear hK; clear hK; (with_reducible refine hK _ _ _ ?_); clear hK) | (clear hK; clear hK; clear hK; clear hK; (with_reducible refine hK _ _ _ ?_); clear hK) | (clear hK; clear hK; clear hK; clear hK; clear hK; (with_reducible refine hK _ _ _ ?_); clear hK) | (clear hK; clear hK; clear hK; clear hK; clear hK; clear hK; (with_reducible refine hK _ _ _ ?_); clear hK) | (clear hK; clear hK; clear hK; clear hK; clear hK; clear hK; clear hK; (with_reducible refine hK _ _ _ ?_); clear hK) | (refine ⟨_, _, SubH.refl _, SubB.refl _, ?_⟩; conv => whnf) | (refine ⟨⟨SubH.refl _, SubB.refl _⟩, ?_⟩; conv => whnf) | (refine ⟨_, _, ⟨SubH.refl _, SubB.refl _⟩, SubH.refl _, SubB.refl _, ?_⟩; conv => whnf))
                    exact ⟨(j + 1, g7), ⟨hjN, hg7.tail⟩, by dsimp only; omega, subE_cons rfl (subE_cons rfl (subE_cons rfl (subE_cons rfl (subE_cons rfl (subE_cons rfl (subE_cons (int_eq hnext3 rfl) subE_nil)))))), by
                      dsimp only
                      rw [prevT_succ, if_pos htj, lastT_succ, if_pos ⟨htj, .inr d3⟩]
                      exact subB_cons rfl (subB_cons rfl subB_nil), rfl⟩
                  rw [show (((j % 4 : Nat) : Int) == 3) = false from beq_eq_false_iff_ne.2 (by omega)]
                  conv => whnf
                  repeat (first | ((with_reducible refine hK _ _ _ ?_); clear hK) | (with_reducible refine seq_step fun K hK => ?_) | (with_reducible refine block_step ?_) | ((with_reducible refine cond_t ?_ ?_); focus rfl) | ((with_reducible refine cond_f ?_ ?_); focus rfl) | ((with_reducible refine code_id ?_); conv => whnf) | (clear hK; (with_reducible refine hK _ _ _ ?_); clear hK) | (clear hK; clear hK; (with_reducible refine hK _ _ _ ?_); clear hK) | (clear hK; clear hK; clear hK; (with_reducible refine hK _ _ _ ?_); clear hK) | (clear hK; clear hK; clear hK; clear hK; (with_reducible refine hK _ _ _ ?_); clear hK) | (clear hK; clear hK; clear hK; clear hK; clear hK; (with_reducible refine hK _ _ _ ?_); clear hK) | (clear hK; clear hK; clear hK; clear hK; clear hK; clear hK; (with_reducible refine hK _ _ _ ?_); clear hK) | (clear hK; clear hK; clear hK; clear hK; clear hK; clear hK; clear hK; (with_reducible refine hK _ _ _ ?_); clear hK) | (refine ⟨_, _, SubH.refl _, SubB.refl _, ?_⟩; conv => whnf) | (refine ⟨⟨SubH.refl _, SubB.refl _⟩, ?_⟩; conv => whnf) | (refine ⟨_, _, ⟨SubH.refl _, SubB.refl _⟩, SubH.refl _, SubB.refl _, ?_⟩; conv => whnf))
                  exact ⟨(j + 1, g7), ⟨hjN, hg7.tail⟩, by dsimp only; omega, subE_cons rfl (subE_cons rfl (subE_cons rfl (subE_cons rfl (subE_cons rfl (subE_cons rfl (subE_cons (int_eq hnext3 rfl) subE_nil)))))), by
                    dsimp only
                    rw [prevT_succ, if_pos htj, lastT_succ, if_neg (fun e => e.2.elim d0 d3), hpl2]
                    exact subB_cons rfl (subB_cons rfl subB_nil), rfl⟩
                · refine ⟨rfl, ?_⟩
                  conv => whnf
                  refine ⟨⟨SubH.refl _, SubB.new rfl⟩, ?_⟩
                  conv => whnf
                  refine hl2.up14 (CapsA.rd hg7 3 rfl) (hnone.sub (hg7.is 4 rfl)) htj hv7 hpl2 ?_
                  conv => whnf
                  repeat (first | ((with_reducible refine hK _ _ _ ?_); clear hK) | (with_reducible refine seq_step fun K hK => ?_) | (with_reducible refine block_step ?_) | ((with_reducible refine cond_t ?_ ?_); focus rfl) | ((with_reducible refine cond_f ?_ ?_); focus rfl) | ((with_reducible refine code_id ?_); conv => whnf) | (clear hK; (with_reducible refine hK _ _ _ ?_); clear hK) | (clear hK; clear hK; (with_reducible refine hK _ _ _ ?_); clear hK) | (clear hK; clear hK; clear hK; (with_reducible refine hK _ _ _ ?_); clear hK) | (clear hK; clear hK; clear hK; clear hK; (with_reducible refine hK _ _ _ ?_); clear hK) | (clear hK; clear hK; clear hK; clear hK; clear hK; (with_reducible refine hK _ _ _ ?_); clear hK) | (clear hK; clear hK; clear hK; clear hK; clear hK; clear hK; (with_reducible refine hK _ _ _ ?_); clear hK) | (clear hK; clear hK; clear hK; clear hK; clear hK; clear hK; clear hK; (with_reducible refine hK _ _ _ ?_); clear hK) | (refine ⟨_, _, SubH.refl _, SubB.refl _, ?_⟩; conv => whnf) | (refine ⟨⟨SubH.refl _, SubB.refl _⟩, ?_⟩; conv => whnf) | (refine ⟨_, _, ⟨SubH.refl _, SubB.refl _⟩, SubH.refl _, SubB.refl _, ?_⟩; conv => whnf))
                  rw [show ((x1 == x1) && ((y1 == y1) && true)) = true by simp]
                  conv => whnf
                  rw [show ((x2 == x2) && ((y2 == y2) && true)) = true by simp]
                  conv => whnf
                  repeat (first | ((with_reducible refine hK _ _ _ ?_); clear hK) | (with_reducible refine seq_step fun K hK => ?_) | (with_reducible refine block_step ?_) | ((with_reducible refine cond_t ?_ ?_); focus rfl) | ((with_reducible refine cond_f ?_ ?_); focus rfl) | ((with_reducible refine code_id ?_); conv => whnf) | (clear hK; (with_reducible refine hK _ _ _ ?_); clear hK) | (clear hK; clear hK; (with_reducible refine hK _ _ _ ?_); clear hK) | (clear hK; clear hK; clear hK; (with_reducible refine hK _ _ _ ?_); clear hK) | (clear hK; clear hK; clear hK; clear hK; (with_reducible refine hK _ _ _ ?_); clear hK) | (clear hK; clear hK; clear hK; clear hK; clear hK; (with_reducible refine hK _ _ _ ?_); clear hK) | (clear hK; clear hK; clear hK; clear hK; clear hK; clear hK; (with_reducible refine hK _ _ _ ?_); clear hK) | (clear hK; clear hK; clear hK; clear hK; clear hK; clear hK; clear hK; (with_reducible refine hK _ _ _ ?_); clear hK) | (refine ⟨_, _, SubH.refl _, SubB.refl _, ?_⟩; conv => whnf) | (refine ⟨⟨SubH.refl _, SubB.refl _⟩, ?_⟩; conv => whnf) | (refine ⟨_, _, ⟨SubH.refl _, SubB.refl _⟩, SubH.refl _, SubB.refl _, ?_⟩; conv => whnf))
                  refine opt_if ⟨by omega, by omega⟩ ?_
                  conv => whnf
                  refine opt_ld hbl7 (v := .agg #[iv (j % 4 : Nat), iv (j / 4 : Nat)]) (by show rd cl (ol + (j : Int).toNat * 2) 2 true = _; rw [Int.toNat_natCast]; exact hc2) ?_
                  conv => whnf
                  repeat (first | ((with_reducible refine hK _ _ _ ?_); clear hK) | (with_reducible refine seq_step fun K hK => ?_) | (with_reducible refine block_step ?_) | ((with_reducible refine cond_t ?_ ?_); focus rfl) | ((with_reducible refine cond_f ?_ ?_); focus rfl) | ((with_reducible refine code_id ?_); conv => whnf) | (clear hK; (with_reducible refine hK _ _ _ ?_); clear hK) | (clear hK; clear hK; (with_reducible refine hK _ _ _ ?_); clear hK) | (clear hK; clear hK; clear hK; (with_reducible refine hK _ _ _ ?_); clear hK) | (clear hK; clear hK; clear hK; clear hK; (with_reducible refine hK _ _ _ ?_); clear hK) | (clear hK; clear hK; clear hK; clear hK; clear hK; (with_reducible refine hK _ _ _ ?_); clear hK) | (clear hK; clear hK; clear hK; clear hK; clear hK; clear hK; (with_reducible refine hK _ _ _ ?_); clear hK) | (clear hK; clear hK; clear hK; clear hK; clear hK; clear hK; clear hK; (with_reducible refine hK _ _ _ ?_); clear hK) | (refine ⟨_, _, SubH.refl _, SubB.refl _, ?_⟩; conv => whnf) | (refine ⟨⟨SubH.refl _, SubB.refl _⟩, ?_⟩; conv => whnf) | (refine ⟨_, _, ⟨SubH.refl _, SubB.refl _⟩, SubH.refl _, SubB.refl _, ?_⟩; conv => whnf))
                  by_cases d0 : j % 4 = 0
                  · rw [show (((j % 4 : Nat) : Int) == 0) = true by rw [d0]; rfl]
                    conv => whnf
                    repeat (first | ((with_reducible refine hK _ _ _ ?_); clear hK) | (with_reducible refine seq_step fun K hK => ?_) | (with_reducible refine block_step ?_) | ((with_reducible refine cond_t ?_ ?_); focus rfl) | ((with_reducible refine cond_f ?_ ?_); focus rfl) | ((with_reducible refine code_id ?_); conv => whnf) | (clear hK; (with_reducible refine hK _ _ _ ?_); clear hK) | (clear hK; clear hK; (with_reducible refine hK _ _ _ ?_); clear hK) | (clear hK; clear hK; clear hK; (with_reducible refine hK _ _ _ ?_); clear hK) | (clear hK; clear hK; clear hK; clear hK; (with_reducible refine hK _ _ _ ?_); clear hK) | (clear hK; clear hK; clear hK; clear hK; clear hK; (with_reducible refine hK _ _ _ ?_); clear hK) | (clear hK; clear hK; clear hK; clear hK; clear hK; clear hK; (with_reducible refine hK _ _ _ ?_); clear hK) | (clear hK; clear hK; clear hK; clear hK; clear hK; clear hK; clear hK; (with_reducible refine hK _ _ _ ?_); clear hK) | (refine ⟨_, _, SubH.refl _, SubB.refl _, ?_⟩; conv => whnf) | (refine ⟨⟨SubH.refl _, SubB.refl _⟩, ?_⟩; conv => whnf) | (refine ⟨_, _, ⟨SubH.refl _, SubB.refl _⟩, SubH.refl _, SubB.refl _, ?_⟩; conv => whnf))
                    exact ⟨(j + 1, g7), ⟨hjN, hg7.tail⟩, by dsimp only; omega, subE_cons rfl (subE_cons rfl (subE_cons rfl (subE_cons rfl (subE_cons rfl (subE_cons rfl (subE_cons (int_eq hnext3 rfl) subE_nil)))))), by
                      dsimp only
                      rw [prevT_succ, if_pos htj, lastT_succ, if_pos ⟨htj, .inl d0⟩]
                      exact subB_cons rfl (subB_cons rfl subB_nil), rfl⟩
                  rw [show (((j % 4 : Nat) : Int) == 0) = false from beq_eq_false_iff_ne.2 (by omega)]
                  conv => whnf
                  by_cases d3 : j % 4 = 3
                  · rw [show (((j % 4 : Nat) : Int) == 3) = true by rw [d3]; rfl]
                    conv => whnf
                    repeat (first | ((with_reducible refine hK _ _ _ ?_); clear hK) | (with_reducible refine seq_step fun K hK => ?_) | (with_reducible refine block_step ?_) | ((with_reducible refine cond_t ?_ ?_); focus rfl) | ((with_reducible refine cond_f ?_ ?_); focus rfl) | ((with_reducible refine code_id ?_); conv => whnf) | (clear hK; (with_reducible refine hK _ _ _ ?_); clear hK) | (clear hK; clear hK; (with_reducible refine hK _ _ _ ?_); clear hK) | (clear hK; clear hK; clear hK; (with_reducible refine hK _ _ _ ?_); clear hK) | (clear hK; clear hK; clear hK; clear hK; (with_reducible refine hK _ _ _ ?_); clear hK) | (clear hK; clear hK; clear hK; clear hK; clear hK; (with_reducible refine hK _ _ _ ?_); clear hK) | (clear hK; clear hK; clear hK; clear hK; clear hK; clear hK; (with_reducible refine hK _ _ _ ?_); clear hK) | (clear hK; clear hK; clear hK; clear hK; clear hK; clear hK; clear hK; (with_reducible refine hK _ _ _ ?_); clear hK) | (refine ⟨_, _, SubH.refl _, SubB.refl _, ?_⟩; conv => whnf) | (refine ⟨⟨SubH.refl _, SubB.refl _⟩, ?_⟩; conv => whnf) | (refine ⟨_, _, ⟨SubH.refl _, SubB.refl _⟩, SubH.refl _, SubB.refl _, ?_⟩; conv => whnf))
                    exact ⟨(j + 1, g7), ⟨hjN, hg7.tail⟩, by dsimp only; omega, subE_cons rfl (subE_cons rfl (subE_cons rfl (subE_cons rfl (subE_cons rfl (subE_cons rfl (subE_cons (int_eq hnext3 rfl) subE_nil)))))), by
                      dsimp only
                      rw [prevT_succ, if_pos htj, lastT_succ, if_pos ⟨htj, .inr d3⟩]
                      exact subB_cons rfl (subB_cons rfl subB_nil), rfl⟩
                  rw [show (((j % 4 : Nat) : Int) == 3) = false from beq_eq_false_iff_ne.2 (by omega)]
                  conv => whnf
                  repeat (first | ((with_reducible refine hK _ _ _ ?_); clear hK) | (with_reducible refine seq_step fun K hK => ?_) | (with_reducible refine block_step ?_) | ((with_reducible refine cond_t ?_ ?_); focus rfl) | ((with_reducible refine cond_f ?_ ?_); focus rfl) | ((with_reducible refine code_id ?_); conv => whnf) | (clear hK; (with_reducible refine hK _ _ _ ?_); clear hK) | (clear hK; clear hK; (with_reducible refine hK _ _ _ ?_); clear hK) | (clear hK; clear hK; clear hK; (with_reducible refine hK _ _ _ ?_); clear hK) | (clear hK; clear hK; clear hK; clear hK; (with_reducible refine hK _ _ _ ?_); clear hK) | (clear hK; clear hK; clear hK; clear hK; clear hK; (with_reducible refine hK _ _ _ ?_); clear hK) | (clear hK; clear hK; clear hK; clear hK; clear hK; clear hK; (with_reducible refine hK _ _ _ ?_); clear hK) | (clear hK; clear hK; clear hK; clear hK; clear hK; clear hK; clear hK; (with_reducible refine hK _ _ _ ?_); clear hK) | (refine ⟨_, _, SubH.refl _, SubB.refl _, ?_⟩; conv => whnf) | (refine ⟨⟨SubH.refl _, SubB.refl _⟩, ?_⟩; conv => whnf) | (refine ⟨_, _, ⟨SubH.refl _, SubB.refl _⟩, SubH.refl _, SubB.refl _, ?_⟩; conv => whnf))
                  exact ⟨(j + 1, g7), ⟨hjN, hg7.tail⟩, by dsimp only; omega, subE_cons rfl (subE_cons rfl (subE_cons rfl (subE_cons rfl (subE_cons rfl (subE_cons rfl (subE_cons (int_eq hnext3 rfl) subE_nil)))))), by
                    dsimp only
                    rw [prevT_succ, if_pos htj, lastT_succ, if_neg (fun e => e.2.elim d0 d3), hpl2]
                    exact subB_cons rfl (subB_cons rfl subB_nil), rfl⟩
              · refine ⟨rfl, ?_⟩
                conv => whnf
                refine ⟨_, _, ⟨SubH.refl _, SubB.new rfl⟩, SubH.refl _, SubB.refl _, ?_⟩
                conv => whnf
                refine fresh_has hg5 fun b7 g7 _ _ hs7 hg7 => ?_
                have hv7 : Vw 1 g7 (.slice (some ⟨b7, 0, none⟩) 2 2) 2 [iv 3, iv 0] := (pt_wn (e := 1) (n := 2) (cap := 2) (cs := [iv 3, iv 0]) rfl (Nat.le_refl _) rfl (hg7.pt 0 rfl)).vw
                have hbl7 := hs7 _ _ hbl
                conv => whnf
                refine ⟨⟨hs7, SubB.refl _⟩, ?_⟩
                conv => whnf
                refine hl2.up14 (CapsA.rd hg7 3 rfl) (hnone.sub (hg7.is 4 rfl)) htj hv7 hpl2 ?_
                conv => whnf
                repeat (first | ((with_reducible refine hK _ _ _ ?_); clear hK) | (with_reducible refine seq_step fun K hK => ?_) | (with_reducible refine block_step ?_) | ((with_reducible refine cond_t ?_ ?_); focus rfl) | ((with_reducible refine cond_f ?_ ?_); focus rfl) | ((with_reducible refine code_id ?_); conv => whnf) | (clear hK; (with_reducible refine hK _ _ _ ?_); clear hK) | (clear hK; clear hK; (with_reducible refine hK _ _ _ ?_); clear hK) | (clear hK; clear hK; clear hK; (with_reducible refine hK _ _ _ ?_); clear hK) | (clear hK; clear hK; clear hK; clear hK; (with_reducible refine hK _ _ _ ?_); clear hK) | (clear hK; clear hK; clear hK; clear hK; clear hK; (with_reducible refine hK _ _ _ ?_); clear hK) | (clear hK; clear hK; clear hK; clear hK; clear hK; clear hK; (with_reducible refine hK _ _ _ ?_); clear hK) | (clear hK; clear hK; clear hK; clear hK; clear hK; clear hK; clear hK; (with_reducible refine hK _ _ _ ?_); clear hK) | (refine ⟨_, _, SubH.refl _, SubB.refl _, ?_⟩; conv => whnf) | (refine ⟨⟨SubH.refl _, SubB.refl _⟩, ?_⟩; conv => whnf) | (refine ⟨_, _, ⟨SubH.refl _, SubB.refl _⟩, SubH.refl _, SubB.refl _, ?_⟩; conv => whnf))
                rw [show ((x1 == x1) && ((y1 == y1) && true)) = true by simp]
                conv => whnf
                rw [show ((x2 == x2) && ((y2 == y2) && true)) = true by simp]
                conv => whnf
                repeat (first | ((with_reducible refine hK _ _ _ ?_); clear hK) | (with_reducible refine seq_step fun K hK => ?_) | (with_reducible refine block_step ?_) | ((with_reducible refine cond_t ?_ ?_); focus rfl) | ((with_reducible refine cond_f ?_ ?_); focus rfl) | ((with_reducible refine code_id ?_); conv => whnf) | (clear hK; (with_reducible refine hK _ _ _ ?_); clear hK) | (clear hK; clear hK; (with_reducible refine hK _ _ _ ?_); clear hK) | (clear hK; clear hK; clear hK; (with_reducible refine hK _ _ _ ?_); clear hK) | (clear hK; clear hK; clear hK; clear hK; (with_reducible refine hK _ _ _ ?_); clear hK) | (clear hK; clear hK; clear hK; clear hK; clear hK; (with_reducible refine hK _ _ _ ?_); clear hK) | (clear hK; clear hK; clear hK; clear hK; clear hK; clear hK; (with_reducible refine hK _ _ _ ?_); clear hK) | (clear hK; clear hK; clear hK; clear hK; clear hK; clear hK; clear hK; (with_reducible refine hK _ _ _ ?_); clear hK) | (refine ⟨_, _, SubH.refl _, SubB.refl _, ?_⟩; conv => whnf) | (refine ⟨⟨SubH.refl _, SubB.refl _⟩, ?_⟩; conv => whnf) | (refine ⟨_, _, ⟨SubH.refl _, SubB.refl _⟩, SubH.refl _, SubB.refl _, ?_⟩; conv => whnf))
                refine opt_if ⟨by omega, by omega⟩ ?_
                conv => whnf
                refine opt_ld hbl7 (v := .agg #[iv (j % 4 : Nat), iv (j / 4 : Nat)]) (by show rd cl (ol + (j : Int).toNat * 2) 2 true = _; rw [Int.toNat_natCast]; exact hc2) ?_
                conv => whnf
                repeat (first | ((with_reducible refine hK _ _ _ ?_); clear hK) | (with_reducible refine seq_step fun K hK => ?_) | (with_reducible refine block_step ?_) | ((with_reducible refine cond_t ?_ ?_); focus rfl) | ((with_reducible refine cond_f ?_ ?_); focus rfl) | ((with_reducible refine code_id ?_); conv => whnf) | (clear hK; (with_reducible refine hK _ _ _ ?_); clear hK) | (clear hK; clear hK; (with_reducible refine hK _ _ _ ?_); clear hK) | (clear hK; clear hK; clear hK; (with_reducible refine hK _ _ _ ?_); clear hK) | (clear hK; clear hK; clear hK; clear hK; (with_reducible refine hK _ _ _ ?_); clear hK) | (clear hK; clear hK; clear hK; clear hK; clear hK; (with_reducible refine hK _ _ _ ?_); clear hK) | (clear hK; clear hK; clear hK; clear hK; clear hK; clear hK; (with_reducible refine hK _ _ _ ?_); clear hK) | (clear hK; clear hK; clear hK; clear hK; clear hK; clear hK; clear hK; (with_reducible refine hK _ _ _ ?_); clear hK) | (refine ⟨_, _, SubH.refl _, SubB.refl _, ?_⟩; conv => whnf) | (refine ⟨⟨SubH.refl _, SubB.refl _⟩, ?_⟩; conv => whnf) | (refine ⟨_, _, ⟨SubH.refl _, SubB.refl _⟩, SubH.refl _, SubB.refl _, ?_⟩; conv => whnf))
                by_cases d0 : j % 4 = 0
                · rw [show (((j % 4 : Nat) : Int) == 0) = true by rw [d0]; rfl]
                  conv => whnf
                  repeat (first | ((with_reducible refine hK _ _ _ ?_); clear hK) | (with_reducible refine seq_step fun K hK => ?_) | (with_reducible refine block_step ?_) | ((with_reducible refine cond_t ?_ ?_); focus rfl) | ((with_reducible refine cond_f ?_ ?_); focus rfl) | ((with_reducible refine code_id ?_); conv => whnf) | (clear hK; (with_reducible refine hK _ _ _ ?_); clear hK) | (clear hK; clear hK; (with_reducible refine hK _ _ _ ?_); clear hK) | (clear hK; clear hK; clear hK; (with_reducible refine hK _ _ _ ?_); clear hK) | (clear hK; clear hK; clear hK; clear hK; (with_reducible refine hK _ _ _ ?_); clear hK) | (clear hK; clear hK; clear hK; clear hK; clear hK; (with_reducible refine hK _ _ _ ?_); clear hK) | (clear hK; clear hK; clear hK; clear hK; clear hK; clear hK; (with_reducible refine hK _ _ _ ?_); clear hK) | (clear hK; clear hK; clear hK; clear hK; clear hK; clear hK; clear hK; (with_reducible refine hK _ _ _ ?_); clear hK) | (refine ⟨_, _, SubH.refl _, SubB.refl _, ?_⟩; conv => whnf) | (refine ⟨⟨SubH.refl _, SubB.refl _⟩, ?_⟩; conv => whnf) | (refine ⟨_, _, ⟨SubH.refl _, SubB.refl _⟩, SubH.refl _, SubB.refl _, ?_⟩; conv => whnf))
                  exact ⟨(j + 1, g7), ⟨hjN, hg7.tail⟩, by dsimp only; omega, subE_cons rfl (subE_cons rfl (subE_cons rfl (subE_cons rfl (subE_cons rfl (subE_cons rfl (subE_cons (int_eq hnext3 rfl) subE_nil)))))), by
                    dsimp only
                    rw [prevT_succ, if_pos htj, lastT_succ, if_pos ⟨htj, .inl d0⟩]
                    exact subB_cons rfl (subB_cons rfl subB_nil), rfl⟩
                rw [show (((j % 4 : Nat) : Int) == 0) = false from beq_eq_false_iff_ne.2 (by omega)]
                conv => whnf
                by_cases d3 : j % 4 = 3
                · rw [show (((j % 4 : Nat) : Int) == 3) = true by rw [d3]; rfl]
                  conv => whnf
                  repeat (first | ((with_reducible refine hK _ _ _ ?_); clear hK) | (with_reducible refine seq_step fun K hK => ?_) | (with_reducible refine block_step ?_) | ((with_reducible refine cond_t ?_ ?_); focus rfl) | ((with_reducible refine cond_f ?_ ?_); focus rfl) | ((with_reducible refine code_id ?_); conv => whnf) | (clear hK; (with_reducible refine hK _ _ _ ?_); clear hK) | (clear hK; clear hK; (with_reducible refine hK _ _ _ ?_); clear hK) | (clear hK; clear hK; clear hK; (with_reducible refine hK _ _ _ ?_); clear hK) | (clear hK; clear hK; clear hK; clear hK; (with_reducible refine hK _ _ _ ?_); clear hK) | (clear hK; clear hK; clear hK; clear hK; clear hK; (with_reducible refine hK _ _ _ ?_); clear hK) | (clear hK; clear hK; clear hK; clear hK; clear hK; clear hK; (with_reducible refine hK _ _ _ ?_); clear hK) | (clear hK; clear hK; clear hK; clear hK; clear hK; clear hK; clear hK; (with_reducible refine hK _ _ _ ?_); clear hK) | (refine ⟨_, _, SubH.refl _, SubB.refl _, ?_⟩; conv => whnf) | (refine ⟨⟨SubH.refl _, SubB.refl _⟩, ?_⟩; conv => whnf) | (refine ⟨_, _, ⟨SubH.refl _, SubB.refl _⟩, SubH.refl _, SubB.refl _, ?_⟩; conv => whnf))
                  exact ⟨(j + 1, g7), ⟨hjN, hg7.tail⟩, by dsimp only; omega, subE_cons rfl (subE_cons rfl (subE_cons rfl (subE_cons rfl (subE_cons rfl (subE_cons rfl (subE_cons (int_eq hnext3 rfl) subE_nil)))))), by
                    dsimp only
                    rw [prevT_succ, if_pos htj, lastT_succ, if_pos ⟨htj, .inr d3⟩]
                    exact subB_cons rfl (subB_cons rfl subB_nil), rfl⟩
                rw [show (((j % 4 : Nat) : Int) == 3) = false from beq_eq_false_iff_ne.2 (by omega)]
                conv => whnf
                repeat (first | ((with_reducible refine hK _ _ _ ?_); clear hK) | (with_reducible refine seq_step fun K hK => ?_) | (with_reducible refine block_step ?_) | ((with_reducible refine cond_t ?_ ?_); focus rfl) | ((with_reducible refine cond_f ?_ ?_); focus rfl) | ((with_reducible refine code_id ?_); conv => whnf) | (clear hK; (with_reducible refine hK _ _ _ ?_); clear hK) | (clear hK; clear hK; (with_reducible refine hK _ _ _ ?_); clear hK) | (clear hK; clear hK; clear hK; (with_reducible refine hK _ _ _ ?_); clear hK) | (clear hK; clear hK; clear hK; clear hK; (with_reducible refine hK _ _ _ ?_); clear hK) | (clear hK; clear hK; clear hK; clear hK; clear hK; (with_reducible refine hK _ _ _ ?_); clear hK) | (clear hK; clear hK; clear hK; clear hK; clear hK; clear hK; (with_reducible refine hK _ _ _ ?_); clear hK) | (clear hK; clear hK; clear hK; clear hK; clear hK; clear hK; clear hK; (with_reducible refine hK _ _ _ ?_); clear hK) | (refine ⟨_, _, SubH.refl _, SubB.refl _, ?_⟩; conv => whnf) | (refine ⟨⟨SubH.refl _, SubB.refl _⟩, ?_⟩; conv => whnf) | (refine ⟨_, _, ⟨SubH.refl _, SubB.refl _⟩, SubH.refl _, SubB.refl _, ?_⟩; conv => whnf))
                exact ⟨(j + 1, g7), ⟨hjN, hg7.tail⟩, by dsimp only; omega, subE_cons rfl (subE_cons rfl (subE_cons rfl (subE_cons rfl (subE_cons rfl (subE_cons rfl (subE_cons (int_eq hnext3 rfl) subE_nil)))))), by
                  dsimp only
                  rw [prevT_succ, if_pos htj, lastT_succ, if_neg (fun e => e.2.elim d0 d3), hpl2]
                  exact subB_cons rfl (subB_cons rfl subB_nil), rfl⟩
        · repeat (first | ((with_reducible refine hK _ _ _ ?_); clear hK) | (with_reducible refine seq_step fun K hK => ?_) | (with_reducible refine block_step ?_) | ((with_reducible refine cond_t ?_ ?_); focus rfl) | ((with_reducible refine cond_f ?_ ?_); focus rfl) | ((with_reducible refine code_id ?_); conv => whnf) | (clear hK; (with_reducible refine hK _ _ _ ?_); clear hK) | (clear hK; clear hK; (with_reducible refine hK _ _ _ ?_); clear hK) | (clear hK; clear hK; clear hK; (with_reducible refine hK _ _ _ ?_); clear hK) | (clear hK; clear hK; clear hK; clear hK; (with_reducible refine hK _ _ _ ?_); clear hK) | (clear hK; clear hK; clear hK; clear hK; clear hK; (with_reducible refine hK _ _ _ ?_); clear hK) | (clear hK; clear hK; clear hK; clear hK; clear hK; clear hK; (with_reducible refine hK _ _ _ ?_); clear hK) | (clear hK; clear hK; clear hK; clear hK; clear hK; clear hK; clear hK; (with_reducible refine hK _ _ _ ?_); clear hK) | (refine ⟨_, _, SubH.refl _, SubB.refl _, ?_⟩; conv => whnf) | (refine ⟨⟨SubH.refl _, SubB.refl _⟩, ?_⟩; conv => whnf) | (refine ⟨_, _, ⟨SubH.refl _, SubB.refl _⟩, SubH.refl _, SubB.refl _, ?_⟩; conv => whnf))
          exact hq _ (hg5.is 3 rfl)
end
end Go.Proofs.YthpkgkoojhgedaaDoor.V
