/- Seat 08: remove and Drop. -/
import Derived.Test.YthpkgkoojhgedaaDoorK7
namespace Go.Proofs.YthpkgkoojhgedaaDoor.V
set_option linter.unusedVariables false
set_option linter.unusedSimpArgs false
set_option linter.unusedSectionVars false
set_option linter.unusedSectionVars false
open Go

theorem ptrO_cells (x : Option Nat) : (ptrO x).cells = #[ptrO x] := by cases x <;> rfl
theorem ptrO_one (x : Option Nat) : one (ptrO x) = true := by cases x <;> rfl

/-- A list of pointers of our own. -/
def PtrsP (s : Value) (l : List Nat) : As := WnP 1 s l.length (l.map ptr)

section
variable {h : Hp} {Q : Value → Hp → Prop} {L : List As} {b : Nat} {S : Bs}

theorem cell_st {β : Bx} {off : Nat} {x : Ce} {s : Value} {K : Hp × Bx → Prop} (hh : Has (Pt x.a (.cells (cellC x s).toArray 84 (0, 0)) :: L) h) (k : Nat) (v : Value) (ho : off = k) (hk : k < 8)
    (x' : Ce) (s' : Value) (hxa : x'.a = x.a) (ht : (cellC x s).set k v = cellC x' s') (h1 : v.cells = #[v]) (h4 : one v = true) (hK : ∀ h', Has (Pt x'.a (.cells (cellC x' s').toArray 84 (0, 0)) :: L) h' → K (h', β)) :
    optK (pSt 1 h β (.v (.pointer (some ⟨x.a, off, none⟩))) (.v v)) K := by
  subst ho
  refine st_has hh 0 rfl (by rw [h1]; rfl) (by show off + 1 ≤ 8; omega) (by simp [h1, h4]) fun h' _ _ hh' => hK h' ?_
  rw [h1] at hh'
  have e : wr (cellC x s).toArray off [v] = (cellC x' s').toArray := by
    rw [wr_wrL, wrL_one v hk, ht]
  have hh2 : Has (Pt x.a (.cells (wr (cellC x s).toArray off [v]) 84 (0, 0)) :: L) h' := hh'
  rw [e] at hh2
  rw [hxa]
  exact hh2

theorem CellsP.rd {C : List Ce} (hh : Has L h) (i : Nat) (hi : L[i]? = some (CellsP C)) : ∀ d ∈ C, ∃ s, h d.a = some (.cells (cellC d s).toArray 84 (0, 0)) := fun d hd => by
  obtain ⟨j, hj⟩ := List.mem_iff_getElem?.1 hd
  obtain ⟨s, h2⟩ := CellP.opn (CellsP.focus hj (hh.pull i hi))
  exact ⟨s, h2.pt 0 rfl⟩

theorem plain_of {c : Array Value} {ty : TypeId} {a : Nat} (hb : h a = some (.cells c ty (0, 0))) : plainO (h a) = true := by rw [hb]; rfl

/-- One pointer more. -/
theorem app1p {b1 : Nat} {x : Nat} {s : Value} {l : List Nat} {ty ty1 : TypeId} {K : Ent → Hp → Prop} (hh : Has (Pt b1 (.cells #[ptr x] ty1 (0, 0)) :: PtrsP s l :: L) h) (hb : l.length < 1099511627776)
    (hK : ∀ s' h', Has (PtrsP s' (l ++ [x]) :: L) h' → K (.v s') h') : appK [.pointer none] ty 8 h (.v s) (.v (.slice (some ⟨b1, 0, none⟩) 1 1)) K := by
  have hv : Vw 1 h (.slice (some ⟨b1, 0, none⟩) 1 1) 1 [ptr x] := (pt_wn (e := 1) (n := 1) (cap := 1) (cs := [ptr x]) rfl (Nat.le_refl _) rfl (hh.pt 0 rfl)).vw
  refine app_hasW (z := [.pointer none]) hh 1 rfl hv rfl (by omega) fun s' h' hh' => hK s' h' ?_
  have h2 := hh'.tail
  show Has (WnP 1 s' (l ++ [x]).length ((l ++ [x]).map ptr) :: L) h'
  rw [List.length_append, List.map_append]
  exact h2

theorem ptrs_one (l : List Nat) : (l.map ptr).all one = true := by
  rw [List.all_eq_true]
  intro x hx
  obtain ⟨y, _, rfl⟩ := List.mem_map.1 hx
  rfl

set_option maxRecDepth 100000 in
set_option maxHeartbeats 2000000 in
theorem remove41 (hw : WF S) {c : Ce} (hc : c ∈ S.cs) (hh : Has (CapsA b S :: L) h) (hq : ∀ h', Has (CapsA b (rm S c) :: CellP { c with kids := [] } :: L) h' → Q (.tuple #[]) h') : Ok PR 41 [ptr b, ptr c.a] h Q := by
  have hr := CapsA.rd0 hh
  obtain ⟨t, l, ht, hl⟩ := hw.t2 c hc
  have he : c.env < 16 := by rw [← hw.len]; exact (List.getElem?_eq_some_iff.1 ht).1
  have hge : got S.tb (c.env : Int) = some (t, l) := by rw [got_nat, ht]
  have hns := hw.noself hc
  have hks := hw.kids_small hc
  have hone := fun {x y : Ce} (hx : x ∈ S.cs) (hy : y ∈ S.cs) (h : x.a = y.a) => one_a hw.nda hx hy h
  obtain ⟨ic, hic⟩ := List.mem_iff_getElem?.1 hc
  obtain ⟨tb', htb⟩ : ∃ tb', tb' = setTab S.tb c.env c.slot none := ⟨_, rfl⟩
  obtain ⟨D, hD⟩ : ∃ D, D = S.cs.eraseIdx ic := ⟨_, rfl⟩
  have hDc : D = S.cs.filter fun k => decide (k.a ≠ c.a) := by rw [hD]; exact (filter_erase hw.nda hic).symm
  have hDm : ∀ d, d ∈ D ↔ d ∈ S.cs ∧ d.a ≠ c.a := fun d => by rw [hDc, List.mem_filter, decide_eq_true_eq]
  have hDn : (D.map (·.a)).Nodup := by rw [hDc]; exact hw.nda.sublist (List.filter_sublist.map _)
  have hrm : rmC S.cs c = D.map (fR c) := by rw [hDc]; rfl
  obtain ⟨f, hf⟩ : ∃ f : Ce → Ce, f = fun k => { k with par := c.par } := ⟨_, rfl⟩
  obtain ⟨s0, hc0, _⟩ := hr.cell c hc
  refine e41 rfl (seq_step fun K hK => ?_)
  repeat (first | ((with_reducible refine hK _ _ _ ?_); clear hK) | (with_reducible refine seq_step fun K hK => ?_) | (with_reducible refine block_step ?_) | ((with_reducible refine cond_t ?_ ?_); focus rfl) | ((with_reducible refine cond_f ?_ ?_); focus rfl) | ((with_reducible refine code_id ?_); conv => whnf) | (clear hK; (with_reducible refine hK _ _ _ ?_); clear hK) | (clear hK; clear hK; (with_reducible refine hK _ _ _ ?_); clear hK) | (clear hK; clear hK; clear hK; (with_reducible refine hK _ _ _ ?_); clear hK) | (clear hK; clear hK; clear hK; clear hK; (with_reducible refine hK _ _ _ ?_); clear hK) | (clear hK; clear hK; clear hK; clear hK; clear hK; (with_reducible refine hK _ _ _ ?_); clear hK) | (clear hK; clear hK; clear hK; clear hK; clear hK; clear hK; (with_reducible refine hK _ _ _ ?_); clear hK) | (clear hK; clear hK; clear hK; clear hK; clear hK; clear hK; clear hK; (with_reducible refine hK _ _ _ ?_); clear hK))
  refine opt_ld hc0 (v := iv c.env) rfl ?_
  conv => whnf
  refine opt_if ⟨by omega, by omega⟩ ?_
  conv => whnf
  refine opt_ld hr.bk (v := ptr t) (by show (bookC S.tb).toArray[0 + (c.env : Int).toNat * 1]? = _; rw [Int.toNat_natCast, Nat.mul_one, Nat.zero_add, bookC_get hw.len he, hge]; rfl) ?_
  conv => whnf
  refine opt_ld hc0 (v := iv c.slot) rfl ?_
  conv => whnf
  refine (CapsA.table ht hh).call 0 rfl (tdropS hl) fun _ h1 hh1 => ?_
  have hh2 := CapsA.opn (CapsA.tabled ht hh1)
  rw [← htb] at hh2
  obtain ⟨s, hh3⟩ := CellP.opn (CellsP.focus hic (hh2.pull 2 rfl))
  rw [← hD] at hh3
  have hh3 : Has (Pt c.a (.cells (cellC c s).toArray 84 (0, 0)) :: WnP 1 s c.kids.length (c.kids.map ptr) :: CellsP D :: BkA b tb' :: TabsP tb' :: L) h1 := hh3
  obtain ⟨bs, cs, hs⟩ := hh3.slv 1 rfl
  subst hs
  have fin : ∀ (X : List Ce) (g : Hp), X = D.map (fR c) → Has (Pt c.a (.cells (cellC { c with kids := [] } (.slice none 0 0)).toArray 84 (0, 0)) :: WnP 1 (.slice bs c.kids.length cs) c.kids.length (c.kids.map ptr) :: CellsP X :: BkA b tb' :: TabsP tb' :: L) g → Has (CapsA b (rm S c) :: CellP { c with kids := [] } :: L) g := fun X g hX hg => by
    have h1 : Has (CellP { c with kids := [] } :: CellsP X :: BkA b tb' :: TabsP tb' :: L) g := CellP.cls (c := { c with kids := [] }) (s := .slice none 0 0) (hg.map_tail fun g hg => hg.tail.nilW 1)
    have h2 := ((h1.pull 2 rfl).map_tail fun g hg => (hg.pull 2 rfl).map_tail fun g hg => hg.swap)
    have h3 := CapsA.cls h2
    rw [show rm S c = ⟨tb', X⟩ by unfold rm; rw [hrm, ← hX, htb]]
    exact h3
  have kid : ∀ (i : Nat) (hi : i < c.kids.length), ∃ (j : Nat) (d : Ce), D[j]? = some d ∧ d.a = c.kids[i] ∧ d.a ∉ c.kids.take i := fun i hi => by
    obtain ⟨d, hd, e1, e2⟩ := hw.k1 c hc c.kids[i] (List.getElem_mem hi)
    have hdc : d.a ≠ c.a := fun e => by rw [hone hd hc e] at e2; exact hns e2
    obtain ⟨j, hj⟩ := List.mem_iff_getElem?.1 ((hDm d).2 ⟨hd, hdc⟩)
    refine ⟨j, d, hj, e1, fun hm => ?_⟩
    rw [e1] at hm
    have hnd := hw.ndk c hc
    rw [← List.take_append_drop i c.kids, List.nodup_append] at hnd
    have h2 : c.kids[i] ∈ c.kids.drop i := List.mem_iff_getElem.2 ⟨0, by rw [List.length_drop]; omega, by rw [List.getElem_drop]; rfl⟩
    exact hnd.2.2 _ hm _ h2 rfl
  conv => whnf
  repeat (first | ((with_reducible refine hK _ _ _ ?_); clear hK) | (with_reducible refine seq_step fun K hK => ?_) | (with_reducible refine block_step ?_) | ((with_reducible refine cond_t ?_ ?_); focus rfl) | ((with_reducible refine cond_f ?_ ?_); focus rfl) | ((with_reducible refine code_id ?_); conv => whnf) | (clear hK; (with_reducible refine hK _ _ _ ?_); clear hK) | (clear hK; clear hK; (with_reducible refine hK _ _ _ ?_); clear hK) | (clear hK; clear hK; clear hK; (with_reducible refine hK _ _ _ ?_); clear hK) | (clear hK; clear hK; clear hK; clear hK; (with_reducible refine hK _ _ _ ?_); clear hK) | (clear hK; clear hK; clear hK; clear hK; clear hK; (with_reducible refine hK _ _ _ ?_); clear hK) | (clear hK; clear hK; clear hK; clear hK; clear hK; clear hK; (with_reducible refine hK _ _ _ ?_); clear hK) | (clear hK; clear hK; clear hK; clear hK; clear hK; clear hK; clear hK; (with_reducible refine hK _ _ _ ?_); clear hK))
  refine opt_ld (hh3.pt 0 rfl) (v := .slice bs c.kids.length cs) rfl ?_
  conv => whnf
  repeat (first | ((with_reducible refine hK _ _ _ ?_); clear hK) | (with_reducible refine seq_step fun K hK => ?_) | (with_reducible refine block_step ?_) | ((with_reducible refine cond_t ?_ ?_); focus rfl) | ((with_reducible refine cond_f ?_ ?_); focus rfl) | ((with_reducible refine code_id ?_); conv => whnf) | (clear hK; (with_reducible refine hK _ _ _ ?_); clear hK) | (clear hK; clear hK; (with_reducible refine hK _ _ _ ?_); clear hK) | (clear hK; clear hK; clear hK; (with_reducible refine hK _ _ _ ?_); clear hK) | (clear hK; clear hK; clear hK; clear hK; (with_reducible refine hK _ _ _ ?_); clear hK) | (clear hK; clear hK; clear hK; clear hK; clear hK; (with_reducible refine hK _ _ _ ?_); clear hK) | (clear hK; clear hK; clear hK; clear hK; clear hK; clear hK; (with_reducible refine hK _ _ _ ?_); clear hK) | (clear hK; clear hK; clear hK; clear hK; clear hK; clear hK; clear hK; (with_reducible refine hK _ _ _ ?_); clear hK))
  refine loop_intro (σ := Nat × Hp) (fun s => [(0, .v (ptr b)), (1, .v (ptr c.a)), (29, .v (.slice bs c.kids.length cs)), (30, .v (iv c.kids.length)), (31, .v (iv s.1))]) (fun _ => []) (fun s => s.2)
    (fun s => s.1 ≤ c.kids.length ∧ Has (Pt c.a (.cells (cellC c (.slice bs c.kids.length cs)).toArray 84 (0, 0)) :: WnP 1 (.slice bs c.kids.length cs) c.kids.length (c.kids.map ptr) :: CellsP (upM D (c.kids.take s.1) f) :: BkA b tb' :: TabsP tb' :: L) s.2)
    (fun s => c.kids.length - s.1) (0, h1) ⟨Nat.zero_le _, by
      have e : upM D (c.kids.take 0) f = D := by
        unfold upM
        conv => rhs; rw [← List.map_id D]
        exact List.map_congr_left fun k _ => by simp
      rw [e]; exact hh3⟩ (subE_cons rfl (subE_cons rfl (subE_cons rfl (subE_cons rfl (subE_cons rfl subE_nil))))) subB_nil rfl ?_
  rintro ⟨i, g⟩ ⟨hi, hg⟩
  dsimp only at hi hg ⊢
  have hnext : IntKind.i64.wrap ((i : Int) + 1) = ((i + 1 : Nat) : Int) := wrap_nat (by omega)
  repeat (first | ((with_reducible refine hK _ _ _ ?_); clear hK) | (with_reducible refine seq_step fun K hK => ?_) | (with_reducible refine block_step ?_) | ((with_reducible refine cond_t ?_ ?_); focus rfl) | ((with_reducible refine cond_f ?_ ?_); focus rfl) | ((with_reducible refine code_id ?_); conv => whnf) | (clear hK; (with_reducible refine hK _ _ _ ?_); clear hK) | (clear hK; clear hK; (with_reducible refine hK _ _ _ ?_); clear hK) | (clear hK; clear hK; clear hK; (with_reducible refine hK _ _ _ ?_); clear hK) | (clear hK; clear hK; clear hK; clear hK; (with_reducible refine hK _ _ _ ?_); clear hK) | (clear hK; clear hK; clear hK; clear hK; clear hK; (with_reducible refine hK _ _ _ ?_); clear hK) | (clear hK; clear hK; clear hK; clear hK; clear hK; clear hK; (with_reducible refine hK _ _ _ ?_); clear hK) | (clear hK; clear hK; clear hK; clear hK; clear hK; clear hK; clear hK; (with_reducible refine hK _ _ _ ?_); clear hK))
  refine cond_dec (fun hlt => ?_) (fun hge => ?_)
  · have hil : i < c.kids.length := by omega
    obtain ⟨j, d, hj, hda, hdn⟩ := kid i hil
    obtain ⟨bb, o, cap', cc, ty, z, hs, hbb, hcc⟩ := hg.rdw 1 rfl (k := i) (v := ptr d.a) hil (by rw [List.getElem?_map, List.getElem?_eq_getElem hil, hda]; rfl)
    cases hs
    have hg2 : Has (Pt c.a (.cells (cellC c (.slice (some ⟨bb, o, none⟩) c.kids.length cs)).toArray 84 (0, 0)) :: WnP 1 (.slice (some ⟨bb, o, none⟩) c.kids.length cs) c.kids.length (c.kids.map ptr) :: CellsP (upM D (c.kids.take i) f) :: BkA b tb' :: TabsP tb' :: L) g := hg
    obtain ⟨sd, hg3⟩ := CellP.opn (CellsP.focus (c := d) (i := j) (by rw [upM_get hj, if_neg hdn]) (hg2.pull 2 rfl))
    repeat (first | ((with_reducible refine hK _ _ _ ?_); clear hK) | (with_reducible refine seq_step fun K hK => ?_) | (with_reducible refine block_step ?_) | ((with_reducible refine cond_t ?_ ?_); focus rfl) | ((with_reducible refine cond_f ?_ ?_); focus rfl) | ((with_reducible refine code_id ?_); conv => whnf) | (clear hK; (with_reducible refine hK _ _ _ ?_); clear hK) | (clear hK; clear hK; (with_reducible refine hK _ _ _ ?_); clear hK) | (clear hK; clear hK; clear hK; (with_reducible refine hK _ _ _ ?_); clear hK) | (clear hK; clear hK; clear hK; clear hK; (with_reducible refine hK _ _ _ ?_); clear hK) | (clear hK; clear hK; clear hK; clear hK; clear hK; (with_reducible refine hK _ _ _ ?_); clear hK) | (clear hK; clear hK; clear hK; clear hK; clear hK; clear hK; (with_reducible refine hK _ _ _ ?_); clear hK) | (clear hK; clear hK; clear hK; clear hK; clear hK; clear hK; clear hK; (with_reducible refine hK _ _ _ ?_); clear hK))
    refine opt_if ⟨by omega, by omega⟩ ?_
    conv => whnf
    refine opt_ld hbb (v := ptr d.a) (by show cc[o + (i : Int).toNat * 1]? = _; rw [Int.toNat_natCast, Nat.mul_one]; exact hcc) ?_
    conv => whnf
    repeat (first | ((with_reducible refine hK _ _ _ ?_); clear hK) | (with_reducible refine seq_step fun K hK => ?_) | (with_reducible refine block_step ?_) | ((with_reducible refine cond_t ?_ ?_); focus rfl) | ((with_reducible refine cond_f ?_ ?_); focus rfl) | ((with_reducible refine code_id ?_); conv => whnf) | (clear hK; (with_reducible refine hK _ _ _ ?_); clear hK) | (clear hK; clear hK; (with_reducible refine hK _ _ _ ?_); clear hK) | (clear hK; clear hK; clear hK; (with_reducible refine hK _ _ _ ?_); clear hK) | (clear hK; clear hK; clear hK; clear hK; (with_reducible refine hK _ _ _ ?_); clear hK) | (clear hK; clear hK; clear hK; clear hK; clear hK; (with_reducible refine hK _ _ _ ?_); clear hK) | (clear hK; clear hK; clear hK; clear hK; clear hK; clear hK; (with_reducible refine hK _ _ _ ?_); clear hK) | (clear hK; clear hK; clear hK; clear hK; clear hK; clear hK; clear hK; (with_reducible refine hK _ _ _ ?_); clear hK))
    refine opt_ld (hg.pt 0 rfl) (v := ptrO c.par) rfl ?_
    conv => whnf
    refine cell_st hg3 6 (ptrO c.par) rfl (by decide) (f d) sd (by rw [hf]) (by rw [hf]; rfl) (ptrO_cells _) (ptrO_one _) fun g4 hg4 => ?_
    conv => whnf
    repeat (first | ((with_reducible refine hK _ _ _ ?_); clear hK) | (with_reducible refine seq_step fun K hK => ?_) | (with_reducible refine block_step ?_) | ((with_reducible refine cond_t ?_ ?_); focus rfl) | ((with_reducible refine cond_f ?_ ?_); focus rfl) | ((with_reducible refine code_id ?_); conv => whnf) | (clear hK; (with_reducible refine hK _ _ _ ?_); clear hK) | (clear hK; clear hK; (with_reducible refine hK _ _ _ ?_); clear hK) | (clear hK; clear hK; clear hK; (with_reducible refine hK _ _ _ ?_); clear hK) | (clear hK; clear hK; clear hK; clear hK; (with_reducible refine hK _ _ _ ?_); clear hK) | (clear hK; clear hK; clear hK; clear hK; clear hK; (with_reducible refine hK _ _ _ ?_); clear hK) | (clear hK; clear hK; clear hK; clear hK; clear hK; clear hK; (with_reducible refine hK _ _ _ ?_); clear hK) | (clear hK; clear hK; clear hK; clear hK; clear hK; clear hK; clear hK; (with_reducible refine hK _ _ _ ?_); clear hK))
    have hg5 := CellsP.unfocus (C := upM D (c.kids.take i) f) (c := d) (i := j) (by rw [upM_get hj, if_neg hdn]) (CellP.cls (c := f d) (s := sd) (by
      have : (f d).kids = d.kids := by rw [hf]
      rw [this]; exact hg4))
    rw [upM_step hDn hj, hda, List.take_append_getElem hil] at hg5
    exact ⟨(i + 1, g4), ⟨hil, hg5.swap.map_tail fun g hg => hg.swap⟩, by dsimp only; omega, subE_cons rfl (subE_cons rfl (subE_cons rfl (subE_cons rfl (subE_cons (int_eq hnext rfl) subE_nil)))), subB_nil, rfl⟩
  · have hie : i = c.kids.length := by omega
    subst hie
    rw [List.take_length] at hg
    have hfin : ∀ d ∈ D, d.a ∈ c.kids ↔ d.par = some c.a := fun d hd => by
      have hdS := ((hDm d).1 hd).1
      constructor
      · intro hk
        obtain ⟨d', hd', e1, e2⟩ := hw.k1 c hc _ hk
        rw [← hone hd' hdS e1]; exact e2
      · intro hp
        obtain ⟨c', hc', e1, e2⟩ := hw.k2 d hdS _ hp
        rw [← hone hc' hc e1]; exact e2
    repeat (first | ((with_reducible refine hK _ _ _ ?_); clear hK) | (with_reducible refine seq_step fun K hK => ?_) | (with_reducible refine block_step ?_) | ((with_reducible refine cond_t ?_ ?_); focus rfl) | ((with_reducible refine cond_f ?_ ?_); focus rfl) | ((with_reducible refine code_id ?_); conv => whnf) | (clear hK; (with_reducible refine hK _ _ _ ?_); clear hK) | (clear hK; clear hK; (with_reducible refine hK _ _ _ ?_); clear hK) | (clear hK; clear hK; clear hK; (with_reducible refine hK _ _ _ ?_); clear hK) | (clear hK; clear hK; clear hK; clear hK; (with_reducible refine hK _ _ _ ?_); clear hK) | (clear hK; clear hK; clear hK; clear hK; clear hK; (with_reducible refine hK _ _ _ ?_); clear hK) | (clear hK; clear hK; clear hK; clear hK; clear hK; clear hK; (with_reducible refine hK _ _ _ ?_); clear hK) | (clear hK; clear hK; clear hK; clear hK; clear hK; clear hK; clear hK; (with_reducible refine hK _ _ _ ?_); clear hK))
    refine opt_ld (hg.pt 0 rfl) (v := ptrO c.par) rfl ?_
    conv => whnf
    have hcR : ∀ d : Ce, d ∈ D → fR c d = (if some d.a = c.par then { (if d.a ∈ c.kids then f d else d) with kids := d.kids.filter (fun x => decide (x ≠ c.a)) ++ c.kids } else (if d.a ∈ c.kids then f d else d)) := fun d hd => by
      unfold fR
      by_cases h1 : d.par = some c.a
      · rw [if_pos h1, if_pos ((hfin d hd).2 h1), hf]
        split <;> rfl
      · rw [if_neg h1, if_neg fun e => h1 ((hfin d hd).1 e)]
        split <;> rfl
    cases hpar : c.par with
    | none =>
      conv => whnf
      repeat (first | ((with_reducible refine hK _ _ _ ?_); clear hK) | (with_reducible refine seq_step fun K hK => ?_) | (with_reducible refine block_step ?_) | ((with_reducible refine cond_t ?_ ?_); focus rfl) | ((with_reducible refine cond_f ?_ ?_); focus rfl) | ((with_reducible refine code_id ?_); conv => whnf) | (clear hK; (with_reducible refine hK _ _ _ ?_); clear hK) | (clear hK; clear hK; (with_reducible refine hK _ _ _ ?_); clear hK) | (clear hK; clear hK; clear hK; (with_reducible refine hK _ _ _ ?_); clear hK) | (clear hK; clear hK; clear hK; clear hK; (with_reducible refine hK _ _ _ ?_); clear hK) | (clear hK; clear hK; clear hK; clear hK; clear hK; (with_reducible refine hK _ _ _ ?_); clear hK) | (clear hK; clear hK; clear hK; clear hK; clear hK; clear hK; (with_reducible refine hK _ _ _ ?_); clear hK) | (clear hK; clear hK; clear hK; clear hK; clear hK; clear hK; clear hK; (with_reducible refine hK _ _ _ ?_); clear hK))
      refine cell_st hg 7 (.slice none 0 0) rfl (by decide) { c with kids := [] } (.slice none 0 0) rfl rfl rfl rfl fun g4 hg4 => ?_
      conv => whnf
      repeat (first | ((with_reducible refine hK _ _ _ ?_); clear hK) | (with_reducible refine seq_step fun K hK => ?_) | (with_reducible refine block_step ?_) | ((with_reducible refine cond_t ?_ ?_); focus rfl) | ((with_reducible refine cond_f ?_ ?_); focus rfl) | ((with_reducible refine code_id ?_); conv => whnf) | (clear hK; (with_reducible refine hK _ _ _ ?_); clear hK) | (clear hK; clear hK; (with_reducible refine hK _ _ _ ?_); clear hK) | (clear hK; clear hK; clear hK; (with_reducible refine hK _ _ _ ?_); clear hK) | (clear hK; clear hK; clear hK; clear hK; (with_reducible refine hK _ _ _ ?_); clear hK) | (clear hK; clear hK; clear hK; clear hK; clear hK; (with_reducible refine hK _ _ _ ?_); clear hK) | (clear hK; clear hK; clear hK; clear hK; clear hK; clear hK; (with_reducible refine hK _ _ _ ?_); clear hK) | (clear hK; clear hK; clear hK; clear hK; clear hK; clear hK; clear hK; (with_reducible refine hK _ _ _ ?_); clear hK))
      refine hq _ (fin _ _ ?_ hg4)
      unfold upM
      refine List.map_congr_left fun d hd => ?_
      have e : fR c d = (if d.a ∈ c.kids then f d else d) := by rw [hcR d hd, hpar]; rfl
      exact e.symm
    | some pa =>
      obtain ⟨p, hp, hpa, hpk⟩ := hw.k2 c hc pa hpar
      subst hpa
      have hpc : p.a ≠ c.a := fun e => hns (by rw [hpar, e])
      have hpD : p ∈ D := (hDm p).2 ⟨hp, hpc⟩
      have hpkid : p.a ∉ c.kids := fun hm => by
        have h1 := (hfin p hpD).1 hm
        obtain ⟨rk, hrk⟩ := hw.ord
        have a1 := hrk p hp _ h1
        have a2 := hrk c hc _ hpar
        omega
      obtain ⟨jp, hjp⟩ := List.mem_iff_getElem?.1 hpD
      have hjp2 : (upM D c.kids f)[jp]? = some p := by rw [upM_get hjp, if_neg hpkid]
      have hps := hw.kids_small hp
      obtain ⟨sp, hg3⟩ := CellP.opn (CellsP.focus hjp2 (hg.pull 2 rfl))
      obtain ⟨bp, cp, hs⟩ := hg3.slv 1 rfl
      subst hs
      conv => whnf
      repeat (first | ((with_reducible refine hK _ _ _ ?_); clear hK) | (with_reducible refine seq_step fun K hK => ?_) | (with_reducible refine block_step ?_) | ((with_reducible refine cond_t ?_ ?_); focus rfl) | ((with_reducible refine cond_f ?_ ?_); focus rfl) | ((with_reducible refine code_id ?_); conv => whnf) | (clear hK; (with_reducible refine hK _ _ _ ?_); clear hK) | (clear hK; clear hK; (with_reducible refine hK _ _ _ ?_); clear hK) | (clear hK; clear hK; clear hK; (with_reducible refine hK _ _ _ ?_); clear hK) | (clear hK; clear hK; clear hK; clear hK; (with_reducible refine hK _ _ _ ?_); clear hK) | (clear hK; clear hK; clear hK; clear hK; clear hK; (with_reducible refine hK _ _ _ ?_); clear hK) | (clear hK; clear hK; clear hK; clear hK; clear hK; clear hK; (with_reducible refine hK _ _ _ ?_); clear hK) | (clear hK; clear hK; clear hK; clear hK; clear hK; clear hK; clear hK; (with_reducible refine hK _ _ _ ?_); clear hK))
      refine opt_ld (hg3.pt 0 rfl) (v := .slice bp p.kids.length cp) rfl ?_
      conv => whnf
      repeat (first | ((with_reducible refine hK _ _ _ ?_); clear hK) | (with_reducible refine seq_step fun K hK => ?_) | (with_reducible refine block_step ?_) | ((with_reducible refine cond_t ?_ ?_); focus rfl) | ((with_reducible refine cond_f ?_ ?_); focus rfl) | ((with_reducible refine code_id ?_); conv => whnf) | (clear hK; (with_reducible refine hK _ _ _ ?_); clear hK) | (clear hK; clear hK; (with_reducible refine hK _ _ _ ?_); clear hK) | (clear hK; clear hK; clear hK; (with_reducible refine hK _ _ _ ?_); clear hK) | (clear hK; clear hK; clear hK; clear hK; (with_reducible refine hK _ _ _ ?_); clear hK) | (clear hK; clear hK; clear hK; clear hK; clear hK; (with_reducible refine hK _ _ _ ?_); clear hK) | (clear hK; clear hK; clear hK; clear hK; clear hK; clear hK; (with_reducible refine hK _ _ _ ?_); clear hK) | (clear hK; clear hK; clear hK; clear hK; clear hK; clear hK; clear hK; (with_reducible refine hK _ _ _ ?_); clear hK))
      refine loop_intro (σ := (Nat × Value) × Hp) (fun s => [(0, .v (ptr b)), (1, .v (ptr c.a)), (6, .v (ptr p.a)), (7, .v s.1.2), (52, .v (.slice bp p.kids.length cp)), (53, .v (iv p.kids.length)), (54, .v (iv s.1.1))]) (fun _ => []) (fun s => s.2)
        (fun s => s.1.1 ≤ p.kids.length ∧ Has (PtrsP s.1.2 ((p.kids.take s.1.1).filter fun x => decide (x ≠ c.a)) :: Pt p.a (.cells (cellC p (.slice bp p.kids.length cp)).toArray 84 (0, 0)) :: WnP 1 (.slice bp p.kids.length cp) p.kids.length (p.kids.map ptr) :: CellsP ((upM D c.kids f).eraseIdx jp) :: Pt c.a (.cells (cellC c (.slice bs c.kids.length cs)).toArray 84 (0, 0)) :: WnP 1 (.slice bs c.kids.length cs) c.kids.length (c.kids.map ptr) :: BkA b tb' :: TabsP tb' :: L) s.2)
        (fun s => p.kids.length - s.1.1) ((0, .slice none 0 0), g) ⟨Nat.zero_le _, hg3.nilW 1⟩ (subE_cons rfl (subE_cons rfl (subE_cons rfl (subE_cons rfl (subE_cons rfl (subE_cons rfl (subE_cons rfl subE_nil))))))) subB_nil rfl ?_
      rintro ⟨⟨j, s7⟩, g4⟩ ⟨hj, hg4⟩
      dsimp only at hj hg4 ⊢
      have hnext2 : IntKind.i64.wrap ((j : Int) + 1) = ((j + 1 : Nat) : Int) := wrap_nat (by omega)
      repeat (first | ((with_reducible refine hK _ _ _ ?_); clear hK) | (with_reducible refine seq_step fun K hK => ?_) | (with_reducible refine block_step ?_) | ((with_reducible refine cond_t ?_ ?_); focus rfl) | ((with_reducible refine cond_f ?_ ?_); focus rfl) | ((with_reducible refine code_id ?_); conv => whnf) | (clear hK; (with_reducible refine hK _ _ _ ?_); clear hK) | (clear hK; clear hK; (with_reducible refine hK _ _ _ ?_); clear hK) | (clear hK; clear hK; clear hK; (with_reducible refine hK _ _ _ ?_); clear hK) | (clear hK; clear hK; clear hK; clear hK; (with_reducible refine hK _ _ _ ?_); clear hK) | (clear hK; clear hK; clear hK; clear hK; clear hK; (with_reducible refine hK _ _ _ ?_); clear hK) | (clear hK; clear hK; clear hK; clear hK; clear hK; clear hK; (with_reducible refine hK _ _ _ ?_); clear hK) | (clear hK; clear hK; clear hK; clear hK; clear hK; clear hK; clear hK; (with_reducible refine hK _ _ _ ?_); clear hK))
      refine cond_dec (fun hlt2 => ?_) (fun hge2 => ?_)
      · have hjl : j < p.kids.length := by omega
        obtain ⟨bb, o, cap', cc, ty, z, hs, hbb, hcc⟩ := hg4.rdw 2 rfl (k := j) (v := ptr p.kids[j]) hjl (by rw [List.getElem?_map, List.getElem?_eq_getElem hjl]; rfl)
        cases hs
        have hplain : plainO (g4 p.kids[j]) = true := by
          obtain ⟨d, hd, e1, e2⟩ := hw.k1 p hp p.kids[j] (List.getElem_mem hjl)
          rw [← e1]
          by_cases hdc : d.a = c.a
          · rw [hdc]; exact plain_of (hg4.pt 4 rfl)
          · have hdD : d ∈ D := (hDm d).2 ⟨hd, hdc⟩
            obtain ⟨m, hm⟩ := List.mem_iff_getElem?.1 hdD
            have hmj : m ≠ jp := fun e => by
              rw [e, hjp] at hm
              cases hm
              exact hw.noself hp e2
            obtain ⟨sd, h1⟩ := CellsP.rd hg4 3 rfl (if d.a ∈ c.kids then f d else d) (List.mem_eraseIdx_iff_getElem?.2 ⟨m, hmj, upM_get hm⟩)
            have e3 : (if d.a ∈ c.kids then f d else d).a = d.a := by rw [hf]; split <;> rfl
            rw [e3] at h1
            exact plain_of h1
        repeat (first | ((with_reducible refine hK _ _ _ ?_); clear hK) | (with_reducible refine seq_step fun K hK => ?_) | (with_reducible refine block_step ?_) | ((with_reducible refine cond_t ?_ ?_); focus rfl) | ((with_reducible refine cond_f ?_ ?_); focus rfl) | ((with_reducible refine code_id ?_); conv => whnf) | (clear hK; (with_reducible refine hK _ _ _ ?_); clear hK) | (clear hK; clear hK; (with_reducible refine hK _ _ _ ?_); clear hK) | (clear hK; clear hK; clear hK; (with_reducible refine hK _ _ _ ?_); clear hK) | (clear hK; clear hK; clear hK; clear hK; (with_reducible refine hK _ _ _ ?_); clear hK) | (clear hK; clear hK; clear hK; clear hK; clear hK; (with_reducible refine hK _ _ _ ?_); clear hK) | (clear hK; clear hK; clear hK; clear hK; clear hK; clear hK; (with_reducible refine hK _ _ _ ?_); clear hK) | (clear hK; clear hK; clear hK; clear hK; clear hK; clear hK; clear hK; (with_reducible refine hK _ _ _ ?_); clear hK))
        refine opt_if ⟨by omega, by omega⟩ ?_
        conv => whnf
        refine opt_ld hbb (v := ptr p.kids[j]) (by show cc[o + (j : Int).toNat * 1]? = _; rw [Int.toNat_natCast, Nat.mul_one]; exact hcc) ?_
        conv => whnf
        repeat (first | ((with_reducible refine hK _ _ _ ?_); clear hK) | (with_reducible refine seq_step fun K hK => ?_) | (with_reducible refine block_step ?_) | ((with_reducible refine cond_t ?_ ?_); focus rfl) | ((with_reducible refine cond_f ?_ ?_); focus rfl) | ((with_reducible refine code_id ?_); conv => whnf) | (clear hK; (with_reducible refine hK _ _ _ ?_); clear hK) | (clear hK; clear hK; (with_reducible refine hK _ _ _ ?_); clear hK) | (clear hK; clear hK; clear hK; (with_reducible refine hK _ _ _ ?_); clear hK) | (clear hK; clear hK; clear hK; clear hK; (with_reducible refine hK _ _ _ ?_); clear hK) | (clear hK; clear hK; clear hK; clear hK; clear hK; (with_reducible refine hK _ _ _ ?_); clear hK) | (clear hK; clear hK; clear hK; clear hK; clear hK; clear hK; (with_reducible refine hK _ _ _ ?_); clear hK) | (clear hK; clear hK; clear hK; clear hK; clear hK; clear hK; clear hK; (with_reducible refine hK _ _ _ ?_); clear hK))
        refine opt_eqp hplain (plain_of (hg4.pt 4 rfl)) ?_
        by_cases hkc : p.kids[j] = c.a
        · rw [show decide (p.kids[j] = c.a) = true from decide_eq_true hkc]
          conv => whnf
          repeat (first | ((with_reducible refine hK _ _ _ ?_); clear hK) | (with_reducible refine seq_step fun K hK => ?_) | (with_reducible refine block_step ?_) | ((with_reducible refine cond_t ?_ ?_); focus rfl) | ((with_reducible refine cond_f ?_ ?_); focus rfl) | ((with_reducible refine code_id ?_); conv => whnf) | (clear hK; (with_reducible refine hK _ _ _ ?_); clear hK) | (clear hK; clear hK; (with_reducible refine hK _ _ _ ?_); clear hK) | (clear hK; clear hK; clear hK; (with_reducible refine hK _ _ _ ?_); clear hK) | (clear hK; clear hK; clear hK; clear hK; (with_reducible refine hK _ _ _ ?_); clear hK) | (clear hK; clear hK; clear hK; clear hK; clear hK; (with_reducible refine hK _ _ _ ?_); clear hK) | (clear hK; clear hK; clear hK; clear hK; clear hK; clear hK; (with_reducible refine hK _ _ _ ?_); clear hK) | (clear hK; clear hK; clear hK; clear hK; clear hK; clear hK; clear hK; (with_reducible refine hK _ _ _ ?_); clear hK))
          refine ⟨((j + 1, s7), g4), ⟨hjl, ?_⟩, by dsimp only; omega, subE_cons rfl (subE_cons rfl (subE_cons rfl (subE_cons rfl (subE_cons rfl (subE_cons rfl (subE_cons (int_eq hnext2 rfl) subE_nil)))))), subB_nil, rfl⟩
          rw [← List.take_append_getElem hjl, List.filter_append, List.filter_cons_of_neg (by simp [hkc]), List.filter_nil, List.append_nil]
          exact hg4
        · rw [show decide (p.kids[j] = c.a) = false from decide_eq_false hkc]
          conv => whnf
          repeat (first | ((with_reducible refine hK _ _ _ ?_); clear hK) | (with_reducible refine seq_step fun K hK => ?_) | (with_reducible refine block_step ?_) | ((with_reducible refine cond_t ?_ ?_); focus rfl) | ((with_reducible refine cond_f ?_ ?_); focus rfl) | ((with_reducible refine code_id ?_); conv => whnf) | (clear hK; (with_reducible refine hK _ _ _ ?_); clear hK) | (clear hK; clear hK; (with_reducible refine hK _ _ _ ?_); clear hK) | (clear hK; clear hK; clear hK; (with_reducible refine hK _ _ _ ?_); clear hK) | (clear hK; clear hK; clear hK; clear hK; (with_reducible refine hK _ _ _ ?_); clear hK) | (clear hK; clear hK; clear hK; clear hK; clear hK; (with_reducible refine hK _ _ _ ?_); clear hK) | (clear hK; clear hK; clear hK; clear hK; clear hK; clear hK; (with_reducible refine hK _ _ _ ?_); clear hK) | (clear hK; clear hK; clear hK; clear hK; clear hK; clear hK; clear hK; (with_reducible refine hK _ _ _ ?_); clear hK))
          refine fresh_has hg4 fun b1 g5 _ _ _ hg5 => ?_
          conv => whnf
          refine app1p hg5 (by have := List.length_filter_le (fun x => decide (x ≠ c.a)) (p.kids.take j); rw [List.length_take] at this; omega) fun s8 g6 hg6 => ?_
          conv => whnf
          repeat (first | ((with_reducible refine hK _ _ _ ?_); clear hK) | (with_reducible refine seq_step fun K hK => ?_) | (with_reducible refine block_step ?_) | ((with_reducible refine cond_t ?_ ?_); focus rfl) | ((with_reducible refine cond_f ?_ ?_); focus rfl) | ((with_reducible refine code_id ?_); conv => whnf) | (clear hK; (with_reducible refine hK _ _ _ ?_); clear hK) | (clear hK; clear hK; (with_reducible refine hK _ _ _ ?_); clear hK) | (clear hK; clear hK; clear hK; (with_reducible refine hK _ _ _ ?_); clear hK) | (clear hK; clear hK; clear hK; clear hK; (with_reducible refine hK _ _ _ ?_); clear hK) | (clear hK; clear hK; clear hK; clear hK; clear hK; (with_reducible refine hK _ _ _ ?_); clear hK) | (clear hK; clear hK; clear hK; clear hK; clear hK; clear hK; (with_reducible refine hK _ _ _ ?_); clear hK) | (clear hK; clear hK; clear hK; clear hK; clear hK; clear hK; clear hK; (with_reducible refine hK _ _ _ ?_); clear hK))
          refine ⟨((j + 1, s8), g6), ⟨hjl, ?_⟩, by dsimp only; omega, subE_cons rfl (subE_cons rfl (subE_cons rfl (subE_cons rfl (subE_cons rfl (subE_cons rfl (subE_cons (int_eq hnext2 rfl) subE_nil)))))), subB_nil, rfl⟩
          rw [← List.take_append_getElem hjl, List.filter_append, List.filter_cons_of_pos (by simp [hkc]), List.filter_nil]
          exact hg6
      · have hje : j = p.kids.length := by omega
        subst hje
        rw [List.take_length] at hg4
        have hfl := List.length_filter_le (fun x => decide (x ≠ c.a)) p.kids
        repeat (first | ((with_reducible refine hK _ _ _ ?_); clear hK) | (with_reducible refine seq_step fun K hK => ?_) | (with_reducible refine block_step ?_) | ((with_reducible refine cond_t ?_ ?_); focus rfl) | ((with_reducible refine cond_f ?_ ?_); focus rfl) | ((with_reducible refine code_id ?_); conv => whnf) | (clear hK; (with_reducible refine hK _ _ _ ?_); clear hK) | (clear hK; clear hK; (with_reducible refine hK _ _ _ ?_); clear hK) | (clear hK; clear hK; clear hK; (with_reducible refine hK _ _ _ ?_); clear hK) | (clear hK; clear hK; clear hK; clear hK; (with_reducible refine hK _ _ _ ?_); clear hK) | (clear hK; clear hK; clear hK; clear hK; clear hK; (with_reducible refine hK _ _ _ ?_); clear hK) | (clear hK; clear hK; clear hK; clear hK; clear hK; clear hK; (with_reducible refine hK _ _ _ ?_); clear hK) | (clear hK; clear hK; clear hK; clear hK; clear hK; clear hK; clear hK; (with_reducible refine hK _ _ _ ?_); clear hK))
        refine opt_ld (hg4.pt 4 rfl) (v := .slice bs c.kids.length cs) rfl ?_
        conv => whnf
        refine app_hasW (z := [.pointer none]) hg4 0 rfl (hg4.wn 5 rfl) (ptrs_one _) (by omega) fun s9 g5 hg5 => ?_
        obtain ⟨b9, c9, hs⟩ := hg5.slv 0 rfl
        subst hs
        conv => whnf
        have hg5 : Has (WnP 1 (.slice b9 ((p.kids.filter fun x => decide (x ≠ c.a)).length + c.kids.length) c9) ((p.kids.filter fun x => decide (x ≠ c.a)) ++ c.kids).length (((p.kids.filter fun x => decide (x ≠ c.a)) ++ c.kids).map ptr) :: Pt p.a (.cells (cellC p (.slice bp p.kids.length cp)).toArray 84 (0, 0)) :: WnP 1 (.slice bp p.kids.length cp) p.kids.length (p.kids.map ptr) :: CellsP ((upM D c.kids f).eraseIdx jp) :: Pt c.a (.cells (cellC c (.slice bs c.kids.length cs)).toArray 84 (0, 0)) :: WnP 1 (.slice bs c.kids.length cs) c.kids.length (c.kids.map ptr) :: BkA b tb' :: TabsP tb' :: L) g5 := by
          rw [List.length_append, List.map_append]; exact hg5
        refine cell_st hg5.swap 7 (.slice b9 ((p.kids.filter fun x => decide (x ≠ c.a)).length + c.kids.length) c9) rfl (by decide) { p with kids := p.kids.filter (fun x => decide (x ≠ c.a)) ++ c.kids } (.slice b9 ((p.kids.filter fun x => decide (x ≠ c.a)).length + c.kids.length) c9) rfl rfl rfl rfl fun g6 hg6 => ?_
        conv => whnf
        repeat (first | ((with_reducible refine hK _ _ _ ?_); clear hK) | (with_reducible refine seq_step fun K hK => ?_) | (with_reducible refine block_step ?_) | ((with_reducible refine cond_t ?_ ?_); focus rfl) | ((with_reducible refine cond_f ?_ ?_); focus rfl) | ((with_reducible refine code_id ?_); conv => whnf) | (clear hK; (with_reducible refine hK _ _ _ ?_); clear hK) | (clear hK; clear hK; (with_reducible refine hK _ _ _ ?_); clear hK) | (clear hK; clear hK; clear hK; (with_reducible refine hK _ _ _ ?_); clear hK) | (clear hK; clear hK; clear hK; clear hK; (with_reducible refine hK _ _ _ ?_); clear hK) | (clear hK; clear hK; clear hK; clear hK; clear hK; (with_reducible refine hK _ _ _ ?_); clear hK) | (clear hK; clear hK; clear hK; clear hK; clear hK; clear hK; (with_reducible refine hK _ _ _ ?_); clear hK) | (clear hK; clear hK; clear hK; clear hK; clear hK; clear hK; clear hK; (with_reducible refine hK _ _ _ ?_); clear hK))
        refine cell_st (hg6.pull 4 rfl) 7 (.slice none 0 0) rfl (by decide) { c with kids := [] } (.slice none 0 0) rfl rfl rfl rfl fun g7 hg7 => ?_
        conv => whnf
        repeat (first | ((with_reducible refine hK _ _ _ ?_); clear hK) | (with_reducible refine seq_step fun K hK => ?_) | (with_reducible refine block_step ?_) | ((with_reducible refine cond_t ?_ ?_); focus rfl) | ((with_reducible refine cond_f ?_ ?_); focus rfl) | ((with_reducible refine code_id ?_); conv => whnf) | (clear hK; (with_reducible refine hK _ _ _ ?_); clear hK) | (clear hK; clear hK; (with_reducible refine hK _ _ _ ?_); clear hK) | (clear hK; clear hK; clear hK; (with_reducible refine hK _ _ _ ?_); clear hK) | (clear hK; clear hK; clear hK; clear hK; (with_reducible refine hK _ _ _ ?_); clear hK) | (clear hK; clear hK; clear hK; clear hK; clear hK; (with_reducible refine hK _ _ _ ?_); clear hK) | (clear hK; clear hK; clear hK; clear hK; clear hK; clear hK; (with_reducible refine hK _ _ _ ?_); clear hK) | (clear hK; clear hK; clear hK; clear hK; clear hK; clear hK; clear hK; (with_reducible refine hK _ _ _ ?_); clear hK))
        have hg8 : Has (Pt c.a (.cells (cellC { c with kids := [] } (.slice none 0 0)).toArray 84 (0, 0)) :: WnP 1 (.slice bs c.kids.length cs) c.kids.length (c.kids.map ptr) :: CellsP ((upM D c.kids f).set jp { p with kids := p.kids.filter (fun x => decide (x ≠ c.a)) ++ c.kids }) :: BkA b tb' :: TabsP tb' :: L) g7 :=
          hg7.map_tail fun g hg => (CellsP.unfocus hjp2 (CellP.cls (c := { p with kids := p.kids.filter (fun x => decide (x ≠ c.a)) ++ c.kids }) (hg.erase 2))).swap
        refine hq _ (fin _ _ ?_ hg8)
        apply List.ext_getElem?
        intro m
        by_cases hm : jp = m
        · subst hm
          rw [List.getElem?_set_self (List.getElem?_eq_some_iff.1 hjp2).1, List.getElem?_map, hjp, Option.map_some, hcR p hpD, if_pos hpar.symm, if_neg hpkid]
        · rw [List.getElem?_set_ne hm, List.getElem?_map]
          cases hk : D[m]? with
          | none => unfold upM; rw [List.getElem?_map, hk]; rfl
          | some d =>
            have hdD := List.mem_of_getElem? hk
            have hne : some d.a ≠ c.par := fun e => by
              rw [hpar] at e
              have e1 : d = p := one_a hDn hdD hpD (Option.some.inj e)
              rw [e1] at hk
              have h1 : (D.map (·.a))[jp]? = some p.a := by rw [List.getElem?_map, hjp]; rfl
              have h2 : (D.map (·.a))[m]? = some p.a := by rw [List.getElem?_map, hk]; rfl
              exact hm ((List.getElem?_inj (List.getElem?_eq_some_iff.1 h1).1 hDn).1 (h1.trans h2.symm))
            rw [upM_get hk, Option.map_some, hcR d hdD, if_neg hne]

def mDropV (tb : Tb) (C : List Ce) (e s : Int) : Int ⊕ Cp := match mLook tb e s with
  | .inl k => .inl k
  | .inr a => match C.find? (fun c => decide (c.a = a)) with
    | some c => .inr c.cap
    | none => .inl 80

/-- Drop: either nothing lies there, or the cell c goes. -/
theorem drop12 (hw : WF S) (hh : Has (CapsA b S :: L) h) (e s : Int)
    (h1 : ∀ k, mLook S.tb e s = .inl k → Q (.tuple #[.agg #[iv 0, iv 0, iv 0, iv 0], iv k]) h)
    (h2 : ∀ c ∈ S.cs, e = c.env → s = c.slot → ∀ h', Has (CapsA b (rm S c) :: L) h' → Q (.tuple #[.agg #[iv c.cap.kind, iv c.cap.obj, iv c.cap.serial, iv c.cap.rights], iv 0]) h') : Ok PR 12 [ptr b, iv e, iv s] h Q := by
  have hr := CapsA.rd0 hh
  refine e12 rfl (seq_step fun K hK => ?_)
  repeat (first | ((with_reducible refine hK _ _ _ ?_); clear hK) | (with_reducible refine seq_step fun K hK => ?_) | (with_reducible refine block_step ?_) | ((with_reducible refine cond_t ?_ ?_); focus rfl) | ((with_reducible refine cond_f ?_ ?_); focus rfl) | ((with_reducible refine code_id ?_); conv => whnf) | (clear hK; (with_reducible refine hK _ _ _ ?_); clear hK) | (clear hK; clear hK; (with_reducible refine hK _ _ _ ?_); clear hK) | (clear hK; clear hK; clear hK; (with_reducible refine hK _ _ _ ?_); clear hK) | (clear hK; clear hK; clear hK; clear hK; (with_reducible refine hK _ _ _ ?_); clear hK) | (clear hK; clear hK; clear hK; clear hK; clear hK; (with_reducible refine hK _ _ _ ?_); clear hK) | (clear hK; clear hK; clear hK; clear hK; clear hK; clear hK; (with_reducible refine hK _ _ _ ?_); clear hK) | (clear hK; clear hK; clear hK; clear hK; clear hK; clear hK; clear hK; (with_reducible refine hK _ _ _ ?_); clear hK))
  refine look38 hr hw.len e s ?_
  cases hm : mLook S.tb e s with
  | inl k =>
    have hk : k = 83 ∨ k = 80 := by
      unfold mLook at hm
      split at hm
      · cases hm; exact .inl rfl
      · split at hm <;> cases hm
        exact .inr rfl
    rcases hk with rfl | rfl
    · conv => whnf
      repeat (first | ((with_reducible refine hK _ _ _ ?_); clear hK) | (with_reducible refine seq_step fun K hK => ?_) | (with_reducible refine block_step ?_) | ((with_reducible refine cond_t ?_ ?_); focus rfl) | ((with_reducible refine cond_f ?_ ?_); focus rfl) | ((with_reducible refine code_id ?_); conv => whnf) | (clear hK; (with_reducible refine hK _ _ _ ?_); clear hK) | (clear hK; clear hK; (with_reducible refine hK _ _ _ ?_); clear hK) | (clear hK; clear hK; clear hK; (with_reducible refine hK _ _ _ ?_); clear hK) | (clear hK; clear hK; clear hK; clear hK; (with_reducible refine hK _ _ _ ?_); clear hK) | (clear hK; clear hK; clear hK; clear hK; clear hK; (with_reducible refine hK _ _ _ ?_); clear hK) | (clear hK; clear hK; clear hK; clear hK; clear hK; clear hK; (with_reducible refine hK _ _ _ ?_); clear hK) | (clear hK; clear hK; clear hK; clear hK; clear hK; clear hK; clear hK; (with_reducible refine hK _ _ _ ?_); clear hK))
      exact h1 83 hm
    · conv => whnf
      repeat (first | ((with_reducible refine hK _ _ _ ?_); clear hK) | (with_reducible refine seq_step fun K hK => ?_) | (with_reducible refine block_step ?_) | ((with_reducible refine cond_t ?_ ?_); focus rfl) | ((with_reducible refine cond_f ?_ ?_); focus rfl) | ((with_reducible refine code_id ?_); conv => whnf) | (clear hK; (with_reducible refine hK _ _ _ ?_); clear hK) | (clear hK; clear hK; (with_reducible refine hK _ _ _ ?_); clear hK) | (clear hK; clear hK; clear hK; (with_reducible refine hK _ _ _ ?_); clear hK) | (clear hK; clear hK; clear hK; clear hK; (with_reducible refine hK _ _ _ ?_); clear hK) | (clear hK; clear hK; clear hK; clear hK; clear hK; (with_reducible refine hK _ _ _ ?_); clear hK) | (clear hK; clear hK; clear hK; clear hK; clear hK; clear hK; (with_reducible refine hK _ _ _ ?_); clear hK) | (clear hK; clear hK; clear hK; clear hK; clear hK; clear hK; clear hK; (with_reducible refine hK _ _ _ ?_); clear hK))
      exact h1 80 hm
  | inr a =>
    obtain ⟨c, hc, rfl, he, hs⟩ := mLook_at hw hm
    conv => whnf
    repeat (first | ((with_reducible refine hK _ _ _ ?_); clear hK) | (with_reducible refine seq_step fun K hK => ?_) | (with_reducible refine block_step ?_) | ((with_reducible refine cond_t ?_ ?_); focus rfl) | ((with_reducible refine cond_f ?_ ?_); focus rfl) | ((with_reducible refine code_id ?_); conv => whnf) | (clear hK; (with_reducible refine hK _ _ _ ?_); clear hK) | (clear hK; clear hK; (with_reducible refine hK _ _ _ ?_); clear hK) | (clear hK; clear hK; clear hK; (with_reducible refine hK _ _ _ ?_); clear hK) | (clear hK; clear hK; clear hK; clear hK; (with_reducible refine hK _ _ _ ?_); clear hK) | (clear hK; clear hK; clear hK; clear hK; clear hK; (with_reducible refine hK _ _ _ ?_); clear hK) | (clear hK; clear hK; clear hK; clear hK; clear hK; clear hK; (with_reducible refine hK _ _ _ ?_); clear hK) | (clear hK; clear hK; clear hK; clear hK; clear hK; clear hK; clear hK; (with_reducible refine hK _ _ _ ?_); clear hK))
    refine remove41 hw hc hh fun h3 hh3 => ?_
    obtain ⟨sv, hh4⟩ := CellP.opn hh3.swap
    conv => whnf
    repeat (first | ((with_reducible refine hK _ _ _ ?_); clear hK) | (with_reducible refine seq_step fun K hK => ?_) | (with_reducible refine block_step ?_) | ((with_reducible refine cond_t ?_ ?_); focus rfl) | ((with_reducible refine cond_f ?_ ?_); focus rfl) | ((with_reducible refine code_id ?_); conv => whnf) | (clear hK; (with_reducible refine hK _ _ _ ?_); clear hK) | (clear hK; clear hK; (with_reducible refine hK _ _ _ ?_); clear hK) | (clear hK; clear hK; clear hK; (with_reducible refine hK _ _ _ ?_); clear hK) | (clear hK; clear hK; clear hK; clear hK; (with_reducible refine hK _ _ _ ?_); clear hK) | (clear hK; clear hK; clear hK; clear hK; clear hK; (with_reducible refine hK _ _ _ ?_); clear hK) | (clear hK; clear hK; clear hK; clear hK; clear hK; clear hK; (with_reducible refine hK _ _ _ ?_); clear hK) | (clear hK; clear hK; clear hK; clear hK; clear hK; clear hK; clear hK; (with_reducible refine hK _ _ _ ?_); clear hK))
    refine opt_ld (hh4.pt 0 rfl) (v := .agg #[iv c.cap.kind, iv c.cap.obj, iv c.cap.serial, iv c.cap.rights]) rfl ?_
    conv => whnf
    repeat (first | ((with_reducible refine hK _ _ _ ?_); clear hK) | (with_reducible refine seq_step fun K hK => ?_) | (with_reducible refine block_step ?_) | ((with_reducible refine cond_t ?_ ?_); focus rfl) | ((with_reducible refine cond_f ?_ ?_); focus rfl) | ((with_reducible refine code_id ?_); conv => whnf) | (clear hK; (with_reducible refine hK _ _ _ ?_); clear hK) | (clear hK; clear hK; (with_reducible refine hK _ _ _ ?_); clear hK) | (clear hK; clear hK; clear hK; (with_reducible refine hK _ _ _ ?_); clear hK) | (clear hK; clear hK; clear hK; clear hK; (with_reducible refine hK _ _ _ ?_); clear hK) | (clear hK; clear hK; clear hK; clear hK; clear hK; (with_reducible refine hK _ _ _ ?_); clear hK) | (clear hK; clear hK; clear hK; clear hK; clear hK; clear hK; (with_reducible refine hK _ _ _ ?_); clear hK) | (clear hK; clear hK; clear hK; clear hK; clear hK; clear hK; clear hK; (with_reducible refine hK _ _ _ ?_); clear hK))
    exact h2 c hc he hs _ (hh3.map_tail fun g hg => hg.tail)
end
end Go.Proofs.YthpkgkoojhgedaaDoor.V
