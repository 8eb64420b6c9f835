/- Seat 04: lists of lists of bytes. -/
import Derived.Test.YtpkleblggehghaaD22
import Derived.Test.YtpkleblggehghaaD23
namespace Go.Proofs.Ytpkleblggehghaa.V
set_option linter.unusedVariables false
set_option linter.unusedSimpArgs false
set_option linter.unusedSectionVars false
set_option linter.unusedSectionVars false
open Go

def wof (x : Value × List Int) : As := WnP 1 x.1 x.2.length (x.2.map by8)

/-- Four lists of bytes, in a list. -/
def LsP (bo : Nat) (ls : List (Value × List Int)) : As := fun h => ls.length = 4 ∧ Has (WnP 1 (.slice (some ⟨bo, 0, none⟩) 4 4) 4 (ls.map (·.1)) :: ls.map wof) h

section
variable {h : Hp} {L : List As} {bo : Nat} {ls : List (Value × List Int)}

theorem LsP.opn (hh : Has (LsP bo ls :: L) h) : ls.length = 4 ∧ Has (WnP 1 (.slice (some ⟨bo, 0, none⟩) 4 4) 4 (ls.map (·.1)) :: (ls.map wof ++ L)) h := by
  obtain ⟨h1, h2, e, ap, ⟨hl, hd⟩, hL⟩ := hh
  exact ⟨hl, Has.flat (L1 := _ :: ls.map wof) ⟨h1, h2, e, ap, hd, hL⟩⟩

theorem LsP.cls (hl : ls.length = 4) (hh : Has (WnP 1 (.slice (some ⟨bo, 0, none⟩) 4 4) 4 (ls.map (·.1)) :: (ls.map wof ++ L)) h) : Has (LsP bo ls :: L) h := by
  obtain ⟨h1, h2, e, ap, hd, hL⟩ := Has.group (L1 := _ :: ls.map wof) hh
  exact ⟨h1, h2, e, ap, ⟨hl, hd⟩, hL⟩

/-- One of the lists. -/
theorem LsP.vw (hh : Has (LsP bo ls :: L) h) {i : Nat} {x : Value × List Int} (hx : ls[i]? = some x) : Vw 1 h x.1 x.2.length (x.2.map by8) := by
  obtain ⟨hl, hd⟩ := LsP.opn hh
  have hi := (List.getElem?_eq_some_iff.1 hx).1
  refine hd.wn (i + 1) ?_
  rw [List.getElem?_cons_succ, List.getElem?_append_left (by rw [List.length_map]; exact hi), List.getElem?_map, hx]; rfl

/-- Its place. -/
theorem LsP.cell (hh : Has (LsP bo ls :: L) h) {i : Nat} {x : Value × List Int} (hx : ls[i]? = some x) : ∃ c ty z, h bo = some (.cells c ty z) ∧ c[0 + i]? = some x.1 := by
  obtain ⟨hl, hd⟩ := LsP.opn hh
  have hi := (List.getElem?_eq_some_iff.1 hx).1
  obtain ⟨b, o, c, ty, z, cap, e1, e2, e3, e4⟩ := (hd.wn 0 rfl).at (i := i) (by omega)
  cases e1
  refine ⟨c, ty, z, e2, ?_⟩
  have := e4 0 x.1 (by rw [Nat.mul_one, Nat.add_zero, List.getElem?_map, hx]; rfl)
  rwa [Nat.mul_one, Nat.add_zero] at this

theorem map_set' {α β : Type} (f : α → β) (l : List α) (i : Nat) (x : α) : (l.set i x).map f = (l.map f).set i (f x) := List.map_set

/-- One is laid anew. -/
theorem LsP.put {v : Value} {l : List Int} {β : Bx} {K : Hp × Bx → Prop} (hh : Has (WnP 1 v l.length (l.map by8) :: LsP bo ls :: L) h) {i : Nat} (hi : i < 4)
    (hK : ∀ h', Has (LsP bo (ls.set i (v, l)) :: L) h' → K (h', β)) : optK (pSt 1 h β (.v (.pointer (some ⟨bo, 0 + i, none⟩))) (.v v)) K := by
  obtain ⟨base, cap, hv⟩ := hh.slv 0 rfl
  obtain ⟨hl, hd⟩ := LsP.opn hh.swap
  refine st_hasW hd 0 rfl (k := i) (x := v) hi (by subst hv; rfl) (by subst hv; rfl) fun h' hh' => hK h' ?_
  have hil : i < (ls.map wof).length := by rw [List.length_map]; omega
  have hd' : Has (WnP 1 (.slice (some ⟨bo, 0, none⟩) 4 4) 4 ((ls.map (·.1)).set i v) :: (ls.map wof ++ WnP 1 v l.length (l.map by8) :: L)) h' := hh'
  refine LsP.cls (by rw [List.length_set]; exact hl) ?_
  rw [map_set', map_set']
  -- the i-th is dropped, the new one takes its place
  refine hd'.map_tail fun g hg => ?_
  have e0 : (ls.map wof ++ WnP 1 v l.length (l.map by8) :: L)[ls.length]? = some (WnP 1 v l.length (l.map by8)) := by
    rw [List.getElem?_append_right (by rw [List.length_map]; exact Nat.le_refl _), List.length_map, Nat.sub_self]; rfl
  have g1 := hg.pull ls.length e0
  have e1 : (ls.map wof ++ WnP 1 v l.length (l.map by8) :: L).eraseIdx ls.length = ls.map wof ++ L := by
    rw [List.eraseIdx_append_of_length_le (by rw [List.length_map]; exact Nat.le_refl _), List.length_map, Nat.sub_self]; rfl
  rw [e1] at g1
  have g2 : Has (WnP 1 v l.length (l.map by8) :: (ls.map wof ++ L).eraseIdx i) g := g1.map_tail fun g' hg' => hg'.erase i
  have hw : (ls.map wof ++ L)[i]? = some ((ls.map wof)[i]'hil) := by rw [List.getElem?_append_left hil, List.getElem?_eq_getElem hil]
  have g3 := Has.put hw g2
  rwa [List.set_append_left _ _ hil] at g3

/-- One byte. -/
theorem LsP.wr {i t : Nat} {b o n cap : Nat} {l : List Int} {y : Int} {β : Bx} {K : Hp × Bx → Prop} (hh : Has (LsP bo ls :: L) h) (hx : ls[i]? = some (.slice (some ⟨b, o, none⟩) n cap, l)) (hn : l.length = n) (ht : t < n)
    (hK : ∀ h', Has (LsP bo (ls.set i (.slice (some ⟨b, o, none⟩) n cap, l.set t y)) :: L) h' → K (h', β)) : optK (pSt 1 h β (.v (.pointer (some ⟨b, o + t, none⟩))) (.v (by8 y))) K := by
  obtain ⟨hl, hd⟩ := LsP.opn hh
  have hi := (List.getElem?_eq_some_iff.1 hx).1
  have hil : i < (ls.map wof).length := by rw [List.length_map]; exact hi
  have hw : (WnP 1 (.slice (some ⟨bo, 0, none⟩) 4 4) 4 (ls.map (·.1)) :: (ls.map wof ++ L))[i + 1]? = some (WnP 1 (.slice (some ⟨b, o, none⟩) n cap) n (l.map by8)) := by
    rw [List.getElem?_cons_succ, List.getElem?_append_left hil, List.getElem?_map, hx]
    show some (WnP 1 _ l.length _) = _
    rw [hn]
  refine st_hasW hd (i + 1) hw (k := t) (x := by8 y) ht rfl rfl fun h' hh' => hK h' ?_
  refine LsP.cls (by rw [List.length_set]; exact hl) ?_
  rw [map_set', map_set']
  have e1 : (ls.map (·.1)).set i (.slice (some ⟨b, o, none⟩) n cap) = ls.map (·.1) := by
    apply List.ext_getElem?
    intro j
    by_cases hj : j = i
    · subst hj
      rw [List.getElem?_set_self (by rw [List.length_map]; exact hi), List.getElem?_map, hx]; rfl
    · rw [List.getElem?_set_ne (fun e => hj e.symm)]
  show Has (WnP 1 _ 4 ((ls.map (·.1)).set i (.slice (some ⟨b, o, none⟩) n cap)) :: _) h'
  rw [e1]
  rw [List.set_cons_succ, List.set_append_left _ _ hil] at hh'
  have e2 : wof (.slice (some ⟨b, o, none⟩) n cap, l.set t y) = WnP 1 (.slice (some ⟨b, o, none⟩) n cap) n ((l.map by8).set t (by8 y)) := by
    show WnP 1 _ (l.set t y).length ((l.set t y).map by8) = _
    rw [List.length_set, hn, List.map_set]
  rw [e2]
  exact hh'

/-- Bytes behind one of them (its place has the old list still). -/
theorem LsP.app {i m : Nat} {v sv : Value} {l k : List Int} {ty : TypeId} {bytes : Nat} {K : Ent → Hp → Prop} (hh : Has (LsP bo ls :: L) h) (hx : ls[i]? = some (v, l)) (hv : Vw 1 h sv m (k.map by8)) (hb : 2 * (l.length + m) * bytes ≤ 2 ^ 48)
    (hK : ∀ s' h', Has (WnP 1 (.slice (some ⟨bo, 0, none⟩) 4 4) 4 (ls.map (·.1)) :: ((ls.set i (s', l ++ k)).map wof ++ L)) h' → K (.v s') h') : appK [.int .u8 0] ty bytes h (.v v) (.v sv) K := by
  obtain ⟨hl, hd⟩ := LsP.opn hh
  have hi := (List.getElem?_eq_some_iff.1 hx).1
  have hil : i < (ls.map wof).length := by rw [List.length_map]; exact hi
  have hm : k.length = m := by have := hv.1; rw [List.length_map] at this; omega
  have hw : (WnP 1 (.slice (some ⟨bo, 0, none⟩) 4 4) 4 (ls.map (·.1)) :: (ls.map wof ++ L))[i + 1]? = some (WnP [Value.int .u8 0].length v l.length (l.map by8)) := by
    rw [List.getElem?_cons_succ, List.getElem?_append_left hil, List.getElem?_map, hx]; rfl
  refine app_hasW (z := [.int .u8 0]) hd (i + 1) hw hv (by8_one k) hb fun s' h' hh' => hK s' h' ?_
  rw [List.set_cons_succ, List.set_append_left _ _ hil] at hh'
  rw [map_set']
  have e2 : wof (s', l ++ k) = WnP 1 s' (l.length + m) (l.map by8 ++ k.map by8) := by
    show WnP 1 _ (l ++ k).length ((l ++ k).map by8) = _
    rw [List.length_append, List.map_append, hm]
  rw [e2]
  exact hh'

theorem LsP.fin {i : Nat} {x : Value × List Int} {β : Bx} {K : Hp × Bx → Prop} (hl : ls.length = 4) (hi : i < 4) (hh : Has (WnP 1 (.slice (some ⟨bo, 0, none⟩) 4 4) 4 (ls.map (·.1)) :: ((ls.set i x).map wof ++ L)) h)
    (hK : ∀ h', Has (LsP bo (ls.set i x) :: L) h' → K (h', β)) : optK (pSt 1 h β (.v (.pointer (some ⟨bo, 0 + i, none⟩))) (.v x.1)) K := by
  have hil : i < ((ls.set i x).map wof).length := by rw [List.length_map, List.length_set]; omega
  have hw : (WnP 1 (.slice (some ⟨bo, 0, none⟩) 4 4) 4 (ls.map (·.1)) :: ((ls.set i x).map wof ++ L))[i + 1]? = some (WnP 1 x.1 x.2.length (x.2.map by8)) := by
    rw [List.getElem?_cons_succ, List.getElem?_append_left hil, List.getElem?_map, List.getElem?_set_self (by omega)]; rfl
  obtain ⟨base, cap, hv⟩ := hh.slv (i + 1) hw
  refine st_hasW hh 0 rfl (k := i) (x := x.1) hi (by rw [hv]; rfl) (by rw [hv]; rfl) fun h' hh' => hK h' ?_
  refine LsP.cls (by rw [List.length_set]; exact hl) ?_
  have e : (ls.set i x).map (·.1) = (ls.map (·.1)).set i x.1 := List.map_set
  rw [e]
  exact hh'

end
end Go.Proofs.Ytpkleblggehghaa.V
