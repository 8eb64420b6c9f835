/- Seat 08: CapsKeepApart: what the book holds, told by how many lie in each list. -/
import Derived.Test.YthpkgkoojhgedaaDoorK28
namespace Go.Proofs.YthpkgkoojhgedaaDoor.V
set_option linter.unusedVariables false
set_option linter.unusedSimpArgs false
set_option linter.unusedSectionVars false
set_option linter.unusedSectionVars false
open Go

/-- What lies in a list. -/
def cpE (ser : Int) (e : Nat) : Cp := ⟨1, 5, ser, if e = 0 then 15 else 5⟩
def rowH (ser : Int) (e k : Nat) : List Hd := (List.range k).map fun i => ⟨e, i, cpE ser e⟩

theorem sorted_eq {f : Hd → Nat} : ∀ {l1 l2 : List Hd}, l1.Pairwise (fun x y => f x < f y) → l2.Pairwise (fun x y => f x < f y) → (∀ x, x ∈ l1 ↔ x ∈ l2) → l1 = l2
  | [], [], _, _, _ => rfl
  | [], y :: l2, _, _, h => by have := (h y).2 (List.mem_cons_self ..); cases this
  | x :: l1, [], _, _, h => by have := (h x).1 (List.mem_cons_self ..); cases this
  | x :: l1, y :: l2, h1, h2, h => by
    rw [List.pairwise_cons] at h1 h2
    have hxy : x = y := by
      rcases List.mem_cons.1 ((h x).1 (List.mem_cons_self ..)) with e | e
      · exact e
      rcases List.mem_cons.1 ((h y).2 (List.mem_cons_self ..)) with e2 | e2
      · exact e2.symm
      have a := h2.1 x e
      have b := h1.1 y e2
      omega
    subst hxy
    rw [sorted_eq h1.2 h2.2 fun z => ⟨fun hz => ?_, fun hz => ?_⟩]
    · rcases List.mem_cons.1 ((h z).1 (List.mem_cons_of_mem _ hz)) with e | e
      · have := h1.1 z hz; rw [e] at this; omega
      · exact e
    · rcases List.mem_cons.1 ((h z).2 (List.mem_cons_of_mem _ hz)) with e | e
      · have := h2.1 z hz; rw [e] at this; omega
      · exact e

theorem mem_rowH {ser : Int} {e k : Nat} {x : Hd} : x ∈ rowH ser e k ↔ x.env = e ∧ x.slot < k ∧ x.cap = cpE ser e := by
  unfold rowH
  rw [List.mem_map]
  constructor
  · rintro ⟨i, hi, rfl⟩
    exact ⟨rfl, List.mem_range.1 hi, rfl⟩
  · rintro ⟨h1, h2, h3⟩
    exact ⟨x.slot, List.mem_range.2 h2, by cases x; simp_all⟩

theorem rowH_sorted (ser : Int) (e k : Nat) : (rowH ser e k).Pairwise fun x y => posH x < posH y := by
  unfold rowH
  rw [List.pairwise_map]
  exact List.pairwise_lt_range.imp fun {a b} h => by unfold posH; dsimp only; omega

theorem rowH_len (ser : Int) (e k : Nat) : (rowH ser e k).length = k := by unfold rowH; rw [List.length_map, List.length_range]
theorem rowH_at (ser : Int) (e k i : Nat) (hi : i < (rowH ser e k).length) : (rowH ser e k)[i] = ⟨e, i, cpE ser e⟩ := by
  simp [rowH]

/-- The book: which lists are open, and how many lie in each. -/
structure Cn (S : Bs) (ser : Int) (op : List Nat) (kk : Nat → Nat) : Prop where
  wf : WF S
  op : ∀ e ∈ op, isOpen S.tb (e : Int) = true
  fit : ∀ c ∈ S.cs, c.slot < kk c.env ∧ c.cap = cpE ser c.env
  has : ∀ e s, s < kk e → ∃ c ∈ S.cs, c.env = e ∧ c.slot = s

/-- Who comes from whom. -/
def Kin (S : Bs) : Prop := ∀ c ∈ S.cs, (c.env = 0 → c.par = none) ∧ (c.env ≠ 0 → ∃ r ∈ S.cs, r.env = 0 ∧ c.par = some r.a)

def up1 (kk : Nat → Nat) (e k : Nat) : Nat → Nat := fun x => if x = e then k else kk x

section
variable {S : Bs} {ser : Int} {op : List Nat} {kk : Nat → Nat}

theorem Cn.beg {S : Bs} (hb : Beg S (cpE 7 0)) : Cn S 7 [0, 1, 2, 3] (up1 (fun _ => 0) 0 1) ∧ Kin S := by
  obtain ⟨a, hcs⟩ := hb.cs
  refine ⟨⟨hb.wf, fun e he => (hb.op e).2 ?_, fun c hc => ?_, fun e s hs => ?_⟩, fun c hc => ?_⟩
  · simp at he; omega
  · rw [hcs] at hc; rw [List.mem_singleton.1 hc]; exact ⟨Nat.zero_lt_one, rfl⟩
  · unfold up1 at hs
    split at hs
    · rename_i h; exact ⟨_, by rw [hcs]; exact List.mem_singleton.2 rfl, h.symm, by show 0 = s; omega⟩
    · cases hs
  · rw [hcs] at hc; rw [List.mem_singleton.1 hc]; exact ⟨fun _ => rfl, fun h => absurd rfl h⟩

theorem Cn.list (h : Cn S ser op kk) (e : Nat) : lsOf S e = rowH ser e (kk e) :=
  sorted_eq (f := posH) (lsTo_sorted h.wf e 48).1 (rowH_sorted ..) fun x => by
    rw [mem_lsOf h.wf, mem_rowH]
    constructor
    · rintro ⟨c, hc, rfl, rfl⟩
      exact ⟨rfl, (h.fit c hc).1, (h.fit c hc).2⟩
    · rintro ⟨h1, h2, h3⟩
      obtain ⟨c, hc, he, hs⟩ := h.has e x.slot h2
      refine ⟨c, hc, ?_, he⟩
      have := (h.fit c hc).2
      cases x
      unfold hdOf
      simp_all

/-- One more in a list. -/
theorem Cn.more (h : Cn S ser op kk) {e a : Nat} {p : Option Nat} (hw : WF (add S ⟨a, e, kk e, cpE ser e, p, []⟩)) : Cn (add S ⟨a, e, kk e, cpE ser e, p, []⟩) ser op (up1 kk e (kk e + 1)) := by
  refine ⟨hw, fun x hx => ?_, fun c hc => ?_, fun x s hs => ?_⟩
  · show isOpen (setTab S.tb e (kk e) (some a)) (x : Int) = true
    rw [setTab_open]; exact h.op x hx
  · unfold up1
    rcases mem_addC.1 hc with ⟨q, hq, rfl⟩ | rfl
    · obtain ⟨h1, h2⟩ := h.fit q hq
      rw [fA_env, fA_slot, fA_cap]
      refine ⟨?_, h2⟩
      split
      · rename_i hh; rw [hh] at h1; omega
      · exact h1
    · dsimp only
      rw [if_pos rfl]
      exact ⟨Nat.lt_succ_self _, rfl⟩
  · unfold up1 at hs
    have old : s < kk x → ∃ c ∈ addC S.cs ⟨a, e, kk e, cpE ser e, p, []⟩, c.env = x ∧ c.slot = s := fun hs => by
      obtain ⟨c, hc, h1, h2⟩ := h.has x s hs
      exact ⟨_, mem_addC.2 (.inl ⟨c, hc, rfl⟩), by rw [fA_env]; exact h1, by rw [fA_slot]; exact h2⟩
    split at hs
    · rename_i hh
      subst hh
      rcases Nat.lt_or_ge s (kk x) with h1 | h1
      · exact old h1
      · exact ⟨_, mem_addC.2 (.inr rfl), rfl, by show kk x = s; omega⟩
    · exact old hs

theorem Kin.more (h : Kin S) {n r : Ce} (hr : r ∈ S.cs) (hr0 : r.env = 0) (hn : n.env ≠ 0) (hp : n.par = some r.a) : Kin (add S n) := fun c hc => by
  rcases mem_addC.1 hc with ⟨q, hq, rfl⟩ | rfl
  · obtain ⟨h1, h2⟩ := h q hq
    rw [fA_env, fA_par]
    exact ⟨h1, fun e => by
      obtain ⟨r, a1, a2, a3⟩ := h2 e
      exact ⟨_, mem_addC.2 (.inl ⟨r, a1, rfl⟩), by rw [fA_env]; exact a2, by rw [fA_a]; exact a3⟩⟩
  · exact ⟨fun e => absurd e hn, fun _ => ⟨_, mem_addC.2 (.inl ⟨r, hr, rfl⟩), by rw [fA_env]; exact hr0, by rw [fA_a]; exact hp⟩⟩

/-- Deriving from slot 0 of list 0. -/
theorem Cn.derive (h : Cn S ser op kk) (h0 : 0 ∈ op) {e : Nat} (he : e ∈ op) (hk0 : kk 0 = 1) (hke : kk e < 48) : mDerive S 0 0 e (-1) 5 = .inr (kk e) := by
  have hw := h.wf
  obtain ⟨r, hr, hr0, hrs⟩ := h.has 0 0 (by omega)
  have hrc : r.cap = cpE ser 0 := by have := (h.fit r hr).2; rw [hr0] at this; exact this
  obtain ⟨n0, t0, l0, e0, g0, ht0⟩ := got_open (h.op 0 h0)
  obtain ⟨n1, t1, l1, e1, g1, ht1⟩ := got_open (h.op e he)
  obtain rfl : e = n1 := by omega
  have hlk := mLook_of hw hr
  rw [hr0, hrs] at hlk
  have hlk : mLook S.tb 0 0 = .inr r.a := hlk
  have g0 : got S.tb 0 = some (t0, l0) := g0
  have hlow : low l1 = some (kk e) := low_is (hw.free ht1 hke fun x hx hh => by
    have := (h.fit x hx).1
    rw [hh.1, hh.2] at this; omega) fun j hj => by
      obtain ⟨c, hc, hce, hcs⟩ := h.has e j hj
      have := hw.taken ht1 hc hce
      rw [hcs] at this
      rw [this]
      intro h; cases h
  unfold mDerive
  rw [g0, g1]
  dsimp only
  rw [hlk]
  dsimp only
  rw [find_a hw hr]
  dsimp only
  rw [if_pos ⟨by decide, by omega, by omega⟩, hrc]
  rw [if_pos ⟨by show grantR 15 = true; decide, by show subR 5 15 = true; decide⟩]
  unfold mPlace
  rw [if_neg (by decide), hlow]

/-- Where only list 0 is left. -/
theorem Cn.alone (h : Cn S ser op kk) (h0 : kk 0 ≤ 1) (h1 : ∀ e, e ≠ 0 → kk e = 0) : Kin S := fun c hc => by
  have hf : ∀ d ∈ S.cs, d.env = 0 ∧ d.slot = 0 := fun d hd => by
    have := (h.fit d hd).1
    by_cases he : d.env = 0
    · rw [he] at this; exact ⟨he, by omega⟩
    · rw [h1 _ he] at this; omega
  refine ⟨fun _ => ?_, fun e => absurd (hf c hc).1 e⟩
  cases hp : c.par with
  | none => rfl
  | some p =>
    obtain ⟨d, hd, hda, _⟩ := h.wf.k2 c hc p hp
    have hdc : d = c := h.wf.place hd hc (by rw [(hf d hd).1, (hf c hc).1]) (by rw [(hf d hd).2, (hf c hc).2])
    rw [← hda, hdc] at hp
    exact absurd hp (h.wf.noself hc)

theorem Kin.bel (h : Kin S) (hw : WF S) {r d : Ce} (hr : r ∈ S.cs) (hd : d ∈ S.cs) (hr0 : r.env = 0) (hone : ∀ x ∈ S.cs, x.env = 0 → x = r) : Bel S.cs r.a d.a ↔ d.env ≠ 0 := by
  constructor
  · intro hb he
    have key : ∀ x, Bel S.cs r.a x → ∃ k ∈ S.cs, k.a = x ∧ k.par ≠ none := fun x hx => by
      cases hx with
      | kid hk hp => exact ⟨_, hk, rfl, by rw [hp]; intro h; cases h⟩
      | step hk hp _ => exact ⟨_, hk, rfl, by rw [hp]; intro h; cases h⟩
    obtain ⟨k, hk, hka, hkp⟩ := key _ hb
    have := one_a hw.nda hk hd hka
    subst this
    exact hkp ((h k hk).1 he)
  · intro he
    obtain ⟨r', h1, h2, h3⟩ := (h d hd).2 he
    rw [hone r' h1 h2] at h3
    exact .kid hd h3

/-- What goes goes by whole lists. -/
theorem Cn.swG (h : Cn S ser op kk) {m : Ce → Bool} (hm : ∀ c d, Sim c d → m c = m d) {P : Nat} {g : Nat → Bool} (hg : ∀ d ∈ S.cs, (posC d < P ∧ m d = true) ↔ g d.env = true) :
    Cn (sw m S P) ser op (fun e => if g e = true then 0 else kk e) := by
  obtain ⟨a1, a2⟩ := sw_cells h.wf hm P
  refine ⟨h.wf.sw P, fun e he => by rw [sw_open]; exact h.op e he, fun c hc => ?_, fun e s hs => ?_⟩
  · obtain ⟨d, hd, hsim, hn⟩ := a1 c hc
    obtain ⟨h1, h2⟩ := h.fit d hd
    rw [hsim.2.1, hsim.2.2.1, hsim.2.2.2]
    rw [hg d hd] at hn
    rw [if_neg hn]
    exact ⟨h1, h2⟩
  · split at hs
    · cases hs
    · rename_i hge
      obtain ⟨d, hd, h1, h2⟩ := h.has e s hs
      obtain ⟨k, hk, hsim⟩ := a2 d hd (by rw [hg d hd, h1]; exact hge)
      exact ⟨k, hk, by rw [hsim.2.1]; exact h1, by rw [hsim.2.2.1]; exact h2⟩

/-- What went, as a list. -/
theorem Cn.swL (h : Cn S ser op kk) {m : Ce → Bool} (hm : ∀ c d, Sim c d → m c = m d) {P : Nat} {g : Nat → Bool} (hg : ∀ d ∈ S.cs, (posC d < P ∧ m d = true) ↔ g d.env = true) {E : List Hd}
    (hs : E.Pairwise fun x y => posH x < posH y) (hE : ∀ x, x ∈ E ↔ g x.env = true ∧ x.slot < kk x.env ∧ x.cap = cpE ser x.env) : (V.swL m S P).map hdOf = E := by
  obtain ⟨a1, a2, a3, _⟩ := swL_mem h.wf hm P
  refine sorted_eq (f := posH) ?_ hs fun x => ?_
  · rw [List.pairwise_map]; exact a3
  · rw [hE, List.mem_map]
    constructor
    · rintro ⟨c, hc, rfl⟩
      obtain ⟨d, hd, hsim, hp⟩ := a1 c hc
      rw [hsim.hd]
      exact ⟨(hg d hd).1 hp, (h.fit d hd).1, (h.fit d hd).2⟩
    · rintro ⟨h1, h2, h3⟩
      obtain ⟨d, hd, e1, e2⟩ := h.has _ _ h2
      have hgd := (hg d hd).2 (by rw [e1]; exact h1)
      obtain ⟨k, hk, hsim⟩ := a2 d hd hgd.1 hgd.2
      refine ⟨k, hk, ?_⟩
      rw [hsim.hd]
      have := (h.fit d hd).2
      cases x
      unfold hdOf
      simp_all
end
end Go.Proofs.YthpkgkoojhgedaaDoor.V
