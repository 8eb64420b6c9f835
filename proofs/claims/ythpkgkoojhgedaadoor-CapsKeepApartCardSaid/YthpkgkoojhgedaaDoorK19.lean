/- Seat 08: maps whose keys are pointers; a capability as it is told. -/
import Derived.Test.YthpkgkoojhgedaaDoorK18
namespace Go.Proofs.YthpkgkoojhgedaaDoor.V
set_option linter.unusedVariables false
set_option linter.unusedSimpArgs false
set_option linter.unusedSectionVars false
set_option linter.unusedSectionVars false
open Go

section
variable {h : Hp} {β : Type} {ev : β → Value}

theorem eqp {x y : Nat} (hx : plainO (h x) = true) (hy : plainO (h y) = true) : eqV h (.one .p) (ptr x) (ptr y) = some (decide (x = y)) := by
  show (if plainO (h x) && plainO (h y) then some (decide _) else none) = _
  rw [hx, hy]
  simp only [Bool.and_self, if_true, Option.some.injEq]
  by_cases hxy : x = y
  · subst hxy; simp
  · rw [decide_eq_false hxy, decide_eq_false (by intro e; cases e; exact hxy rfl)]

theorem find_isP {a : Nat} (ha : plainO (h a) = true) : ∀ {es : List MapEntry} {L : List (Nat × β)}, (∀ p ∈ L, plainO (h p.1) = true) → es.map (fun e => (e.key, e.val)) = L.map (fun p => (ptr p.1, ev p.2)) → find h (.one .p) (ptr a) es = some ((aget L a).map ev)
  | [], [], _, _ => rfl
  | [], _ :: _, _, h => by cases h
  | _ :: _, [], _, h => by cases h
  | e :: es, (k, v) :: L, hp, hm => by
    simp only [List.map_cons, List.cons.injEq, Prod.mk.injEq] at hm
    obtain ⟨⟨h1, h2⟩, h3⟩ := hm
    simp only [find, h1, eqp ha (hp (k, v) (List.mem_cons_self ..)), aget]
    by_cases hc : a = k
    · simp [hc, h2]
    · simp only [hc, decide_false, if_false]; exact find_isP ha (fun p hp2 => hp p (List.mem_cons_of_mem _ hp2)) h3

theorem repl_isP {a : Nat} (ha : plainO (h a) = true) (b : β) : ∀ {es : List MapEntry} {L : List (Nat × β)}, (∀ p ∈ L, plainO (h p.1) = true) → es.map (fun e => (e.key, e.val)) = L.map (fun p => (ptr p.1, ev p.2)) →
    (∃ l, repl (.one .p) h (ptr a) (ev b) es = some (some l) ∧ l.map (fun e => (e.key, e.val)) = (aput L a b).map (fun p => (ptr p.1, ev p.2)) ∧ l.map (·.born) = es.map (·.born)) ∨
    (repl (.one .p) h (ptr a) (ev b) es = some none ∧ aput L a b = L ++ [(a, b)])
  | [], [], _, _ => .inr ⟨rfl, rfl⟩
  | [], _ :: _, _, h => by cases h
  | _ :: _, [], _, h => by cases h
  | e :: es, (k, v) :: L, hp, hm => by
    simp only [List.map_cons, List.cons.injEq, Prod.mk.injEq] at hm
    obtain ⟨⟨h1, h2⟩, h3⟩ := hm
    simp only [repl, h1, eqp ha (hp (k, v) (List.mem_cons_self ..)), aput]
    by_cases hc : a = k
    · subst hc
      simp [show Instr.sameBits 10000 (ptr a) (ptr a) = true by simp [ptr, Instr.sameBits], h3]
    · simp only [hc, decide_false, if_false]
      rcases repl_isP ha b (fun p hp2 => hp p (List.mem_cons_of_mem _ hp2)) h3 with ⟨l, hl, hl2, hl3⟩ | ⟨hl, hl2⟩
      · exact .inl ⟨e :: l, by rw [hl], by simp [hl2, h1, h2], by simp [hl3]⟩
      · exact .inr ⟨by rw [hl], by rw [hl2]; rfl⟩

theorem look1_stepP {r a : Nat} {L : List (Nat × β)} {z : Value} {K : Ent → Prop} (hm : MapIs ptr ev (h r) L) (ha : plainO (h a) = true) (hp : ∀ p ∈ L, plainO (h p.1) = true)
    (hK : K (.v (((aget L a).map ev).getD z))) : optK (pLook (.one .p) z false h (.v (.map (some r))) (.v (ptr a))) K := by
  obtain ⟨es, c, ho, hes, hbl, hbn⟩ := hm
  have h1 : (eqV h (.one .p) (ptr a) (ptr a)).isNone = false := by rw [eqp ha ha]; rfl
  simp only [pLook, ho, mapO, h1, find_isP ha hp hes, Bool.false_eq_true, if_false]
  cases hg : aget L a <;> rw [hg] at hK <;> exact hK

theorem mup_stepP {r a : Nat} {L : List (Nat × β)} {K : Ent → Hp → Prop} (hm : MapIs ptr ev (h r) L) (ha : plainO (h a) = true) (hp : ∀ p ∈ L, plainO (h p.1) = true) (b : β)
    (hK : ∀ o, MapIs ptr ev (some o) (aput L a b) → K undefE (upd h r o)) : mupK (.one .p) h (.v (.map (some r))) (.v (ptr a)) (.v (ev b)) K := by
  obtain ⟨es, c, ho, hes, hbl, hbn⟩ := hm
  unfold mupK
  refine ⟨by rw [eqp ha ha]; rfl, ?_⟩
  simp only [ho]
  rcases repl_isP (h := h) ha b hp hes with ⟨l, hl, hl2, hl3⟩ | ⟨hl, hl2⟩
  · rw [hl]
    refine hK _ ⟨l.toArray, c, rfl, by simpa using hl2, fun e he => ?_, by simpa [hl3] using hbn⟩
    have : e.born ∈ es.toList.map (·.born) := by rw [← hl3]; exact List.mem_map_of_mem (by simpa using he)
    obtain ⟨e', h1, h2⟩ := List.mem_map.1 this
    rw [← h2]; exact hbl e' h1
  · rw [hl]
    refine hK _ ⟨_, _, rfl, by rw [hl2]; simp [hes], fun e he => ?_, ?_⟩
    · simp only [Array.toList_push, List.mem_append, List.mem_singleton] at he
      rcases he with he | rfl
      · have := hbl e he; omega
      · exact Nat.lt_succ_self c
    · simp only [Array.toList_push, List.map_append, List.map_cons, List.map_nil]
      rw [List.nodup_append]
      refine ⟨hbn, by simp, fun x hx y hy e => ?_⟩
      simp only [List.mem_singleton] at hy
      obtain ⟨e', h1, h2⟩ := List.mem_map.1 hx
      have := hbl e' h1
      omega
end

/-- A capability where it lies, as it is told. -/
structure Hd where
  env : Nat
  slot : Nat
  cap : Cp
  deriving DecidableEq
def hdC (x : Hd) : List Value := [iv x.env, iv x.slot, iv x.cap.kind, iv x.cap.obj, iv x.cap.serial, iv x.cap.rights]
theorem hdC_len (x : Hd) : (hdC x).length = 6 := rfl
def hdOf (c : Ce) : Hd := ⟨c.env, c.slot, c.cap⟩
def HsP (s : Value) (l : List Hd) : As := WnP 6 s l.length (l.flatMap hdC)

theorem hd_one (l : List Hd) : (l.flatMap hdC).all one = true := by
  rw [List.all_eq_true]
  intro x hx
  obtain ⟨y, _, hy⟩ := List.mem_flatMap.1 hx
  unfold hdC at hy
  simp only [List.mem_cons, List.not_mem_nil, or_false] at hy
  rcases hy with rfl | rfl | rfl | rfl | rfl | rfl <;> rfl

section
variable {h : Hp} {Q : Value → Hp → Prop} {L : List As} {b : Nat} {S : Bs}

theorem app1h {b1 : Nat} {x : Hd} {s : Value} {l : List Hd} {ty ty1 : TypeId} {K : Ent → Hp → Prop} (hh : Has (Pt b1 (.cells (hdC x).toArray ty1 (0, 0)) :: HsP s l :: L) h) (hb : l.length < 1073741824)
    (hK : ∀ s' h', Has (HsP s' (l ++ [x]) :: L) h' → K (.v s') h') : appK [.int .i64 0, .int .i64 0, .int .i64 0, .int .i64 0, .int .i64 0, .int .i64 0] ty 48 h (.v s) (.v (.slice (some ⟨b1, 0, none⟩) 1 1)) K := by
  have hv : Vw 6 h (.slice (some ⟨b1, 0, none⟩) 1 1) 1 (hdC x) := (pt_wn (e := 6) (n := 1) (cap := 1) (cs := hdC x) rfl (Nat.le_refl _) rfl (hh.pt 0 rfl)).vw
  refine app_hasW (z := [.int .i64 0, .int .i64 0, .int .i64 0, .int .i64 0, .int .i64 0, .int .i64 0]) hh 1 rfl hv rfl (by omega) fun s' h' hh' => hK s' h' ?_
  have h2 := hh'.tail
  show Has (WnP 6 s' (l ++ [x]).length ((l ++ [x]).flatMap hdC) :: L) h'
  rw [List.length_append, List.flatMap_append]
  exact h2

theorem held50 {c : Ce} {s : Value} (hc : h c.a = some (.cells (cellC c s).toArray 84 (0, 0))) (hq : Q (.agg (hdC (hdOf c)).toArray) h) : Ok PR 50 [ptr c.a] h Q := by
  refine e50 rfl (seq_step fun K hK => ?_)
  repeat (first | ((with_reducible refine hK _ _ _ ?_); clear hK) | (with_reducible refine seq_step fun K hK => ?_) | (with_reducible refine block_step ?_) | ((with_reducible refine cond_t ?_ ?_); focus rfl) | ((with_reducible refine cond_f ?_ ?_); focus rfl) | ((with_reducible refine code_id ?_); conv => whnf) | (clear hK; (with_reducible refine hK _ _ _ ?_); clear hK) | (clear hK; clear hK; (with_reducible refine hK _ _ _ ?_); clear hK) | (clear hK; clear hK; clear hK; (with_reducible refine hK _ _ _ ?_); clear hK) | (clear hK; clear hK; clear hK; clear hK; (with_reducible refine hK _ _ _ ?_); clear hK) | (clear hK; clear hK; clear hK; clear hK; clear hK; (with_reducible refine hK _ _ _ ?_); clear hK) | (clear hK; clear hK; clear hK; clear hK; clear hK; clear hK; (with_reducible refine hK _ _ _ ?_); clear hK) | (clear hK; clear hK; clear hK; clear hK; clear hK; clear hK; clear hK; (with_reducible refine hK _ _ _ ?_); clear hK))
  refine opt_ld hc (v := iv c.env) rfl ?_
  conv => whnf
  refine opt_ld hc (v := iv c.slot) rfl ?_
  conv => whnf
  refine opt_ld hc (v := .agg #[iv c.cap.kind, iv c.cap.obj, iv c.cap.serial, iv c.cap.rights]) rfl ?_
  conv => whnf
  repeat (first | ((with_reducible refine hK _ _ _ ?_); clear hK) | (with_reducible refine seq_step fun K hK => ?_) | (with_reducible refine block_step ?_) | ((with_reducible refine cond_t ?_ ?_); focus rfl) | ((with_reducible refine cond_f ?_ ?_); focus rfl) | ((with_reducible refine code_id ?_); conv => whnf) | (clear hK; (with_reducible refine hK _ _ _ ?_); clear hK) | (clear hK; clear hK; (with_reducible refine hK _ _ _ ?_); clear hK) | (clear hK; clear hK; clear hK; (with_reducible refine hK _ _ _ ?_); clear hK) | (clear hK; clear hK; clear hK; clear hK; (with_reducible refine hK _ _ _ ?_); clear hK) | (clear hK; clear hK; clear hK; clear hK; clear hK; (with_reducible refine hK _ _ _ ?_); clear hK) | (clear hK; clear hK; clear hK; clear hK; clear hK; clear hK; (with_reducible refine hK _ _ _ ?_); clear hK) | (clear hK; clear hK; clear hK; clear hK; clear hK; clear hK; clear hK; (with_reducible refine hK _ _ _ ?_); clear hK))
  exact hq
end
end Go.Proofs.YthpkgkoojhgedaaDoor.V
