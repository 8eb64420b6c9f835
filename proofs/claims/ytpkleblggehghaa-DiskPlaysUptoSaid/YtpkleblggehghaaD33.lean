/- Seat 04: both disks step by step (plain). -/
import Derived.Test.YtpkleblggehghaaD30
namespace Go.Proofs.Ytpkleblggehghaa.V
set_option linter.unusedVariables false
set_option linter.unusedSimpArgs false
set_option linter.unusedSectionVars false
set_option linter.unusedSectionVars false
open Go

def toR (x : Int × Sec) : Rc := ⟨x.1, 0, x.2.val⟩

structure Rel (d : Dk) (r : Rd) : Prop where
  med : ∀ n : Nat, n < 1024 → (d.med.getD n zsec).val = plays n zeroB r.landed
  cache : d.cache.map toR = r.waiting
  down : d.down = r.down
  acts : d.acts = r.count
  armed : (d.armed = true ∧ d.left = r.armed) ∨ (d.armed = false ∧ r.armed = -1)
  r8l : ∀ x ∈ r.landed, R8 x.dat
  r8w : ∀ x ∈ r.waiting, R8 x.dat

theorem plays_zero (n : Int) (b : List Int) : plays n b [] = b := rfl

theorem rel0 : Rel dk0 rd0 := ⟨fun n hn => by
  show ((List.replicate 1024 zsec).getD n zsec).val = zeroB
  rw [List.getD_eq_getElem?_getD, List.getElem?_replicate, if_pos hn]; rfl, rfl, rfl, rfl, .inr ⟨rfl, rfl⟩, (fun x hx => by cases hx), (fun x hx => by cases hx)⟩

section
variable {d : Dk} {r : Rd}

theorem Rel.actR (hd : Dok d) (h : Rel d r) : d.act.1 = r.act.1 ∧ Rel d.act.2 r.act.2 := by
  unfold Dk.act Rd.act
  have hl := hd.left
  rw [← h.down]
  by_cases h1 : d.down = true
  · rw [if_pos h1, if_pos h1]; exact ⟨rfl, h⟩
  rw [if_neg h1, if_neg h1]
  rcases h.armed with ⟨a1, a2⟩ | ⟨a1, a2⟩
  · rw [if_pos a1, ← a2]
    by_cases h0 : d.left = 0
    · rw [if_pos h0, if_pos h0]
      exact ⟨rfl, h.med, h.cache, rfl, h.acts, .inl ⟨a1, rfl⟩, h.r8l, h.r8w⟩
    · rw [if_neg h0, if_neg h0, if_pos (by omega)]
      exact ⟨rfl, h.med, h.cache, rfl, by show IntKind.i64.wrap (d.acts + 1) = IntKind.i64.wrap (r.count + 1); rw [h.acts], .inl ⟨a1, rfl⟩, h.r8l, h.r8w⟩
  · rw [if_neg (by rw [a1]; decide), if_neg (by omega), if_neg (by omega)]
    exact ⟨rfl, h.med, h.cache, rfl, by show IntKind.i64.wrap (d.acts + 1) = IntKind.i64.wrap (r.count + 1); rw [h.acts], .inr ⟨a1, a2⟩, h.r8l, h.r8w⟩

theorem Rel.armR (h : Rel d r) (n : Int) : (d.arm n).1 = (r.arm n).1 ∧ Rel (d.arm n).2 (r.arm n).2 := by
  unfold Dk.arm Rd.arm
  rw [← h.down]
  by_cases h1 : n < 0
  · rw [if_pos h1, if_pos h1]; exact ⟨rfl, h⟩
  rw [if_neg h1, if_neg h1]
  by_cases h2 : d.down = true
  · rw [if_pos h2, if_pos h2]; exact ⟨rfl, h⟩
  rw [if_neg h2, if_neg h2]
  exact ⟨rfl, h.med, h.cache, rfl, h.acts, .inl ⟨rfl, rfl⟩, h.r8l, h.r8w⟩

theorem Rel.writeR (hd : Dok d) (h : Rel d r) (n : Int) {l : List Int} (hl8 : R8 l) : (d.writeL n l).1 = (r.write n l).1 ∧ Rel (d.writeL n l).2 (r.write n l).2 := by
  unfold Dk.writeL Rd.write
  by_cases hn : 0 ≤ n ∧ n < 1024
  · rw [if_pos hn, if_pos hn]
    by_cases hl : l.length = 128
    · rw [dif_pos hl, if_pos hl]
      unfold Dk.write
      have ha := h.actR hd
      rw [← ha.1]
      have h2 := ha.2
      cases hb : d.act.1 with
      | true =>
        rw [if_pos rfl, if_pos rfl]
        refine ⟨rfl, h2.med, ?_, h2.down, h2.acts, h2.armed, h2.r8l, fun x hx => ?_⟩
        · show (d.act.2.cache ++ [(n, _)]).map toR = r.act.2.waiting ++ _
          rw [List.map_append, h2.cache]; rfl
        · rcases List.mem_append.1 hx with hx | hx
          · exact h2.r8w x hx
          · obtain rfl := List.mem_singleton.1 hx
            exact hl8
      | false =>
        rw [if_neg (by decide), if_neg (by decide)]
        exact ⟨rfl, h2⟩
    · rw [dif_neg hl, if_neg hl]; exact ⟨rfl, h⟩
  · rw [if_neg hn, if_neg hn]; exact ⟨rfl, h⟩

theorem stp_toR {n : Int} {b : List Int} {x : Int × Sec} (hb : b.length = 128) : stp n b (toR x) = if x.1 = n then x.2.val else b := by
  unfold stp toR layB
  have := x.2.len
  dsimp only
  split
  · rw [show (0 : Int).toNat = 0 from rfl, List.take_zero, List.nil_append, Nat.zero_add, this, List.drop_of_length_le (by omega), List.append_nil]
  · rfl

theorem plays_len128 {n : Int} {l : List (Int × Sec)} {b : List Int} (hb : b.length = 128) : (plays n b (l.map toR)).length = 128 := by
  induction l generalizing b with
  | nil => exact hb
  | cons x l ih =>
    show (plays n (stp n b (toR x)) (l.map toR)).length = 128
    refine ih ?_
    rw [stp_toR hb]
    split
    · exact x.2.len
    · exact hb

theorem keptR_map {keep : Nat → Bool} {l : List (Int × Sec)} {m : List Sec} {n : Nat} (hn : n < m.length) (hl : ∀ x ∈ l, 0 ≤ x.1) : ∀ k, ((drM m l keep k).getD n zsec).val = plays n (m.getD n zsec).val (keptR keep (l.map toR) k) ∧ (plays n (m.getD n zsec).val (keptR keep (l.map toR) k)).length = 128
  | 0 => ⟨rfl, Sec.len _⟩
  | k + 1 => by
    obtain ⟨ih, il⟩ := keptR_map (keep := keep) (l := l) (m := m) (n := n) hn hl k
    simp only [drM, keptR, List.getElem?_map]
    cases hx : l[k]? with
    | none => exact ⟨ih, il⟩
    | some x =>
      simp only [Option.map_some]
      have h0 := hl x (List.mem_of_getElem? hx)
      split
      · rw [plays_app]
        have e : plays n (plays n (m.getD n zsec).val (keptR keep (l.map toR) k)) [toR x] = if x.1 = (n : Int) then x.2.val else plays n (m.getD n zsec).val (keptR keep (l.map toR) k) := stp_toR il
        rw [e]
        have hlen : (drM m l keep k).length = m.length := drM_len k
        by_cases hxn : x.1 = (n : Int)
        · rw [if_pos hxn]
          refine ⟨?_, x.2.len⟩
          rw [show x.1.toNat = n by omega, List.getD_eq_getElem?_getD, List.getElem?_set_self (by omega)]
          rfl
        · rw [if_neg hxn]
          refine ⟨?_, il⟩
          rw [List.getD_eq_getElem?_getD, List.getElem?_set_ne (by omega), ← List.getD_eq_getElem?_getD]
          exact ih
      · exact ⟨ih, il⟩

theorem keptR_all {l : List Rc} : ∀ k, k ≤ l.length → keptR (fun _ => true) l k = l.take k
  | 0, _ => by simp [keptR]
  | k + 1, hk => by
    simp only [keptR]
    have : l[k]? = some l[k] := List.getElem?_eq_getElem (by omega)
    rw [this]
    simp only [if_true]
    rw [keptR_all k (by omega), List.take_succ_eq_append_getElem (by omega)]

theorem Rel.drain (hd : Dok d) (h : Rel d r) (keep : Nat → Bool) : Rel (d.drain keep) { r with landed := r.landed ++ keptR keep r.waiting r.waiting.length, waiting := [] } := by
  refine ⟨fun n hn => ?_, rfl, h.down, h.acts, h.armed, fun x hx => ?_, fun x hx => by cases hx⟩
  · have h1 := (keptR_map (keep := keep) (l := d.cache) (m := d.med) (n := n) (by rw [hd.med]; exact hn) (fun x hx => (hd.at_ x hx).1) d.cache.length).1
    show ((drM d.med d.cache keep d.cache.length).getD n zsec).val = plays n zeroB (r.landed ++ keptR keep r.waiting r.waiting.length)
    rw [h1, plays_app, h.med n hn, h.cache, ← h.cache, List.length_map]
  · rcases List.mem_append.1 hx with hx | hx
    · exact h.r8l x hx
    · exact h.r8w x (keptR_mem hx)

theorem Dok.act (hd : Dok d) : Dok d.act.2 ∧ d.act.2.cache = d.cache := by
  refine ⟨?_, act_cache d⟩
  unfold Dk.act
  have := hd.left
  have := hd.left2
  have hw := fun n => wrap_lim n
  repeat' split
  · exact hd
  · exact ⟨hd.med, hd.at_, hd.left, hd.left2, hd.acts⟩
  · exact ⟨hd.med, hd.at_, by show 0 ≤ d.left - 1; omega, by show d.left - 1 < 2 ^ 63; omega, hw _⟩
  · exact ⟨hd.med, hd.at_, hd.left, hd.left2, hw _⟩

theorem Rel.flushR (hd : Dok d) (h : Rel d r) : d.flush.1 = r.flush.1 ∧ Rel d.flush.2 r.flush.2 := by
  unfold Dk.flush Rd.flush
  have ha := h.actR hd
  rw [← ha.1]
  cases hb : d.act.1 with
  | true =>
    rw [if_pos rfl, if_pos rfl]
    refine ⟨rfl, ?_⟩
    have := Rel.drain (Dok.act hd).1 ha.2 (fun _ => true)
    rw [keptR_all _ (Nat.le_refl _), List.take_length] at this
    exact this
  | false =>
    rw [if_neg (by decide), if_neg (by decide)]
    exact ⟨rfl, ha.2⟩

theorem Rel.crashR (hd : Dok d) (h : Rel d r) (ks : List Bool) : Rel (d.crash (kept ks)) (r.crash ks) := by
  have := Rel.drain hd h (kept ks)
  exact ⟨this.med, this.cache, rfl, this.acts, .inr ⟨rfl, rfl⟩, this.r8l, this.r8w⟩

theorem Rel.len (h : Rel d r) : d.cache.length = r.waiting.length := by rw [← h.cache, List.length_map]

theorem Rel.editR (hd : Dok d) (h : Rel d r) (n a : Int) {l : List Int} (hl8 : R8 l) : (d.edit n a l).1 = (r.edit n a l).1 ∧ Rel (d.edit n a l).2 (r.edit n a l).2 := by
  unfold Dk.edit Rd.edit
  by_cases hn : 0 ≤ n ∧ n < 1024
  · rw [if_pos hn, if_pos hn]
    by_cases hc : a < 0 ∨ 128 - (l.length : Int) < a
    · rw [if_pos hc, if_pos (by omega)]; exact ⟨rfl, h⟩
    · rw [if_neg hc, if_neg (by omega)]
      refine ⟨rfl, fun m hm => ?_, h.cache, h.down, h.acts, h.armed, fun x hx => ?_, h.r8w⟩
      · show ((d.med.set n.toNat _).getD m zsec).val = plays m zeroB (r.landed ++ [⟨n, a, l⟩])
        rw [plays_app]
        show _ = stp m (plays m zeroB r.landed) ⟨n, a, l⟩
        unfold stp
        by_cases hmn : n = (m : Int)
        · rw [if_pos hmn, show n.toNat = m by omega, List.getD_eq_getElem?_getD, List.getElem?_set_self (by rw [hd.med]; exact hm), Option.getD_some, ← h.med m hm]
          unfold Sec.lay
          rw [dif_pos (by omega)]
          rfl
        · rw [if_neg hmn, List.getD_eq_getElem?_getD, List.getElem?_set_ne (by omega), ← List.getD_eq_getElem?_getD]
          exact h.med m hm
      · rcases List.mem_append.1 hx with hx | hx
        · exact h.r8l x hx
        · obtain rfl := List.mem_singleton.1 hx
          exact hl8
  · rw [if_neg hn, if_neg hn]; exact ⟨rfl, h⟩

/-- What a sector shows. -/
theorem plays_cache {n : Int} {b : List Int} (hb : b.length = 128) : ∀ (k : Nat) (l : List (Int × Sec)), l.length = k → plays n b (l.map toR) = match cacheAt l n with
    | some x => x.val
    | none => b
  | 0, l, hk => by
    obtain rfl := List.eq_nil_of_length_eq_zero hk
    rfl
  | k + 1, l, hk => by
    have hne : l ≠ [] := fun e => by rw [e] at hk; cases hk
    have e := List.dropLast_concat_getLast hne
    generalize l.dropLast = m at e
    generalize l.getLast hne = x at e
    subst e
    have ih := plays_cache (n := n) hb k m (by rw [List.length_append] at hk; simpa using hk)
    rw [List.map_append, plays_app, cacheAt_add]
    have hl := plays_len128 (n := n) (l := m) hb
    have : plays n (plays n b (m.map toR)) ([x].map toR) = if x.1 = n then x.2.val else plays n b (m.map toR) := stp_toR hl
    rw [this]
    split
    · rfl
    · exact ih

theorem Rel.lookR (hd : Dok d) (h : Rel d r) (n : Nat) (hn : n < 1024) : ∃ x, d.look n = some x ∧ x.val = plays n (plays n zeroB r.landed) r.waiting := by
  have hg : d.med[n]? = some (d.med.getD n zsec) := by
    have := List.getElem?_eq_getElem (l := d.med) (i := n) (by rw [hd.med]; exact hn)
    rw [List.getD_eq_getElem?_getD, this]; rfl
  have hz : (plays n zeroB r.landed).length = 128 := by rw [← h.med n hn]; exact Sec.len _
  have hp := plays_cache (n := n) (b := plays n zeroB r.landed) hz _ d.cache rfl
  rw [h.cache] at hp
  unfold Dk.look
  cases hc : cacheAt d.cache n with
  | some x => rw [hc] at hp; exact ⟨x, rfl, hp.symm⟩
  | none => rw [hc] at hp; exact ⟨_, hg, by rw [h.med n hn]; exact hp.symm⟩

end
end Go.Proofs.Ytpkleblggehghaa.V

/- Seat 04: both disks' bytes (plain). -/
namespace Go.Proofs.Ytpkleblggehghaa.V
set_option linter.unusedVariables false
set_option linter.unusedSectionVars false
open Go

theorem layB_get {b : List Int} {a : Nat} {d : List Int} (h : a + d.length ≤ b.length) (j : Nat) : (layB b a d)[j]? = if j < a then b[j]? else if j < a + d.length then d[j - a]? else b[j]? := by
  unfold layB
  have h1 : (b.take a).length = a := by rw [List.length_take]; omega
  by_cases c1 : j < a
  · rw [if_pos c1, List.append_assoc, List.getElem?_append_left (by omega), List.getElem?_take, if_pos c1]
  rw [if_neg c1]
  by_cases c2 : j < a + d.length
  · rw [if_pos c2, List.getElem?_append_left (by rw [List.length_append]; omega), List.getElem?_append_right (by omega), h1]
  · rw [if_neg c2, List.getElem?_append_right (by rw [List.length_append]; omega), List.length_append, h1, List.getElem?_drop]
    congr 1; omega

def chA (b : List Int) (i : Nat) : List Int := (b.drop (i * 128)).take 128

theorem chA_get (b : List Int) (i t : Nat) : (chA b i)[t]? = if t < 128 then b[i * 128 + t]? else none := by
  unfold chA
  rw [List.getElem?_take]
  split
  · rw [List.getElem?_drop]
  · rfl

theorem chA_len {N : Nat} (hN : N = 131072) {b : List Int} (hb : b.length = N) {i : Nat} (hi : i < 1024) : (chA b i).length = 128 := by
  unfold chA; rw [List.length_take, List.length_drop]; omega

theorem chA_S {N : Nat} (hN : N = 131072) {b : List Int} (hb : b.length = N) {x : Rc} (hx : x.ok) {i : Nat} (hi : i < 1024) : chA (flatS b x) i = stp i (chA b i) x := by
  obtain ⟨h1, h2, h3, h4⟩ := hx
  apply List.ext_getElem?
  intro t
  unfold flatS stp
  rw [chA_get]
  by_cases hs : x.sec = (i : Int)
  · rw [if_pos hs]
    rw [layB_get (b := chA b i) (by rw [chA_len hN hb hi]; omega), chA_get]
    by_cases ht : t < 128
    · rw [if_pos ht, if_pos ht, layB_get (by omega)]
      by_cases c1 : t < x.at_.toNat
      · rw [if_pos c1, if_pos (by omega)]
      rw [if_neg c1, if_neg (by omega)]
      by_cases c2 : t < x.at_.toNat + x.dat.length
      · rw [if_pos c2, if_pos (by omega)]
        congr 1; omega
      · rw [if_neg c2, if_neg (by omega)]
    · rw [if_neg ht, if_neg ht, if_neg (by omega), if_neg (by omega)]
  · rw [if_neg hs, chA_get]
    by_cases ht : t < 128
    · rw [if_pos ht, if_pos ht, layB_get (by omega)]
      by_cases c1 : i * 128 + t < x.sec.toNat * 128 + x.at_.toNat
      · rw [if_pos c1]
      · rw [if_neg c1, if_neg (by omega)]
    · rw [if_neg ht, if_neg ht]

theorem chA_P {N : Nat} (hN : N = 131072) {i : Nat} (hi : i < 1024) : ∀ (l : List Rc) (b : List Int), (∀ x ∈ l, x.ok) → b.length = N → chA (flatP b l) i = plays i (chA b i) l
  | [], b, _, _ => rfl
  | x :: l, b, h, hb => by
    have h0 := h x (List.mem_cons_self ..)
    show chA (flatP (flatS b x) l) i = plays i (stp i (chA b i) x) l
    rw [chA_P hN hi l _ (fun y hy => h y (List.mem_cons_of_mem _ hy)) (flatS_len hN h0 hb), chA_S hN hb h0 hi]

theorem chA_ext {N : Nat} (hN : N = 131072) {a b : List Int} (ha : a.length = N) (hb : b.length = N) (h : ∀ i, i < 1024 → chA a i = chA b i) : a = b := by
  apply List.ext_getElem?
  intro j
  by_cases hj : j < N
  · have h1 := congrArg (fun x : List Int => x[j % 128]?) (h (j / 128) (by omega))
    simp only [chA_get] at h1
    have h2 : j % 128 < 128 := by omega
    rw [if_pos h2, if_pos h2, show j / 128 * 128 + j % 128 = j by omega] at h1
    exact h1
  · rw [List.getElem?_eq_none (by omega), List.getElem?_eq_none (by omega)]

theorem medR {N : Nat} (hN : N = 131072) {d : Dk} {r : Rd} (hd : d.med.length = 1024) (hr : Rok r) (h : Rel d r) : medB d.med = flatP (List.replicate N 0) r.landed := by
  refine chA_ext hN (by rw [medB_len, hd, hN]) (flatP_len hN hr.l (List.length_replicate ..)) fun i hi => ?_
  have hg : d.med[i]? = some (d.med.getD i zsec) := by
    have := List.getElem?_eq_getElem (l := d.med) (i := i) (by rw [hd]; exact hi)
    rw [List.getD_eq_getElem?_getD, this]; rfl
  rw [chA_P hN hi _ _ hr.l (List.length_replicate ..)]
  have e1 : chA (medB d.med) i = (d.med.getD i zsec).val := medB_get _ _ hg
  have e2 : chA (List.replicate N (0 : Int)) i = zeroB := by
    unfold chA zeroB
    rw [List.drop_replicate, List.take_replicate]
    congr 1; omega
  rw [e1, e2, h.med i hi]

theorem R8.layB {b d : List Int} {a : Nat} (hb : R8 b) (hd : R8 d) : R8 (layB b a d) := by
  intro y hy
  unfold V.layB at hy
  rcases List.mem_append.1 hy with hy | hy
  · rcases List.mem_append.1 hy with hy | hy
    · exact hb y (List.mem_of_mem_take hy)
    · exact hd y hy
  · exact hb y (List.mem_of_mem_drop hy)

theorem R8.flatP : ∀ {l : List Rc} {b : List Int}, (∀ x ∈ l, R8 x.dat) → R8 b → R8 (flatP b l)
  | [], b, _, hb => hb
  | x :: l, b, h, hb => R8.flatP (l := l) (fun y hy => h y (List.mem_cons_of_mem _ hy)) (R8.layB hb (h x (List.mem_cons_self ..)))

theorem r8_zero (n : Nat) : R8 (List.replicate n 0) := fun y hy => by rw [List.eq_of_mem_replicate hy]; decide

theorem ofL_plays {l : List Int} (n : Nat) : ∀ k, plays n zeroB (ofL l k) = if n < k then (chunk l n).val else zeroB
  | 0 => rfl
  | k + 1 => by
    have ih := ofL_plays (l := l) n k
    have e : plays n zeroB (ofL l (k + 1)) = if n = k then (chunk l n).val else plays n zeroB (ofL l k) := by
      simp only [ofL]
      by_cases hz : (chunk l k).val = zeroB
      · rw [if_pos hz]
        by_cases hn : n = k
        · rw [if_pos hn, ih, if_neg (by omega), hn, hz]
        · rw [if_neg hn]
      · rw [if_neg hz, plays_app]
        have hl : (plays n zeroB (ofL l k)).length = 128 := by
          rw [ih]
          split
          · exact Sec.len _
          · simp [zeroB]
        have : plays n (plays n zeroB (ofL l k)) [⟨k, 0, (chunk l k).val⟩] = if (k : Int) = n then (chunk l k).val else plays n zeroB (ofL l k) := stp_toR (x := (k, chunk l k)) hl
        rw [this]
        by_cases hn : n = k
        · rw [if_pos hn, if_pos (by omega), hn]
        · rw [if_neg hn, if_neg (by omega)]
    rw [e, ih]
    by_cases hn : n = k
    · rw [if_pos hn, if_pos (by omega)]
    · rw [if_neg hn]
      by_cases h2 : n < k
      · rw [if_pos h2, if_pos (by omega)]
      · rw [if_neg h2, if_neg (by omega)]

theorem chunk_r8 {l : List Int} (h : R8 l) (k : Nat) : R8 (chunk l k).val := by
  unfold chunk
  split
  · exact fun y hy => h y (List.mem_of_mem_drop (List.mem_of_mem_take hy))
  · exact r8_zero _

theorem ofL_r8 {l : List Int} (h : R8 l) : ∀ k, ∀ x ∈ ofL l k, R8 x.dat
  | 0, x, hx => by cases hx
  | k + 1, x, hx => by
    simp only [ofL] at hx
    split at hx
    · exact ofL_r8 h k x hx
    · rcases List.mem_append.1 hx with hx | hx
      · exact ofL_r8 h k x hx
      · obtain rfl := List.mem_singleton.1 hx
        exact chunk_r8 h k

theorem relOfK {l : List Int} (h : R8 l) (K : Nat) (hK : K = 1024) : Rel (ofD l K) (ofR l K) := by
  refine ⟨fun n hn => ?_, rfl, rfl, rfl, .inr ⟨rfl, rfl⟩, ofL_r8 h K, fun x hx => by cases hx⟩
  have eM : (ofD l K).med = ofM l K := by simp only [ofD]
  have eL : (ofR l K).landed = ofL l K := by simp only [ofR]
  rw [eM, eL]
  have e1 := ofL_plays (l := l) n K
  rw [if_pos (by omega)] at e1
  have e2 := ofM_get l K hn
  rw [if_pos (by omega)] at e2
  rw [e1, List.getD_eq_getElem?_getD]
  rw [e2]
  rfl

theorem relOf {l : List Int} (h : R8 l) : Rel (ofD l 1024) (ofR l 1024) := relOfK h 1024 rfl

end Go.Proofs.Ytpkleblggehghaa.V
