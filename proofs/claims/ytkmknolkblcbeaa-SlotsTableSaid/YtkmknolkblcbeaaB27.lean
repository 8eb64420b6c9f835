/- One table three times. -/
import Derived.Test.YtkmknolkblcbeaaC11
import Derived.Test.YtkmknolkblcbeaaB22
import Derived.Test.YtkmknolkblcbeaaB26
import Derived.Test.YtkmknolkblcbeaaB17
namespace Go.Proofs.Ytkmknolkblcbeaa.V
set_option linter.unusedVariables false
open Go

structure S3 where
  a : Nat
  b : Nat
  r : Nat

def s3v (s : S3) : List Value := [ptr s.a, ptr s.b, ptr s.r]
def zS : List Value := [.pointer none, .pointer none, .pointer none]
theorem s3v_len (s : S3) : (s3v s).length = zS.length := rfl
theorem s3v_one (s : S3) : (s3v s).all one = true := rfl

def S3P (s : S3) (l : Tb) : As := Has [TabP rowI s.a l, TabP rowC s.b l, RtP s.r l]

theorem S3P.bound {s : S3} {l : Tb} {h : Hp} (hh : S3P s l h) : l.length ≤ 4096 := by
  obtain ⟨g, h1, _⟩ := Has.at hh 0 rfl
  exact TabP.bound h1

section
variable {h : Hp} {Q : Value → Hp → Prop} {l : Tb}

theorem made70S (n : Int) : Sp PR 70 [iv n] (fun _ => True) (X := S3) (fun s => .agg (s3v s).toArray) (fun s => S3P s (List.replicate (min (max n 0) 4096).toNat none)) := by
  intro h _
  have h0 : Has [] h := trivial
  refine e70 rfl ?_
  conv => whnf
  refine h0.make (new56S n) fun p h1 hh1 => ?_
  conv => whnf
  refine hh1.make (new37S n) fun q h2 hh2 => ?_
  conv => whnf
  refine hh2.make (new91S n) fun r h3 hh3 => ?_
  conv => whnf
  refine ⟨⟨p, q, r⟩, rfl, ?_⟩
  exact hh3.sel [2, 1, 0] rfl

theorem whole71 (s : S3) (hh : S3P s l h) (hq : Q (.bool true) h) : Ok PR 71 [.agg (s3v s).toArray] h Q := by
  have tA : TabP rowI s.a l h := Has.get hh 0 rfl fun _ _ => TabP.sub
  have tB : TabP rowC s.b l h := Has.get hh 1 rfl fun _ _ => TabP.sub
  have tR : RtP s.r l h := Has.get hh 2 rfl fun _ _ => RtP.sub
  obtain ⟨dH, dV, hR⟩ := tR
  obtain ⟨ty, hc⟩ := hR.cell
  refine e71 rfl ?_
  conv => whnf
  refine len100Q ⟨dH, dV, hR⟩ ?_
  conv => whnf
  refine opt_ld hc rfl ?_
  conv => whnf
  refine bound63Q tA ?_
  conv => whnf
  rw [beq_self_eq_true (l.length : Int)]
  conv => whnf
  refine bound44Q tB ?_
  conv => whnf
  rw [beq_self_eq_true (l.length : Int)]
  conv => whnf
  refine len61Q tA ?_
  conv => whnf
  rw [beq_self_eq_true (cnt l : Int)]
  conv => whnf
  refine len41Q tB ?_
  conv => whnf
  rw [beq_self_eq_true (cnt l : Int)]
  conv => whnf
  exact hq

theorem same104 (o : Option Int) (hq : Q (.bool true) h) : Ok PR 104 [(o.map iv).getD (iv 0), .bool o.isSome, (o.map ce).getD ze, .bool o.isSome, iv (o.getD 0), .bool o.isSome] h Q := by
  refine e104 rfl ?_
  cases o with
  | none =>
    conv => whnf
    exact hq
  | some a =>
    conv => whnf
    refine ⟨_, _, SubH.refl _, SubB.refl _, ?_⟩
    conv => whnf
    rw [show (a == (some a).getD 0) = true from by simp]
    conv => whnf
    refine cell28 a ?_
    conv => whnf
    refine ⟨⟨SubH.refl _, SubB.refl _⟩, ?_⟩
    conv => whnf
    rw [ce_self a]
    conv => whnf
    exact hq

def opL (kd : Int) (l : Tb) (i v : Int) : Tb := if kd = 1 then (putR l v).2.2 else if kd = 2 then (putAtR l i v).2 else (setR l i v).2

theorem opL_len (kd : Int) (l : Tb) (i v : Int) : (opL kd l i v).length = l.length := by
  unfold opL; split
  · exact putR_len l v
  · split
    · exact putAtR_len l i v
    · exact setR_len l i v

theorem lays72 (s : S3) (kd t i v : Int) : Sp PR 72 [.agg (s3v s).toArray, .agg #[iv kd, iv t, iv i, iv v]] (S3P s l) (X := Unit) (fun _ => .bool true) (fun _ => S3P s (opL kd l i v)) := by
  intro h hh
  refine e72 rfl ?_
  conv => whnf
  refine cell28 v ?_
  conv => whnf
  refine cond_beq (fun k1 => ?_) (fun k1 => ?_)
  · conv => whnf
    refine Has.call hh 0 rfl (put57S v) fun _ h1 hh1 => ?_
    conv => whnf
    refine hh1.call 1 rfl (put40S v) fun _ h2 hh2 => ?_
    conv => whnf
    refine hh2.call 2 rfl (put92S v) fun _ h3 hh3 => ?_
    conv => whnf
    rw [beq_self_eq_true (putR l v).1]
    conv => whnf
    rw [beq_self_eq_true (putR l v).1]
    conv => whnf
    rw [beq_self_eq_true (putR l v).2.1]
    conv => whnf
    rw [beq_self_eq_true (putR l v).2.1]
    conv => whnf
    refine ⟨(), rfl, ?_⟩
    unfold S3P opL
    rw [if_pos k1]
    exact hh3
  · conv => whnf
    refine cond_beq (fun k2 => ?_) (fun k2 => ?_)
    · conv => whnf
      refine Has.call hh 0 rfl (putat67S i v) fun _ h1 hh1 => ?_
      conv => whnf
      refine hh1.call 1 rfl (putat90S i v) fun _ h2 hh2 => ?_
      conv => whnf
      refine hh2.call 2 rfl (putat93S i v) fun _ h3 hh3 => ?_
      conv => whnf
      rw [beq_self_eq_true (putAtR l i v).1]
      conv => whnf
      rw [beq_self_eq_true (putAtR l i v).1]
      conv => whnf
      refine ⟨(), rfl, ?_⟩
      unfold S3P opL
      rw [if_neg k1, if_pos k2]
      exact hh3
    · conv => whnf
      refine Has.call hh 0 rfl (set64S i v) fun _ h1 hh1 => ?_
      conv => whnf
      refine hh1.call 1 rfl (set103S i v) fun _ h2 hh2 => ?_
      conv => whnf
      refine hh2.call 2 rfl (set98S i v) fun _ h3 hh3 => ?_
      conv => whnf
      rw [beq_self_eq_true (setR l i v).1]
      conv => whnf
      rw [beq_self_eq_true (setR l i v).1]
      conv => whnf
      refine ⟨(), rfl, ?_⟩
      unfold S3P opL
      rw [if_neg k1, if_neg k2]
      exact hh3

def askL (kd : Int) (l : Tb) (i : Int) : Tb := if kd = 3 then l else if kd = 5 then (dropR l i).2 else if kd = 6 then l else if kd = 8 then l else clearR l

theorem askL_len (kd : Int) (l : Tb) (i : Int) : (askL kd l i).length = l.length := by
  unfold askL; repeat' split
  all_goals first | rfl | exact dropR_len l i | exact clearR_len l

theorem asks73 (s : S3) (kd t i v : Int) : Sp PR 73 [.agg (s3v s).toArray, .agg #[iv kd, iv t, iv i, iv v]] (S3P s l) (X := Unit) (fun _ => .bool true) (fun _ => S3P s (askL kd l i)) := by
  intro h hh
  have tA : TabP rowI s.a l h := Has.get hh 0 rfl fun _ _ => TabP.sub
  have tB : TabP rowC s.b l h := Has.get hh 1 rfl fun _ _ => TabP.sub
  have tR : RtP s.r l h := Has.get hh 2 rfl fun _ _ => RtP.sub
  refine e73 rfl ?_
  conv => whnf
  refine cond_beq (fun k1 => ?_) (fun k1 => ?_)
  · have hf : askL kd l i = l := by unfold askL; rw [if_pos k1]
    rw [hf]
    conv => whnf
    refine get60Q tA i ?_
    conv => whnf
    refine get89Q tB i ?_
    generalize ho : got l i = o
    cases o with
    | none =>
      conv => whnf
      refine get97Q tR i ?_
      rw [ho]
      conv => whnf
      refine same104 none ?_
      conv => whnf
      exact ⟨(), rfl, hh⟩
    | some x =>
      conv => whnf
      refine get97Q tR i ?_
      rw [ho]
      conv => whnf
      refine same104 (some x) ?_
      conv => whnf
      exact ⟨(), rfl, hh⟩
  · conv => whnf
    refine cond_beq (fun k2 => ?_) (fun k2 => ?_)
    · have hf : askL kd l i = (dropR l i).2 := by unfold askL; rw [if_neg k1, if_pos k2]
      rw [hf]
      conv => whnf
      refine Has.call hh 0 rfl (drop68S i) fun _ h1 hh1 => ?_
      conv => whnf
      refine hh1.call 1 rfl (drop42S i) fun _ h2 hh2 => ?_
      generalize ho : (dropR l i).1 = o
      cases o with
      | none =>
        conv => whnf
        refine hh2.call 2 rfl (drop94S i) fun _ h3 hh3 => ?_
        rw [ho]
        conv => whnf
        refine same104 none ?_
        conv => whnf
        exact ⟨(), rfl, hh3⟩
      | some x =>
        conv => whnf
        refine hh2.call 2 rfl (drop94S i) fun _ h3 hh3 => ?_
        rw [ho]
        conv => whnf
        refine same104 (some x) ?_
        conv => whnf
        exact ⟨(), rfl, hh3⟩
    · conv => whnf
      refine cond_beq (fun k3 => ?_) (fun k3 => ?_)
      · have hf : askL kd l i = l := by unfold askL; rw [if_neg k1, if_neg k2, if_pos k3]
        rw [hf]
        conv => whnf
        refine next96Q tR i ?_
        conv => whnf
        refine next59Q tA i ?_
        conv => whnf
        rw [beq_self_eq_true (nextR l i)]
        conv => whnf
        refine next43Q tB i ?_
        conv => whnf
        rw [beq_self_eq_true (nextR l i)]
        conv => whnf
        exact ⟨(), rfl, hh⟩
      · conv => whnf
        refine cond_beq (fun k4 => ?_) (fun k4 => ?_)
        · have hf : askL kd l i = l := by unfold askL; rw [if_neg k1, if_neg k2, if_neg k3, if_pos k4]
          rw [hf]
          conv => whnf
          refine find105Q tR v ?_
          conv => whnf
          refine ⟨fun _ => none, _, (fun _ _ h => by cases h), SubB.refl _, ?_⟩
          conv => whnf
          refine find69Q tA v fun h2 hs2 => ?_
          conv => whnf
          refine ⟨fun _ => none, _, (fun _ _ h => by cases h), SubB.refl _, ?_⟩
          conv => whnf
          rw [beq_self_eq_true (findR l v)]
          conv => whnf
          refine cell28 v ?_
          conv => whnf
          refine ⟨⟨(fun _ _ h => by cases h), SubB.refl _⟩, ?_⟩
          conv => whnf
          refine find106Q (tB.sub hs2) v fun h3 hs3 => ?_
          conv => whnf
          rw [beq_self_eq_true (findR l v)]
          conv => whnf
          exact ⟨(), rfl, Has.sub hh (hs2.tr hs3)⟩
        · have hf : askL kd l i = clearR l := by unfold askL; rw [if_neg k1, if_neg k2, if_neg k3, if_neg k4]
          rw [hf]
          conv => whnf
          refine Has.call hh 0 rfl clear65S fun _ h1 hh1 => ?_
          conv => whnf
          refine hh1.call 1 rfl clear48S fun _ h2 hh2 => ?_
          conv => whnf
          refine hh2.call 2 rfl clear99S fun _ h3 hh3 => ?_
          conv => whnf
          exact ⟨(), rfl, hh3⟩

end
end Go.Proofs.Ytkmknolkblcbeaa.V
