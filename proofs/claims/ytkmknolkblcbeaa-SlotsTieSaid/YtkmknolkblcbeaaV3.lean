/- A small language of resolved operations, and what each does to a frame and a heap. -/
import Derived.Test.YtkmknolkblcbeaaV2
namespace Go.Proofs.Ytkmknolkblcbeaa.V
set_option linter.unusedSectionVars false
set_option linter.unusedVariables false
set_option linter.unusedSimpArgs false
open Go

/-- What a temporary is known to hold: a value, or the address of a place in a local box that nobody else sees. -/
inductive Ent where
  | v (x : Value)
  | l (r o : Nat)

inductive X where
  | t (n : Nat)
  | c (v : Value)

abbrev Env := List (Nat × Ent)
abbrev Bx := List (Nat × List Value)

def look : Env → Nat → Option Ent
  | [], _ => none
  | (k, e) :: r, t => if k = t then some e else look r t

def lookB : Bx → Nat → Option (List Value)
  | [], _ => none
  | (k, e) :: r, t => if k = t then some e else lookB r t

def ox (ρ : Env) : X → Option Ent
  | .t n => look ρ n
  | .c v => some (.v v)

def oxs (ρ : Env) : List X → Option (List Ent)
  | [] => some []
  | x :: xs => match ox ρ x with
    | none => none
    | some e => match oxs ρ xs with
      | none => none
      | some es => some (e :: es)

/-- Everything that is known in the first is known in the second. -/
def subE : Env → Env → Prop
  | [], _ => True
  | (t, e) :: r, ρ => look ρ t = some e ∧ subE r ρ
def subB : Bx → Bx → Prop
  | [], _ => True
  | (t, e) :: r, ρ => lookB ρ t = some e ∧ subB r ρ

def noLoc (d : Nat) : Env → Bool
  | [] => true
  | (_, .l r _) :: ρ => if r = d then false else noLoc d ρ
  | (_, .v _) :: ρ => noLoc d ρ

inductive EqS where
  | b | i | s | p | sl | mp | fn
  deriving DecidableEq

inductive EqT where
  | one (e : EqS)
  | ag (l : List (Nat × EqS))

/-- Operations that only look. -/
inductive Pr where
  | mv | nilc | pick
  | fa (off : Nat) | iaS (esz : Nat) | iaA (len esz : Nat)
  | ld (sz : Nat) (ag : Bool) | fld (off sz : Nat) (ag : Bool) | ixA (len sz : Nat) (ag : Bool) | ixS
  | ar (op : BinOp) | cm (op : BinOp) | bt (op : BinOp) | dv (op : BinOp) | sh (op : BinOp) | sop (op : BinOp) | eq (neg : Bool) (t : EqT)
  | un (op : UnOp) | cv (k : IntKind) | ext (i : Nat) | lenS | lenT | lenM | cap | min2 | max2 | min3 | max3
  | slS (esz : Nat) (lo hi mx : Bool) | slA (len esz : Nat) (lo hi : Bool) | slT (lo hi : Bool)
  | look (k : EqT) (z : Value) (ok : Bool)
  | bld (z : List Value) (pl : List (Nat × Nat)) | mkf (fn : Fn) (n : Nat) | mki (t : TypeId) | b2s

/-- Operations that do something. -/
inductive Ef where
  | pr (p : Pr)
  | st (sz : Nat)
  | al (z : List Value) | bx
  | alh (z : List Value) (ty : TypeId) | bxh (ty : TypeId)
  | mks (z : List Value) (ty : TypeId) (bytes : Nat) | bsl (z : List Value) (ty : TypeId) (len esz : Nat) (pl : List Nat) | mkm
  | call (k : FuncId) | callv
  | app (z : List Value) (ty : TypeId) (bytes : Nat)
  | rng | nxt | ent | mkmr
  | mup (k : EqT) | mdel (k : EqT) | clrS (z : List Value) | clrM | cpy (esz : Nat)

structure I where
  g : Option (Nat × Bool)
  d : Option Nat
  o : Ef
  xs : List X

/-! ### The looks -/

def pNil : Ent → Option Ent
  | .v (.pointer (some a)) => some (.v (.pointer (some a)))
  | .v (.func (.func f) a b) => some (.v (.func (.func f) a b))
  | .v (.func (.yield f) a b) => some (.v (.func (.yield f) a b))
  | .v (.func (.methodOf t n) a b) => some (.v (.func (.methodOf t n) a b))
  | .l r o => some (.l r o)
  | _ => none

def pPick : Ent → Ent → Ent → Option Ent
  | .v (.bool t), a, b => some (if t then a else b)
  | _, _, _ => none

def pFa (off : Nat) : Ent → Option Ent
  | .v (.pointer (some ⟨b, o, none⟩)) => some (.v (.pointer (some ⟨b, o + off, none⟩)))
  | .l r o => some (.l r (o + off))
  | _ => none

def pIaS (esz : Nat) : Ent → Ent → Option Ent
  | .v (.slice (some ⟨b, o, none⟩) len _), .v (.int _ i) => if 0 ≤ i ∧ i < (len : Int) then some (.v (.pointer (some ⟨b, o + i.toNat * esz, none⟩))) else none
  | _, _ => none

def pIaA (len esz : Nat) : Ent → Ent → Option Ent
  | .v (.pointer (some ⟨b, o, none⟩)), .v (.int _ i) => if 0 ≤ i ∧ i < (len : Int) then some (.v (.pointer (some ⟨b, o + i.toNat * esz, none⟩))) else none
  | .l r o, .v (.int _ i) => if 0 ≤ i ∧ i < (len : Int) then some (.l r (o + i.toNat * esz)) else none
  | _, _ => none

/-- A stretch of cells. -/
def sub (c : Array Value) (o n : Nat) : Array Value := ((c.toList.drop o).take n).toArray

/-- A value out of a row of cells. -/
def rd (c : Array Value) (o sz : Nat) (ag : Bool) : Option Value :=
  if ag then (if o + sz ≤ c.size then some (.agg (sub c o sz)) else none) else c[o]?

def ldO (o sz : Nat) (ag : Bool) : Option Obj → Option Value
  | some (.cells c _ _) => rd c o sz ag
  | _ => none

def ldL (o sz : Nat) (ag : Bool) : Option (List Value) → Option Value
  | some cs => rd cs.toArray o sz ag
  | none => none

def toE : Option Value → Option Ent
  | some x => some (.v x)
  | none => none

def pLd (sz : Nat) (ag : Bool) (h : Hp) (β : Bx) : Ent → Option Ent
  | .v (.pointer (some ⟨b, o, none⟩)) => toE (ldO o sz ag (h b))
  | .l r o => toE (ldL o sz ag (lookB β r))
  | _ => none

def pFld (off sz : Nat) (ag : Bool) : Ent → Option Ent
  | .v (.agg cs) => toE (if ag then some (.agg (sub cs off sz)) else cs[off]?)
  | _ => none

def pIxA (len sz : Nat) (ag : Bool) : Ent → Ent → Option Ent
  | .v (.agg cs), .v (.int _ i) => if 0 ≤ i ∧ i < (len : Int) then toE (if ag then some (.agg (sub cs (i.toNat * sz) sz)) else cs[i.toNat * sz]?) else none
  | _, _ => none

def pIxS : Ent → Ent → Option Ent
  | .v (.string s), .v (.int _ i) => if 0 ≤ i then (match s[i.toNat]? with | some b => some (.v (.int .u8 b.toNat)) | none => none) else none
  | _, _ => none

def pAr (op : BinOp) : Ent → Ent → Option Ent
  | .v (.int k a), .v (.int k' b) => if k = k' then (match op with
    | .add => some (.v (.int k (k.wrap (a + b))))
    | .sub => some (.v (.int k (k.wrap (a - b))))
    | .mul => some (.v (.int k (k.wrap (a * b))))
    | _ => none) else none
  | _, _ => none

def pCm (op : BinOp) : Ent → Ent → Option Ent
  | .v (.int k a), .v (.int k' b) => if k = k' then (match op with
    | .eql => some (.v (.bool (a == b)))
    | .neq => some (.v (.bool (a != b)))
    | .lss => some (.v (.bool (decide (a < b))))
    | .leq => some (.v (.bool (decide (a ≤ b))))
    | .gtr => some (.v (.bool (decide (a > b))))
    | .geq => some (.v (.bool (decide (a ≥ b))))
    | _ => none) else none
  | _, _ => none

/-- Bit by bit. -/
def bits2 (op : BinOp) (k : IntKind) (x y : Int) : Option Int :=
  let a := BitVec.ofInt k.bits x
  let b := BitVec.ofInt k.bits y
  match op with
  | .and => some (k.wrap (a &&& b).toNat)
  | .or => some (k.wrap (a ||| b).toNat)
  | .xor => some (k.wrap (a ^^^ b).toNat)
  | .andNot => some (k.wrap (a &&& ~~~b).toNat)
  | _ => none

def pBt (op : BinOp) : Ent → Ent → Option Ent
  | .v (.int k a), .v (.int k' b) => if k = k' then (match bits2 op k a b with | some n => some (.v (.int k n)) | none => none) else none
  | _, _ => none

def pDv (op : BinOp) : Ent → Ent → Option Ent
  | .v (.int k a), .v (.int k' b) => if k = k' ∧ b ≠ 0 then (match op with
    | .quo => some (.v (.int k (k.wrap (a.tdiv b))))
    | .rem => some (.v (.int k (a.tmod b)))
    | _ => none) else none
  | _, _ => none

def pSh (op : BinOp) : Ent → Ent → Option Ent
  | .v (.int k a), .v (.int _ b) => if 0 ≤ b then (match op with
    | .shl => some (.v (.int k (k.wrap (a * 2 ^ (min b.toNat k.bits)))))
    | .shr => some (.v (.int k (a.fdiv (2 ^ (min b.toNat k.bits)))))
    | _ => none) else none
  | _, _ => none

def pSop (op : BinOp) : Ent → Ent → Option Ent
  | .v (.string a), .v (.string b) => match op with
    | .eql => some (.v (.bool (a == b)))
    | .neq => some (.v (.bool (!(a == b))))
    | _ => none
  | _, _ => none

/-- A plain block: cells, none of which is frozen. -/
def plainO : Option Obj → Bool
  | some (.cells _ _ (0, 0)) => true
  | _ => false

/-- Are two values of a type without parts the same? -/
def eqS (h : Hp) : EqS → Value → Value → Option Bool
  | .b, .bool a, .bool b => some (a == b)
  | .i, .int k a, .int k' b => if k = k' then some (a == b) else none
  | .s, .string a, .string b => some (a == b)
  | .p, .pointer none, .pointer b => some b.isNone
  | .p, .pointer (some _), .pointer none => some false
  | .p, .pointer (some a), .pointer (some b) => if plainO (h a.block) && plainO (h b.block) then some (decide (a = b)) else none
  | .sl, .slice none _ _, .slice b _ _ => some b.isNone
  | .sl, .slice (some _) _ _, .slice none _ _ => some false
  | .mp, .map none, .map b => some b.isNone
  | .mp, .map (some _), .map none => some false
  | .fn, .nilFunc, .nilFunc => some true
  | .fn, .func _ _ _, .nilFunc => some false
  | .fn, .nilFunc, .func _ _ _ => some false
  | _, _, _ => none

def eqL (h : Hp) (xs ys : Array Value) : List (Nat × EqS) → Option Bool
  | [] => some true
  | (o, e) :: l => match xs[o]?, ys[o]? with
    | some x, some y => match eqS h e x y, eqL h xs ys l with
      | some a, some b => some (a && b)
      | _, _ => none
    | _, _ => none

def eqV (h : Hp) : EqT → Value → Value → Option Bool
  | .one e, x, y => eqS h e x y
  | .ag l, .agg xs, .agg ys => eqL h xs ys l
  | _, _, _ => none

def pEq (neg : Bool) (t : EqT) (h : Hp) : Ent → Ent → Option Ent
  | .v x, .v y => match eqV h t x y with
    | some r => some (.v (.bool (if neg then !r else r)))
    | none => none
  | _, _ => none

def pUn (op : UnOp) : Ent → Option Ent
  | .v (.bool b) => match op with | .not => some (.v (.bool (!b))) | _ => none
  | .v (.int k n) => match op with | .neg => some (.v (.int k (k.wrap (0 - n)))) | .xor => (match bits2 .xor k (if k.signed then -1 else k.max) n with | some m => some (.v (.int k m)) | none => none) | _ => none
  | _ => none

def pCv (k : IntKind) : Ent → Option Ent
  | .v (.int _ n) => some (.v (.int k (k.wrap n)))
  | _ => none

def pExt (i : Nat) : Ent → Option Ent
  | .v (.tuple vs) => toE vs[i]?
  | _ => none

def mapO : Option Obj → Option (List MapEntry)
  | some (.map es _) => some es.toList
  | _ => none

def pLenS : Ent → Option Ent
  | .v (.slice _ n _) => some (.v (.int .i64 n))
  | _ => none
def pLenT : Ent → Option Ent
  | .v (.string s) => some (.v (.int .i64 s.size))
  | _ => none
def pLenM (h : Hp) : Ent → Option Ent
  | .v (.map none) => some (.v (.int .i64 0))
  | .v (.map (some r)) => match mapO (h r) with | some es => some (.v (.int .i64 es.length)) | none => none
  | _ => none

def pCap : Ent → Option Ent
  | .v (.slice _ _ n) => some (.v (.int .i64 n))
  | _ => none

def pMin2 : Ent → Ent → Option Ent
  | .v (.int k x), .v (.int k' y) => if k = k' then some (.v (.int k (if y < x then y else x))) else none
  | _, _ => none
def pMax2 : Ent → Ent → Option Ent
  | .v (.int k x), .v (.int k' y) => if k = k' then some (.v (.int k (if x < y then y else x))) else none
  | _, _ => none

/-- A bound of a slice expression: absent, or a number up to y. -/
def bnd (y : Nat) (d : Nat) : Option Ent → Option Nat
  | none => some d
  | some (.v (.int _ i)) => if 0 ≤ i ∧ i ≤ (y : Int) then some i.toNat else none
  | _ => none

def pSlS (esz : Nat) (lo hi mx : Option Ent) : Ent → Option Ent
  | .v (.slice a len cap) => match bnd cap cap mx with
    | none => none
    | some m => match bnd m (if mx.isSome then m else len) hi with
      | none => none
      | some h => if mx.isSome && hi.isNone then none else match bnd h 0 lo with
        | none => none
        | some l => match a with
          | none => some (.v (.slice none (h - l) (m - l)))
          | some ⟨b, o, none⟩ => some (.v (.slice (some ⟨b, if m = l then o else o + l * esz, none⟩) (h - l) (m - l)))
          | _ => none
  | _ => none

def pSlA (len esz : Nat) (lo hi : Option Ent) : Ent → Option Ent
  | .v (.pointer (some ⟨b, o, none⟩)) => match bnd len len hi with
    | none => none
    | some h => match bnd h 0 lo with
      | none => none
      | some l => some (.v (.slice (some ⟨b, if len = l then o else o + l * esz, none⟩) (h - l) (len - l)))
  | _ => none

def pSlT (lo hi : Option Ent) : Ent → Option Ent
  | .v (.string s) => match bnd s.size s.size hi with
    | none => none
    | some h => match bnd h 0 lo with
      | none => none
      | some l => some (.v (.string (s.extract l h)))
  | _ => none

/-- The entry of a key. -/
def find (h : Hp) (k : EqT) (x : Value) : List MapEntry → Option (Option Value)
  | [] => some none
  | e :: es => match eqV h k x e.key with
    | some true => some (some e.val)
    | some false => find h k x es
    | none => none

def pLook (k : EqT) (z : Value) (ok : Bool) (h : Hp) : Ent → Ent → Option Ent
  | .v (.map none), .v x => if (eqV h k x x).isSome then some (.v (if ok then .tuple #[z, .bool false] else z)) else none
  | .v (.map (some r)), .v x => match mapO (h r) with
    | none => none
    | some es => if (eqV h k x x).isNone then none else match find h k x es with
      | none => none
      | some none => some (.v (if ok then .tuple #[z, .bool false] else z))
      | some (some y) => some (.v (if ok then .tuple #[y, .bool true] else y))
  | _, _ => none

/-- Cells laid over cells. -/
def wrL : List Value → Nat → List Value → List Value
  | c, _, [] => c
  | c, o, v :: vs => wrL (c.set o v) (o + 1) vs

def fillL : List Value → List (Nat × Nat) → List Ent → Option (List Value)
  | c, [], [] => some c
  | c, (o, sz) :: pl, .v x :: es => if x.cells.size = sz ∧ o + sz ≤ c.length then fillL (wrL c o x.cells.toList) pl es else none
  | _, _, _ => none

def vals : List Ent → Option (List Value)
  | [] => some []
  | .v x :: es => match vals es with | some l => some (x :: l) | none => none
  | .l _ _ :: _ => none

def pMkf (fn : Fn) (n : Nat) (es : List Ent) : Option Ent := match vals es with
  | some l => some (.v (.func fn (l.take n).toArray (l.drop n).toArray))
  | none => none

def bytesOf : List Value → Option (List UInt8)
  | [] => some []
  | .int .u8 n :: l => match bytesOf l with | some r => some (UInt8.ofNat n.toNat :: r) | none => none
  | _ => none

def pB2s (h : Hp) : Ent → Option Ent
  | .v (.slice none _ _) => some (.v (.string .empty))
  | .v (.slice (some ⟨b, o, none⟩) len _) => match h b with
    | some (.cells c _ _) => if o + len ≤ c.size then (match bytesOf (c.extract o (o + len)).toList with | some l => some (.v (.string ⟨l.toArray⟩)) | none => none) else none
    | _ => none
  | _ => none

def opt1 (f : Bool) (es : List Ent) : Option (Option Ent × List Ent) :=
  if f then (match es with | e :: r => some (some e, r) | [] => none) else some (none, es)

def prv (h : Hp) (β : Bx) : Pr → List Ent → Option Ent
  | .mv, [e] => some e
  | .nilc, [e] => pNil e
  | .pick, [c, a, b] => pPick c a b
  | .fa off, [e] => pFa off e
  | .iaS esz, [x, i] => pIaS esz x i
  | .iaA len esz, [x, i] => pIaA len esz x i
  | .ld sz ag, [e] => pLd sz ag h β e
  | .fld off sz ag, [e] => pFld off sz ag e
  | .ixA len sz ag, [x, i] => pIxA len sz ag x i
  | .ixS, [x, i] => pIxS x i
  | .ar op, [x, y] => pAr op x y
  | .cm op, [x, y] => pCm op x y
  | .bt op, [x, y] => pBt op x y
  | .dv op, [x, y] => pDv op x y
  | .sh op, [x, y] => pSh op x y
  | .sop op, [x, y] => pSop op x y
  | .eq neg t, [x, y] => pEq neg t h x y
  | .un op, [x] => pUn op x
  | .cv k, [x] => pCv k x
  | .ext i, [x] => pExt i x
  | .lenS, [x] => pLenS x
  | .lenT, [x] => pLenT x
  | .lenM, [x] => pLenM h x
  | .cap, [x] => pCap x
  | .min2, [x, y] => pMin2 x y
  | .max2, [x, y] => pMax2 x y
  | .min3, [x, y, z] => (match pMin2 x y with | some u => pMin2 u z | none => none)
  | .max3, [x, y, z] => (match pMax2 x y with | some u => pMax2 u z | none => none)
  | .slS esz lo hi mx, e :: es => (match opt1 lo es with
    | some (l, r) => match opt1 hi r with
      | some (u, r) => match opt1 mx r with
        | some (m, []) => pSlS esz l u m e
        | _ => none
      | none => none
    | none => none)
  | .slA len esz lo hi, e :: es => (match opt1 lo es with
    | some (l, r) => match opt1 hi r with
      | some (u, []) => pSlA len esz l u e
      | _ => none
    | none => none)
  | .slT lo hi, e :: es => (match opt1 lo es with
    | some (l, r) => match opt1 hi r with
      | some (u, []) => pSlT l u e
      | _ => none
    | none => none)
  | .look k z ok, [m, x] => pLook k z ok h m x
  | .bld z pl, es => (match fillL z pl es with | some l => some (.v (.agg l.toArray)) | none => none)
  | .mkf fn n, es => pMkf fn n es
  | .mki t, [.v x] => some (.v (.iface t x))
  | .b2s, [x] => pB2s h x
  | _, _ => none

/-! ### The deeds -/

/-- Cells of an array laid over. -/
def wr : Array Value → Nat → List Value → Array Value
  | c, _, [] => c
  | c, o, v :: vs => wr (c.setIfInBounds o v) (o + 1) vs

def one (v : Value) : Bool := v.oneCell'

def stO (o sz : Nat) (x : Value) : Option Obj → Option Obj
  | some (.cells c ty z) => if x.cells.size = sz ∧ o + sz ≤ c.size ∧ (z.2 ≤ o ∨ o + sz ≤ z.1) ∧ x.cells.toList.all one = true then some (.cells (wr c o x.cells.toList) ty z) else none
  | _ => none

def stL (o sz : Nat) (x : Value) : Option (List Value) → Option (List Value)
  | some c => if x.cells.size = sz ∧ o + sz ≤ c.length ∧ x.cells.toList.all one = true then some (wrL c o x.cells.toList) else none
  | none => none

def pSt (sz : Nat) (h : Hp) (β : Bx) : Ent → Ent → Option (Hp × Bx)
  | .v (.pointer (some ⟨b, o, none⟩)), .v x => (match stO o sz x (h b) with | some ob => some (upd h b ob, β) | none => none)
  | .l r o, .v x => (match stL o sz x (lookB β r) with | some cs => some (h, (r, cs) :: β) | none => none)
  | _, _ => none

/-- A new block, wherever it lies. -/
@[irreducible] def fresh (h : Hp) (o : Obj) (K : Nat → Hp → Prop) : Prop := ∀ b, h b = none → K b (upd h b o)

theorem fresh.run {h : Hp} {o : Obj} {K : Nat → Hp → Prop} (hf : fresh h o K) : ∀ b, h b = none → K b (upd h b o) := by unfold fresh at hf; exact hf
theorem fresh.intro {h : Hp} {o : Obj} {K : Nat → Hp → Prop} (hf : ∀ b, h b = none → K b (upd h b o)) : fresh h o K := by unfold fresh; exact hf

def reps : Nat → List Value → List Value
  | 0, _ => []
  | n + 1, z => z ++ reps n z

def pairsUp : List Nat → List Ent → Nat → List Value → Option (List Value)
  | [], [], _, c => some c
  | i :: is, .v x :: es, esz, c => if x.cells.size = esz ∧ i * esz + esz ≤ c.length then pairsUp is es esz (wrL c (i * esz) x.cells.toList) else none
  | _, _, _, _ => none

def undefE : Ent := .v undef

def putE (d : Option Nat) (e : Ent) (ρ : Env) : Env := match d with | some d => (d, e) :: ρ | none => ρ

/-- Source cells of an append or a copy: n elements. -/
def srcCells (h : Hp) (n esz : Nat) : Ent → Option (List Value)
  | .v (.slice none _ _) => some []
  | .v (.slice (some ⟨b, o, none⟩) _ _) => (match h b with | some (.cells c _ _) => if o + n * esz ≤ c.size then some (c.extract o (o + n * esz)).toList else none | _ => none)
  | _ => none

def elen : Ent → Option Nat
  | .v (.slice _ n _) => some n
  | _ => none

/-- append: in place where there is room; else into a new block of whatever capacity. -/
@[irreducible] def appK (z : List Value) (ty : TypeId) (bytes : Nat) (h : Hp) (s x : Ent) (K : Ent → Hp → Prop) : Prop :=
  match s, elen x with
  | .v (.slice base n cap), some m => match srcCells h m z.length x with
    | none => False
    | some new => new.length = m * z.length ∧
      (if n + m ≤ cap then
        match base with
        | some ⟨b, o, none⟩ => (match h b with
          | some (.cells c ty' fz) => new.all one = true ∧ o + (n + m) * z.length ≤ c.size ∧ (fz.2 ≤ o + n * z.length ∨ o + (n + m) * z.length ≤ fz.1) ∧ K (.v (.slice (some ⟨b, o, none⟩) (n + m) cap)) (upd h b (.cells (wr c (o + n * z.length) new) ty' fz))
          | _ => False)
        | some _ => False
        | none => K (.v (.slice none (n + m) cap)) h
       else match srcCells h n z.length s with
        | none => False
        | some old => old.length = n * z.length ∧ 2 * (n + m) * bytes ≤ 2 ^ 48 ∧
          ∀ cap', n + m ≤ cap' → fresh h (.cells (old ++ new ++ reps (cap' - (n + m)) z).toArray ty (0, 0)) fun b h' => K (.v (.slice (some ⟨b, 0, none⟩) (n + m) cap')) h')
  | _, _ => False

/-- A function with a body. -/
def callable (P : Program) (k : FuncId) : Bool := match P.funcs[k]? with
  | some fn => !(fn.name == "runtime.NumGoroutine") && fn.body.isSome
  | none => false

def repl (k : EqT) (h : Hp) (x v : Value) : List MapEntry → Option (Option (List MapEntry))
  | [] => some none
  | e :: es => match eqV h k x e.key with
    | some true => if Instr.sameBits 10000 e.key x then some (some ({ e with key := x, val := v } :: es)) else none
    | some false => (match repl k h x v es with | some (some r) => some (some (e :: r)) | r => r)
    | none => none

def strk (k : EqT) (h : Hp) (x : Value) : List MapEntry → Option (Option (List MapEntry))
  | [] => some none
  | e :: es => match eqV h k x e.key with
    | some true => some (some es)
    | some false => (match strk k h x es with | some (some r) => some (some (e :: r)) | r => r)
    | none => none

@[irreducible] def mupK (k : EqT) (h : Hp) (m x v : Ent) (K : Ent → Hp → Prop) : Prop :=
  match m, x, v with
  | .v (.map (some r)), .v x, .v v => (eqV h k x x).isSome = true ∧ match h r with
    | some (.map es clock) => (match repl k h x v es.toList with
      | some (some l) => K undefE (upd h r (.map l.toArray clock))
      | some none => K undefE (upd h r (.map (es.push { key := x, val := v, born := clock }) (clock + 1)))
      | none => False)
    | _ => False
  | _, _, _ => False

@[irreducible] def mdelK (k : EqT) (h : Hp) (m x : Ent) (K : Ent → Hp → Prop) : Prop :=
  match m, x with
  | .v (.map none), .v x => (eqV h k x x).isSome = true ∧ K (.v (.tuple #[])) h
  | .v (.map (some r)), .v x => (eqV h k x x).isSome = true ∧ (match h r with
    | some (.map es clock) => (match strk k h x es.toList with
      | some (some l) => K (.v (.tuple #[])) (upd h r (.map l.toArray clock))
      | some none => K (.v (.tuple #[])) (upd h r (.map es clock))
      | none => False)
    | _ => False)
  | _, _ => False

@[irreducible] def clrMK (h : Hp) (m : Ent) (K : Ent → Hp → Prop) : Prop :=
  match m with
  | .v (.map none) => K (.v (.tuple #[])) h
  | .v (.map (some r)) => (match h r with
      | some (.map _ clock) => K (.v (.tuple #[])) (upd h r (.map #[] clock))
      | _ => False)
  | _ => False

@[irreducible] def clrSK (z : List Value) (h : Hp) (m : Ent) (K : Ent → Hp → Prop) : Prop :=
  match m with
  | .v (.slice none _ _) => K (.v (.tuple #[])) h
  | .v (.slice (some ⟨b, o, none⟩) n _) => (match h b with
      | some (.cells c ty fz) => o + n * z.length ≤ c.size ∧ (fz.2 ≤ o ∨ o + n * z.length ≤ fz.1) ∧ z.all one = true ∧ K (.v (.tuple #[])) (upd h b (.cells (wr c o (reps n z)) ty fz))
      | _ => False)
  | _ => False

@[irreducible] def cpyK (esz : Nat) (h : Hp) (d x : Ent) (K : Ent → Hp → Prop) : Prop :=
  match d, elen x with
  | .v (.slice base dl _), some m => (match srcCells h (min m dl) esz x with
      | none => False
      | some new => new.length = min m dl * esz ∧ new.all one = true ∧ (match base with
        | none => K (.v (.int .i64 (min m dl : Nat))) h
        | some ⟨b, o, none⟩ => (match h b with
          | some (.cells c ty fz) => o + min m dl * esz ≤ c.size ∧ (fz.2 ≤ o ∨ o + min m dl * esz ≤ fz.1) ∧ K (.v (.int .i64 (min m dl : Nat))) (upd h b (.cells (wr c o new) ty fz))
          | _ => False)
        | _ => False))
  | _, _ => False

def mksK (z : List Value) (ty : TypeId) (bytes : Nat) (h : Hp) (l c : Ent) (K : Ent → Hp → Prop) : Prop :=
  match l, c with
  | .v (.int _ l), .v (.int _ c) => 0 ≤ l ∧ l ≤ c ∧ c * bytes ≤ 2 ^ 48 ∧ c < 2 ^ 62 ∧
      fresh h (.cells (reps c.toNat z).toArray ty (0, 0)) fun b h' => K (.v (.slice (some ⟨b, 0, none⟩) l.toNat c.toNat)) h'
  | _, _ => False

def callvK (P : Program) (h : Hp) (g : Ent) (es : List Ent) (K : Ent → Hp → Prop) : Prop :=
  match g, vals es with
  | .v (.func (.func k) first cap), some vs => callable P k = true ∧ Ok P k (first.toList ++ vs ++ cap.toList) h fun v h' => K (.v v) h'
  | .v (.func (.yield l) first _), some vs => OkY P l (first.toList ++ vs) h fun v h' => K (.v v) h'
  | _, _ => False

/-- The start of a range over a map; a step of it; what it stands at. -/
@[irreducible] def rngK (h : Hp) (m : Ent) (K : Ent → Hp → Prop) : Prop :=
  match m with
  | .v (.map none) => fresh h (.mapIter none 0 #[] 0) fun b h' => K (.v (.pointer (some ⟨b, 0, none⟩))) h'
  | .v (.map (some r)) => (match h r with
    | some (.map _ clock) => fresh h (.mapIter (some r) clock #[] clock) fun b h' => K (.v (.pointer (some ⟨b, 0, none⟩))) h'
    | _ => False)
  | _ => False

@[irreducible] def nxtK (h : Hp) (it : Ent) (K : Ent → Hp → Prop) : Prop :=
  match it with
  | .v (.pointer (some ⟨r, 0, none⟩)) => (match h r with
    | some (.mapIter none _ _ _) => K (.v (.tuple #[.bool false])) h
    | some (.mapIter (some m) since seen last) => (match h m with
      | some (.map es clock) => (!seen.isEmpty && !es.isEmpty && es.all (·.born ≥ last)) = false ∧
          (∀ e ∈ es.toList, seen.contains e.born = false → K (.v (.tuple #[.bool true, e.key, e.val])) (upd h r (.mapIter (some m) since (seen.push e.born) clock))) ∧
          ((∀ e ∈ es.toList, seen.contains e.born = false → since ≤ e.born) → K (.v (.tuple #[.bool false])) h)
      | _ => False)
    | _ => False)
  | _ => False

def pEnt (h : Hp) : Ent → Option Ent
  | .v (.pointer (some ⟨r, 0, none⟩)) => (match h r with
    | some (.mapIter (some m) _ seen stepped) => (match seen.back?, h m with
      | some stamp, some (.map es clock) => if clock = stepped then (match es.find? (·.born == stamp) with | some e => some (.v (.tuple #[e.key, e.val])) | none => none) else none
      | _, _ => none)
    | _ => none)
  | _ => none

def optK {α : Type} : Option α → (α → Prop) → Prop
  | some x, K => K x
  | none, _ => False

theorem optK_spec {α : Type} {o : Option α} {K : α → Prop} (h : optK o K) : ∃ x, o = some x ∧ K x := by
  cases o with
  | none => cases h
  | some x => exact ⟨x, rfl, h⟩

def efK (P : Program) (h : Hp) (β : Bx) (K : Ent → Hp → Bx → Prop) : Ef → List Ent → Prop
  | .pr p, es => optK (prv h β p es) fun e => K e h β
  | .st sz, [a, x] => optK (pSt sz h β a x) fun | (h', β') => K undefE h' β'
  | .alh z ty, [] => fresh h (.cells z.toArray ty (0, 0)) fun b h' => K (.v (.pointer (some ⟨b, 0, none⟩))) h' β
  | .bxh ty, [.v x] => fresh h (.cells x.cells ty (0, 0)) fun b h' => K (.v (.pointer (some ⟨b, 0, none⟩))) h' β
  | .mks z ty bytes, [l, c] => mksK z ty bytes h l c fun e h' => K e h' β
  | .bsl z ty len esz pl, es => optK (pairsUp pl es esz (reps len z)) fun cs => fresh h (.cells cs.toArray ty (0, 0)) fun b h' => K (.v (.slice (some ⟨b, 0, none⟩) len len)) h' β
  | .mkm, [] => fresh h (.map #[] 0) fun b h' => K (.v (.map (some b))) h' β
  | .call k, es => optK (vals es) fun vs => Ok P k vs h fun v h' => K (.v v) h' β
  | .callv, g :: es => callvK P h g es fun e h' => K e h' β
  | .app z ty bytes, [s, x] => appK z ty bytes h s x fun e h' => K e h' β
  | .rng, [m] => rngK h m fun e h' => K e h' β
  | .nxt, [it] => nxtK h it fun e h' => K e h' β
  | .ent, [it] => optK (pEnt h it) fun e => K e h β
  | .mkmr, [.v (.int _ _)] => fresh h (.map #[] 0) fun b h' => K (.v (.map (some b))) h' β
  | .mup k, [m, x, v] => mupK k h m x v fun e h' => K e h' β
  | .mdel k, [m, x] => mdelK k h m x fun e h' => K e h' β
  | .clrM, [m] => clrMK h m fun e h' => K e h' β
  | .clrS z, [m] => clrSK z h m fun e h' => K e h' β
  | .cpy esz, [d, x] => cpyK esz h d x fun e h' => K e h' β
  | _, _ => False

def putK (d : Option Nat) (e : Ent) (ρ : Env) (K : Env → Prop) : Prop := match d with | some d => K ((d, e) :: ρ) | none => K ρ

theorem putK_eq (d : Option Nat) (e : Ent) (ρ : Env) (K : Env → Prop) : putK d e ρ K = K (putE d e ρ) := by cases d <;> rfl

def condK (c : Option Ent) (x y : Prop) : Prop := match c with
  | some (.v (.bool true)) => x
  | some (.v (.bool false)) => y
  | _ => False

def ifK : Bool → Prop → Prop
  | true, p => p
  | false, _ => False

theorem ifK_spec {b : Bool} {p : Prop} (h : ifK b p) : b = true ∧ p := by cases b <;> first | cases h | exact ⟨rfl, h⟩

theorem condK_spec {c : Option Ent} {x y : Prop} (h : condK c x y) : (c = some (.v (.bool true)) ∧ x) ∨ (c = some (.v (.bool false)) ∧ y) := by
  unfold condK at h
  split at h
  · exact .inl ⟨rfl, h⟩
  · exact .inr ⟨rfl, h⟩
  · cases h

def doI (P : Program) (i : I) (ρ : Env) (β : Bx) (h : Hp) (K : Env → Bx → Hp → Prop) : Prop :=
  optK (oxs ρ i.xs) fun es =>
    match i.o, i.d, es with
    | .al z, some d, [] => ifK (noLoc d ρ) (K ((d, .l d 0) :: ρ) ((d, z) :: β) h)
    | .bx, some d, [.v x] => ifK (noLoc d ρ) (K ((d, .l d 0) :: ρ) ((d, x.cells.toList) :: β) h)
    | o, d, es => efK P h β (fun e h β => putK d e ρ fun ρ => K ρ β h) o es

/-- A guard that was not wanted itself lets nothing in. -/
def gn (d : Bool) : Option Ent → Option Ent
  | some (.v (.tuple _)) => some (.v (.bool d))
  | e => e

theorem gn_spec {d b : Bool} {e : Option Ent} (h : gn d e = some (.v (.bool b))) : e = some (.v (.bool b)) ∨ (∃ vs, e = some (.v (.tuple vs))) ∧ b = d := by
  unfold gn at h
  split at h
  · cases h; exact .inr ⟨⟨_, rfl⟩, rfl⟩
  · exact .inl h

def stI (P : Program) (i : I) (ρ : Env) (β : Bx) (h : Hp) (K : Env → Bx → Hp → Prop) : Prop :=
  match i.g with
  | none => doI P i ρ β h K
  | some (t, true) => condK (gn false (look ρ t)) (doI P i ρ β h K) (putK i.d undefE ρ fun ρ => K ρ β h)
  | some (t, false) => condK (gn true (look ρ t)) (putK i.d undefE ρ fun ρ => K ρ β h) (doI P i ρ β h K)

def opsK (P : Program) (K : Env → Bx → Hp → Prop) : List I → Env → Bx → Hp → Prop
  | [], ρ, β, h => K ρ β h
  | i :: l, ρ, β, h => stI P i ρ β h (opsK P K l)

end Go.Proofs.Ytkmknolkblcbeaa.V
