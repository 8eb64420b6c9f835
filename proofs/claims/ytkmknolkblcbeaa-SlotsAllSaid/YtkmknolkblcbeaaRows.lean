/-
  No cell of these rows narrows 'for every input' (looked for: loops, veiled, ifaces, maps, wideKeys, modest, calm, conditions, laid).
  DERIVED. THE GIVEN ROWS OF THIS SEAT. 9 by the template 'for every input the law returns true; each argument reads behind the call as it read before'; 0 by the template 'total and deterministic' (their statements: YtkmknolkblcbeaaTotals.lean).
  GIVEN WITH THE SEED: the statements are not yours to turn. If you find one false, say at which input.
  Laid BY PROGRAM, IN A SANDBOX (cutbox-rows.mjs): the forced cells as the released guide's own fill.sh prints them over the translation 8a4976f9fee4374b… (all of the seat's roots in one cut). By AI agents, Wed Nov 11 2026. No macro, syntax, notation, axiom, sorry.
-/
import Derived.Test.YtkmknolkblcbeaaChecked
import GoSem.Claim
import GoSem.ClaimJoined
import GoSem.ClaimMapViews
import Derived.JoinedTies
import Derived.KernelRfl
namespace Go.Proofs.Ytkmknolkblcbeaa
/- THE CELL 'sum', in the pinned program and in every row, IS THE sha256 OF THE DUMP (.gsa) THAT YtkmknolkblcbeaaProg.lean LOADS. Nothing in Lean hashes anything: it is a label: what it is worth is what the hold of that sum in a sandbox is worth. -/
noncomputable def Try.pinned : Pinned := { name := "ytkmknolkblcbeaa", sum := "8a4976f9fee4374b5a6dc07c6c16cda7267abb7067aab6f2ca2524f0e110e137", checked := Try.checked }
namespace Rows
def none {H : Type} : Left H := { results := [], args := [] }

/-- 'amberlaw03.SlotsBack': WHATEVER THE INPUT: true; the input reads as it did. -/
def slotsBackSpec : ChangeSpec := { name := "slotsBack", fn := fun _ => fun
  | [d] => { results := [.lit (.bool true)], args := [d] }
  | _ => none }
def slotsBackRow : OpenClaim := { program := "ytkmknolkblcbeaa", sum := "8a4976f9fee4374b5a6dc07c6c16cda7267abb7067aab6f2ca2524f0e110e137", func := "amber/amberlaw03.SlotsBack", spec := "slotsBack", plainKeys := false, apart := false }
def SlotsBackSaid : Prop := slotsBackRow.holds Try.pinned (OpenSpec.ofChange slotsBackSpec)

/-- ITS FALSE NEIGHBOUR: 'it returns false'. Refute it at one input. -/
def slotsBackWrong : ChangeSpec := { name := "slotsBack", fn := fun _ => fun
  | [d] => { results := [.lit (.bool false)], args := [d] }
  | _ => none }
def SlotsBackWrongFalsely : Prop := slotsBackRow.holds Try.pinned (OpenSpec.ofChange slotsBackWrong)

/-- 'amberlaw03.SlotsTie': WHATEVER THE INPUT: true; the input reads as it did. -/
def slotsTieSpec : ChangeSpec := { name := "slotsTie", fn := fun _ => fun
  | [d] => { results := [.lit (.bool true)], args := [d] }
  | _ => none }
def slotsTieRow : OpenClaim := { program := "ytkmknolkblcbeaa", sum := "8a4976f9fee4374b5a6dc07c6c16cda7267abb7067aab6f2ca2524f0e110e137", func := "amber/amberlaw03.SlotsTie", spec := "slotsTie", plainKeys := false, apart := false }
def SlotsTieSaid : Prop := slotsTieRow.holds Try.pinned (OpenSpec.ofChange slotsTieSpec)

/-- ITS FALSE NEIGHBOUR: 'it returns false'. Refute it at one input. -/
def slotsTieWrong : ChangeSpec := { name := "slotsTie", fn := fun _ => fun
  | [d] => { results := [.lit (.bool false)], args := [d] }
  | _ => none }
def SlotsTieWrongFalsely : Prop := slotsTieRow.holds Try.pinned (OpenSpec.ofChange slotsTieWrong)

/-- 'amberlaw03.SlotsTurn': WHATEVER THE INPUT: true; the input reads as it did. -/
def slotsTurnSpec : ChangeSpec := { name := "slotsTurn", fn := fun _ => fun
  | [d1, d2] => { results := [.lit (.bool true)], args := [d1, d2] }
  | _ => none }
def slotsTurnRow : OpenClaim := { program := "ytkmknolkblcbeaa", sum := "8a4976f9fee4374b5a6dc07c6c16cda7267abb7067aab6f2ca2524f0e110e137", func := "amber/amberlaw03.SlotsTurn", spec := "slotsTurn", plainKeys := false, apart := false }
def SlotsTurnSaid : Prop := slotsTurnRow.holds Try.pinned (OpenSpec.ofChange slotsTurnSpec)

/-- ITS FALSE NEIGHBOUR: 'it returns false'. Refute it at one input. -/
def slotsTurnWrong : ChangeSpec := { name := "slotsTurn", fn := fun _ => fun
  | [d1, d2] => { results := [.lit (.bool false)], args := [d1, d2] }
  | _ => none }
def SlotsTurnWrongFalsely : Prop := slotsTurnRow.holds Try.pinned (OpenSpec.ofChange slotsTurnWrong)

/-- 'amberlaw03.SlotsRefill': WHATEVER THE INPUT: true; the input reads as it did. -/
def slotsRefillSpec : ChangeSpec := { name := "slotsRefill", fn := fun _ => fun
  | [d1, d2] => { results := [.lit (.bool true)], args := [d1, d2] }
  | _ => none }
def slotsRefillRow : OpenClaim := { program := "ytkmknolkblcbeaa", sum := "8a4976f9fee4374b5a6dc07c6c16cda7267abb7067aab6f2ca2524f0e110e137", func := "amber/amberlaw03.SlotsRefill", spec := "slotsRefill", plainKeys := false, apart := false }
def SlotsRefillSaid : Prop := slotsRefillRow.holds Try.pinned (OpenSpec.ofChange slotsRefillSpec)

/-- ITS FALSE NEIGHBOUR: 'it returns false'. Refute it at one input. -/
def slotsRefillWrong : ChangeSpec := { name := "slotsRefill", fn := fun _ => fun
  | [d1, d2] => { results := [.lit (.bool false)], args := [d1, d2] }
  | _ => none }
def SlotsRefillWrongFalsely : Prop := slotsRefillRow.holds Try.pinned (OpenSpec.ofChange slotsRefillWrong)

/-- 'amberlaw03.SlotsLowest': WHATEVER THE INPUT: true; the input reads as it did. -/
def slotsLowestSpec : ChangeSpec := { name := "slotsLowest", fn := fun _ => fun
  | [d1, d2] => { results := [.lit (.bool true)], args := [d1, d2] }
  | _ => none }
def slotsLowestRow : OpenClaim := { program := "ytkmknolkblcbeaa", sum := "8a4976f9fee4374b5a6dc07c6c16cda7267abb7067aab6f2ca2524f0e110e137", func := "amber/amberlaw03.SlotsLowest", spec := "slotsLowest", plainKeys := false, apart := false }
def SlotsLowestSaid : Prop := slotsLowestRow.holds Try.pinned (OpenSpec.ofChange slotsLowestSpec)

/-- ITS FALSE NEIGHBOUR: 'it returns false'. Refute it at one input. -/
def slotsLowestWrong : ChangeSpec := { name := "slotsLowest", fn := fun _ => fun
  | [d1, d2] => { results := [.lit (.bool false)], args := [d1, d2] }
  | _ => none }
def SlotsLowestWrongFalsely : Prop := slotsLowestRow.holds Try.pinned (OpenSpec.ofChange slotsLowestWrong)

/-- 'amberlaw03.SlotsAll': WHATEVER THE INPUT: true; the input reads as it did. -/
def slotsAllSpec : ChangeSpec := { name := "slotsAll", fn := fun _ => fun
  | [d1, d2, d3] => { results := [.lit (.bool true)], args := [d1, d2, d3] }
  | _ => none }
def slotsAllRow : OpenClaim := { program := "ytkmknolkblcbeaa", sum := "8a4976f9fee4374b5a6dc07c6c16cda7267abb7067aab6f2ca2524f0e110e137", func := "amber/amberlaw03.SlotsAll", spec := "slotsAll", unfollowed := true, recurses := true, plainKeys := false, apart := false }
def SlotsAllSaid : Prop := slotsAllRow.holds Try.pinned (OpenSpec.ofChange slotsAllSpec)

/-- ITS FALSE NEIGHBOUR: 'it returns false'. Refute it at one input. -/
def slotsAllWrong : ChangeSpec := { name := "slotsAll", fn := fun _ => fun
  | [d1, d2, d3] => { results := [.lit (.bool false)], args := [d1, d2, d3] }
  | _ => none }
def SlotsAllWrongFalsely : Prop := slotsAllRow.holds Try.pinned (OpenSpec.ofChange slotsAllWrong)

/-- 'amberlaw03.SlotsApart': WHATEVER THE INPUT: true; the input reads as it did. -/
def slotsApartSpec : ChangeSpec := { name := "slotsApart", fn := fun _ => fun
  | [d1, d2, d3] => { results := [.lit (.bool true)], args := [d1, d2, d3] }
  | _ => none }
def slotsApartRow : OpenClaim := { program := "ytkmknolkblcbeaa", sum := "8a4976f9fee4374b5a6dc07c6c16cda7267abb7067aab6f2ca2524f0e110e137", func := "amber/amberlaw03.SlotsApart", spec := "slotsApart", unfollowed := true, recurses := true, plainKeys := false, apart := false }
def SlotsApartSaid : Prop := slotsApartRow.holds Try.pinned (OpenSpec.ofChange slotsApartSpec)

/-- ITS FALSE NEIGHBOUR: 'it returns false'. Refute it at one input. -/
def slotsApartWrong : ChangeSpec := { name := "slotsApart", fn := fun _ => fun
  | [d1, d2, d3] => { results := [.lit (.bool false)], args := [d1, d2, d3] }
  | _ => none }
def SlotsApartWrongFalsely : Prop := slotsApartRow.holds Try.pinned (OpenSpec.ofChange slotsApartWrong)

/-- 'amberlaw03.SlotsStay': WHATEVER THE INPUT: true; the input reads as it did. -/
def slotsStaySpec : ChangeSpec := { name := "slotsStay", fn := fun _ => fun
  | [d1, d2, d3, d4] => { results := [.lit (.bool true)], args := [d1, d2, d3, d4] }
  | _ => none }
def slotsStayRow : OpenClaim := { program := "ytkmknolkblcbeaa", sum := "8a4976f9fee4374b5a6dc07c6c16cda7267abb7067aab6f2ca2524f0e110e137", func := "amber/amberlaw03.SlotsStay", spec := "slotsStay", unfollowed := true, recurses := true, plainKeys := false, apart := false }
def SlotsStaySaid : Prop := slotsStayRow.holds Try.pinned (OpenSpec.ofChange slotsStaySpec)

/-- ITS FALSE NEIGHBOUR: 'it returns false'. Refute it at one input. -/
def slotsStayWrong : ChangeSpec := { name := "slotsStay", fn := fun _ => fun
  | [d1, d2, d3, d4] => { results := [.lit (.bool false)], args := [d1, d2, d3, d4] }
  | _ => none }
def SlotsStayWrongFalsely : Prop := slotsStayRow.holds Try.pinned (OpenSpec.ofChange slotsStayWrong)

/-- 'amberlaw03.SlotsTable': WHATEVER THE INPUT: true; the input reads as it did. -/
def slotsTableSpec : ChangeSpec := { name := "slotsTable", fn := fun _ => fun
  | [d1, d2, d3] => { results := [.lit (.bool true)], args := [d1, d2, d3] }
  | _ => none }
def slotsTableRow : OpenClaim := { program := "ytkmknolkblcbeaa", sum := "8a4976f9fee4374b5a6dc07c6c16cda7267abb7067aab6f2ca2524f0e110e137", func := "amber/amberlaw03.SlotsTable", spec := "slotsTable", unfollowed := true, recurses := true, plainKeys := false, apart := false }
def SlotsTableSaid : Prop := slotsTableRow.holds Try.pinned (OpenSpec.ofChange slotsTableSpec)

/-- ITS FALSE NEIGHBOUR: 'it returns false'. Refute it at one input. -/
def slotsTableWrong : ChangeSpec := { name := "slotsTable", fn := fun _ => fun
  | [d1, d2, d3] => { results := [.lit (.bool false)], args := [d1, d2, d3] }
  | _ => none }
def SlotsTableWrongFalsely : Prop := slotsTableRow.holds Try.pinned (OpenSpec.ofChange slotsTableWrong)

/- THE SECOND FORM. 'bulk': how many values and letters a reading holds, each counted each time it is reached (what is shared counts as often as it is met; a slice's spare places count too). A statement '..UptoSaid' is the law's where the arguments, and the package variables that the reading takes, are together of bulk at most 1048576: NARROWER than '..Said'. Prove '..Said' where nothing that the law and all that it calls make is longer than what came in: it says more and counts as full. Else prove '..UptoSaid'. A law counts once. -/
mutual
def uptoBulk {H : Type} : DataW H → Nat
  | .lit (.string bytes) => bytes.length + 1
  | .lit _ => 1
  | .nil => 1
  | .ptr d => uptoBulk d + 1
  | .slice elems spare => uptoBulkAll elems + uptoBulkAll spare + 1
  | .agg parts => uptoBulkAll parts + 1
  | .iface _ d => uptoBulk d + 1
  | .map entries => uptoBulkEntries entries + 1
  | .held _ => 1
def uptoBulkAll {H : Type} : List (DataW H) → Nat
  | [] => 0
  | d :: r => uptoBulk d + uptoBulkAll r
def uptoBulkEntries {H : Type} : List (Lit × DataW H) → Nat
  | [] => 0
  | x :: r => uptoBulkEntry x + uptoBulkEntries r
def uptoBulkEntry {H : Type} : Lit × DataW H → Nat
  | (.string bytes, d) => bytes.length + uptoBulk d + 1
  | (_, d) => uptoBulk d + 1
 end
def uptoSmall : (H : Type) → List (DataW H) → Bool := fun _ ds => decide (uptoBulkAll ds ≤ 1048576)
def OpenSpec.upto (s : _root_.Go.ChangeSpec) : _root_.Go.OpenSpec := { _root_.Go.OpenSpec.ofChange s with cond := some uptoSmall }

/-- 'amberlaw03.SlotsBack', WHERE WHAT IT READS IS OF BULK AT MOST 1048576: true; the input reads as it did. -/
def slotsBackUptoRow : OpenClaim := { program := "ytkmknolkblcbeaa", sum := "8a4976f9fee4374b5a6dc07c6c16cda7267abb7067aab6f2ca2524f0e110e137", func := "amber/amberlaw03.SlotsBack", spec := "slotsBack", plainKeys := false, apart := false, narrowed := true }
def SlotsBackUptoSaid : Prop := slotsBackUptoRow.holds Try.pinned (OpenSpec.upto slotsBackSpec)

/-- 'amberlaw03.SlotsTie', WHERE WHAT IT READS IS OF BULK AT MOST 1048576: true; the input reads as it did. -/
def slotsTieUptoRow : OpenClaim := { program := "ytkmknolkblcbeaa", sum := "8a4976f9fee4374b5a6dc07c6c16cda7267abb7067aab6f2ca2524f0e110e137", func := "amber/amberlaw03.SlotsTie", spec := "slotsTie", plainKeys := false, apart := false, narrowed := true }
def SlotsTieUptoSaid : Prop := slotsTieUptoRow.holds Try.pinned (OpenSpec.upto slotsTieSpec)

/-- 'amberlaw03.SlotsTurn', WHERE WHAT IT READS IS OF BULK AT MOST 1048576: true; the input reads as it did. -/
def slotsTurnUptoRow : OpenClaim := { program := "ytkmknolkblcbeaa", sum := "8a4976f9fee4374b5a6dc07c6c16cda7267abb7067aab6f2ca2524f0e110e137", func := "amber/amberlaw03.SlotsTurn", spec := "slotsTurn", plainKeys := false, apart := false, narrowed := true }
def SlotsTurnUptoSaid : Prop := slotsTurnUptoRow.holds Try.pinned (OpenSpec.upto slotsTurnSpec)

/-- 'amberlaw03.SlotsRefill', WHERE WHAT IT READS IS OF BULK AT MOST 1048576: true; the input reads as it did. -/
def slotsRefillUptoRow : OpenClaim := { program := "ytkmknolkblcbeaa", sum := "8a4976f9fee4374b5a6dc07c6c16cda7267abb7067aab6f2ca2524f0e110e137", func := "amber/amberlaw03.SlotsRefill", spec := "slotsRefill", plainKeys := false, apart := false, narrowed := true }
def SlotsRefillUptoSaid : Prop := slotsRefillUptoRow.holds Try.pinned (OpenSpec.upto slotsRefillSpec)

/-- 'amberlaw03.SlotsLowest', WHERE WHAT IT READS IS OF BULK AT MOST 1048576: true; the input reads as it did. -/
def slotsLowestUptoRow : OpenClaim := { program := "ytkmknolkblcbeaa", sum := "8a4976f9fee4374b5a6dc07c6c16cda7267abb7067aab6f2ca2524f0e110e137", func := "amber/amberlaw03.SlotsLowest", spec := "slotsLowest", plainKeys := false, apart := false, narrowed := true }
def SlotsLowestUptoSaid : Prop := slotsLowestUptoRow.holds Try.pinned (OpenSpec.upto slotsLowestSpec)

/-- 'amberlaw03.SlotsAll', WHERE WHAT IT READS IS OF BULK AT MOST 1048576: true; the input reads as it did. -/
def slotsAllUptoRow : OpenClaim := { program := "ytkmknolkblcbeaa", sum := "8a4976f9fee4374b5a6dc07c6c16cda7267abb7067aab6f2ca2524f0e110e137", func := "amber/amberlaw03.SlotsAll", spec := "slotsAll", unfollowed := true, recurses := true, plainKeys := false, apart := false, narrowed := true }
def SlotsAllUptoSaid : Prop := slotsAllUptoRow.holds Try.pinned (OpenSpec.upto slotsAllSpec)

/-- 'amberlaw03.SlotsApart', WHERE WHAT IT READS IS OF BULK AT MOST 1048576: true; the input reads as it did. -/
def slotsApartUptoRow : OpenClaim := { program := "ytkmknolkblcbeaa", sum := "8a4976f9fee4374b5a6dc07c6c16cda7267abb7067aab6f2ca2524f0e110e137", func := "amber/amberlaw03.SlotsApart", spec := "slotsApart", unfollowed := true, recurses := true, plainKeys := false, apart := false, narrowed := true }
def SlotsApartUptoSaid : Prop := slotsApartUptoRow.holds Try.pinned (OpenSpec.upto slotsApartSpec)

/-- 'amberlaw03.SlotsStay', WHERE WHAT IT READS IS OF BULK AT MOST 1048576: true; the input reads as it did. -/
def slotsStayUptoRow : OpenClaim := { program := "ytkmknolkblcbeaa", sum := "8a4976f9fee4374b5a6dc07c6c16cda7267abb7067aab6f2ca2524f0e110e137", func := "amber/amberlaw03.SlotsStay", spec := "slotsStay", unfollowed := true, recurses := true, plainKeys := false, apart := false, narrowed := true }
def SlotsStayUptoSaid : Prop := slotsStayUptoRow.holds Try.pinned (OpenSpec.upto slotsStaySpec)

/-- 'amberlaw03.SlotsTable', WHERE WHAT IT READS IS OF BULK AT MOST 1048576: true; the input reads as it did. -/
def slotsTableUptoRow : OpenClaim := { program := "ytkmknolkblcbeaa", sum := "8a4976f9fee4374b5a6dc07c6c16cda7267abb7067aab6f2ca2524f0e110e137", func := "amber/amberlaw03.SlotsTable", spec := "slotsTable", unfollowed := true, recurses := true, plainKeys := false, apart := false, narrowed := true }
def SlotsTableUptoSaid : Prop := slotsTableUptoRow.holds Try.pinned (OpenSpec.upto slotsTableSpec)

end Rows
end Go.Proofs.Ytkmknolkblcbeaa
