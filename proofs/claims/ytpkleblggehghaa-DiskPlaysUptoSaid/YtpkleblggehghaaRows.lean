/-
  No cell of these rows narrows 'for every input' (looked for: loops, veiled, ifaces, maps, wideKeys, modest, calm, conditions, laid).
  DERIVED. THE GIVEN ROWS OF THIS SEAT. 8 by the template 'for every input the law returns true; each argument reads behind the call as it read before'; 0 by the template 'total and deterministic' (their statements: YtpkleblggehghaaTotals.lean).
  GIVEN WITH THE SEED: the statements are not yours to turn. If you find one false, say at which input.
  Laid BY PROGRAM, IN A SANDBOX (cutbox-rows.mjs): the forced cells as the released guide's own fill.sh prints them over the translation 646fe2ac5882c2ba… (all of the seat's roots in one cut). By AI agents, Wed Nov 11 2026. No macro, syntax, notation, axiom, sorry.
-/
import Derived.Test.YtpkleblggehghaaChecked
import GoSem.Claim
import GoSem.ClaimJoined
import GoSem.ClaimMapViews
import Derived.JoinedTies
import Derived.KernelRfl
namespace Go.Proofs.Ytpkleblggehghaa
/- THE CELL 'sum', in the pinned program and in every row, IS THE sha256 OF THE DUMP (.gsa) THAT YtpkleblggehghaaProg.lean LOADS. Nothing in Lean hashes anything: it is a label: what it is worth is what the hold of that sum in a sandbox is worth. -/
noncomputable def Try.pinned : Pinned := { name := "ytpkleblggehghaa", sum := "646fe2ac5882c2ba573ecf9a90746682c29d88b5aa3d437bbe6a6d6b0ffa5537", checked := Try.checked }
namespace Rows
def none {H : Type} : Left H := { results := [], args := [] }

/-- 'amberlaw04.DiskArmed': WHATEVER THE INPUT: true; the input reads as it did. -/
def diskArmedSpec : ChangeSpec := { name := "diskArmed", fn := fun _ => fun
  | [d1, d2, d3] => { results := [.lit (.bool true)], args := [d1, d2, d3] }
  | _ => none }
def diskArmedRow : OpenClaim := { program := "ytpkleblggehghaa", sum := "646fe2ac5882c2ba573ecf9a90746682c29d88b5aa3d437bbe6a6d6b0ffa5537", func := "amber/amberlaw04.DiskArmed", spec := "diskArmed", unfollowed := true, recurses := true, apart := false }
def DiskArmedSaid : Prop := diskArmedRow.holds Try.pinned (OpenSpec.ofChange diskArmedSpec)

/-- ITS FALSE NEIGHBOUR: 'it returns false'. Refute it at one input. -/
def diskArmedWrong : ChangeSpec := { name := "diskArmed", fn := fun _ => fun
  | [d1, d2, d3] => { results := [.lit (.bool false)], args := [d1, d2, d3] }
  | _ => none }
def DiskArmedWrongFalsely : Prop := diskArmedRow.holds Try.pinned (OpenSpec.ofChange diskArmedWrong)

/-- 'amberlaw04.DiskStays': WHATEVER THE INPUT: true; the input reads as it did. -/
def diskStaysSpec : ChangeSpec := { name := "diskStays", fn := fun _ => fun
  | [d1, d2, d3] => { results := [.lit (.bool true)], args := [d1, d2, d3] }
  | _ => none }
def diskStaysRow : OpenClaim := { program := "ytpkleblggehghaa", sum := "646fe2ac5882c2ba573ecf9a90746682c29d88b5aa3d437bbe6a6d6b0ffa5537", func := "amber/amberlaw04.DiskStays", spec := "diskStays", unfollowed := true, recurses := true, apart := false }
def DiskStaysSaid : Prop := diskStaysRow.holds Try.pinned (OpenSpec.ofChange diskStaysSpec)

/-- ITS FALSE NEIGHBOUR: 'it returns false'. Refute it at one input. -/
def diskStaysWrong : ChangeSpec := { name := "diskStays", fn := fun _ => fun
  | [d1, d2, d3] => { results := [.lit (.bool false)], args := [d1, d2, d3] }
  | _ => none }
def DiskStaysWrongFalsely : Prop := diskStaysRow.holds Try.pinned (OpenSpec.ofChange diskStaysWrong)

/-- 'amberlaw04.DiskEdits': WHATEVER THE INPUT: true; the input reads as it did. -/
def diskEditsSpec : ChangeSpec := { name := "diskEdits", fn := fun _ => fun
  | [d] => { results := [.lit (.bool true)], args := [d] }
  | _ => none }
def diskEditsRow : OpenClaim := { program := "ytpkleblggehghaa", sum := "646fe2ac5882c2ba573ecf9a90746682c29d88b5aa3d437bbe6a6d6b0ffa5537", func := "amber/amberlaw04.DiskEdits", spec := "diskEdits", unfollowed := true, recurses := true, apart := false }
def DiskEditsSaid : Prop := diskEditsRow.holds Try.pinned (OpenSpec.ofChange diskEditsSpec)

/-- ITS FALSE NEIGHBOUR: 'it returns false'. Refute it at one input. -/
def diskEditsWrong : ChangeSpec := { name := "diskEdits", fn := fun _ => fun
  | [d] => { results := [.lit (.bool false)], args := [d] }
  | _ => none }
def DiskEditsWrongFalsely : Prop := diskEditsRow.holds Try.pinned (OpenSpec.ofChange diskEditsWrong)

/-- 'amberlaw04.DiskLeaves': WHATEVER THE INPUT: true; the input reads as it did. -/
def diskLeavesSpec : ChangeSpec := { name := "diskLeaves", fn := fun _ => fun
  | [d1, d2, d3] => { results := [.lit (.bool true)], args := [d1, d2, d3] }
  | _ => none }
def diskLeavesRow : OpenClaim := { program := "ytpkleblggehghaa", sum := "646fe2ac5882c2ba573ecf9a90746682c29d88b5aa3d437bbe6a6d6b0ffa5537", func := "amber/amberlaw04.DiskLeaves", spec := "diskLeaves", unfollowed := true, recurses := true, apart := false }
def DiskLeavesSaid : Prop := diskLeavesRow.holds Try.pinned (OpenSpec.ofChange diskLeavesSpec)

/-- ITS FALSE NEIGHBOUR: 'it returns false'. Refute it at one input. -/
def diskLeavesWrong : ChangeSpec := { name := "diskLeaves", fn := fun _ => fun
  | [d1, d2, d3] => { results := [.lit (.bool false)], args := [d1, d2, d3] }
  | _ => none }
def DiskLeavesWrongFalsely : Prop := diskLeavesRow.holds Try.pinned (OpenSpec.ofChange diskLeavesWrong)

/-- 'amberlaw04.DiskKeeps': WHATEVER THE INPUT: true; the input reads as it did. -/
def diskKeepsSpec : ChangeSpec := { name := "diskKeeps", fn := fun _ => fun
  | [d1, d2, d3] => { results := [.lit (.bool true)], args := [d1, d2, d3] }
  | _ => none }
def diskKeepsRow : OpenClaim := { program := "ytpkleblggehghaa", sum := "646fe2ac5882c2ba573ecf9a90746682c29d88b5aa3d437bbe6a6d6b0ffa5537", func := "amber/amberlaw04.DiskKeeps", spec := "diskKeeps", unfollowed := true, recurses := true, apart := false }
def DiskKeepsSaid : Prop := diskKeepsRow.holds Try.pinned (OpenSpec.ofChange diskKeepsSpec)

/-- ITS FALSE NEIGHBOUR: 'it returns false'. Refute it at one input. -/
def diskKeepsWrong : ChangeSpec := { name := "diskKeeps", fn := fun _ => fun
  | [d1, d2, d3] => { results := [.lit (.bool false)], args := [d1, d2, d3] }
  | _ => none }
def DiskKeepsWrongFalsely : Prop := diskKeepsRow.holds Try.pinned (OpenSpec.ofChange diskKeepsWrong)

/-- 'amberlaw04.DiskApart': WHATEVER THE INPUT: true; the input reads as it did. -/
def diskApartSpec : ChangeSpec := { name := "diskApart", fn := fun _ => fun
  | [d1, d2] => { results := [.lit (.bool true)], args := [d1, d2] }
  | _ => none }
def diskApartRow : OpenClaim := { program := "ytpkleblggehghaa", sum := "646fe2ac5882c2ba573ecf9a90746682c29d88b5aa3d437bbe6a6d6b0ffa5537", func := "amber/amberlaw04.DiskApart", spec := "diskApart", unfollowed := true, recurses := true, apart := false }
def DiskApartSaid : Prop := diskApartRow.holds Try.pinned (OpenSpec.ofChange diskApartSpec)

/-- ITS FALSE NEIGHBOUR: 'it returns false'. Refute it at one input. -/
def diskApartWrong : ChangeSpec := { name := "diskApart", fn := fun _ => fun
  | [d1, d2] => { results := [.lit (.bool false)], args := [d1, d2] }
  | _ => none }
def DiskApartWrongFalsely : Prop := diskApartRow.holds Try.pinned (OpenSpec.ofChange diskApartWrong)

/-- 'amberlaw04.DiskPlays': WHATEVER THE INPUT: true; the input reads as it did. -/
def diskPlaysSpec : ChangeSpec := { name := "diskPlays", fn := fun _ => fun
  | [d] => { results := [.lit (.bool true)], args := [d] }
  | _ => none }
def diskPlaysRow : OpenClaim := { program := "ytpkleblggehghaa", sum := "646fe2ac5882c2ba573ecf9a90746682c29d88b5aa3d437bbe6a6d6b0ffa5537", func := "amber/amberlaw04.DiskPlays", spec := "diskPlays", unfollowed := true, recurses := true, apart := false }
def DiskPlaysSaid : Prop := diskPlaysRow.holds Try.pinned (OpenSpec.ofChange diskPlaysSpec)

/-- ITS FALSE NEIGHBOUR: 'it returns false'. Refute it at one input. -/
def diskPlaysWrong : ChangeSpec := { name := "diskPlays", fn := fun _ => fun
  | [d] => { results := [.lit (.bool false)], args := [d] }
  | _ => none }
def DiskPlaysWrongFalsely : Prop := diskPlaysRow.holds Try.pinned (OpenSpec.ofChange diskPlaysWrong)

/-- 'amberlaw04.DiskCarried': WHATEVER THE INPUT: true; the input reads as it did. -/
def diskCarriedSpec : ChangeSpec := { name := "diskCarried", fn := fun _ => fun
  | [d1, d2, d3] => { results := [.lit (.bool true)], args := [d1, d2, d3] }
  | _ => none }
def diskCarriedRow : OpenClaim := { program := "ytpkleblggehghaa", sum := "646fe2ac5882c2ba573ecf9a90746682c29d88b5aa3d437bbe6a6d6b0ffa5537", func := "amber/amberlaw04.DiskCarried", spec := "diskCarried", unfollowed := true, recurses := true, apart := false }
def DiskCarriedSaid : Prop := diskCarriedRow.holds Try.pinned (OpenSpec.ofChange diskCarriedSpec)

/-- ITS FALSE NEIGHBOUR: 'it returns false'. Refute it at one input. -/
def diskCarriedWrong : ChangeSpec := { name := "diskCarried", fn := fun _ => fun
  | [d1, d2, d3] => { results := [.lit (.bool false)], args := [d1, d2, d3] }
  | _ => none }
def DiskCarriedWrongFalsely : Prop := diskCarriedRow.holds Try.pinned (OpenSpec.ofChange diskCarriedWrong)

/- THE SECOND FORM. 'bulk': how many values and letters a reading holds, each counted each time it is reached (what is shared counts as often as it is met; a slice's spare places count too). A statement '..UptoSaid' is the law's where the arguments, and the package variables that the reading takes, are together of bulk at most 1048576: NARROWER than '..Said'. Prove '..Said' where nothing that the law and all that it calls make is longer than what came in: it says more and counts as full. Else prove '..UptoSaid'. A law counts once. -/
mutual
def uptoBulk {H : Type} : DataW H → Nat
  | .lit (.string bytes) => bytes.length + 1
  | .lit _ => 1
  | .nil => 1
  | .ptr d => uptoBulk d + 1
  | .slice elems spare => uptoBulkAll elems + uptoBulkAll spare + 1
  | .agg parts => uptoBulkAll parts + 1
  | .iface _ d => uptoBulk d + 1
  | .map entries => uptoBulkEntries entries + 1
  | .held _ => 1
def uptoBulkAll {H : Type} : List (DataW H) → Nat
  | [] => 0
  | d :: r => uptoBulk d + uptoBulkAll r
def uptoBulkEntries {H : Type} : List (Lit × DataW H) → Nat
  | [] => 0
  | x :: r => uptoBulkEntry x + uptoBulkEntries r
def uptoBulkEntry {H : Type} : Lit × DataW H → Nat
  | (.string bytes, d) => bytes.length + uptoBulk d + 1
  | (_, d) => uptoBulk d + 1
 end
def uptoSmall : (H : Type) → List (DataW H) → Bool := fun _ ds => decide (uptoBulkAll ds ≤ 1048576)
def OpenSpec.upto (s : _root_.Go.ChangeSpec) : _root_.Go.OpenSpec := { _root_.Go.OpenSpec.ofChange s with cond := some uptoSmall }

/-- 'amberlaw04.DiskArmed', WHERE WHAT IT READS IS OF BULK AT MOST 1048576: true; the input reads as it did. -/
def diskArmedUptoRow : OpenClaim := { program := "ytpkleblggehghaa", sum := "646fe2ac5882c2ba573ecf9a90746682c29d88b5aa3d437bbe6a6d6b0ffa5537", func := "amber/amberlaw04.DiskArmed", spec := "diskArmed", unfollowed := true, recurses := true, apart := false, narrowed := true }
def DiskArmedUptoSaid : Prop := diskArmedUptoRow.holds Try.pinned (OpenSpec.upto diskArmedSpec)

/-- 'amberlaw04.DiskStays', WHERE WHAT IT READS IS OF BULK AT MOST 1048576: true; the input reads as it did. -/
def diskStaysUptoRow : OpenClaim := { program := "ytpkleblggehghaa", sum := "646fe2ac5882c2ba573ecf9a90746682c29d88b5aa3d437bbe6a6d6b0ffa5537", func := "amber/amberlaw04.DiskStays", spec := "diskStays", unfollowed := true, recurses := true, apart := false, narrowed := true }
def DiskStaysUptoSaid : Prop := diskStaysUptoRow.holds Try.pinned (OpenSpec.upto diskStaysSpec)

/-- 'amberlaw04.DiskEdits', WHERE WHAT IT READS IS OF BULK AT MOST 1048576: true; the input reads as it did. -/
def diskEditsUptoRow : OpenClaim := { program := "ytpkleblggehghaa", sum := "646fe2ac5882c2ba573ecf9a90746682c29d88b5aa3d437bbe6a6d6b0ffa5537", func := "amber/amberlaw04.DiskEdits", spec := "diskEdits", unfollowed := true, recurses := true, apart := false, narrowed := true }
def DiskEditsUptoSaid : Prop := diskEditsUptoRow.holds Try.pinned (OpenSpec.upto diskEditsSpec)

/-- 'amberlaw04.DiskLeaves', WHERE WHAT IT READS IS OF BULK AT MOST 1048576: true; the input reads as it did. -/
def diskLeavesUptoRow : OpenClaim := { program := "ytpkleblggehghaa", sum := "646fe2ac5882c2ba573ecf9a90746682c29d88b5aa3d437bbe6a6d6b0ffa5537", func := "amber/amberlaw04.DiskLeaves", spec := "diskLeaves", unfollowed := true, recurses := true, apart := false, narrowed := true }
def DiskLeavesUptoSaid : Prop := diskLeavesUptoRow.holds Try.pinned (OpenSpec.upto diskLeavesSpec)

/-- 'amberlaw04.DiskKeeps', WHERE WHAT IT READS IS OF BULK AT MOST 1048576: true; the input reads as it did. -/
def diskKeepsUptoRow : OpenClaim := { program := "ytpkleblggehghaa", sum := "646fe2ac5882c2ba573ecf9a90746682c29d88b5aa3d437bbe6a6d6b0ffa5537", func := "amber/amberlaw04.DiskKeeps", spec := "diskKeeps", unfollowed := true, recurses := true, apart := false, narrowed := true }
def DiskKeepsUptoSaid : Prop := diskKeepsUptoRow.holds Try.pinned (OpenSpec.upto diskKeepsSpec)

/-- 'amberlaw04.DiskApart', WHERE WHAT IT READS IS OF BULK AT MOST 1048576: true; the input reads as it did. -/
def diskApartUptoRow : OpenClaim := { program := "ytpkleblggehghaa", sum := "646fe2ac5882c2ba573ecf9a90746682c29d88b5aa3d437bbe6a6d6b0ffa5537", func := "amber/amberlaw04.DiskApart", spec := "diskApart", unfollowed := true, recurses := true, apart := false, narrowed := true }
def DiskApartUptoSaid : Prop := diskApartUptoRow.holds Try.pinned (OpenSpec.upto diskApartSpec)

/-- 'amberlaw04.DiskPlays', WHERE WHAT IT READS IS OF BULK AT MOST 1048576: true; the input reads as it did. -/
def diskPlaysUptoRow : OpenClaim := { program := "ytpkleblggehghaa", sum := "646fe2ac5882c2ba573ecf9a90746682c29d88b5aa3d437bbe6a6d6b0ffa5537", func := "amber/amberlaw04.DiskPlays", spec := "diskPlays", unfollowed := true, recurses := true, apart := false, narrowed := true }
def DiskPlaysUptoSaid : Prop := diskPlaysUptoRow.holds Try.pinned (OpenSpec.upto diskPlaysSpec)

/-- 'amberlaw04.DiskCarried', WHERE WHAT IT READS IS OF BULK AT MOST 1048576: true; the input reads as it did. -/
def diskCarriedUptoRow : OpenClaim := { program := "ytpkleblggehghaa", sum := "646fe2ac5882c2ba573ecf9a90746682c29d88b5aa3d437bbe6a6d6b0ffa5537", func := "amber/amberlaw04.DiskCarried", spec := "diskCarried", unfollowed := true, recurses := true, apart := false, narrowed := true }
def DiskCarriedUptoSaid : Prop := diskCarriedUptoRow.holds Try.pinned (OpenSpec.upto diskCarriedSpec)

end Rows
end Go.Proofs.Ytpkleblggehghaa
