/-
  NARROWER THAN 'FOR EVERY INPUT', by the rows' own cells (each row's printed sentence says how): CapsPassOn: laid · CapsAreSound: laid · CapsNeverGrow: laid · CapsRevokeAll: laid · CapsKeepApart: laid · CapsAddUp: laid · CapsPlays: laid.
  DERIVED. THE GIVEN ROWS OF THIS SEAT. 7 by the template 'for every input the law returns true; each argument reads behind the call as it read before'; 0 by the template 'total and deterministic' (their statements: YthpkgkoojhgedaaDoorTotals.lean).
  GIVEN WITH THE SEED: the statements are not yours to turn. If you find one false, say at which input.
  Laid BY PROGRAM, IN A SANDBOX (cutbox-rows.mjs): the forced cells as the released guide's own fill.sh prints them over the translation fcfee2398a226ce9… (all of the seat's roots in one cut). By AI agents, Wed Nov 11 2026. No macro, syntax, notation, axiom, sorry.
-/
import Derived.Test.YthpkgkoojhgedaaDoorChecked
import GoSem.Claim
import GoSem.ClaimJoined
import GoSem.ClaimMapViews
import Derived.JoinedTies
import Derived.KernelRfl
namespace Go.Proofs.YthpkgkoojhgedaaDoor
/- THE CELL 'sum', in the pinned program and in every row, IS THE sha256 OF THE DUMP (.gsa) THAT YthpkgkoojhgedaaDoorProg.lean LOADS. Nothing in Lean hashes anything: it is a label: what it is worth is what the hold of that sum in a sandbox is worth. -/
noncomputable def Tryd.pinned : Pinned := { name := "ythpkgkoojhgedaadoor", sum := "fcfee2398a226ce979297536b8e39c5cfa61a88268aa4e3150e0113d0375174e", checked := Tryd.checked }
namespace Rows
def none {H : Type} : Left H := { results := [], args := [] }

/- WHAT THE LISTED PACKAGE-LEVEL VARIABLES READ AS WHEN THE CALL BEGINS. Each datum BY PROGRAM (the guide's laid-datum.mjs) off the statement by which the dump's own 'gosem.cut.vars' lays the variable. In a bare row this is a premise. The card (YthpkgkoojhgedaaDoorCards.lean) ties it to the program's text. -/
def laid_amber_caps_none {H : Type} : DataW H := .agg [.lit (.int .i64 (-1)), .lit (.int .i64 (-1))]

/-- 'amberlaw08.CapsPassOn': WHATEVER THE INPUT: true; the input reads as it did. -/
def capsPassOnSpec : ChangeSpec := { name := "capsPassOn", fn := fun _ => fun
  | [d1, d2] => { results := [.lit (.bool true)], args := [d1, d2] }
  | _ => none }
def capsPassOnRow : OpenClaim := { program := "ythpkgkoojhgedaadoor", sum := "fcfee2398a226ce979297536b8e39c5cfa61a88268aa4e3150e0113d0375174e", func := "amber/amberlaw08.CapsPassOn", spec := "capsPassOn", named := ["amber/caps.none"], apart := false, laid := [("amber/caps.none", laid_amber_caps_none)] }
def CapsPassOnSaid : Prop := capsPassOnRow.holds Tryd.pinned (OpenSpec.ofChange capsPassOnSpec)

/-- ITS FALSE NEIGHBOUR: 'it returns false'. Refute it at one input. -/
def capsPassOnWrong : ChangeSpec := { name := "capsPassOn", fn := fun _ => fun
  | [d1, d2] => { results := [.lit (.bool false)], args := [d1, d2] }
  | _ => none }
def CapsPassOnWrongFalsely : Prop := capsPassOnRow.holds Tryd.pinned (OpenSpec.ofChange capsPassOnWrong)

/-- 'amberlaw08.CapsAreSound': WHATEVER THE INPUT: true; the input reads as it did. -/
def capsAreSoundSpec : ChangeSpec := { name := "capsAreSound", fn := fun _ => fun
  | [d] => { results := [.lit (.bool true)], args := [d] }
  | _ => none }
def capsAreSoundRow : OpenClaim := { program := "ythpkgkoojhgedaadoor", sum := "fcfee2398a226ce979297536b8e39c5cfa61a88268aa4e3150e0113d0375174e", func := "amber/amberlaw08.CapsAreSound", spec := "capsAreSound", unfollowed := true, recurses := true, named := ["amber/caps.none"], apart := false, laid := [("amber/caps.none", laid_amber_caps_none)] }
def CapsAreSoundSaid : Prop := capsAreSoundRow.holds Tryd.pinned (OpenSpec.ofChange capsAreSoundSpec)

/-- ITS FALSE NEIGHBOUR: 'it returns false'. Refute it at one input. -/
def capsAreSoundWrong : ChangeSpec := { name := "capsAreSound", fn := fun _ => fun
  | [d] => { results := [.lit (.bool false)], args := [d] }
  | _ => none }
def CapsAreSoundWrongFalsely : Prop := capsAreSoundRow.holds Tryd.pinned (OpenSpec.ofChange capsAreSoundWrong)

/-- 'amberlaw08.CapsNeverGrow': WHATEVER THE INPUT: true; the input reads as it did. -/
def capsNeverGrowSpec : ChangeSpec := { name := "capsNeverGrow", fn := fun _ => fun
  | [d1, d2] => { results := [.lit (.bool true)], args := [d1, d2] }
  | _ => none }
def capsNeverGrowRow : OpenClaim := { program := "ythpkgkoojhgedaadoor", sum := "fcfee2398a226ce979297536b8e39c5cfa61a88268aa4e3150e0113d0375174e", func := "amber/amberlaw08.CapsNeverGrow", spec := "capsNeverGrow", unfollowed := true, recurses := true, named := ["amber/caps.none"], apart := false, laid := [("amber/caps.none", laid_amber_caps_none)] }
def CapsNeverGrowSaid : Prop := capsNeverGrowRow.holds Tryd.pinned (OpenSpec.ofChange capsNeverGrowSpec)

/-- ITS FALSE NEIGHBOUR: 'it returns false'. Refute it at one input. -/
def capsNeverGrowWrong : ChangeSpec := { name := "capsNeverGrow", fn := fun _ => fun
  | [d1, d2] => { results := [.lit (.bool false)], args := [d1, d2] }
  | _ => none }
def CapsNeverGrowWrongFalsely : Prop := capsNeverGrowRow.holds Tryd.pinned (OpenSpec.ofChange capsNeverGrowWrong)

/-- 'amberlaw08.CapsRevokeAll': WHATEVER THE INPUT: true; the input reads as it did. -/
def capsRevokeAllSpec : ChangeSpec := { name := "capsRevokeAll", fn := fun _ => fun
  | [d1, d2] => { results := [.lit (.bool true)], args := [d1, d2] }
  | _ => none }
def capsRevokeAllRow : OpenClaim := { program := "ythpkgkoojhgedaadoor", sum := "fcfee2398a226ce979297536b8e39c5cfa61a88268aa4e3150e0113d0375174e", func := "amber/amberlaw08.CapsRevokeAll", spec := "capsRevokeAll", unfollowed := true, recurses := true, named := ["amber/caps.none"], apart := false, laid := [("amber/caps.none", laid_amber_caps_none)] }
def CapsRevokeAllSaid : Prop := capsRevokeAllRow.holds Tryd.pinned (OpenSpec.ofChange capsRevokeAllSpec)

/-- ITS FALSE NEIGHBOUR: 'it returns false'. Refute it at one input. -/
def capsRevokeAllWrong : ChangeSpec := { name := "capsRevokeAll", fn := fun _ => fun
  | [d1, d2] => { results := [.lit (.bool false)], args := [d1, d2] }
  | _ => none }
def CapsRevokeAllWrongFalsely : Prop := capsRevokeAllRow.holds Tryd.pinned (OpenSpec.ofChange capsRevokeAllWrong)

/-- 'amberlaw08.CapsKeepApart': WHATEVER THE INPUT: true; the input reads as it did. -/
def capsKeepApartSpec : ChangeSpec := { name := "capsKeepApart", fn := fun _ => fun
  | [d] => { results := [.lit (.bool true)], args := [d] }
  | _ => none }
def capsKeepApartRow : OpenClaim := { program := "ythpkgkoojhgedaadoor", sum := "fcfee2398a226ce979297536b8e39c5cfa61a88268aa4e3150e0113d0375174e", func := "amber/amberlaw08.CapsKeepApart", spec := "capsKeepApart", unfollowed := true, recurses := true, named := ["amber/caps.none"], apart := false, laid := [("amber/caps.none", laid_amber_caps_none)] }
def CapsKeepApartSaid : Prop := capsKeepApartRow.holds Tryd.pinned (OpenSpec.ofChange capsKeepApartSpec)

/-- ITS FALSE NEIGHBOUR: 'it returns false'. Refute it at one input. -/
def capsKeepApartWrong : ChangeSpec := { name := "capsKeepApart", fn := fun _ => fun
  | [d] => { results := [.lit (.bool false)], args := [d] }
  | _ => none }
def CapsKeepApartWrongFalsely : Prop := capsKeepApartRow.holds Tryd.pinned (OpenSpec.ofChange capsKeepApartWrong)

/-- 'amberlaw08.CapsAddUp': WHATEVER THE INPUT: true; the input reads as it did. -/
def capsAddUpSpec : ChangeSpec := { name := "capsAddUp", fn := fun _ => fun
  | [d] => { results := [.lit (.bool true)], args := [d] }
  | _ => none }
def capsAddUpRow : OpenClaim := { program := "ythpkgkoojhgedaadoor", sum := "fcfee2398a226ce979297536b8e39c5cfa61a88268aa4e3150e0113d0375174e", func := "amber/amberlaw08.CapsAddUp", spec := "capsAddUp", unfollowed := true, recurses := true, named := ["amber/caps.none"], apart := false, laid := [("amber/caps.none", laid_amber_caps_none)] }
def CapsAddUpSaid : Prop := capsAddUpRow.holds Tryd.pinned (OpenSpec.ofChange capsAddUpSpec)

/-- ITS FALSE NEIGHBOUR: 'it returns false'. Refute it at one input. -/
def capsAddUpWrong : ChangeSpec := { name := "capsAddUp", fn := fun _ => fun
  | [d] => { results := [.lit (.bool false)], args := [d] }
  | _ => none }
def CapsAddUpWrongFalsely : Prop := capsAddUpRow.holds Tryd.pinned (OpenSpec.ofChange capsAddUpWrong)

/-- 'amberlaw08.CapsPlays': WHATEVER THE INPUT: true; the input reads as it did. -/
def capsPlaysSpec : ChangeSpec := { name := "capsPlays", fn := fun _ => fun
  | [d] => { results := [.lit (.bool true)], args := [d] }
  | _ => none }
def capsPlaysRow : OpenClaim := { program := "ythpkgkoojhgedaadoor", sum := "fcfee2398a226ce979297536b8e39c5cfa61a88268aa4e3150e0113d0375174e", func := "amber/amberlaw08.CapsPlays", spec := "capsPlays", unfollowed := true, recurses := true, named := ["amber/caps.none"], apart := false, laid := [("amber/caps.none", laid_amber_caps_none)] }
def CapsPlaysSaid : Prop := capsPlaysRow.holds Tryd.pinned (OpenSpec.ofChange capsPlaysSpec)

/-- ITS FALSE NEIGHBOUR: 'it returns false'. Refute it at one input. -/
def capsPlaysWrong : ChangeSpec := { name := "capsPlays", fn := fun _ => fun
  | [d] => { results := [.lit (.bool false)], args := [d] }
  | _ => none }
def CapsPlaysWrongFalsely : Prop := capsPlaysRow.holds Tryd.pinned (OpenSpec.ofChange capsPlaysWrong)

/- THE SECOND FORM. 'bulk': how many values and letters a reading holds, each counted each time it is reached (what is shared counts as often as it is met; a slice's spare places count too). A statement '..UptoSaid' is the law's where the arguments, and the package variables that the reading takes, are together of bulk at most 1048576: NARROWER than '..Said'. Prove '..Said' where nothing that the law and all that it calls make is longer than what came in: it says more and counts as full. Else prove '..UptoSaid'. A law counts once. -/
mutual
def uptoBulk {H : Type} : DataW H → Nat
  | .lit (.string bytes) => bytes.length + 1
  | .lit _ => 1
  | .nil => 1
  | .ptr d => uptoBulk d + 1
  | .slice elems spare => uptoBulkAll elems + uptoBulkAll spare + 1
  | .agg parts => uptoBulkAll parts + 1
  | .iface _ d => uptoBulk d + 1
  | .map entries => uptoBulkEntries entries + 1
  | .held _ => 1
def uptoBulkAll {H : Type} : List (DataW H) → Nat
  | [] => 0
  | d :: r => uptoBulk d + uptoBulkAll r
def uptoBulkEntries {H : Type} : List (Lit × DataW H) → Nat
  | [] => 0
  | x :: r => uptoBulkEntry x + uptoBulkEntries r
def uptoBulkEntry {H : Type} : Lit × DataW H → Nat
  | (.string bytes, d) => bytes.length + uptoBulk d + 1
  | (_, d) => uptoBulk d + 1
 end
def uptoSmall : (H : Type) → List (DataW H) → Bool := fun _ ds => decide (uptoBulkAll ds ≤ 1048576)
def OpenSpec.upto (s : _root_.Go.ChangeSpec) : _root_.Go.OpenSpec := { _root_.Go.OpenSpec.ofChange s with cond := some uptoSmall }

/-- 'amberlaw08.CapsPassOn', WHERE WHAT IT READS IS OF BULK AT MOST 1048576: true; the input reads as it did. -/
def capsPassOnUptoRow : OpenClaim := { program := "ythpkgkoojhgedaadoor", sum := "fcfee2398a226ce979297536b8e39c5cfa61a88268aa4e3150e0113d0375174e", func := "amber/amberlaw08.CapsPassOn", spec := "capsPassOn", named := ["amber/caps.none"], apart := false, laid := [("amber/caps.none", laid_amber_caps_none)], narrowed := true }
def CapsPassOnUptoSaid : Prop := capsPassOnUptoRow.holds Tryd.pinned (OpenSpec.upto capsPassOnSpec)

/-- 'amberlaw08.CapsAreSound', WHERE WHAT IT READS IS OF BULK AT MOST 1048576: true; the input reads as it did. -/
def capsAreSoundUptoRow : OpenClaim := { program := "ythpkgkoojhgedaadoor", sum := "fcfee2398a226ce979297536b8e39c5cfa61a88268aa4e3150e0113d0375174e", func := "amber/amberlaw08.CapsAreSound", spec := "capsAreSound", unfollowed := true, recurses := true, named := ["amber/caps.none"], apart := false, laid := [("amber/caps.none", laid_amber_caps_none)], narrowed := true }
def CapsAreSoundUptoSaid : Prop := capsAreSoundUptoRow.holds Tryd.pinned (OpenSpec.upto capsAreSoundSpec)

/-- 'amberlaw08.CapsNeverGrow', WHERE WHAT IT READS IS OF BULK AT MOST 1048576: true; the input reads as it did. -/
def capsNeverGrowUptoRow : OpenClaim := { program := "ythpkgkoojhgedaadoor", sum := "fcfee2398a226ce979297536b8e39c5cfa61a88268aa4e3150e0113d0375174e", func := "amber/amberlaw08.CapsNeverGrow", spec := "capsNeverGrow", unfollowed := true, recurses := true, named := ["amber/caps.none"], apart := false, laid := [("amber/caps.none", laid_amber_caps_none)], narrowed := true }
def CapsNeverGrowUptoSaid : Prop := capsNeverGrowUptoRow.holds Tryd.pinned (OpenSpec.upto capsNeverGrowSpec)

/-- 'amberlaw08.CapsRevokeAll', WHERE WHAT IT READS IS OF BULK AT MOST 1048576: true; the input reads as it did. -/
def capsRevokeAllUptoRow : OpenClaim := { program := "ythpkgkoojhgedaadoor", sum := "fcfee2398a226ce979297536b8e39c5cfa61a88268aa4e3150e0113d0375174e", func := "amber/amberlaw08.CapsRevokeAll", spec := "capsRevokeAll", unfollowed := true, recurses := true, named := ["amber/caps.none"], apart := false, laid := [("amber/caps.none", laid_amber_caps_none)], narrowed := true }
def CapsRevokeAllUptoSaid : Prop := capsRevokeAllUptoRow.holds Tryd.pinned (OpenSpec.upto capsRevokeAllSpec)

/-- 'amberlaw08.CapsKeepApart', WHERE WHAT IT READS IS OF BULK AT MOST 1048576: true; the input reads as it did. -/
def capsKeepApartUptoRow : OpenClaim := { program := "ythpkgkoojhgedaadoor", sum := "fcfee2398a226ce979297536b8e39c5cfa61a88268aa4e3150e0113d0375174e", func := "amber/amberlaw08.CapsKeepApart", spec := "capsKeepApart", unfollowed := true, recurses := true, named := ["amber/caps.none"], apart := false, laid := [("amber/caps.none", laid_amber_caps_none)], narrowed := true }
def CapsKeepApartUptoSaid : Prop := capsKeepApartUptoRow.holds Tryd.pinned (OpenSpec.upto capsKeepApartSpec)

/-- 'amberlaw08.CapsAddUp', WHERE WHAT IT READS IS OF BULK AT MOST 1048576: true; the input reads as it did. -/
def capsAddUpUptoRow : OpenClaim := { program := "ythpkgkoojhgedaadoor", sum := "fcfee2398a226ce979297536b8e39c5cfa61a88268aa4e3150e0113d0375174e", func := "amber/amberlaw08.CapsAddUp", spec := "capsAddUp", unfollowed := true, recurses := true, named := ["amber/caps.none"], apart := false, laid := [("amber/caps.none", laid_amber_caps_none)], narrowed := true }
def CapsAddUpUptoSaid : Prop := capsAddUpUptoRow.holds Tryd.pinned (OpenSpec.upto capsAddUpSpec)

/-- 'amberlaw08.CapsPlays', WHERE WHAT IT READS IS OF BULK AT MOST 1048576: true; the input reads as it did. -/
def capsPlaysUptoRow : OpenClaim := { program := "ythpkgkoojhgedaadoor", sum := "fcfee2398a226ce979297536b8e39c5cfa61a88268aa4e3150e0113d0375174e", func := "amber/amberlaw08.CapsPlays", spec := "capsPlays", unfollowed := true, recurses := true, named := ["amber/caps.none"], apart := false, laid := [("amber/caps.none", laid_amber_caps_none)], narrowed := true }
def CapsPlaysUptoSaid : Prop := capsPlaysUptoRow.holds Tryd.pinned (OpenSpec.upto capsPlaysSpec)

end Rows
end Go.Proofs.YthpkgkoojhgedaaDoor
