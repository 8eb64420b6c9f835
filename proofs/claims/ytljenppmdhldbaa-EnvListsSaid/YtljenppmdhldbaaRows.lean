/-
  No cell of these rows narrows 'for every input' (looked for: loops, veiled, ifaces, maps, wideKeys, modest, calm, conditions, laid).
  DERIVED. THE GIVEN ROWS OF THIS SEAT. 10 by the template 'for every input the law returns true; each argument reads behind the call as it read before'; 0 by the template 'total and deterministic' (their statements: YtljenppmdhldbaaTotals.lean).
  GIVEN WITH THE SEED: the statements are not yours to turn. If you find one false, say at which input.
  Laid BY PROGRAM, IN A SANDBOX (cutbox-rows.mjs): the forced cells as the released guide's own fill.sh prints them over the translation 62a62fcee6d56c14… (all of the seat's roots in one cut). By AI agents, Wed Nov 11 2026. No macro, syntax, notation, axiom, sorry.
-/
import Derived.Test.YtljenppmdhldbaaChecked
import GoSem.Claim
import GoSem.ClaimJoined
import GoSem.ClaimMapViews
import Derived.JoinedTies
import Derived.KernelRfl
namespace Go.Proofs.Ytljenppmdhldbaa
/- THE CELL 'sum', in the pinned program and in every row, IS THE sha256 OF THE DUMP (.gsa) THAT YtljenppmdhldbaaProg.lean LOADS. Nothing in Lean hashes anything: it is a label: what it is worth is what the hold of that sum in a sandbox is worth. -/
noncomputable def Try.pinned : Pinned := { name := "ytljenppmdhldbaa", sum := "62a62fcee6d56c14a0298c31a1325f751b86cf60331d6407ee08cd133f0688b8", checked := Try.checked }
namespace Rows
def none {H : Type} : Left H := { results := [], args := [] }

/-- 'amberlaw09.EnvNotices': WHATEVER THE INPUT: true; the input reads as it did. -/
def envNoticesSpec : ChangeSpec := { name := "envNotices", fn := fun _ => fun
  | [d] => { results := [.lit (.bool true)], args := [d] }
  | _ => none }
def envNoticesRow : OpenClaim := { program := "ytljenppmdhldbaa", sum := "62a62fcee6d56c14a0298c31a1325f751b86cf60331d6407ee08cd133f0688b8", func := "amber/amberlaw09.EnvNotices", spec := "envNotices", apart := false }
def EnvNoticesSaid : Prop := envNoticesRow.holds Try.pinned (OpenSpec.ofChange envNoticesSpec)

/-- ITS FALSE NEIGHBOUR: 'it returns false'. Refute it at one input. -/
def envNoticesWrong : ChangeSpec := { name := "envNotices", fn := fun _ => fun
  | [d] => { results := [.lit (.bool false)], args := [d] }
  | _ => none }
def EnvNoticesWrongFalsely : Prop := envNoticesRow.holds Try.pinned (OpenSpec.ofChange envNoticesWrong)

/-- 'amberlaw09.EnvRoom': WHATEVER THE INPUT: true; the input reads as it did. -/
def envRoomSpec : ChangeSpec := { name := "envRoom", fn := fun _ => fun
  | [d1, d2, d3, d4] => { results := [.lit (.bool true)], args := [d1, d2, d3, d4] }
  | _ => none }
def envRoomRow : OpenClaim := { program := "ytljenppmdhldbaa", sum := "62a62fcee6d56c14a0298c31a1325f751b86cf60331d6407ee08cd133f0688b8", func := "amber/amberlaw09.EnvRoom", spec := "envRoom", recurses := true, apart := false }
def EnvRoomSaid : Prop := envRoomRow.holds Try.pinned (OpenSpec.ofChange envRoomSpec)

/-- ITS FALSE NEIGHBOUR: 'it returns false'. Refute it at one input. -/
def envRoomWrong : ChangeSpec := { name := "envRoom", fn := fun _ => fun
  | [d1, d2, d3, d4] => { results := [.lit (.bool false)], args := [d1, d2, d3, d4] }
  | _ => none }
def EnvRoomWrongFalsely : Prop := envRoomRow.holds Try.pinned (OpenSpec.ofChange envRoomWrong)

/-- 'amberlaw09.EnvOthers': WHATEVER THE INPUT: true; the input reads as it did. -/
def envOthersSpec : ChangeSpec := { name := "envOthers", fn := fun _ => fun
  | [d] => { results := [.lit (.bool true)], args := [d] }
  | _ => none }
def envOthersRow : OpenClaim := { program := "ytljenppmdhldbaa", sum := "62a62fcee6d56c14a0298c31a1325f751b86cf60331d6407ee08cd133f0688b8", func := "amber/amberlaw09.EnvOthers", spec := "envOthers", recurses := true, apart := false }
def EnvOthersSaid : Prop := envOthersRow.holds Try.pinned (OpenSpec.ofChange envOthersSpec)

/-- ITS FALSE NEIGHBOUR: 'it returns false'. Refute it at one input. -/
def envOthersWrong : ChangeSpec := { name := "envOthers", fn := fun _ => fun
  | [d] => { results := [.lit (.bool false)], args := [d] }
  | _ => none }
def EnvOthersWrongFalsely : Prop := envOthersRow.holds Try.pinned (OpenSpec.ofChange envOthersWrong)

/-- 'amberlaw09.EnvWhole': WHATEVER THE INPUT: true; the input reads as it did. -/
def envWholeSpec : ChangeSpec := { name := "envWhole", fn := fun _ => fun
  | [d] => { results := [.lit (.bool true)], args := [d] }
  | _ => none }
def envWholeRow : OpenClaim := { program := "ytljenppmdhldbaa", sum := "62a62fcee6d56c14a0298c31a1325f751b86cf60331d6407ee08cd133f0688b8", func := "amber/amberlaw09.EnvWhole", spec := "envWhole", recurses := true, apart := false }
def EnvWholeSaid : Prop := envWholeRow.holds Try.pinned (OpenSpec.ofChange envWholeSpec)

/-- ITS FALSE NEIGHBOUR: 'it returns false'. Refute it at one input. -/
def envWholeWrong : ChangeSpec := { name := "envWhole", fn := fun _ => fun
  | [d] => { results := [.lit (.bool false)], args := [d] }
  | _ => none }
def EnvWholeWrongFalsely : Prop := envWholeRow.holds Try.pinned (OpenSpec.ofChange envWholeWrong)

/-- 'amberlaw09.EnvQuotas': WHATEVER THE INPUT: true; the input reads as it did. -/
def envQuotasSpec : ChangeSpec := { name := "envQuotas", fn := fun _ => fun
  | [d] => { results := [.lit (.bool true)], args := [d] }
  | _ => none }
def envQuotasRow : OpenClaim := { program := "ytljenppmdhldbaa", sum := "62a62fcee6d56c14a0298c31a1325f751b86cf60331d6407ee08cd133f0688b8", func := "amber/amberlaw09.EnvQuotas", spec := "envQuotas", recurses := true, apart := false }
def EnvQuotasSaid : Prop := envQuotasRow.holds Try.pinned (OpenSpec.ofChange envQuotasSpec)

/-- ITS FALSE NEIGHBOUR: 'it returns false'. Refute it at one input. -/
def envQuotasWrong : ChangeSpec := { name := "envQuotas", fn := fun _ => fun
  | [d] => { results := [.lit (.bool false)], args := [d] }
  | _ => none }
def EnvQuotasWrongFalsely : Prop := envQuotasRow.holds Try.pinned (OpenSpec.ofChange envQuotasWrong)

/-- 'amberlaw09.EnvFreezes': WHATEVER THE INPUT: true; the input reads as it did. -/
def envFreezesSpec : ChangeSpec := { name := "envFreezes", fn := fun _ => fun
  | [d1, d2] => { results := [.lit (.bool true)], args := [d1, d2] }
  | _ => none }
def envFreezesRow : OpenClaim := { program := "ytljenppmdhldbaa", sum := "62a62fcee6d56c14a0298c31a1325f751b86cf60331d6407ee08cd133f0688b8", func := "amber/amberlaw09.EnvFreezes", spec := "envFreezes", recurses := true, apart := false }
def EnvFreezesSaid : Prop := envFreezesRow.holds Try.pinned (OpenSpec.ofChange envFreezesSpec)

/-- ITS FALSE NEIGHBOUR: 'it returns false'. Refute it at one input. -/
def envFreezesWrong : ChangeSpec := { name := "envFreezes", fn := fun _ => fun
  | [d1, d2] => { results := [.lit (.bool false)], args := [d1, d2] }
  | _ => none }
def EnvFreezesWrongFalsely : Prop := envFreezesRow.holds Try.pinned (OpenSpec.ofChange envFreezesWrong)

/-- 'amberlaw09.EnvPays': WHATEVER THE INPUT: true; the input reads as it did. -/
def envPaysSpec : ChangeSpec := { name := "envPays", fn := fun _ => fun
  | [d1, d2, d3] => { results := [.lit (.bool true)], args := [d1, d2, d3] }
  | _ => none }
def envPaysRow : OpenClaim := { program := "ytljenppmdhldbaa", sum := "62a62fcee6d56c14a0298c31a1325f751b86cf60331d6407ee08cd133f0688b8", func := "amber/amberlaw09.EnvPays", spec := "envPays", unfollowed := true, recurses := true, apart := false }
def EnvPaysSaid : Prop := envPaysRow.holds Try.pinned (OpenSpec.ofChange envPaysSpec)

/-- ITS FALSE NEIGHBOUR: 'it returns false'. Refute it at one input. -/
def envPaysWrong : ChangeSpec := { name := "envPays", fn := fun _ => fun
  | [d1, d2, d3] => { results := [.lit (.bool false)], args := [d1, d2, d3] }
  | _ => none }
def EnvPaysWrongFalsely : Prop := envPaysRow.holds Try.pinned (OpenSpec.ofChange envPaysWrong)

/-- 'amberlaw09.EnvLists': WHATEVER THE INPUT: true; the input reads as it did. -/
def envListsSpec : ChangeSpec := { name := "envLists", fn := fun _ => fun
  | [d] => { results := [.lit (.bool true)], args := [d] }
  | _ => none }
def envListsRow : OpenClaim := { program := "ytljenppmdhldbaa", sum := "62a62fcee6d56c14a0298c31a1325f751b86cf60331d6407ee08cd133f0688b8", func := "amber/amberlaw09.EnvLists", spec := "envLists", unfollowed := true, recurses := true, apart := false }
def EnvListsSaid : Prop := envListsRow.holds Try.pinned (OpenSpec.ofChange envListsSpec)

/-- ITS FALSE NEIGHBOUR: 'it returns false'. Refute it at one input. -/
def envListsWrong : ChangeSpec := { name := "envLists", fn := fun _ => fun
  | [d] => { results := [.lit (.bool false)], args := [d] }
  | _ => none }
def EnvListsWrongFalsely : Prop := envListsRow.holds Try.pinned (OpenSpec.ofChange envListsWrong)

/-- 'amberlaw09.EnvTable': WHATEVER THE INPUT: true; the input reads as it did. -/
def envTableSpec : ChangeSpec := { name := "envTable", fn := fun _ => fun
  | [d] => { results := [.lit (.bool true)], args := [d] }
  | _ => none }
def envTableRow : OpenClaim := { program := "ytljenppmdhldbaa", sum := "62a62fcee6d56c14a0298c31a1325f751b86cf60331d6407ee08cd133f0688b8", func := "amber/amberlaw09.EnvTable", spec := "envTable", unfollowed := true, recurses := true, apart := false }
def EnvTableSaid : Prop := envTableRow.holds Try.pinned (OpenSpec.ofChange envTableSpec)

/-- ITS FALSE NEIGHBOUR: 'it returns false'. Refute it at one input. -/
def envTableWrong : ChangeSpec := { name := "envTable", fn := fun _ => fun
  | [d] => { results := [.lit (.bool false)], args := [d] }
  | _ => none }
def EnvTableWrongFalsely : Prop := envTableRow.holds Try.pinned (OpenSpec.ofChange envTableWrong)

/-- 'amberlaw09.EnvTree': WHATEVER THE INPUT: true; the input reads as it did. -/
def envTreeSpec : ChangeSpec := { name := "envTree", fn := fun _ => fun
  | [d] => { results := [.lit (.bool true)], args := [d] }
  | _ => none }
def envTreeRow : OpenClaim := { program := "ytljenppmdhldbaa", sum := "62a62fcee6d56c14a0298c31a1325f751b86cf60331d6407ee08cd133f0688b8", func := "amber/amberlaw09.EnvTree", spec := "envTree", unfollowed := true, recurses := true, apart := false }
def EnvTreeSaid : Prop := envTreeRow.holds Try.pinned (OpenSpec.ofChange envTreeSpec)

/-- ITS FALSE NEIGHBOUR: 'it returns false'. Refute it at one input. -/
def envTreeWrong : ChangeSpec := { name := "envTree", fn := fun _ => fun
  | [d] => { results := [.lit (.bool false)], args := [d] }
  | _ => none }
def EnvTreeWrongFalsely : Prop := envTreeRow.holds Try.pinned (OpenSpec.ofChange envTreeWrong)

/- THE SECOND FORM. 'bulk': how many values and letters a reading holds, each counted each time it is reached (what is shared counts as often as it is met; a slice's spare places count too). A statement '..UptoSaid' is the law's where the arguments, and the package variables that the reading takes, are together of bulk at most 1048576: NARROWER than '..Said'. Prove '..Said' where nothing that the law and all that it calls make is longer than what came in: it says more and counts as full. Else prove '..UptoSaid'. A law counts once. -/
mutual
def uptoBulk {H : Type} : DataW H → Nat
  | .lit (.string bytes) => bytes.length + 1
  | .lit _ => 1
  | .nil => 1
  | .ptr d => uptoBulk d + 1
  | .slice elems spare => uptoBulkAll elems + uptoBulkAll spare + 1
  | .agg parts => uptoBulkAll parts + 1
  | .iface _ d => uptoBulk d + 1
  | .map entries => uptoBulkEntries entries + 1
  | .held _ => 1
def uptoBulkAll {H : Type} : List (DataW H) → Nat
  | [] => 0
  | d :: r => uptoBulk d + uptoBulkAll r
def uptoBulkEntries {H : Type} : List (Lit × DataW H) → Nat
  | [] => 0
  | x :: r => uptoBulkEntry x + uptoBulkEntries r
def uptoBulkEntry {H : Type} : Lit × DataW H → Nat
  | (.string bytes, d) => bytes.length + uptoBulk d + 1
  | (_, d) => uptoBulk d + 1
 end
def uptoSmall : (H : Type) → List (DataW H) → Bool := fun _ ds => decide (uptoBulkAll ds ≤ 1048576)
def OpenSpec.upto (s : _root_.Go.ChangeSpec) : _root_.Go.OpenSpec := { _root_.Go.OpenSpec.ofChange s with cond := some uptoSmall }

/-- 'amberlaw09.EnvNotices', WHERE WHAT IT READS IS OF BULK AT MOST 1048576: true; the input reads as it did. -/
def envNoticesUptoRow : OpenClaim := { program := "ytljenppmdhldbaa", sum := "62a62fcee6d56c14a0298c31a1325f751b86cf60331d6407ee08cd133f0688b8", func := "amber/amberlaw09.EnvNotices", spec := "envNotices", apart := false, narrowed := true }
def EnvNoticesUptoSaid : Prop := envNoticesUptoRow.holds Try.pinned (OpenSpec.upto envNoticesSpec)

/-- 'amberlaw09.EnvRoom', WHERE WHAT IT READS IS OF BULK AT MOST 1048576: true; the input reads as it did. -/
def envRoomUptoRow : OpenClaim := { program := "ytljenppmdhldbaa", sum := "62a62fcee6d56c14a0298c31a1325f751b86cf60331d6407ee08cd133f0688b8", func := "amber/amberlaw09.EnvRoom", spec := "envRoom", recurses := true, apart := false, narrowed := true }
def EnvRoomUptoSaid : Prop := envRoomUptoRow.holds Try.pinned (OpenSpec.upto envRoomSpec)

/-- 'amberlaw09.EnvOthers', WHERE WHAT IT READS IS OF BULK AT MOST 1048576: true; the input reads as it did. -/
def envOthersUptoRow : OpenClaim := { program := "ytljenppmdhldbaa", sum := "62a62fcee6d56c14a0298c31a1325f751b86cf60331d6407ee08cd133f0688b8", func := "amber/amberlaw09.EnvOthers", spec := "envOthers", recurses := true, apart := false, narrowed := true }
def EnvOthersUptoSaid : Prop := envOthersUptoRow.holds Try.pinned (OpenSpec.upto envOthersSpec)

/-- 'amberlaw09.EnvWhole', WHERE WHAT IT READS IS OF BULK AT MOST 1048576: true; the input reads as it did. -/
def envWholeUptoRow : OpenClaim := { program := "ytljenppmdhldbaa", sum := "62a62fcee6d56c14a0298c31a1325f751b86cf60331d6407ee08cd133f0688b8", func := "amber/amberlaw09.EnvWhole", spec := "envWhole", recurses := true, apart := false, narrowed := true }
def EnvWholeUptoSaid : Prop := envWholeUptoRow.holds Try.pinned (OpenSpec.upto envWholeSpec)

/-- 'amberlaw09.EnvQuotas', WHERE WHAT IT READS IS OF BULK AT MOST 1048576: true; the input reads as it did. -/
def envQuotasUptoRow : OpenClaim := { program := "ytljenppmdhldbaa", sum := "62a62fcee6d56c14a0298c31a1325f751b86cf60331d6407ee08cd133f0688b8", func := "amber/amberlaw09.EnvQuotas", spec := "envQuotas", recurses := true, apart := false, narrowed := true }
def EnvQuotasUptoSaid : Prop := envQuotasUptoRow.holds Try.pinned (OpenSpec.upto envQuotasSpec)

/-- 'amberlaw09.EnvFreezes', WHERE WHAT IT READS IS OF BULK AT MOST 1048576: true; the input reads as it did. -/
def envFreezesUptoRow : OpenClaim := { program := "ytljenppmdhldbaa", sum := "62a62fcee6d56c14a0298c31a1325f751b86cf60331d6407ee08cd133f0688b8", func := "amber/amberlaw09.EnvFreezes", spec := "envFreezes", recurses := true, apart := false, narrowed := true }
def EnvFreezesUptoSaid : Prop := envFreezesUptoRow.holds Try.pinned (OpenSpec.upto envFreezesSpec)

/-- 'amberlaw09.EnvPays', WHERE WHAT IT READS IS OF BULK AT MOST 1048576: true; the input reads as it did. -/
def envPaysUptoRow : OpenClaim := { program := "ytljenppmdhldbaa", sum := "62a62fcee6d56c14a0298c31a1325f751b86cf60331d6407ee08cd133f0688b8", func := "amber/amberlaw09.EnvPays", spec := "envPays", unfollowed := true, recurses := true, apart := false, narrowed := true }
def EnvPaysUptoSaid : Prop := envPaysUptoRow.holds Try.pinned (OpenSpec.upto envPaysSpec)

/-- 'amberlaw09.EnvLists', WHERE WHAT IT READS IS OF BULK AT MOST 1048576: true; the input reads as it did. -/
def envListsUptoRow : OpenClaim := { program := "ytljenppmdhldbaa", sum := "62a62fcee6d56c14a0298c31a1325f751b86cf60331d6407ee08cd133f0688b8", func := "amber/amberlaw09.EnvLists", spec := "envLists", unfollowed := true, recurses := true, apart := false, narrowed := true }
def EnvListsUptoSaid : Prop := envListsUptoRow.holds Try.pinned (OpenSpec.upto envListsSpec)

/-- 'amberlaw09.EnvTable', WHERE WHAT IT READS IS OF BULK AT MOST 1048576: true; the input reads as it did. -/
def envTableUptoRow : OpenClaim := { program := "ytljenppmdhldbaa", sum := "62a62fcee6d56c14a0298c31a1325f751b86cf60331d6407ee08cd133f0688b8", func := "amber/amberlaw09.EnvTable", spec := "envTable", unfollowed := true, recurses := true, apart := false, narrowed := true }
def EnvTableUptoSaid : Prop := envTableUptoRow.holds Try.pinned (OpenSpec.upto envTableSpec)

/-- 'amberlaw09.EnvTree', WHERE WHAT IT READS IS OF BULK AT MOST 1048576: true; the input reads as it did. -/
def envTreeUptoRow : OpenClaim := { program := "ytljenppmdhldbaa", sum := "62a62fcee6d56c14a0298c31a1325f751b86cf60331d6407ee08cd133f0688b8", func := "amber/amberlaw09.EnvTree", spec := "envTree", unfollowed := true, recurses := true, apart := false, narrowed := true }
def EnvTreeUptoSaid : Prop := envTreeUptoRow.holds Try.pinned (OpenSpec.upto envTreeSpec)

end Rows
end Go.Proofs.Ytljenppmdhldbaa
