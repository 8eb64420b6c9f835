/-
  DERIVED. GIVEN WITH THE SEED: THE CARDS: each row of YthpkgkoojhgedaaDoorRows.lean that lists a variable, with what it lists TIED to the program's text (the seventh form; the later family's looks); each row that meets fmt, with fmt's text TOLD by the authors' own Lean function (tested against real Go, not proved from fmt's source: count such statements apart). THE CARD IS WHAT COUNTS. Prove the row's statement (the work); the ties are given (YthpkgkoojhgedaaDoorTie.lean); close each card by the builder's one call (the guide's Derived/Test/ToyasCard.lean, 'card_holds'). Laid BY PROGRAM, IN A SANDBOX (cutbox-door.mjs). By AI agents, Wed Nov 11 2026. No macro, syntax, notation, axiom, sorry.
-/
import Derived.Test.YthpkgkoojhgedaaDoorRows
import GoSem.ClaimSeven
namespace Go.Proofs.YthpkgkoojhgedaaDoor
namespace Rows

/-- THE TIED CARD OF 'amberlaw08.CapsPassOn'. -/
def capsPassOnCard : Claim7 := { stood := { row := capsPassOnRow, standIns := [], harness := (true, "11f6b1cdf0721180caaf76025930529d393ac85d9d6f4f25e09f004af8891f63"), looks := false }, kinds := [], alts := [], laidByText := true, laidKinds := [.data], laidTests := true, laidLooks := .later }
def CapsPassOnCardSaid : Prop := Claim7.holds Tryd.pinned (.plain (OpenSpec.ofChange capsPassOnSpec)) capsPassOnCard

/-- THE TIED CARD OF 'amberlaw08.CapsAreSound'. -/
def capsAreSoundCard : Claim7 := { stood := { row := capsAreSoundRow, standIns := [], harness := (true, "11f6b1cdf0721180caaf76025930529d393ac85d9d6f4f25e09f004af8891f63"), looks := false }, kinds := [], alts := [], laidByText := true, laidKinds := [.data], laidTests := true, laidLooks := .later }
def CapsAreSoundCardSaid : Prop := Claim7.holds Tryd.pinned (.plain (OpenSpec.ofChange capsAreSoundSpec)) capsAreSoundCard

/-- THE TIED CARD OF 'amberlaw08.CapsNeverGrow'. -/
def capsNeverGrowCard : Claim7 := { stood := { row := capsNeverGrowRow, standIns := [], harness := (true, "11f6b1cdf0721180caaf76025930529d393ac85d9d6f4f25e09f004af8891f63"), looks := false }, kinds := [], alts := [], laidByText := true, laidKinds := [.data], laidTests := true, laidLooks := .later }
def CapsNeverGrowCardSaid : Prop := Claim7.holds Tryd.pinned (.plain (OpenSpec.ofChange capsNeverGrowSpec)) capsNeverGrowCard

/-- THE TIED CARD OF 'amberlaw08.CapsRevokeAll'. -/
def capsRevokeAllCard : Claim7 := { stood := { row := capsRevokeAllRow, standIns := [], harness := (true, "11f6b1cdf0721180caaf76025930529d393ac85d9d6f4f25e09f004af8891f63"), looks := false }, kinds := [], alts := [], laidByText := true, laidKinds := [.data], laidTests := true, laidLooks := .later }
def CapsRevokeAllCardSaid : Prop := Claim7.holds Tryd.pinned (.plain (OpenSpec.ofChange capsRevokeAllSpec)) capsRevokeAllCard

/-- THE TIED CARD OF 'amberlaw08.CapsKeepApart'. -/
def capsKeepApartCard : Claim7 := { stood := { row := capsKeepApartRow, standIns := [], harness := (true, "11f6b1cdf0721180caaf76025930529d393ac85d9d6f4f25e09f004af8891f63"), looks := false }, kinds := [], alts := [], laidByText := true, laidKinds := [.data], laidTests := true, laidLooks := .later }
def CapsKeepApartCardSaid : Prop := Claim7.holds Tryd.pinned (.plain (OpenSpec.ofChange capsKeepApartSpec)) capsKeepApartCard

/-- THE TIED CARD OF 'amberlaw08.CapsAddUp'. -/
def capsAddUpCard : Claim7 := { stood := { row := capsAddUpRow, standIns := [], harness := (true, "11f6b1cdf0721180caaf76025930529d393ac85d9d6f4f25e09f004af8891f63"), looks := false }, kinds := [], alts := [], laidByText := true, laidKinds := [.data], laidTests := true, laidLooks := .later }
def CapsAddUpCardSaid : Prop := Claim7.holds Tryd.pinned (.plain (OpenSpec.ofChange capsAddUpSpec)) capsAddUpCard

/-- THE TIED CARD OF 'amberlaw08.CapsPlays'. -/
def capsPlaysCard : Claim7 := { stood := { row := capsPlaysRow, standIns := [], harness := (true, "11f6b1cdf0721180caaf76025930529d393ac85d9d6f4f25e09f004af8891f63"), looks := false }, kinds := [], alts := [], laidByText := true, laidKinds := [.data], laidTests := true, laidLooks := .later }
def CapsPlaysCardSaid : Prop := Claim7.holds Tryd.pinned (.plain (OpenSpec.ofChange capsPlaysSpec)) capsPlaysCard

/-- THE SECOND FORM's CARD OF 'amberlaw08.CapsPassOn'. -/
def capsPassOnUptoCard : Claim7 := { stood := { row := capsPassOnUptoRow, standIns := [], harness := (true, "11f6b1cdf0721180caaf76025930529d393ac85d9d6f4f25e09f004af8891f63"), looks := false }, kinds := [], alts := [], laidByText := true, laidKinds := [.data], laidTests := true, laidLooks := .later }
def CapsPassOnUptoCardSaid : Prop := Claim7.holds Tryd.pinned (.plain (OpenSpec.upto capsPassOnSpec)) capsPassOnUptoCard

/-- THE SECOND FORM's CARD OF 'amberlaw08.CapsAreSound'. -/
def capsAreSoundUptoCard : Claim7 := { stood := { row := capsAreSoundUptoRow, standIns := [], harness := (true, "11f6b1cdf0721180caaf76025930529d393ac85d9d6f4f25e09f004af8891f63"), looks := false }, kinds := [], alts := [], laidByText := true, laidKinds := [.data], laidTests := true, laidLooks := .later }
def CapsAreSoundUptoCardSaid : Prop := Claim7.holds Tryd.pinned (.plain (OpenSpec.upto capsAreSoundSpec)) capsAreSoundUptoCard

/-- THE SECOND FORM's CARD OF 'amberlaw08.CapsNeverGrow'. -/
def capsNeverGrowUptoCard : Claim7 := { stood := { row := capsNeverGrowUptoRow, standIns := [], harness := (true, "11f6b1cdf0721180caaf76025930529d393ac85d9d6f4f25e09f004af8891f63"), looks := false }, kinds := [], alts := [], laidByText := true, laidKinds := [.data], laidTests := true, laidLooks := .later }
def CapsNeverGrowUptoCardSaid : Prop := Claim7.holds Tryd.pinned (.plain (OpenSpec.upto capsNeverGrowSpec)) capsNeverGrowUptoCard

/-- THE SECOND FORM's CARD OF 'amberlaw08.CapsRevokeAll'. -/
def capsRevokeAllUptoCard : Claim7 := { stood := { row := capsRevokeAllUptoRow, standIns := [], harness := (true, "11f6b1cdf0721180caaf76025930529d393ac85d9d6f4f25e09f004af8891f63"), looks := false }, kinds := [], alts := [], laidByText := true, laidKinds := [.data], laidTests := true, laidLooks := .later }
def CapsRevokeAllUptoCardSaid : Prop := Claim7.holds Tryd.pinned (.plain (OpenSpec.upto capsRevokeAllSpec)) capsRevokeAllUptoCard

/-- THE SECOND FORM's CARD OF 'amberlaw08.CapsKeepApart'. -/
def capsKeepApartUptoCard : Claim7 := { stood := { row := capsKeepApartUptoRow, standIns := [], harness := (true, "11f6b1cdf0721180caaf76025930529d393ac85d9d6f4f25e09f004af8891f63"), looks := false }, kinds := [], alts := [], laidByText := true, laidKinds := [.data], laidTests := true, laidLooks := .later }
def CapsKeepApartUptoCardSaid : Prop := Claim7.holds Tryd.pinned (.plain (OpenSpec.upto capsKeepApartSpec)) capsKeepApartUptoCard

/-- THE SECOND FORM's CARD OF 'amberlaw08.CapsAddUp'. -/
def capsAddUpUptoCard : Claim7 := { stood := { row := capsAddUpUptoRow, standIns := [], harness := (true, "11f6b1cdf0721180caaf76025930529d393ac85d9d6f4f25e09f004af8891f63"), looks := false }, kinds := [], alts := [], laidByText := true, laidKinds := [.data], laidTests := true, laidLooks := .later }
def CapsAddUpUptoCardSaid : Prop := Claim7.holds Tryd.pinned (.plain (OpenSpec.upto capsAddUpSpec)) capsAddUpUptoCard

/-- THE SECOND FORM's CARD OF 'amberlaw08.CapsPlays'. -/
def capsPlaysUptoCard : Claim7 := { stood := { row := capsPlaysUptoRow, standIns := [], harness := (true, "11f6b1cdf0721180caaf76025930529d393ac85d9d6f4f25e09f004af8891f63"), looks := false }, kinds := [], alts := [], laidByText := true, laidKinds := [.data], laidTests := true, laidLooks := .later }
def CapsPlaysUptoCardSaid : Prop := Claim7.holds Tryd.pinned (.plain (OpenSpec.upto capsPlaysSpec)) capsPlaysUptoCard
end Rows
end Go.Proofs.YthpkgkoojhgedaaDoor
