/-
  DERIVED. GIVEN WITH THE SEED: THE CARDS: each row of YtolohghpiccbaaaDoorRows.lean that lists a variable, with what it lists TIED to the program's text (the seventh form; the later family's looks); each row that meets fmt, with fmt's text TOLD by the authors' own Lean function (tested against real Go, not proved from fmt's source: count such statements apart). THE CARD IS WHAT COUNTS. Prove the row's statement (the work); the ties are given (YtolohghpiccbaaaDoorTie.lean); close each card by the builder's one call (the guide's Derived/Test/ToyasCard.lean, 'card_holds'). Laid BY PROGRAM, IN A SANDBOX (cutbox-door.mjs). By AI agents, Wed Nov 11 2026. No macro, syntax, notation, axiom, sorry.
-/
import Derived.Test.YtolohghpiccbaaaDoorRows
import GoSem.ClaimSeven
namespace Go.Proofs.YtolohghpiccbaaaDoor
namespace Rows

/-- THE TIED CARD OF 'mailboatlaw09.VersionPairs'. -/
def versionPairsCard : Claim7 := { stood := { row := versionPairsRow, standIns := [], harness := (true, "5d2ea1747a3ab2a98e67026f9977180dc1186cc83a3cd1fd106b59d719f0558d"), looks := false }, kinds := [], alts := [], laidByText := true, laidKinds := [.data], laidTests := true, laidLooks := .later }
def VersionPairsCardSaid : Prop := Claim7.holds Tryd.pinned (.plain (OpenSpec.ofChange versionPairsSpec)) versionPairsCard

/-- THE TIED CARD OF 'mailboatlaw09.VersionLattice'. -/
def versionLatticeCard : Claim7 := { stood := { row := versionLatticeRow, standIns := [], harness := (true, "5d2ea1747a3ab2a98e67026f9977180dc1186cc83a3cd1fd106b59d719f0558d"), looks := false }, kinds := [], alts := [], laidByText := true, laidKinds := [.data], laidTests := true, laidLooks := .later }
def VersionLatticeCardSaid : Prop := Claim7.holds Tryd.pinned (.plain (OpenSpec.ofChange versionLatticeSpec)) versionLatticeCard

/-- THE TIED CARD OF 'mailboatlaw09.VersionOrder'. -/
def versionOrderCard : Claim7 := { stood := { row := versionOrderRow, standIns := [], harness := (true, "5d2ea1747a3ab2a98e67026f9977180dc1186cc83a3cd1fd106b59d719f0558d"), looks := false }, kinds := [], alts := [], laidByText := true, laidKinds := [.data], laidTests := true, laidLooks := .later }
def VersionOrderCardSaid : Prop := Claim7.holds Tryd.pinned (.plain (OpenSpec.ofChange versionOrderSpec)) versionOrderCard

/-- THE TIED CARD OF 'mailboatlaw09.VersionChanges'. -/
def versionChangesCard : Claim7 := { stood := { row := versionChangesRow, standIns := [], harness := (true, "5d2ea1747a3ab2a98e67026f9977180dc1186cc83a3cd1fd106b59d719f0558d"), looks := false }, kinds := [], alts := [], laidByText := true, laidKinds := [.data], laidTests := true, laidLooks := .later }
def VersionChangesCardSaid : Prop := Claim7.holds Tryd.pinned (.plain (OpenSpec.ofChange versionChangesSpec)) versionChangesCard

/-- THE TIED CARD OF 'mailboatlaw09.VersionCovers'. -/
def versionCoversCard : Claim7 := { stood := { row := versionCoversRow, standIns := [], harness := (true, "5d2ea1747a3ab2a98e67026f9977180dc1186cc83a3cd1fd106b59d719f0558d"), looks := false }, kinds := [], alts := [], laidByText := true, laidKinds := [.data], laidTests := true, laidLooks := .later }
def VersionCoversCardSaid : Prop := Claim7.holds Tryd.pinned (.plain (OpenSpec.ofChange versionCoversSpec)) versionCoversCard

/-- THE TIED CARD OF 'mailboatlaw09.VersionTicks'. -/
def versionTicksCard : Claim7 := { stood := { row := versionTicksRow, standIns := [], harness := (true, "5d2ea1747a3ab2a98e67026f9977180dc1186cc83a3cd1fd106b59d719f0558d"), looks := false }, kinds := [], alts := [], laidByText := true, laidKinds := [.data], laidTests := true, laidLooks := .later }
def VersionTicksCardSaid : Prop := Claim7.holds Tryd.pinned (.plain (OpenSpec.ofChange versionTicksSpec)) versionTicksCard

/-- THE TIED CARD OF 'mailboatlaw09.VersionCodes'. -/
def versionCodesCard : Claim7 := { stood := { row := versionCodesRow, standIns := [], harness := (true, "5d2ea1747a3ab2a98e67026f9977180dc1186cc83a3cd1fd106b59d719f0558d"), looks := false }, kinds := [], alts := [], laidByText := true, laidKinds := [.data], laidTests := true, laidLooks := .later }
def VersionCodesCardSaid : Prop := Claim7.holds Tryd.pinned (.plain (OpenSpec.ofChange versionCodesSpec)) versionCodesCard

/-- THE TIED CARD OF 'mailboatlaw09.VersionBytes'. -/
def versionBytesCard : Claim7 := { stood := { row := versionBytesRow, standIns := [], harness := (true, "5d2ea1747a3ab2a98e67026f9977180dc1186cc83a3cd1fd106b59d719f0558d"), looks := false }, kinds := [], alts := [], laidByText := true, laidKinds := [.data], laidTests := true, laidLooks := .later }
def VersionBytesCardSaid : Prop := Claim7.holds Tryd.pinned (.plain (OpenSpec.ofChange versionBytesSpec)) versionBytesCard

/-- THE SECOND FORM's CARD OF 'mailboatlaw09.VersionPairs'. -/
def versionPairsUptoCard : Claim7 := { stood := { row := versionPairsUptoRow, standIns := [], harness := (true, "5d2ea1747a3ab2a98e67026f9977180dc1186cc83a3cd1fd106b59d719f0558d"), looks := false }, kinds := [], alts := [], laidByText := true, laidKinds := [.data], laidTests := true, laidLooks := .later }
def VersionPairsUptoCardSaid : Prop := Claim7.holds Tryd.pinned (.plain (OpenSpec.upto versionPairsSpec)) versionPairsUptoCard

/-- THE SECOND FORM's CARD OF 'mailboatlaw09.VersionLattice'. -/
def versionLatticeUptoCard : Claim7 := { stood := { row := versionLatticeUptoRow, standIns := [], harness := (true, "5d2ea1747a3ab2a98e67026f9977180dc1186cc83a3cd1fd106b59d719f0558d"), looks := false }, kinds := [], alts := [], laidByText := true, laidKinds := [.data], laidTests := true, laidLooks := .later }
def VersionLatticeUptoCardSaid : Prop := Claim7.holds Tryd.pinned (.plain (OpenSpec.upto versionLatticeSpec)) versionLatticeUptoCard

/-- THE SECOND FORM's CARD OF 'mailboatlaw09.VersionOrder'. -/
def versionOrderUptoCard : Claim7 := { stood := { row := versionOrderUptoRow, standIns := [], harness := (true, "5d2ea1747a3ab2a98e67026f9977180dc1186cc83a3cd1fd106b59d719f0558d"), looks := false }, kinds := [], alts := [], laidByText := true, laidKinds := [.data], laidTests := true, laidLooks := .later }
def VersionOrderUptoCardSaid : Prop := Claim7.holds Tryd.pinned (.plain (OpenSpec.upto versionOrderSpec)) versionOrderUptoCard

/-- THE SECOND FORM's CARD OF 'mailboatlaw09.VersionChanges'. -/
def versionChangesUptoCard : Claim7 := { stood := { row := versionChangesUptoRow, standIns := [], harness := (true, "5d2ea1747a3ab2a98e67026f9977180dc1186cc83a3cd1fd106b59d719f0558d"), looks := false }, kinds := [], alts := [], laidByText := true, laidKinds := [.data], laidTests := true, laidLooks := .later }
def VersionChangesUptoCardSaid : Prop := Claim7.holds Tryd.pinned (.plain (OpenSpec.upto versionChangesSpec)) versionChangesUptoCard

/-- THE SECOND FORM's CARD OF 'mailboatlaw09.VersionCovers'. -/
def versionCoversUptoCard : Claim7 := { stood := { row := versionCoversUptoRow, standIns := [], harness := (true, "5d2ea1747a3ab2a98e67026f9977180dc1186cc83a3cd1fd106b59d719f0558d"), looks := false }, kinds := [], alts := [], laidByText := true, laidKinds := [.data], laidTests := true, laidLooks := .later }
def VersionCoversUptoCardSaid : Prop := Claim7.holds Tryd.pinned (.plain (OpenSpec.upto versionCoversSpec)) versionCoversUptoCard

/-- THE SECOND FORM's CARD OF 'mailboatlaw09.VersionTicks'. -/
def versionTicksUptoCard : Claim7 := { stood := { row := versionTicksUptoRow, standIns := [], harness := (true, "5d2ea1747a3ab2a98e67026f9977180dc1186cc83a3cd1fd106b59d719f0558d"), looks := false }, kinds := [], alts := [], laidByText := true, laidKinds := [.data], laidTests := true, laidLooks := .later }
def VersionTicksUptoCardSaid : Prop := Claim7.holds Tryd.pinned (.plain (OpenSpec.upto versionTicksSpec)) versionTicksUptoCard

/-- THE SECOND FORM's CARD OF 'mailboatlaw09.VersionCodes'. -/
def versionCodesUptoCard : Claim7 := { stood := { row := versionCodesUptoRow, standIns := [], harness := (true, "5d2ea1747a3ab2a98e67026f9977180dc1186cc83a3cd1fd106b59d719f0558d"), looks := false }, kinds := [], alts := [], laidByText := true, laidKinds := [.data], laidTests := true, laidLooks := .later }
def VersionCodesUptoCardSaid : Prop := Claim7.holds Tryd.pinned (.plain (OpenSpec.upto versionCodesSpec)) versionCodesUptoCard

/-- THE SECOND FORM's CARD OF 'mailboatlaw09.VersionBytes'. -/
def versionBytesUptoCard : Claim7 := { stood := { row := versionBytesUptoRow, standIns := [], harness := (true, "5d2ea1747a3ab2a98e67026f9977180dc1186cc83a3cd1fd106b59d719f0558d"), looks := false }, kinds := [], alts := [], laidByText := true, laidKinds := [.data], laidTests := true, laidLooks := .later }
def VersionBytesUptoCardSaid : Prop := Claim7.holds Tryd.pinned (.plain (OpenSpec.upto versionBytesSpec)) versionBytesUptoCard
end Rows
end Go.Proofs.YtolohghpiccbaaaDoor
