/-
  DERIVED. GIVEN WITH THE SEED: THE CARDS: each row of YtpkkoiljombooaaDoorRows.lean that lists a variable, with what it lists TIED to the program's text (the seventh form; the later family's looks); each row that meets fmt, with fmt's text TOLD by the authors' own Lean function (tested against real Go, not proved from fmt's source: count such statements apart). THE CARD IS WHAT COUNTS. Prove the row's statement (the work); the ties are given (YtpkkoiljombooaaDoorTie.lean); close each card by the builder's one call (the guide's Derived/Test/ToyasCard.lean, 'card_holds'). Laid BY PROGRAM, IN A SANDBOX (cutbox-door.mjs). By AI agents, Wed Nov 11 2026. No macro, syntax, notation, axiom, sorry.
-/
import Derived.Test.YtpkkoiljombooaaDoorRows
import GoSem.ClaimSeven
namespace Go.Proofs.YtpkkoiljombooaaDoor
namespace Rows

/-- THE TIED CARD OF 'lfchecklaw05.TermForms'. -/
def termFormsCard : Claim7 := { stood := { row := termFormsRow, standIns := [], harness := (true, "241d0af1a6f81bc10dbca9c8c06d8bc000f75740c0eff163c91e4fec76cd33a6"), looks := false }, kinds := [], alts := [], laidByText := true, laidKinds := [.data], laidTests := true, laidLooks := .later }
def TermFormsCardSaid : Prop := Claim7.holds Tryd.pinned (.plain (OpenSpec.ofChange termFormsSpec)) termFormsCard

/-- THE TIED CARD OF 'lfchecklaw05.TermSame'. -/
def termSameCard : Claim7 := { stood := { row := termSameRow, standIns := [], harness := (true, "241d0af1a6f81bc10dbca9c8c06d8bc000f75740c0eff163c91e4fec76cd33a6"), looks := false }, kinds := [], alts := [], laidByText := true, laidKinds := [.data], laidTests := true, laidLooks := .later }
def TermSameCardSaid : Prop := Claim7.holds Tryd.pinned (.plain (OpenSpec.ofChange termSameSpec)) termSameCard

/-- THE TIED CARD OF 'lfchecklaw05.TermBinds'. -/
def termBindsCard : Claim7 := { stood := { row := termBindsRow, standIns := [], harness := (true, "241d0af1a6f81bc10dbca9c8c06d8bc000f75740c0eff163c91e4fec76cd33a6"), looks := false }, kinds := [], alts := [], laidByText := true, laidKinds := [.data], laidTests := true, laidLooks := .later }
def TermBindsCardSaid : Prop := Claim7.holds Tryd.pinned (.plain (OpenSpec.ofChange termBindsSpec)) termBindsCard

/-- THE TIED CARD OF 'lfchecklaw05.TermSorts'. -/
def termSortsCard : Claim7 := { stood := { row := termSortsRow, standIns := [], harness := (true, "241d0af1a6f81bc10dbca9c8c06d8bc000f75740c0eff163c91e4fec76cd33a6"), looks := false }, kinds := [], alts := [], laidByText := true, laidKinds := [.data], laidTests := true, laidLooks := .later }
def TermSortsCardSaid : Prop := Claim7.holds Tryd.pinned (.plain (OpenSpec.ofChange termSortsSpec)) termSortsCard

/-- THE TIED CARD OF 'lfchecklaw05.TermMetas'. -/
def termMetasCard : Claim7 := { stood := { row := termMetasRow, standIns := [], harness := (true, "241d0af1a6f81bc10dbca9c8c06d8bc000f75740c0eff163c91e4fec76cd33a6"), looks := false }, kinds := [], alts := [], laidByText := true, laidKinds := [.data], laidTests := true, laidLooks := .later }
def TermMetasCardSaid : Prop := Claim7.holds Tryd.pinned (.plain (OpenSpec.ofChange termMetasSpec)) termMetasCard

/-- THE TIED CARD OF 'lfchecklaw22.StrictOccurs'. -/
def strictOccursCard : Claim7 := { stood := { row := strictOccursRow, standIns := [], harness := (true, "241d0af1a6f81bc10dbca9c8c06d8bc000f75740c0eff163c91e4fec76cd33a6"), looks := false }, kinds := [], alts := [], laidByText := true, laidKinds := [.data], laidTests := true, laidLooks := .later }
def StrictOccursCardSaid : Prop := Claim7.holds Tryd.pinned (.plain (OpenSpec.ofChange strictOccursSpec)) strictOccursCard

/-- THE TIED CARD OF 'lfchecklaw22.StrictPatterns'. -/
def strictPatternsCard : Claim7 := { stood := { row := strictPatternsRow, standIns := [], harness := (true, "241d0af1a6f81bc10dbca9c8c06d8bc000f75740c0eff163c91e4fec76cd33a6"), looks := false }, kinds := [], alts := [], laidByText := true, laidKinds := [.data], laidTests := true, laidLooks := .later }
def StrictPatternsCardSaid : Prop := Claim7.holds Tryd.pinned (.plain (OpenSpec.ofChange strictPatternsSpec)) strictPatternsCard

/-- THE TIED CARD OF 'lfchecklaw22.StrictImplies'. -/
def strictImpliesCard : Claim7 := { stood := { row := strictImpliesRow, standIns := [], harness := (true, "241d0af1a6f81bc10dbca9c8c06d8bc000f75740c0eff163c91e4fec76cd33a6"), looks := false }, kinds := [], alts := [], laidByText := true, laidKinds := [.data], laidTests := true, laidLooks := .later }
def StrictImpliesCardSaid : Prop := Claim7.holds Tryd.pinned (.plain (OpenSpec.ofChange strictImpliesSpec)) strictImpliesCard

/-- THE TIED CARD OF 'lfchecklaw22.StrictParts'. -/
def strictPartsCard : Claim7 := { stood := { row := strictPartsRow, standIns := [], harness := (true, "241d0af1a6f81bc10dbca9c8c06d8bc000f75740c0eff163c91e4fec76cd33a6"), looks := false }, kinds := [], alts := [], laidByText := true, laidKinds := [.data], laidTests := true, laidLooks := .later }
def StrictPartsCardSaid : Prop := Claim7.holds Tryd.pinned (.plain (OpenSpec.ofChange strictPartsSpec)) strictPartsCard

/-- THE TIED CARD OF 'lfchecklaw06.RenameMoves'. -/
def renameMovesCard : Claim7 := { stood := { row := renameMovesRow, standIns := [], harness := (true, "241d0af1a6f81bc10dbca9c8c06d8bc000f75740c0eff163c91e4fec76cd33a6"), looks := false }, kinds := [], alts := [], laidByText := true, laidKinds := [.data], laidTests := true, laidLooks := .later }
def RenameMovesCardSaid : Prop := Claim7.holds Tryd.pinned (.plain (OpenSpec.ofChange renameMovesSpec)) renameMovesCard

/-- THE TIED CARD OF 'lfchecklaw06.RenameMaps'. -/
def renameMapsCard : Claim7 := { stood := { row := renameMapsRow, standIns := [], harness := (true, "241d0af1a6f81bc10dbca9c8c06d8bc000f75740c0eff163c91e4fec76cd33a6"), looks := false }, kinds := [], alts := [], laidByText := true, laidKinds := [.data], laidTests := true, laidLooks := .later }
def RenameMapsCardSaid : Prop := Claim7.holds Tryd.pinned (.plain (OpenSpec.ofChange renameMapsSpec)) renameMapsCard

/-- THE TIED CARD OF 'lfchecklaw06.RenameBack'. -/
def renameBackCard : Claim7 := { stood := { row := renameBackRow, standIns := [], harness := (true, "241d0af1a6f81bc10dbca9c8c06d8bc000f75740c0eff163c91e4fec76cd33a6"), looks := false }, kinds := [], alts := [], laidByText := true, laidKinds := [.data], laidTests := true, laidLooks := .later }
def RenameBackCardSaid : Prop := Claim7.holds Tryd.pinned (.plain (OpenSpec.ofChange renameBackSpec)) renameBackCard

/-- THE TIED CARD OF 'lfchecklaw06.RenameInverts'. -/
def renameInvertsCard : Claim7 := { stood := { row := renameInvertsRow, standIns := [], harness := (true, "241d0af1a6f81bc10dbca9c8c06d8bc000f75740c0eff163c91e4fec76cd33a6"), looks := false }, kinds := [], alts := [], laidByText := true, laidKinds := [.data], laidTests := true, laidLooks := .later }
def RenameInvertsCardSaid : Prop := Claim7.holds Tryd.pinned (.plain (OpenSpec.ofChange renameInvertsSpec)) renameInvertsCard

/-- THE TIED CARD OF 'lfchecklaw06.RenameComposes'. -/
def renameComposesCard : Claim7 := { stood := { row := renameComposesRow, standIns := [], harness := (true, "241d0af1a6f81bc10dbca9c8c06d8bc000f75740c0eff163c91e4fec76cd33a6"), looks := false }, kinds := [], alts := [], laidByText := true, laidKinds := [.data], laidTests := true, laidLooks := .later }
def RenameComposesCardSaid : Prop := Claim7.holds Tryd.pinned (.plain (OpenSpec.ofChange renameComposesSpec)) renameComposesCard

/-- THE SECOND FORM's CARD OF 'lfchecklaw05.TermForms'. -/
def termFormsUptoCard : Claim7 := { stood := { row := termFormsUptoRow, standIns := [], harness := (true, "241d0af1a6f81bc10dbca9c8c06d8bc000f75740c0eff163c91e4fec76cd33a6"), looks := false }, kinds := [], alts := [], laidByText := true, laidKinds := [.data], laidTests := true, laidLooks := .later }
def TermFormsUptoCardSaid : Prop := Claim7.holds Tryd.pinned (.plain (OpenSpec.upto termFormsSpec)) termFormsUptoCard

/-- THE SECOND FORM's CARD OF 'lfchecklaw05.TermSame'. -/
def termSameUptoCard : Claim7 := { stood := { row := termSameUptoRow, standIns := [], harness := (true, "241d0af1a6f81bc10dbca9c8c06d8bc000f75740c0eff163c91e4fec76cd33a6"), looks := false }, kinds := [], alts := [], laidByText := true, laidKinds := [.data], laidTests := true, laidLooks := .later }
def TermSameUptoCardSaid : Prop := Claim7.holds Tryd.pinned (.plain (OpenSpec.upto termSameSpec)) termSameUptoCard

/-- THE SECOND FORM's CARD OF 'lfchecklaw05.TermBinds'. -/
def termBindsUptoCard : Claim7 := { stood := { row := termBindsUptoRow, standIns := [], harness := (true, "241d0af1a6f81bc10dbca9c8c06d8bc000f75740c0eff163c91e4fec76cd33a6"), looks := false }, kinds := [], alts := [], laidByText := true, laidKinds := [.data], laidTests := true, laidLooks := .later }
def TermBindsUptoCardSaid : Prop := Claim7.holds Tryd.pinned (.plain (OpenSpec.upto termBindsSpec)) termBindsUptoCard

/-- THE SECOND FORM's CARD OF 'lfchecklaw05.TermSorts'. -/
def termSortsUptoCard : Claim7 := { stood := { row := termSortsUptoRow, standIns := [], harness := (true, "241d0af1a6f81bc10dbca9c8c06d8bc000f75740c0eff163c91e4fec76cd33a6"), looks := false }, kinds := [], alts := [], laidByText := true, laidKinds := [.data], laidTests := true, laidLooks := .later }
def TermSortsUptoCardSaid : Prop := Claim7.holds Tryd.pinned (.plain (OpenSpec.upto termSortsSpec)) termSortsUptoCard

/-- THE SECOND FORM's CARD OF 'lfchecklaw05.TermMetas'. -/
def termMetasUptoCard : Claim7 := { stood := { row := termMetasUptoRow, standIns := [], harness := (true, "241d0af1a6f81bc10dbca9c8c06d8bc000f75740c0eff163c91e4fec76cd33a6"), looks := false }, kinds := [], alts := [], laidByText := true, laidKinds := [.data], laidTests := true, laidLooks := .later }
def TermMetasUptoCardSaid : Prop := Claim7.holds Tryd.pinned (.plain (OpenSpec.upto termMetasSpec)) termMetasUptoCard

/-- THE SECOND FORM's CARD OF 'lfchecklaw22.StrictOccurs'. -/
def strictOccursUptoCard : Claim7 := { stood := { row := strictOccursUptoRow, standIns := [], harness := (true, "241d0af1a6f81bc10dbca9c8c06d8bc000f75740c0eff163c91e4fec76cd33a6"), looks := false }, kinds := [], alts := [], laidByText := true, laidKinds := [.data], laidTests := true, laidLooks := .later }
def StrictOccursUptoCardSaid : Prop := Claim7.holds Tryd.pinned (.plain (OpenSpec.upto strictOccursSpec)) strictOccursUptoCard

/-- THE SECOND FORM's CARD OF 'lfchecklaw22.StrictPatterns'. -/
def strictPatternsUptoCard : Claim7 := { stood := { row := strictPatternsUptoRow, standIns := [], harness := (true, "241d0af1a6f81bc10dbca9c8c06d8bc000f75740c0eff163c91e4fec76cd33a6"), looks := false }, kinds := [], alts := [], laidByText := true, laidKinds := [.data], laidTests := true, laidLooks := .later }
def StrictPatternsUptoCardSaid : Prop := Claim7.holds Tryd.pinned (.plain (OpenSpec.upto strictPatternsSpec)) strictPatternsUptoCard

/-- THE SECOND FORM's CARD OF 'lfchecklaw22.StrictImplies'. -/
def strictImpliesUptoCard : Claim7 := { stood := { row := strictImpliesUptoRow, standIns := [], harness := (true, "241d0af1a6f81bc10dbca9c8c06d8bc000f75740c0eff163c91e4fec76cd33a6"), looks := false }, kinds := [], alts := [], laidByText := true, laidKinds := [.data], laidTests := true, laidLooks := .later }
def StrictImpliesUptoCardSaid : Prop := Claim7.holds Tryd.pinned (.plain (OpenSpec.upto strictImpliesSpec)) strictImpliesUptoCard

/-- THE SECOND FORM's CARD OF 'lfchecklaw22.StrictParts'. -/
def strictPartsUptoCard : Claim7 := { stood := { row := strictPartsUptoRow, standIns := [], harness := (true, "241d0af1a6f81bc10dbca9c8c06d8bc000f75740c0eff163c91e4fec76cd33a6"), looks := false }, kinds := [], alts := [], laidByText := true, laidKinds := [.data], laidTests := true, laidLooks := .later }
def StrictPartsUptoCardSaid : Prop := Claim7.holds Tryd.pinned (.plain (OpenSpec.upto strictPartsSpec)) strictPartsUptoCard

/-- THE SECOND FORM's CARD OF 'lfchecklaw06.RenameMoves'. -/
def renameMovesUptoCard : Claim7 := { stood := { row := renameMovesUptoRow, standIns := [], harness := (true, "241d0af1a6f81bc10dbca9c8c06d8bc000f75740c0eff163c91e4fec76cd33a6"), looks := false }, kinds := [], alts := [], laidByText := true, laidKinds := [.data], laidTests := true, laidLooks := .later }
def RenameMovesUptoCardSaid : Prop := Claim7.holds Tryd.pinned (.plain (OpenSpec.upto renameMovesSpec)) renameMovesUptoCard

/-- THE SECOND FORM's CARD OF 'lfchecklaw06.RenameMaps'. -/
def renameMapsUptoCard : Claim7 := { stood := { row := renameMapsUptoRow, standIns := [], harness := (true, "241d0af1a6f81bc10dbca9c8c06d8bc000f75740c0eff163c91e4fec76cd33a6"), looks := false }, kinds := [], alts := [], laidByText := true, laidKinds := [.data], laidTests := true, laidLooks := .later }
def RenameMapsUptoCardSaid : Prop := Claim7.holds Tryd.pinned (.plain (OpenSpec.upto renameMapsSpec)) renameMapsUptoCard

/-- THE SECOND FORM's CARD OF 'lfchecklaw06.RenameBack'. -/
def renameBackUptoCard : Claim7 := { stood := { row := renameBackUptoRow, standIns := [], harness := (true, "241d0af1a6f81bc10dbca9c8c06d8bc000f75740c0eff163c91e4fec76cd33a6"), looks := false }, kinds := [], alts := [], laidByText := true, laidKinds := [.data], laidTests := true, laidLooks := .later }
def RenameBackUptoCardSaid : Prop := Claim7.holds Tryd.pinned (.plain (OpenSpec.upto renameBackSpec)) renameBackUptoCard

/-- THE SECOND FORM's CARD OF 'lfchecklaw06.RenameInverts'. -/
def renameInvertsUptoCard : Claim7 := { stood := { row := renameInvertsUptoRow, standIns := [], harness := (true, "241d0af1a6f81bc10dbca9c8c06d8bc000f75740c0eff163c91e4fec76cd33a6"), looks := false }, kinds := [], alts := [], laidByText := true, laidKinds := [.data], laidTests := true, laidLooks := .later }
def RenameInvertsUptoCardSaid : Prop := Claim7.holds Tryd.pinned (.plain (OpenSpec.upto renameInvertsSpec)) renameInvertsUptoCard

/-- THE SECOND FORM's CARD OF 'lfchecklaw06.RenameComposes'. -/
def renameComposesUptoCard : Claim7 := { stood := { row := renameComposesUptoRow, standIns := [], harness := (true, "241d0af1a6f81bc10dbca9c8c06d8bc000f75740c0eff163c91e4fec76cd33a6"), looks := false }, kinds := [], alts := [], laidByText := true, laidKinds := [.data], laidTests := true, laidLooks := .later }
def RenameComposesUptoCardSaid : Prop := Claim7.holds Tryd.pinned (.plain (OpenSpec.upto renameComposesSpec)) renameComposesUptoCard
end Rows
end Go.Proofs.YtpkkoiljombooaaDoor
