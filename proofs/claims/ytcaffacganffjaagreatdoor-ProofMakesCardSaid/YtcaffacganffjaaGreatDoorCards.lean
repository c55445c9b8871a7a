/-
  DERIVED. GIVEN WITH THE SEED: THE CARDS: each row of YtcaffacganffjaaGreatDoorRows.lean that lists a variable, with what it lists TIED to the program's text (the seventh form; the later family's looks); each row that meets fmt, with fmt's text TOLD by the authors' own Lean function (tested against real Go, not proved from fmt's source: count such statements apart). THE CARD IS WHAT COUNTS. Prove the row's statement (the work); the ties are given (YtcaffacganffjaaGreatDoorTie.lean); close each card by the builder's one call (the guide's Derived/Test/ToyasCard.lean, 'card_holds'). Laid BY PROGRAM, IN A SANDBOX (cutbox-door.mjs). By AI agents, Wed Nov 11 2026. No macro, syntax, notation, axiom, sorry.
-/
import Derived.Test.YtcaffacganffjaaGreatDoorRows
import GoSem.ClaimSeven
namespace Go.Proofs.YtcaffacganffjaaGreatDoor
namespace Rows

/-- THE TIED CARD OF 'tabellionlaw06.ProofMakes'. -/
def proofMakesCard : Claim7 := { stood := { row := proofMakesRow, standIns := [], harness := (true, "fad500651ae9b3d91434890fe70f53303854bc248ccc6758379315898abb9938"), looks := false }, kinds := [], alts := [], laidByText := true, laidKinds := [.data, .data], laidTests := true, laidLooks := .later }
def ProofMakesCardSaid : Prop := Claim7.holds Tryz.pinned (.plain (OpenSpec.ofChange proofMakesSpec)) proofMakesCard

/-- THE TIED CARD OF 'tabellionlaw10.DirectoryApplies'. -/
def directoryAppliesCard : Claim7 := { stood := { row := directoryAppliesRow, standIns := [], harness := (true, "fad500651ae9b3d91434890fe70f53303854bc248ccc6758379315898abb9938"), looks := false }, kinds := [], alts := [], laidByText := true, laidKinds := [.data, .data], laidTests := true, laidLooks := .later }
def DirectoryAppliesCardSaid : Prop := Claim7.holds Tryz.pinned (.plain (OpenSpec.ofChange directoryAppliesSpec)) directoryAppliesCard

/-- THE TIED CARD OF 'tabellionlaw10.DirectoryOnce'. -/
def directoryOnceCard : Claim7 := { stood := { row := directoryOnceRow, standIns := [], harness := (true, "fad500651ae9b3d91434890fe70f53303854bc248ccc6758379315898abb9938"), looks := false }, kinds := [], alts := [], laidByText := true, laidKinds := [.data], laidTests := true, laidLooks := .later }
def DirectoryOnceCardSaid : Prop := Claim7.holds Tryz.pinned (.plain (OpenSpec.ofChange directoryOnceSpec)) directoryOnceCard

/-- THE TIED CARD OF 'tabellionlaw10.DirectoryApart'. -/
def directoryApartCard : Claim7 := { stood := { row := directoryApartRow, standIns := [], harness := (true, "fad500651ae9b3d91434890fe70f53303854bc248ccc6758379315898abb9938"), looks := false }, kinds := [], alts := [], laidByText := true, laidKinds := [.data], laidTests := true, laidLooks := .later }
def DirectoryApartCardSaid : Prop := Claim7.holds Tryz.pinned (.plain (OpenSpec.ofChange directoryApartSpec)) directoryApartCard

/-- THE TIED CARD OF 'tabellionlaw10.DirectoryLooks'. -/
def directoryLooksCard : Claim7 := { stood := { row := directoryLooksRow, standIns := [], harness := (true, "fad500651ae9b3d91434890fe70f53303854bc248ccc6758379315898abb9938"), looks := false }, kinds := [], alts := [], laidByText := true, laidKinds := [.data, .data], laidTests := true, laidLooks := .later }
def DirectoryLooksCardSaid : Prop := Claim7.holds Tryz.pinned (.plain (OpenSpec.ofChange directoryLooksSpec)) directoryLooksCard

/-- THE TIED CARD OF 'tabellionlaw10.DirectoryStays'. -/
def directoryStaysCard : Claim7 := { stood := { row := directoryStaysRow, standIns := [], harness := (true, "fad500651ae9b3d91434890fe70f53303854bc248ccc6758379315898abb9938"), looks := false }, kinds := [], alts := [], laidByText := true, laidKinds := [.data], laidTests := true, laidLooks := .later }
def DirectoryStaysCardSaid : Prop := Claim7.holds Tryz.pinned (.plain (OpenSpec.ofChange directoryStaysSpec)) directoryStaysCard

/-- THE TIED CARD OF 'tabellionlaw19.SignerSigns'. -/
def signerSignsCard : Claim7 := { stood := { row := signerSignsRow, standIns := [], harness := (true, "fad500651ae9b3d91434890fe70f53303854bc248ccc6758379315898abb9938"), looks := false }, kinds := [], alts := [], laidByText := true, laidKinds := [.data, .data], laidTests := true, laidLooks := .later }
def SignerSignsCardSaid : Prop := Claim7.holds Tryz.pinned (.plain (OpenSpec.ofChange signerSignsSpec)) signerSignsCard

/-- THE TIED CARD OF 'tabellionlaw19.SignerAgain'. -/
def signerAgainCard : Claim7 := { stood := { row := signerAgainRow, standIns := [], harness := (true, "fad500651ae9b3d91434890fe70f53303854bc248ccc6758379315898abb9938"), looks := false }, kinds := [], alts := [], laidByText := true, laidKinds := [.data], laidTests := true, laidLooks := .later }
def SignerAgainCardSaid : Prop := Claim7.holds Tryz.pinned (.plain (OpenSpec.ofChange signerAgainSpec)) signerAgainCard

/-- THE SECOND FORM's CARD OF 'tabellionlaw06.ProofMakes'. -/
def proofMakesUptoCard : Claim7 := { stood := { row := proofMakesUptoRow, standIns := [], harness := (true, "fad500651ae9b3d91434890fe70f53303854bc248ccc6758379315898abb9938"), looks := false }, kinds := [], alts := [], laidByText := true, laidKinds := [.data, .data], laidTests := true, laidLooks := .later }
def ProofMakesUptoCardSaid : Prop := Claim7.holds Tryz.pinned (.plain (OpenSpec.upto proofMakesSpec)) proofMakesUptoCard

/-- THE SECOND FORM's CARD OF 'tabellionlaw10.DirectoryApplies'. -/
def directoryAppliesUptoCard : Claim7 := { stood := { row := directoryAppliesUptoRow, standIns := [], harness := (true, "fad500651ae9b3d91434890fe70f53303854bc248ccc6758379315898abb9938"), looks := false }, kinds := [], alts := [], laidByText := true, laidKinds := [.data, .data], laidTests := true, laidLooks := .later }
def DirectoryAppliesUptoCardSaid : Prop := Claim7.holds Tryz.pinned (.plain (OpenSpec.upto directoryAppliesSpec)) directoryAppliesUptoCard

/-- THE SECOND FORM's CARD OF 'tabellionlaw10.DirectoryOnce'. -/
def directoryOnceUptoCard : Claim7 := { stood := { row := directoryOnceUptoRow, standIns := [], harness := (true, "fad500651ae9b3d91434890fe70f53303854bc248ccc6758379315898abb9938"), looks := false }, kinds := [], alts := [], laidByText := true, laidKinds := [.data], laidTests := true, laidLooks := .later }
def DirectoryOnceUptoCardSaid : Prop := Claim7.holds Tryz.pinned (.plain (OpenSpec.upto directoryOnceSpec)) directoryOnceUptoCard

/-- THE SECOND FORM's CARD OF 'tabellionlaw10.DirectoryApart'. -/
def directoryApartUptoCard : Claim7 := { stood := { row := directoryApartUptoRow, standIns := [], harness := (true, "fad500651ae9b3d91434890fe70f53303854bc248ccc6758379315898abb9938"), looks := false }, kinds := [], alts := [], laidByText := true, laidKinds := [.data], laidTests := true, laidLooks := .later }
def DirectoryApartUptoCardSaid : Prop := Claim7.holds Tryz.pinned (.plain (OpenSpec.upto directoryApartSpec)) directoryApartUptoCard

/-- THE SECOND FORM's CARD OF 'tabellionlaw10.DirectoryLooks'. -/
def directoryLooksUptoCard : Claim7 := { stood := { row := directoryLooksUptoRow, standIns := [], harness := (true, "fad500651ae9b3d91434890fe70f53303854bc248ccc6758379315898abb9938"), looks := false }, kinds := [], alts := [], laidByText := true, laidKinds := [.data, .data], laidTests := true, laidLooks := .later }
def DirectoryLooksUptoCardSaid : Prop := Claim7.holds Tryz.pinned (.plain (OpenSpec.upto directoryLooksSpec)) directoryLooksUptoCard

/-- THE SECOND FORM's CARD OF 'tabellionlaw10.DirectoryStays'. -/
def directoryStaysUptoCard : Claim7 := { stood := { row := directoryStaysUptoRow, standIns := [], harness := (true, "fad500651ae9b3d91434890fe70f53303854bc248ccc6758379315898abb9938"), looks := false }, kinds := [], alts := [], laidByText := true, laidKinds := [.data], laidTests := true, laidLooks := .later }
def DirectoryStaysUptoCardSaid : Prop := Claim7.holds Tryz.pinned (.plain (OpenSpec.upto directoryStaysSpec)) directoryStaysUptoCard

/-- THE SECOND FORM's CARD OF 'tabellionlaw19.SignerSigns'. -/
def signerSignsUptoCard : Claim7 := { stood := { row := signerSignsUptoRow, standIns := [], harness := (true, "fad500651ae9b3d91434890fe70f53303854bc248ccc6758379315898abb9938"), looks := false }, kinds := [], alts := [], laidByText := true, laidKinds := [.data, .data], laidTests := true, laidLooks := .later }
def SignerSignsUptoCardSaid : Prop := Claim7.holds Tryz.pinned (.plain (OpenSpec.upto signerSignsSpec)) signerSignsUptoCard

/-- THE SECOND FORM's CARD OF 'tabellionlaw19.SignerAgain'. -/
def signerAgainUptoCard : Claim7 := { stood := { row := signerAgainUptoRow, standIns := [], harness := (true, "fad500651ae9b3d91434890fe70f53303854bc248ccc6758379315898abb9938"), looks := false }, kinds := [], alts := [], laidByText := true, laidKinds := [.data], laidTests := true, laidLooks := .later }
def SignerAgainUptoCardSaid : Prop := Claim7.holds Tryz.pinned (.plain (OpenSpec.upto signerAgainSpec)) signerAgainUptoCard
end Rows
end Go.Proofs.YtcaffacganffjaaGreatDoor
