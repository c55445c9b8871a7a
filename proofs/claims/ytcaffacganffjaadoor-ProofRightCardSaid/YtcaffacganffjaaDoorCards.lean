/-
  DERIVED. GIVEN WITH THE SEED: THE CARDS: each row of YtcaffacganffjaaDoorRows.lean that lists a variable, with what it lists TIED to the program's text (the seventh form; the later family's looks); each row that meets fmt, with fmt's text TOLD by the authors' own Lean function (tested against real Go, not proved from fmt's source: count such statements apart). THE CARD IS WHAT COUNTS. Prove the row's statement (the work); the ties are given (YtcaffacganffjaaDoorTie.lean); close each card by the builder's one call (the guide's Derived/Test/ToyasCard.lean, 'card_holds'). Laid BY PROGRAM, IN A SANDBOX (cutbox-door.mjs). By AI agents, Wed Nov 11 2026. No macro, syntax, notation, axiom, sorry.
-/
import Derived.Test.YtcaffacganffjaaDoorRows
import GoSem.ClaimSeven
namespace Go.Proofs.YtcaffacganffjaaDoor
namespace Rows

/-- THE TIED CARD OF 'tabellionlaw06.ProofDepth'. -/
def proofDepthCard : Claim7 := { stood := { row := proofDepthRow, standIns := [], harness := (true, "6dd76d95960fa4ae6862342f7e2f622e25ad898b3e347a4ee36be727c2eba05a"), looks := false }, kinds := [], alts := [], laidByText := true, laidKinds := [.data], laidTests := true, laidLooks := .later }
def ProofDepthCardSaid : Prop := Claim7.holds Tryd.pinned (.plain (OpenSpec.ofChange proofDepthSpec)) proofDepthCard

/-- THE TIED CARD OF 'tabellionlaw06.ProofRight'. -/
def proofRightCard : Claim7 := { stood := { row := proofRightRow, standIns := [], harness := (true, "6dd76d95960fa4ae6862342f7e2f622e25ad898b3e347a4ee36be727c2eba05a"), looks := false }, kinds := [], alts := [], laidByText := true, laidKinds := [.data], laidTests := true, laidLooks := .later }
def ProofRightCardSaid : Prop := Claim7.holds Tryd.pinned (.plain (OpenSpec.ofChange proofRightSpec)) proofRightCard

/-- THE SECOND FORM's CARD OF 'tabellionlaw06.ProofDepth'. -/
def proofDepthUptoCard : Claim7 := { stood := { row := proofDepthUptoRow, standIns := [], harness := (true, "6dd76d95960fa4ae6862342f7e2f622e25ad898b3e347a4ee36be727c2eba05a"), looks := false }, kinds := [], alts := [], laidByText := true, laidKinds := [.data], laidTests := true, laidLooks := .later }
def ProofDepthUptoCardSaid : Prop := Claim7.holds Tryd.pinned (.plain (OpenSpec.upto proofDepthSpec)) proofDepthUptoCard

/-- THE SECOND FORM's CARD OF 'tabellionlaw06.ProofRight'. -/
def proofRightUptoCard : Claim7 := { stood := { row := proofRightUptoRow, standIns := [], harness := (true, "6dd76d95960fa4ae6862342f7e2f622e25ad898b3e347a4ee36be727c2eba05a"), looks := false }, kinds := [], alts := [], laidByText := true, laidKinds := [.data], laidTests := true, laidLooks := .later }
def ProofRightUptoCardSaid : Prop := Claim7.holds Tryd.pinned (.plain (OpenSpec.upto proofRightSpec)) proofRightUptoCard
end Rows
end Go.Proofs.YtcaffacganffjaaDoor
