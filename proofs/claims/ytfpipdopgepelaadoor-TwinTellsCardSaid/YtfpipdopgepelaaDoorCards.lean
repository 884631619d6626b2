/-
  DERIVED. GIVEN WITH THE SEED: THE CARDS: each row of YtfpipdopgepelaaDoorRows.lean that lists a variable, with what it lists TIED to the program's text (the seventh form; the later family's looks); each row that meets fmt, with fmt's text TOLD by the authors' own Lean function (tested against real Go, not proved from fmt's source: count such statements apart). THE CARD IS WHAT COUNTS. Prove the row's statement (the work); the ties are given (YtfpipdopgepelaaDoorTie.lean); close each card by the builder's one call (the guide's Derived/Test/ToyasCard.lean, 'card_holds'). Laid BY PROGRAM, IN A SANDBOX (cutbox-door.mjs). By AI agents, Wed Nov 11 2026. No macro, syntax, notation, axiom, sorry.
-/
import Derived.Test.YtfpipdopgepelaaDoorRows
import GoSem.ClaimSeven
namespace Go.Proofs.YtfpipdopgepelaaDoor
namespace Rows

/-- THE TIED CARD OF 'scriniumlaw12.ProofFolds'. -/
def proofFoldsCard : Claim7 := { stood := { row := proofFoldsRow, standIns := [], harness := (true, "e450f59fa710ed0066b86edad542a7274d70fca7aaec67edcd3ec1d812e9ac2d"), looks := false }, kinds := [], alts := [], laidByText := true, laidKinds := [.data], laidTests := true, laidLooks := .later }
def ProofFoldsCardSaid : Prop := Claim7.holds Tryd.pinned (.plain (OpenSpec.ofChange proofFoldsSpec)) proofFoldsCard

/-- THE TIED CARD OF 'scriniumlaw12.ProofTells'. -/
def proofTellsCard : Claim7 := { stood := { row := proofTellsRow, standIns := [], harness := (true, "e450f59fa710ed0066b86edad542a7274d70fca7aaec67edcd3ec1d812e9ac2d"), looks := false }, kinds := [], alts := [], laidByText := true, laidKinds := [.data], laidTests := true, laidLooks := .later }
def ProofTellsCardSaid : Prop := Claim7.holds Tryd.pinned (.plain (OpenSpec.ofChange proofTellsSpec)) proofTellsCard

/-- THE TIED CARD OF 'scriniumlaw12.ProofLeaves'. -/
def proofLeavesCard : Claim7 := { stood := { row := proofLeavesRow, standIns := [], harness := (true, "e450f59fa710ed0066b86edad542a7274d70fca7aaec67edcd3ec1d812e9ac2d"), looks := false }, kinds := [], alts := [], laidByText := true, laidKinds := [.data], laidTests := true, laidLooks := .later }
def ProofLeavesCardSaid : Prop := Claim7.holds Tryd.pinned (.plain (OpenSpec.ofChange proofLeavesSpec)) proofLeavesCard

/-- THE TIED CARD OF 'scriniumlaw12.ProofTrees'. -/
def proofTreesCard : Claim7 := { stood := { row := proofTreesRow, standIns := [], harness := (true, "e450f59fa710ed0066b86edad542a7274d70fca7aaec67edcd3ec1d812e9ac2d"), looks := false }, kinds := [], alts := [], laidByText := true, laidKinds := [.data], laidTests := true, laidLooks := .later }
def ProofTreesCardSaid : Prop := Claim7.holds Tryd.pinned (.plain (OpenSpec.ofChange proofTreesSpec)) proofTreesCard

/-- THE TIED CARD OF 'scriniumlaw12.ProofOne'. -/
def proofOneCard : Claim7 := { stood := { row := proofOneRow, standIns := [], harness := (true, "e450f59fa710ed0066b86edad542a7274d70fca7aaec67edcd3ec1d812e9ac2d"), looks := false }, kinds := [], alts := [], laidByText := true, laidKinds := [.data], laidTests := true, laidLooks := .later }
def ProofOneCardSaid : Prop := Claim7.holds Tryd.pinned (.plain (OpenSpec.ofChange proofOneSpec)) proofOneCard

/-- THE TIED CARD OF 'scriniumlaw12.ProofSizes'. -/
def proofSizesCard : Claim7 := { stood := { row := proofSizesRow, standIns := [], harness := (true, "e450f59fa710ed0066b86edad542a7274d70fca7aaec67edcd3ec1d812e9ac2d"), looks := false }, kinds := [], alts := [], laidByText := true, laidKinds := [.data], laidTests := true, laidLooks := .later }
def ProofSizesCardSaid : Prop := Claim7.holds Tryd.pinned (.plain (OpenSpec.ofChange proofSizesSpec)) proofSizesCard

/-- THE TIED CARD OF 'scriniumlaw12.ProofSame'. -/
def proofSameCard : Claim7 := { stood := { row := proofSameRow, standIns := [], harness := (true, "e450f59fa710ed0066b86edad542a7274d70fca7aaec67edcd3ec1d812e9ac2d"), looks := false }, kinds := [], alts := [], laidByText := true, laidKinds := [.data], laidTests := true, laidLooks := .later }
def ProofSameCardSaid : Prop := Claim7.holds Tryd.pinned (.plain (OpenSpec.ofChange proofSameSpec)) proofSameCard

/-- THE TIED CARD OF 'scriniumlaw13.TwinLeaves'. -/
def twinLeavesCard : Claim7 := { stood := { row := twinLeavesRow, standIns := [], harness := (true, "e450f59fa710ed0066b86edad542a7274d70fca7aaec67edcd3ec1d812e9ac2d"), looks := false }, kinds := [], alts := [], laidByText := true, laidKinds := [.data], laidTests := true, laidLooks := .later }
def TwinLeavesCardSaid : Prop := Claim7.holds Tryd.pinned (.plain (OpenSpec.ofChange twinLeavesSpec)) twinLeavesCard

/-- THE TIED CARD OF 'scriniumlaw13.TwinTree'. -/
def twinTreeCard : Claim7 := { stood := { row := twinTreeRow, standIns := [], harness := (true, "e450f59fa710ed0066b86edad542a7274d70fca7aaec67edcd3ec1d812e9ac2d"), looks := false }, kinds := [], alts := [], laidByText := true, laidKinds := [.data], laidTests := true, laidLooks := .later }
def TwinTreeCardSaid : Prop := Claim7.holds Tryd.pinned (.plain (OpenSpec.ofChange twinTreeSpec)) twinTreeCard

/-- THE TIED CARD OF 'scriniumlaw13.TwinWays'. -/
def twinWaysCard : Claim7 := { stood := { row := twinWaysRow, standIns := [], harness := (true, "e450f59fa710ed0066b86edad542a7274d70fca7aaec67edcd3ec1d812e9ac2d"), looks := false }, kinds := [], alts := [], laidByText := true, laidKinds := [.data], laidTests := true, laidLooks := .later }
def TwinWaysCardSaid : Prop := Claim7.holds Tryd.pinned (.plain (OpenSpec.ofChange twinWaysSpec)) twinWaysCard

/-- THE TIED CARD OF 'scriniumlaw13.TwinData'. -/
def twinDataCard : Claim7 := { stood := { row := twinDataRow, standIns := [], harness := (true, "e450f59fa710ed0066b86edad542a7274d70fca7aaec67edcd3ec1d812e9ac2d"), looks := false }, kinds := [], alts := [], laidByText := true, laidKinds := [.data], laidTests := true, laidLooks := .later }
def TwinDataCardSaid : Prop := Claim7.holds Tryd.pinned (.plain (OpenSpec.ofChange twinDataSpec)) twinDataCard

/-- THE TIED CARD OF 'scriniumlaw13.TwinTells'. -/
def twinTellsCard : Claim7 := { stood := { row := twinTellsRow, standIns := [], harness := (true, "e450f59fa710ed0066b86edad542a7274d70fca7aaec67edcd3ec1d812e9ac2d"), looks := false }, kinds := [], alts := [], laidByText := true, laidKinds := [.data], laidTests := true, laidLooks := .later }
def TwinTellsCardSaid : Prop := Claim7.holds Tryd.pinned (.plain (OpenSpec.ofChange twinTellsSpec)) twinTellsCard

/-- THE TIED CARD OF 'scriniumlaw13.TwinTrees'. -/
def twinTreesCard : Claim7 := { stood := { row := twinTreesRow, standIns := [], harness := (true, "e450f59fa710ed0066b86edad542a7274d70fca7aaec67edcd3ec1d812e9ac2d"), looks := false }, kinds := [], alts := [], laidByText := true, laidKinds := [.data], laidTests := true, laidLooks := .later }
def TwinTreesCardSaid : Prop := Claim7.holds Tryd.pinned (.plain (OpenSpec.ofChange twinTreesSpec)) twinTreesCard

/-- THE SECOND FORM's CARD OF 'scriniumlaw12.ProofFolds'. -/
def proofFoldsUptoCard : Claim7 := { stood := { row := proofFoldsUptoRow, standIns := [], harness := (true, "e450f59fa710ed0066b86edad542a7274d70fca7aaec67edcd3ec1d812e9ac2d"), looks := false }, kinds := [], alts := [], laidByText := true, laidKinds := [.data], laidTests := true, laidLooks := .later }
def ProofFoldsUptoCardSaid : Prop := Claim7.holds Tryd.pinned (.plain (OpenSpec.upto proofFoldsSpec)) proofFoldsUptoCard

/-- THE SECOND FORM's CARD OF 'scriniumlaw12.ProofTells'. -/
def proofTellsUptoCard : Claim7 := { stood := { row := proofTellsUptoRow, standIns := [], harness := (true, "e450f59fa710ed0066b86edad542a7274d70fca7aaec67edcd3ec1d812e9ac2d"), looks := false }, kinds := [], alts := [], laidByText := true, laidKinds := [.data], laidTests := true, laidLooks := .later }
def ProofTellsUptoCardSaid : Prop := Claim7.holds Tryd.pinned (.plain (OpenSpec.upto proofTellsSpec)) proofTellsUptoCard

/-- THE SECOND FORM's CARD OF 'scriniumlaw12.ProofLeaves'. -/
def proofLeavesUptoCard : Claim7 := { stood := { row := proofLeavesUptoRow, standIns := [], harness := (true, "e450f59fa710ed0066b86edad542a7274d70fca7aaec67edcd3ec1d812e9ac2d"), looks := false }, kinds := [], alts := [], laidByText := true, laidKinds := [.data], laidTests := true, laidLooks := .later }
def ProofLeavesUptoCardSaid : Prop := Claim7.holds Tryd.pinned (.plain (OpenSpec.upto proofLeavesSpec)) proofLeavesUptoCard

/-- THE SECOND FORM's CARD OF 'scriniumlaw12.ProofTrees'. -/
def proofTreesUptoCard : Claim7 := { stood := { row := proofTreesUptoRow, standIns := [], harness := (true, "e450f59fa710ed0066b86edad542a7274d70fca7aaec67edcd3ec1d812e9ac2d"), looks := false }, kinds := [], alts := [], laidByText := true, laidKinds := [.data], laidTests := true, laidLooks := .later }
def ProofTreesUptoCardSaid : Prop := Claim7.holds Tryd.pinned (.plain (OpenSpec.upto proofTreesSpec)) proofTreesUptoCard

/-- THE SECOND FORM's CARD OF 'scriniumlaw12.ProofOne'. -/
def proofOneUptoCard : Claim7 := { stood := { row := proofOneUptoRow, standIns := [], harness := (true, "e450f59fa710ed0066b86edad542a7274d70fca7aaec67edcd3ec1d812e9ac2d"), looks := false }, kinds := [], alts := [], laidByText := true, laidKinds := [.data], laidTests := true, laidLooks := .later }
def ProofOneUptoCardSaid : Prop := Claim7.holds Tryd.pinned (.plain (OpenSpec.upto proofOneSpec)) proofOneUptoCard

/-- THE SECOND FORM's CARD OF 'scriniumlaw12.ProofSizes'. -/
def proofSizesUptoCard : Claim7 := { stood := { row := proofSizesUptoRow, standIns := [], harness := (true, "e450f59fa710ed0066b86edad542a7274d70fca7aaec67edcd3ec1d812e9ac2d"), looks := false }, kinds := [], alts := [], laidByText := true, laidKinds := [.data], laidTests := true, laidLooks := .later }
def ProofSizesUptoCardSaid : Prop := Claim7.holds Tryd.pinned (.plain (OpenSpec.upto proofSizesSpec)) proofSizesUptoCard

/-- THE SECOND FORM's CARD OF 'scriniumlaw12.ProofSame'. -/
def proofSameUptoCard : Claim7 := { stood := { row := proofSameUptoRow, standIns := [], harness := (true, "e450f59fa710ed0066b86edad542a7274d70fca7aaec67edcd3ec1d812e9ac2d"), looks := false }, kinds := [], alts := [], laidByText := true, laidKinds := [.data], laidTests := true, laidLooks := .later }
def ProofSameUptoCardSaid : Prop := Claim7.holds Tryd.pinned (.plain (OpenSpec.upto proofSameSpec)) proofSameUptoCard

/-- THE SECOND FORM's CARD OF 'scriniumlaw13.TwinLeaves'. -/
def twinLeavesUptoCard : Claim7 := { stood := { row := twinLeavesUptoRow, standIns := [], harness := (true, "e450f59fa710ed0066b86edad542a7274d70fca7aaec67edcd3ec1d812e9ac2d"), looks := false }, kinds := [], alts := [], laidByText := true, laidKinds := [.data], laidTests := true, laidLooks := .later }
def TwinLeavesUptoCardSaid : Prop := Claim7.holds Tryd.pinned (.plain (OpenSpec.upto twinLeavesSpec)) twinLeavesUptoCard

/-- THE SECOND FORM's CARD OF 'scriniumlaw13.TwinTree'. -/
def twinTreeUptoCard : Claim7 := { stood := { row := twinTreeUptoRow, standIns := [], harness := (true, "e450f59fa710ed0066b86edad542a7274d70fca7aaec67edcd3ec1d812e9ac2d"), looks := false }, kinds := [], alts := [], laidByText := true, laidKinds := [.data], laidTests := true, laidLooks := .later }
def TwinTreeUptoCardSaid : Prop := Claim7.holds Tryd.pinned (.plain (OpenSpec.upto twinTreeSpec)) twinTreeUptoCard

/-- THE SECOND FORM's CARD OF 'scriniumlaw13.TwinWays'. -/
def twinWaysUptoCard : Claim7 := { stood := { row := twinWaysUptoRow, standIns := [], harness := (true, "e450f59fa710ed0066b86edad542a7274d70fca7aaec67edcd3ec1d812e9ac2d"), looks := false }, kinds := [], alts := [], laidByText := true, laidKinds := [.data], laidTests := true, laidLooks := .later }
def TwinWaysUptoCardSaid : Prop := Claim7.holds Tryd.pinned (.plain (OpenSpec.upto twinWaysSpec)) twinWaysUptoCard

/-- THE SECOND FORM's CARD OF 'scriniumlaw13.TwinData'. -/
def twinDataUptoCard : Claim7 := { stood := { row := twinDataUptoRow, standIns := [], harness := (true, "e450f59fa710ed0066b86edad542a7274d70fca7aaec67edcd3ec1d812e9ac2d"), looks := false }, kinds := [], alts := [], laidByText := true, laidKinds := [.data], laidTests := true, laidLooks := .later }
def TwinDataUptoCardSaid : Prop := Claim7.holds Tryd.pinned (.plain (OpenSpec.upto twinDataSpec)) twinDataUptoCard

/-- THE SECOND FORM's CARD OF 'scriniumlaw13.TwinTells'. -/
def twinTellsUptoCard : Claim7 := { stood := { row := twinTellsUptoRow, standIns := [], harness := (true, "e450f59fa710ed0066b86edad542a7274d70fca7aaec67edcd3ec1d812e9ac2d"), looks := false }, kinds := [], alts := [], laidByText := true, laidKinds := [.data], laidTests := true, laidLooks := .later }
def TwinTellsUptoCardSaid : Prop := Claim7.holds Tryd.pinned (.plain (OpenSpec.upto twinTellsSpec)) twinTellsUptoCard

/-- THE SECOND FORM's CARD OF 'scriniumlaw13.TwinTrees'. -/
def twinTreesUptoCard : Claim7 := { stood := { row := twinTreesUptoRow, standIns := [], harness := (true, "e450f59fa710ed0066b86edad542a7274d70fca7aaec67edcd3ec1d812e9ac2d"), looks := false }, kinds := [], alts := [], laidByText := true, laidKinds := [.data], laidTests := true, laidLooks := .later }
def TwinTreesUptoCardSaid : Prop := Claim7.holds Tryd.pinned (.plain (OpenSpec.upto twinTreesSpec)) twinTreesUptoCard
end Rows
end Go.Proofs.YtfpipdopgepelaaDoor
