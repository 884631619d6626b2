/-
  DERIVED. GIVEN WITH THE SEED: THE CARDS: each row of YtlcimlencoaiiaaDoorRows.lean that lists a variable, with what it lists TIED to the program's text (the seventh form; the later family's looks); each row that meets fmt, with fmt's text TOLD by the authors' own Lean function (tested against real Go, not proved from fmt's source: count such statements apart). THE CARD IS WHAT COUNTS. Prove the row's statement (the work); the ties are given (YtlcimlencoaiiaaDoorTie.lean); close each card by the builder's one call (the guide's Derived/Test/ToyasCard.lean, 'card_holds'). Laid BY PROGRAM, IN A SANDBOX (cutbox-door.mjs). By AI agents, Wed Nov 11 2026. No macro, syntax, notation, axiom, sorry.
-/
import Derived.Test.YtlcimlencoaiiaaDoorRows
import GoSem.ClaimSeven
namespace Go.Proofs.YtlcimlencoaiiaaDoor
namespace Rows

/-- THE TIED CARD OF 'scriniumlaw09.LeafHashes'. -/
def leafHashesCard : Claim7 := { stood := { row := leafHashesRow, standIns := [], harness := (true, "7f704445f2996ff44cb9d30f00f9d4f0195301e79afaea4fc6d9e583255d930c"), looks := false }, kinds := [], alts := [], laidByText := true, laidKinds := [.data], laidTests := true, laidLooks := .later }
def LeafHashesCardSaid : Prop := Claim7.holds Tryd.pinned (.plain (OpenSpec.ofChange leafHashesSpec)) leafHashesCard

/-- THE TIED CARD OF 'scriniumlaw09.LeafLevels'. -/
def leafLevelsCard : Claim7 := { stood := { row := leafLevelsRow, standIns := [], harness := (true, "7f704445f2996ff44cb9d30f00f9d4f0195301e79afaea4fc6d9e583255d930c"), looks := false }, kinds := [], alts := [], laidByText := true, laidKinds := [.data], laidTests := true, laidLooks := .later }
def LeafLevelsCardSaid : Prop := Claim7.holds Tryd.pinned (.plain (OpenSpec.ofChange leafLevelsSpec)) leafLevelsCard

/-- THE TIED CARD OF 'scriniumlaw09.LeafTops'. -/
def leafTopsCard : Claim7 := { stood := { row := leafTopsRow, standIns := [], harness := (true, "7f704445f2996ff44cb9d30f00f9d4f0195301e79afaea4fc6d9e583255d930c"), looks := false }, kinds := [], alts := [], laidByText := true, laidKinds := [.data], laidTests := true, laidLooks := .later }
def LeafTopsCardSaid : Prop := Claim7.holds Tryd.pinned (.plain (OpenSpec.ofChange leafTopsSpec)) leafTopsCard

/-- THE TIED CARD OF 'scriniumlaw09.LeafCounts'. -/
def leafCountsCard : Claim7 := { stood := { row := leafCountsRow, standIns := [], harness := (true, "7f704445f2996ff44cb9d30f00f9d4f0195301e79afaea4fc6d9e583255d930c"), looks := false }, kinds := [], alts := [], laidByText := true, laidKinds := [.data], laidTests := true, laidLooks := .later }
def LeafCountsCardSaid : Prop := Claim7.holds Tryd.pinned (.plain (OpenSpec.ofChange leafCountsSpec)) leafCountsCard

/-- THE TIED CARD OF 'scriniumlaw09.LeafApart'. -/
def leafApartCard : Claim7 := { stood := { row := leafApartRow, standIns := [], harness := (true, "7f704445f2996ff44cb9d30f00f9d4f0195301e79afaea4fc6d9e583255d930c"), looks := false }, kinds := [], alts := [], laidByText := true, laidKinds := [.data], laidTests := true, laidLooks := .later }
def LeafApartCardSaid : Prop := Claim7.holds Tryd.pinned (.plain (OpenSpec.ofChange leafApartSpec)) leafApartCard

/-- THE TIED CARD OF 'scriniumlaw09.LeafRoots'. -/
def leafRootsCard : Claim7 := { stood := { row := leafRootsRow, standIns := [], harness := (true, "7f704445f2996ff44cb9d30f00f9d4f0195301e79afaea4fc6d9e583255d930c"), looks := false }, kinds := [], alts := [], laidByText := true, laidKinds := [.data], laidTests := true, laidLooks := .later }
def LeafRootsCardSaid : Prop := Claim7.holds Tryd.pinned (.plain (OpenSpec.ofChange leafRootsSpec)) leafRootsCard

/-- THE TIED CARD OF 'scriniumlaw09.LeafSplits'. -/
def leafSplitsCard : Claim7 := { stood := { row := leafSplitsRow, standIns := [], harness := (true, "7f704445f2996ff44cb9d30f00f9d4f0195301e79afaea4fc6d9e583255d930c"), looks := false }, kinds := [], alts := [], laidByText := true, laidKinds := [.data], laidTests := true, laidLooks := .later }
def LeafSplitsCardSaid : Prop := Claim7.holds Tryd.pinned (.plain (OpenSpec.ofChange leafSplitsSpec)) leafSplitsCard

/-- THE TIED CARD OF 'scriniumlaw15.RecordBytes'. -/
def recordBytesCard : Claim7 := { stood := { row := recordBytesRow, standIns := [], harness := (true, "7f704445f2996ff44cb9d30f00f9d4f0195301e79afaea4fc6d9e583255d930c"), looks := false }, kinds := [], alts := [], laidByText := true, laidKinds := [.data], laidTests := true, laidLooks := .later }
def RecordBytesCardSaid : Prop := Claim7.holds Tryd.pinned (.plain (OpenSpec.ofChange recordBytesSpec)) recordBytesCard

/-- THE TIED CARD OF 'scriniumlaw11.FrontGrows'. -/
def frontGrowsCard : Claim7 := { stood := { row := frontGrowsRow, standIns := [], harness := (true, "7f704445f2996ff44cb9d30f00f9d4f0195301e79afaea4fc6d9e583255d930c"), looks := false }, kinds := [], alts := [], laidByText := true, laidKinds := [.data], laidTests := true, laidLooks := .later }
def FrontGrowsCardSaid : Prop := Claim7.holds Tryd.pinned (.plain (OpenSpec.ofChange frontGrowsSpec)) frontGrowsCard

/-- THE TIED CARD OF 'scriniumlaw11.FrontPeaks'. -/
def frontPeaksCard : Claim7 := { stood := { row := frontPeaksRow, standIns := [], harness := (true, "7f704445f2996ff44cb9d30f00f9d4f0195301e79afaea4fc6d9e583255d930c"), looks := false }, kinds := [], alts := [], laidByText := true, laidKinds := [.data], laidTests := true, laidLooks := .later }
def FrontPeaksCardSaid : Prop := Claim7.holds Tryd.pinned (.plain (OpenSpec.ofChange frontPeaksSpec)) frontPeaksCard

/-- THE TIED CARD OF 'scriniumlaw11.FrontNil'. -/
def frontNilCard : Claim7 := { stood := { row := frontNilRow, standIns := [], harness := (true, "7f704445f2996ff44cb9d30f00f9d4f0195301e79afaea4fc6d9e583255d930c"), looks := false }, kinds := [], alts := [], laidByText := true, laidKinds := [.data], laidTests := true, laidLooks := .later }
def FrontNilCardSaid : Prop := Claim7.holds Tryd.pinned (.plain (OpenSpec.ofChange frontNilSpec)) frontNilCard

/-- THE TIED CARD OF 'scriniumlaw11.FrontReads'. -/
def frontReadsCard : Claim7 := { stood := { row := frontReadsRow, standIns := [], harness := (true, "7f704445f2996ff44cb9d30f00f9d4f0195301e79afaea4fc6d9e583255d930c"), looks := false }, kinds := [], alts := [], laidByText := true, laidKinds := [.data], laidTests := true, laidLooks := .later }
def FrontReadsCardSaid : Prop := Claim7.holds Tryd.pinned (.plain (OpenSpec.ofChange frontReadsSpec)) frontReadsCard

/-- THE TIED CARD OF 'scriniumlaw11.FrontFull'. -/
def frontFullCard : Claim7 := { stood := { row := frontFullRow, standIns := [], harness := (true, "7f704445f2996ff44cb9d30f00f9d4f0195301e79afaea4fc6d9e583255d930c"), looks := false }, kinds := [], alts := [], laidByText := true, laidKinds := [.data], laidTests := true, laidLooks := .later }
def FrontFullCardSaid : Prop := Claim7.holds Tryd.pinned (.plain (OpenSpec.ofChange frontFullSpec)) frontFullCard

/-- THE TIED CARD OF 'scriniumlaw11.FrontBack'. -/
def frontBackCard : Claim7 := { stood := { row := frontBackRow, standIns := [], harness := (true, "7f704445f2996ff44cb9d30f00f9d4f0195301e79afaea4fc6d9e583255d930c"), looks := false }, kinds := [], alts := [], laidByText := true, laidKinds := [.data], laidTests := true, laidLooks := .later }
def FrontBackCardSaid : Prop := Claim7.holds Tryd.pinned (.plain (OpenSpec.ofChange frontBackSpec)) frontBackCard

/-- THE SECOND FORM's CARD OF 'scriniumlaw09.LeafHashes'. -/
def leafHashesUptoCard : Claim7 := { stood := { row := leafHashesUptoRow, standIns := [], harness := (true, "7f704445f2996ff44cb9d30f00f9d4f0195301e79afaea4fc6d9e583255d930c"), looks := false }, kinds := [], alts := [], laidByText := true, laidKinds := [.data], laidTests := true, laidLooks := .later }
def LeafHashesUptoCardSaid : Prop := Claim7.holds Tryd.pinned (.plain (OpenSpec.upto leafHashesSpec)) leafHashesUptoCard

/-- THE SECOND FORM's CARD OF 'scriniumlaw09.LeafLevels'. -/
def leafLevelsUptoCard : Claim7 := { stood := { row := leafLevelsUptoRow, standIns := [], harness := (true, "7f704445f2996ff44cb9d30f00f9d4f0195301e79afaea4fc6d9e583255d930c"), looks := false }, kinds := [], alts := [], laidByText := true, laidKinds := [.data], laidTests := true, laidLooks := .later }
def LeafLevelsUptoCardSaid : Prop := Claim7.holds Tryd.pinned (.plain (OpenSpec.upto leafLevelsSpec)) leafLevelsUptoCard

/-- THE SECOND FORM's CARD OF 'scriniumlaw09.LeafTops'. -/
def leafTopsUptoCard : Claim7 := { stood := { row := leafTopsUptoRow, standIns := [], harness := (true, "7f704445f2996ff44cb9d30f00f9d4f0195301e79afaea4fc6d9e583255d930c"), looks := false }, kinds := [], alts := [], laidByText := true, laidKinds := [.data], laidTests := true, laidLooks := .later }
def LeafTopsUptoCardSaid : Prop := Claim7.holds Tryd.pinned (.plain (OpenSpec.upto leafTopsSpec)) leafTopsUptoCard

/-- THE SECOND FORM's CARD OF 'scriniumlaw09.LeafCounts'. -/
def leafCountsUptoCard : Claim7 := { stood := { row := leafCountsUptoRow, standIns := [], harness := (true, "7f704445f2996ff44cb9d30f00f9d4f0195301e79afaea4fc6d9e583255d930c"), looks := false }, kinds := [], alts := [], laidByText := true, laidKinds := [.data], laidTests := true, laidLooks := .later }
def LeafCountsUptoCardSaid : Prop := Claim7.holds Tryd.pinned (.plain (OpenSpec.upto leafCountsSpec)) leafCountsUptoCard

/-- THE SECOND FORM's CARD OF 'scriniumlaw09.LeafApart'. -/
def leafApartUptoCard : Claim7 := { stood := { row := leafApartUptoRow, standIns := [], harness := (true, "7f704445f2996ff44cb9d30f00f9d4f0195301e79afaea4fc6d9e583255d930c"), looks := false }, kinds := [], alts := [], laidByText := true, laidKinds := [.data], laidTests := true, laidLooks := .later }
def LeafApartUptoCardSaid : Prop := Claim7.holds Tryd.pinned (.plain (OpenSpec.upto leafApartSpec)) leafApartUptoCard

/-- THE SECOND FORM's CARD OF 'scriniumlaw09.LeafRoots'. -/
def leafRootsUptoCard : Claim7 := { stood := { row := leafRootsUptoRow, standIns := [], harness := (true, "7f704445f2996ff44cb9d30f00f9d4f0195301e79afaea4fc6d9e583255d930c"), looks := false }, kinds := [], alts := [], laidByText := true, laidKinds := [.data], laidTests := true, laidLooks := .later }
def LeafRootsUptoCardSaid : Prop := Claim7.holds Tryd.pinned (.plain (OpenSpec.upto leafRootsSpec)) leafRootsUptoCard

/-- THE SECOND FORM's CARD OF 'scriniumlaw09.LeafSplits'. -/
def leafSplitsUptoCard : Claim7 := { stood := { row := leafSplitsUptoRow, standIns := [], harness := (true, "7f704445f2996ff44cb9d30f00f9d4f0195301e79afaea4fc6d9e583255d930c"), looks := false }, kinds := [], alts := [], laidByText := true, laidKinds := [.data], laidTests := true, laidLooks := .later }
def LeafSplitsUptoCardSaid : Prop := Claim7.holds Tryd.pinned (.plain (OpenSpec.upto leafSplitsSpec)) leafSplitsUptoCard

/-- THE SECOND FORM's CARD OF 'scriniumlaw15.RecordBytes'. -/
def recordBytesUptoCard : Claim7 := { stood := { row := recordBytesUptoRow, standIns := [], harness := (true, "7f704445f2996ff44cb9d30f00f9d4f0195301e79afaea4fc6d9e583255d930c"), looks := false }, kinds := [], alts := [], laidByText := true, laidKinds := [.data], laidTests := true, laidLooks := .later }
def RecordBytesUptoCardSaid : Prop := Claim7.holds Tryd.pinned (.plain (OpenSpec.upto recordBytesSpec)) recordBytesUptoCard

/-- THE SECOND FORM's CARD OF 'scriniumlaw11.FrontGrows'. -/
def frontGrowsUptoCard : Claim7 := { stood := { row := frontGrowsUptoRow, standIns := [], harness := (true, "7f704445f2996ff44cb9d30f00f9d4f0195301e79afaea4fc6d9e583255d930c"), looks := false }, kinds := [], alts := [], laidByText := true, laidKinds := [.data], laidTests := true, laidLooks := .later }
def FrontGrowsUptoCardSaid : Prop := Claim7.holds Tryd.pinned (.plain (OpenSpec.upto frontGrowsSpec)) frontGrowsUptoCard

/-- THE SECOND FORM's CARD OF 'scriniumlaw11.FrontPeaks'. -/
def frontPeaksUptoCard : Claim7 := { stood := { row := frontPeaksUptoRow, standIns := [], harness := (true, "7f704445f2996ff44cb9d30f00f9d4f0195301e79afaea4fc6d9e583255d930c"), looks := false }, kinds := [], alts := [], laidByText := true, laidKinds := [.data], laidTests := true, laidLooks := .later }
def FrontPeaksUptoCardSaid : Prop := Claim7.holds Tryd.pinned (.plain (OpenSpec.upto frontPeaksSpec)) frontPeaksUptoCard

/-- THE SECOND FORM's CARD OF 'scriniumlaw11.FrontNil'. -/
def frontNilUptoCard : Claim7 := { stood := { row := frontNilUptoRow, standIns := [], harness := (true, "7f704445f2996ff44cb9d30f00f9d4f0195301e79afaea4fc6d9e583255d930c"), looks := false }, kinds := [], alts := [], laidByText := true, laidKinds := [.data], laidTests := true, laidLooks := .later }
def FrontNilUptoCardSaid : Prop := Claim7.holds Tryd.pinned (.plain (OpenSpec.upto frontNilSpec)) frontNilUptoCard

/-- THE SECOND FORM's CARD OF 'scriniumlaw11.FrontReads'. -/
def frontReadsUptoCard : Claim7 := { stood := { row := frontReadsUptoRow, standIns := [], harness := (true, "7f704445f2996ff44cb9d30f00f9d4f0195301e79afaea4fc6d9e583255d930c"), looks := false }, kinds := [], alts := [], laidByText := true, laidKinds := [.data], laidTests := true, laidLooks := .later }
def FrontReadsUptoCardSaid : Prop := Claim7.holds Tryd.pinned (.plain (OpenSpec.upto frontReadsSpec)) frontReadsUptoCard

/-- THE SECOND FORM's CARD OF 'scriniumlaw11.FrontFull'. -/
def frontFullUptoCard : Claim7 := { stood := { row := frontFullUptoRow, standIns := [], harness := (true, "7f704445f2996ff44cb9d30f00f9d4f0195301e79afaea4fc6d9e583255d930c"), looks := false }, kinds := [], alts := [], laidByText := true, laidKinds := [.data], laidTests := true, laidLooks := .later }
def FrontFullUptoCardSaid : Prop := Claim7.holds Tryd.pinned (.plain (OpenSpec.upto frontFullSpec)) frontFullUptoCard

/-- THE SECOND FORM's CARD OF 'scriniumlaw11.FrontBack'. -/
def frontBackUptoCard : Claim7 := { stood := { row := frontBackUptoRow, standIns := [], harness := (true, "7f704445f2996ff44cb9d30f00f9d4f0195301e79afaea4fc6d9e583255d930c"), looks := false }, kinds := [], alts := [], laidByText := true, laidKinds := [.data], laidTests := true, laidLooks := .later }
def FrontBackUptoCardSaid : Prop := Claim7.holds Tryd.pinned (.plain (OpenSpec.upto frontBackSpec)) frontBackUptoCard
end Rows
end Go.Proofs.YtlcimlencoaiiaaDoor
