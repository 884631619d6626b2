/-
  DERIVED. GIVEN WITH THE SEED: THE CARDS: each row of YtgofnkpegfkonaaDoorRows.lean that lists a variable, with what it lists TIED to the program's text (the seventh form; the later family's looks); each row that meets fmt, with fmt's text TOLD by the authors' own Lean function (tested against real Go, not proved from fmt's source: count such statements apart). THE CARD IS WHAT COUNTS. Prove the row's statement (the work); the ties are given (YtgofnkpegfkonaaDoorTie.lean); close each card by the builder's one call (the guide's Derived/Test/ToyasCard.lean, 'card_holds'). Laid BY PROGRAM, IN A SANDBOX (cutbox-door.mjs). By AI agents, Wed Nov 11 2026. No macro, syntax, notation, axiom, sorry.
-/
import Derived.Test.YtgofnkpegfkonaaDoorRows
import GoSem.ClaimSeven
namespace Go.Proofs.YtgofnkpegfkonaaDoor
namespace Rows

/-- THE TIED CARD OF 'scriniumlaw02.ShaSteps'. -/
def shaStepsCard : Claim7 := { stood := { row := shaStepsRow, standIns := [], harness := (true, "3d6043545595f2908c6443bc7364b627b95b14318e600a7259599ffe54288387"), looks := false }, kinds := [], alts := [], laidByText := true, laidKinds := [.data], laidTests := true, laidLooks := .later }
def ShaStepsCardSaid : Prop := Claim7.holds Tryd.pinned (.plain (OpenSpec.ofChange shaStepsSpec)) shaStepsCard

/-- THE TIED CARD OF 'scriniumlaw02.ShaOne'. -/
def shaOneCard : Claim7 := { stood := { row := shaOneRow, standIns := [], harness := (true, "3d6043545595f2908c6443bc7364b627b95b14318e600a7259599ffe54288387"), looks := false }, kinds := [], alts := [], laidByText := true, laidKinds := [.data], laidTests := true, laidLooks := .later }
def ShaOneCardSaid : Prop := Claim7.holds Tryd.pinned (.plain (OpenSpec.ofChange shaOneSpec)) shaOneCard

/-- THE TIED CARD OF 'scriniumlaw02.ShaTwo'. -/
def shaTwoCard : Claim7 := { stood := { row := shaTwoRow, standIns := [], harness := (true, "3d6043545595f2908c6443bc7364b627b95b14318e600a7259599ffe54288387"), looks := false }, kinds := [], alts := [], laidByText := true, laidKinds := [.data], laidTests := true, laidLooks := .later }
def ShaTwoCardSaid : Prop := Claim7.holds Tryd.pinned (.plain (OpenSpec.ofChange shaTwoSpec)) shaTwoCard

/-- THE TIED CARD OF 'scriniumlaw02.ShaHashes'. -/
def shaHashesCard : Claim7 := { stood := { row := shaHashesRow, standIns := [], harness := (true, "3d6043545595f2908c6443bc7364b627b95b14318e600a7259599ffe54288387"), looks := false }, kinds := [], alts := [], laidByText := true, laidKinds := [.data], laidTests := true, laidLooks := .later }
def ShaHashesCardSaid : Prop := Claim7.holds Tryd.pinned (.plain (OpenSpec.ofChange shaHashesSpec)) shaHashesCard

/-- THE TIED CARD OF 'scriniumlaw02.ShaHex'. -/
def shaHexCard : Claim7 := { stood := { row := shaHexRow, standIns := [], harness := (true, "3d6043545595f2908c6443bc7364b627b95b14318e600a7259599ffe54288387"), looks := false }, kinds := [], alts := [], laidByText := true, laidKinds := [.data], laidTests := true, laidLooks := .later }
def ShaHexCardSaid : Prop := Claim7.holds Tryd.pinned (.plain (OpenSpec.ofChange shaHexSpec)) shaHexCard

/-- THE TIED CARD OF 'scriniumlaw02.ShaParts'. -/
def shaPartsCard : Claim7 := { stood := { row := shaPartsRow, standIns := [], harness := (true, "3d6043545595f2908c6443bc7364b627b95b14318e600a7259599ffe54288387"), looks := false }, kinds := [], alts := [], laidByText := true, laidKinds := [.data], laidTests := true, laidLooks := .later }
def ShaPartsCardSaid : Prop := Claim7.holds Tryd.pinned (.plain (OpenSpec.ofChange shaPartsSpec)) shaPartsCard

/-- THE TIED CARD OF 'scriniumlaw02.ShaNil'. -/
def shaNilCard : Claim7 := { stood := { row := shaNilRow, standIns := [], harness := (true, "3d6043545595f2908c6443bc7364b627b95b14318e600a7259599ffe54288387"), looks := false }, kinds := [], alts := [], laidByText := true, laidKinds := [.data], laidTests := true, laidLooks := .later }
def ShaNilCardSaid : Prop := Claim7.holds Tryd.pinned (.plain (OpenSpec.ofChange shaNilSpec)) shaNilCard

/-- THE TIED CARD OF 'scriniumlaw03.MacParts'. -/
def macPartsCard : Claim7 := { stood := { row := macPartsRow, standIns := [], harness := (true, "3d6043545595f2908c6443bc7364b627b95b14318e600a7259599ffe54288387"), looks := false }, kinds := [], alts := [], laidByText := true, laidKinds := [.data], laidTests := true, laidLooks := .later }
def MacPartsCardSaid : Prop := Claim7.holds Tryd.pinned (.plain (OpenSpec.ofChange macPartsSpec)) macPartsCard

/-- THE TIED CARD OF 'scriniumlaw03.MacSums'. -/
def macSumsCard : Claim7 := { stood := { row := macSumsRow, standIns := [], harness := (true, "3d6043545595f2908c6443bc7364b627b95b14318e600a7259599ffe54288387"), looks := false }, kinds := [], alts := [], laidByText := true, laidKinds := [.data], laidTests := true, laidLooks := .later }
def MacSumsCardSaid : Prop := Claim7.holds Tryd.pinned (.plain (OpenSpec.ofChange macSumsSpec)) macSumsCard

/-- THE TIED CARD OF 'scriniumlaw03.MacRight'. -/
def macRightCard : Claim7 := { stood := { row := macRightRow, standIns := [], harness := (true, "3d6043545595f2908c6443bc7364b627b95b14318e600a7259599ffe54288387"), looks := false }, kinds := [], alts := [], laidByText := true, laidKinds := [.data], laidTests := true, laidLooks := .later }
def MacRightCardSaid : Prop := Claim7.holds Tryd.pinned (.plain (OpenSpec.ofChange macRightSpec)) macRightCard

/-- THE TIED CARD OF 'scriniumlaw03.MacMakers'. -/
def macMakersCard : Claim7 := { stood := { row := macMakersRow, standIns := [], harness := (true, "3d6043545595f2908c6443bc7364b627b95b14318e600a7259599ffe54288387"), looks := false }, kinds := [], alts := [], laidByText := true, laidKinds := [.data], laidTests := true, laidLooks := .later }
def MacMakersCardSaid : Prop := Claim7.holds Tryd.pinned (.plain (OpenSpec.ofChange macMakersSpec)) macMakersCard

/-- THE TIED CARD OF 'scriniumlaw03.MacNil'. -/
def macNilCard : Claim7 := { stood := { row := macNilRow, standIns := [], harness := (true, "3d6043545595f2908c6443bc7364b627b95b14318e600a7259599ffe54288387"), looks := false }, kinds := [], alts := [], laidByText := true, laidKinds := [.data], laidTests := true, laidLooks := .later }
def MacNilCardSaid : Prop := Claim7.holds Tryd.pinned (.plain (OpenSpec.ofChange macNilSpec)) macNilCard

/-- THE SECOND FORM's CARD OF 'scriniumlaw02.ShaSteps'. -/
def shaStepsUptoCard : Claim7 := { stood := { row := shaStepsUptoRow, standIns := [], harness := (true, "3d6043545595f2908c6443bc7364b627b95b14318e600a7259599ffe54288387"), looks := false }, kinds := [], alts := [], laidByText := true, laidKinds := [.data], laidTests := true, laidLooks := .later }
def ShaStepsUptoCardSaid : Prop := Claim7.holds Tryd.pinned (.plain (OpenSpec.upto shaStepsSpec)) shaStepsUptoCard

/-- THE SECOND FORM's CARD OF 'scriniumlaw02.ShaOne'. -/
def shaOneUptoCard : Claim7 := { stood := { row := shaOneUptoRow, standIns := [], harness := (true, "3d6043545595f2908c6443bc7364b627b95b14318e600a7259599ffe54288387"), looks := false }, kinds := [], alts := [], laidByText := true, laidKinds := [.data], laidTests := true, laidLooks := .later }
def ShaOneUptoCardSaid : Prop := Claim7.holds Tryd.pinned (.plain (OpenSpec.upto shaOneSpec)) shaOneUptoCard

/-- THE SECOND FORM's CARD OF 'scriniumlaw02.ShaTwo'. -/
def shaTwoUptoCard : Claim7 := { stood := { row := shaTwoUptoRow, standIns := [], harness := (true, "3d6043545595f2908c6443bc7364b627b95b14318e600a7259599ffe54288387"), looks := false }, kinds := [], alts := [], laidByText := true, laidKinds := [.data], laidTests := true, laidLooks := .later }
def ShaTwoUptoCardSaid : Prop := Claim7.holds Tryd.pinned (.plain (OpenSpec.upto shaTwoSpec)) shaTwoUptoCard

/-- THE SECOND FORM's CARD OF 'scriniumlaw02.ShaHashes'. -/
def shaHashesUptoCard : Claim7 := { stood := { row := shaHashesUptoRow, standIns := [], harness := (true, "3d6043545595f2908c6443bc7364b627b95b14318e600a7259599ffe54288387"), looks := false }, kinds := [], alts := [], laidByText := true, laidKinds := [.data], laidTests := true, laidLooks := .later }
def ShaHashesUptoCardSaid : Prop := Claim7.holds Tryd.pinned (.plain (OpenSpec.upto shaHashesSpec)) shaHashesUptoCard

/-- THE SECOND FORM's CARD OF 'scriniumlaw02.ShaHex'. -/
def shaHexUptoCard : Claim7 := { stood := { row := shaHexUptoRow, standIns := [], harness := (true, "3d6043545595f2908c6443bc7364b627b95b14318e600a7259599ffe54288387"), looks := false }, kinds := [], alts := [], laidByText := true, laidKinds := [.data], laidTests := true, laidLooks := .later }
def ShaHexUptoCardSaid : Prop := Claim7.holds Tryd.pinned (.plain (OpenSpec.upto shaHexSpec)) shaHexUptoCard

/-- THE SECOND FORM's CARD OF 'scriniumlaw02.ShaParts'. -/
def shaPartsUptoCard : Claim7 := { stood := { row := shaPartsUptoRow, standIns := [], harness := (true, "3d6043545595f2908c6443bc7364b627b95b14318e600a7259599ffe54288387"), looks := false }, kinds := [], alts := [], laidByText := true, laidKinds := [.data], laidTests := true, laidLooks := .later }
def ShaPartsUptoCardSaid : Prop := Claim7.holds Tryd.pinned (.plain (OpenSpec.upto shaPartsSpec)) shaPartsUptoCard

/-- THE SECOND FORM's CARD OF 'scriniumlaw02.ShaNil'. -/
def shaNilUptoCard : Claim7 := { stood := { row := shaNilUptoRow, standIns := [], harness := (true, "3d6043545595f2908c6443bc7364b627b95b14318e600a7259599ffe54288387"), looks := false }, kinds := [], alts := [], laidByText := true, laidKinds := [.data], laidTests := true, laidLooks := .later }
def ShaNilUptoCardSaid : Prop := Claim7.holds Tryd.pinned (.plain (OpenSpec.upto shaNilSpec)) shaNilUptoCard

/-- THE SECOND FORM's CARD OF 'scriniumlaw03.MacParts'. -/
def macPartsUptoCard : Claim7 := { stood := { row := macPartsUptoRow, standIns := [], harness := (true, "3d6043545595f2908c6443bc7364b627b95b14318e600a7259599ffe54288387"), looks := false }, kinds := [], alts := [], laidByText := true, laidKinds := [.data], laidTests := true, laidLooks := .later }
def MacPartsUptoCardSaid : Prop := Claim7.holds Tryd.pinned (.plain (OpenSpec.upto macPartsSpec)) macPartsUptoCard

/-- THE SECOND FORM's CARD OF 'scriniumlaw03.MacSums'. -/
def macSumsUptoCard : Claim7 := { stood := { row := macSumsUptoRow, standIns := [], harness := (true, "3d6043545595f2908c6443bc7364b627b95b14318e600a7259599ffe54288387"), looks := false }, kinds := [], alts := [], laidByText := true, laidKinds := [.data], laidTests := true, laidLooks := .later }
def MacSumsUptoCardSaid : Prop := Claim7.holds Tryd.pinned (.plain (OpenSpec.upto macSumsSpec)) macSumsUptoCard

/-- THE SECOND FORM's CARD OF 'scriniumlaw03.MacRight'. -/
def macRightUptoCard : Claim7 := { stood := { row := macRightUptoRow, standIns := [], harness := (true, "3d6043545595f2908c6443bc7364b627b95b14318e600a7259599ffe54288387"), looks := false }, kinds := [], alts := [], laidByText := true, laidKinds := [.data], laidTests := true, laidLooks := .later }
def MacRightUptoCardSaid : Prop := Claim7.holds Tryd.pinned (.plain (OpenSpec.upto macRightSpec)) macRightUptoCard

/-- THE SECOND FORM's CARD OF 'scriniumlaw03.MacMakers'. -/
def macMakersUptoCard : Claim7 := { stood := { row := macMakersUptoRow, standIns := [], harness := (true, "3d6043545595f2908c6443bc7364b627b95b14318e600a7259599ffe54288387"), looks := false }, kinds := [], alts := [], laidByText := true, laidKinds := [.data], laidTests := true, laidLooks := .later }
def MacMakersUptoCardSaid : Prop := Claim7.holds Tryd.pinned (.plain (OpenSpec.upto macMakersSpec)) macMakersUptoCard

/-- THE SECOND FORM's CARD OF 'scriniumlaw03.MacNil'. -/
def macNilUptoCard : Claim7 := { stood := { row := macNilUptoRow, standIns := [], harness := (true, "3d6043545595f2908c6443bc7364b627b95b14318e600a7259599ffe54288387"), looks := false }, kinds := [], alts := [], laidByText := true, laidKinds := [.data], laidTests := true, laidLooks := .later }
def MacNilUptoCardSaid : Prop := Claim7.holds Tryd.pinned (.plain (OpenSpec.upto macNilSpec)) macNilUptoCard
end Rows
end Go.Proofs.YtgofnkpegfkonaaDoor
