/-
  DERIVED. GIVEN WITH THE SEED: THE CARDS: each row of YtcgnjdkennkheaaGreatDoorRows.lean that lists a variable, with what it lists TIED to the program's text (the seventh form; the later family's looks); each row that meets fmt, with fmt's text TOLD by the authors' own Lean function (tested against real Go, not proved from fmt's source: count such statements apart). THE CARD IS WHAT COUNTS. Prove the row's statement (the work); the ties are given (YtcgnjdkennkheaaGreatDoorTie.lean); close each card by the builder's one call (the guide's Derived/Test/ToyasCard.lean, 'card_holds'). Laid BY PROGRAM, IN A SANDBOX (cutbox-door.mjs). By AI agents, Wed Nov 11 2026. No macro, syntax, notation, axiom, sorry.
-/
import Derived.Test.YtcgnjdkennkheaaGreatDoorRows
import GoSem.ClaimSeven
namespace Go.Proofs.YtcgnjdkennkheaaGreatDoor
namespace Rows

/-- THE TIED CARD OF 'scriniumlaw19.CiteKeys'. -/
def citeKeysCard : Claim7 := { stood := { row := citeKeysRow, standIns := [], harness := (true, "ad743ecad9481b0ade1307a9b20114aeaff85c3b1b687287c187f2863115a9ce"), looks := false }, kinds := [], alts := [], laidByText := true, laidKinds := [.data], laidTests := true, laidLooks := .later }
def CiteKeysCardSaid : Prop := Claim7.holds Tryz.pinned (.plain (OpenSpec.ofChange citeKeysSpec)) citeKeysCard

/-- THE TIED CARD OF 'scriniumlaw19.CiteRight'. -/
def citeRightCard : Claim7 := { stood := { row := citeRightRow, standIns := [], harness := (true, "ad743ecad9481b0ade1307a9b20114aeaff85c3b1b687287c187f2863115a9ce"), looks := false }, kinds := [], alts := [], laidByText := true, laidKinds := [.data], laidTests := true, laidLooks := .later }
def CiteRightCardSaid : Prop := Claim7.holds Tryz.pinned (.plain (OpenSpec.ofChange citeRightSpec)) citeRightCard

/-- THE TIED CARD OF 'scriniumlaw19.CiteTells'. -/
def citeTellsCard : Claim7 := { stood := { row := citeTellsRow, standIns := [], harness := (true, "ad743ecad9481b0ade1307a9b20114aeaff85c3b1b687287c187f2863115a9ce"), looks := false }, kinds := [], alts := [], laidByText := true, laidKinds := [.data], laidTests := true, laidLooks := .later }
def CiteTellsCardSaid : Prop := Claim7.holds Tryz.pinned (.plain (OpenSpec.ofChange citeTellsSpec)) citeTellsCard

/-- THE TIED CARD OF 'scriniumlaw19.CiteOne'. -/
def citeOneCard : Claim7 := { stood := { row := citeOneRow, standIns := [], harness := (true, "ad743ecad9481b0ade1307a9b20114aeaff85c3b1b687287c187f2863115a9ce"), looks := false }, kinds := [], alts := [], laidByText := true, laidKinds := [.data], laidTests := true, laidLooks := .later }
def CiteOneCardSaid : Prop := Claim7.holds Tryz.pinned (.plain (OpenSpec.ofChange citeOneSpec)) citeOneCard

/-- THE SECOND FORM's CARD OF 'scriniumlaw19.CiteKeys'. -/
def citeKeysUptoCard : Claim7 := { stood := { row := citeKeysUptoRow, standIns := [], harness := (true, "ad743ecad9481b0ade1307a9b20114aeaff85c3b1b687287c187f2863115a9ce"), looks := false }, kinds := [], alts := [], laidByText := true, laidKinds := [.data], laidTests := true, laidLooks := .later }
def CiteKeysUptoCardSaid : Prop := Claim7.holds Tryz.pinned (.plain (OpenSpec.upto citeKeysSpec)) citeKeysUptoCard

/-- THE SECOND FORM's CARD OF 'scriniumlaw19.CiteRight'. -/
def citeRightUptoCard : Claim7 := { stood := { row := citeRightUptoRow, standIns := [], harness := (true, "ad743ecad9481b0ade1307a9b20114aeaff85c3b1b687287c187f2863115a9ce"), looks := false }, kinds := [], alts := [], laidByText := true, laidKinds := [.data], laidTests := true, laidLooks := .later }
def CiteRightUptoCardSaid : Prop := Claim7.holds Tryz.pinned (.plain (OpenSpec.upto citeRightSpec)) citeRightUptoCard

/-- THE SECOND FORM's CARD OF 'scriniumlaw19.CiteTells'. -/
def citeTellsUptoCard : Claim7 := { stood := { row := citeTellsUptoRow, standIns := [], harness := (true, "ad743ecad9481b0ade1307a9b20114aeaff85c3b1b687287c187f2863115a9ce"), looks := false }, kinds := [], alts := [], laidByText := true, laidKinds := [.data], laidTests := true, laidLooks := .later }
def CiteTellsUptoCardSaid : Prop := Claim7.holds Tryz.pinned (.plain (OpenSpec.upto citeTellsSpec)) citeTellsUptoCard

/-- THE SECOND FORM's CARD OF 'scriniumlaw19.CiteOne'. -/
def citeOneUptoCard : Claim7 := { stood := { row := citeOneUptoRow, standIns := [], harness := (true, "ad743ecad9481b0ade1307a9b20114aeaff85c3b1b687287c187f2863115a9ce"), looks := false }, kinds := [], alts := [], laidByText := true, laidKinds := [.data], laidTests := true, laidLooks := .later }
def CiteOneUptoCardSaid : Prop := Claim7.holds Tryz.pinned (.plain (OpenSpec.upto citeOneSpec)) citeOneUptoCard
end Rows
end Go.Proofs.YtcgnjdkennkheaaGreatDoor
