/-
  DERIVED. GIVEN WITH THE SEED: THE CARDS: each row of YtieiegplecaomaaDoorRows.lean that lists a variable, with what it lists TIED to the program's text (the seventh form; the later family's looks); each row that meets fmt, with fmt's text TOLD by the authors' own Lean function (tested against real Go, not proved from fmt's source: count such statements apart). THE CARD IS WHAT COUNTS. Prove the row's statement (the work); the ties are given (YtieiegplecaomaaDoorTie.lean); close each card by the builder's one call (the guide's Derived/Test/ToyasCard.lean, 'card_holds'). Laid BY PROGRAM, IN A SANDBOX (cutbox-door.mjs). By AI agents, Wed Nov 11 2026. No macro, syntax, notation, axiom, sorry.
-/
import Derived.Test.YtieiegplecaomaaDoorRows
import GoSem.ClaimSeven
namespace Go.Proofs.YtieiegplecaomaaDoor
namespace Rows

/-- THE TIED CARD OF 'intarsialaw29.SimplifyMatchesReference'. -/
def simplifyMatchesReferenceCard : Claim7 := { stood := { row := simplifyMatchesReferenceRow, standIns := [], harness := (true, "8c98284a35b0129085691fa01c4b230bc3c58019ea26b9e79e5034c04720dde6"), looks := false }, kinds := [], alts := [], laidByText := true, laidKinds := [.funcs], laidTests := true, laidLooks := .later }
def SimplifyMatchesReferenceCardSaid : Prop := Claim7.holds Tryd.pinned (.plain (OpenSpec.ofChange simplifyMatchesReferenceSpec)) simplifyMatchesReferenceCard

/-- THE TIED CARD OF 'intarsialaw29.SimplifyEnds'. -/
def simplifyEndsCard : Claim7 := { stood := { row := simplifyEndsRow, standIns := [], harness := (true, "8c98284a35b0129085691fa01c4b230bc3c58019ea26b9e79e5034c04720dde6"), looks := false }, kinds := [], alts := [], laidByText := true, laidKinds := [.funcs], laidTests := true, laidLooks := .later }
def SimplifyEndsCardSaid : Prop := Claim7.holds Tryd.pinned (.plain (OpenSpec.ofChange simplifyEndsSpec)) simplifyEndsCard

/-- THE TIED CARD OF 'intarsialaw29.SimplifyCopies'. -/
def simplifyCopiesCard : Claim7 := { stood := { row := simplifyCopiesRow, standIns := [], harness := (true, "8c98284a35b0129085691fa01c4b230bc3c58019ea26b9e79e5034c04720dde6"), looks := false }, kinds := [], alts := [], laidByText := true, laidKinds := [.funcs], laidTests := true, laidLooks := .later }
def SimplifyCopiesCardSaid : Prop := Claim7.holds Tryd.pinned (.plain (OpenSpec.ofChange simplifyCopiesSpec)) simplifyCopiesCard

/-- THE TIED CARD OF 'intarsialaw29.SimplifyTexts'. -/
def simplifyTextsCard : Claim7 := { stood := { row := simplifyTextsRow, standIns := [], harness := (true, "8c98284a35b0129085691fa01c4b230bc3c58019ea26b9e79e5034c04720dde6"), looks := false }, kinds := [], alts := [], laidByText := true, laidKinds := [.funcs], laidTests := true, laidLooks := .later }
def SimplifyTextsCardSaid : Prop := Claim7.holds Tryd.pinned (.plain (OpenSpec.ofChange simplifyTextsSpec)) simplifyTextsCard

/-- THE SECOND FORM's CARD OF 'intarsialaw29.SimplifyMatchesReference'. -/
def simplifyMatchesReferenceUptoCard : Claim7 := { stood := { row := simplifyMatchesReferenceUptoRow, standIns := [], harness := (true, "8c98284a35b0129085691fa01c4b230bc3c58019ea26b9e79e5034c04720dde6"), looks := false }, kinds := [], alts := [], laidByText := true, laidKinds := [.funcs], laidTests := true, laidLooks := .later }
def SimplifyMatchesReferenceUptoCardSaid : Prop := Claim7.holds Tryd.pinned (.plain (OpenSpec.upto simplifyMatchesReferenceSpec)) simplifyMatchesReferenceUptoCard

/-- THE SECOND FORM's CARD OF 'intarsialaw29.SimplifyEnds'. -/
def simplifyEndsUptoCard : Claim7 := { stood := { row := simplifyEndsUptoRow, standIns := [], harness := (true, "8c98284a35b0129085691fa01c4b230bc3c58019ea26b9e79e5034c04720dde6"), looks := false }, kinds := [], alts := [], laidByText := true, laidKinds := [.funcs], laidTests := true, laidLooks := .later }
def SimplifyEndsUptoCardSaid : Prop := Claim7.holds Tryd.pinned (.plain (OpenSpec.upto simplifyEndsSpec)) simplifyEndsUptoCard

/-- THE SECOND FORM's CARD OF 'intarsialaw29.SimplifyCopies'. -/
def simplifyCopiesUptoCard : Claim7 := { stood := { row := simplifyCopiesUptoRow, standIns := [], harness := (true, "8c98284a35b0129085691fa01c4b230bc3c58019ea26b9e79e5034c04720dde6"), looks := false }, kinds := [], alts := [], laidByText := true, laidKinds := [.funcs], laidTests := true, laidLooks := .later }
def SimplifyCopiesUptoCardSaid : Prop := Claim7.holds Tryd.pinned (.plain (OpenSpec.upto simplifyCopiesSpec)) simplifyCopiesUptoCard

/-- THE SECOND FORM's CARD OF 'intarsialaw29.SimplifyTexts'. -/
def simplifyTextsUptoCard : Claim7 := { stood := { row := simplifyTextsUptoRow, standIns := [], harness := (true, "8c98284a35b0129085691fa01c4b230bc3c58019ea26b9e79e5034c04720dde6"), looks := false }, kinds := [], alts := [], laidByText := true, laidKinds := [.funcs], laidTests := true, laidLooks := .later }
def SimplifyTextsUptoCardSaid : Prop := Claim7.holds Tryd.pinned (.plain (OpenSpec.upto simplifyTextsSpec)) simplifyTextsUptoCard
end Rows
end Go.Proofs.YtieiegplecaomaaDoor
