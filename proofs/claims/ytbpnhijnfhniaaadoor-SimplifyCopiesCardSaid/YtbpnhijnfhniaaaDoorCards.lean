/-
  DERIVED. GIVEN WITH THE SEED: THE CARDS: each row of YtbpnhijnfhniaaaDoorRows.lean that lists a variable, with what it lists TIED to the program's text (the seventh form; the later family's looks); each row that meets fmt, with fmt's text TOLD by the authors' own Lean function (tested against real Go, not proved from fmt's source: count such statements apart). THE CARD IS WHAT COUNTS. Prove the row's statement (the work); the ties are given (YtbpnhijnfhniaaaDoorTie.lean); close each card by the builder's one call (the guide's Derived/Test/ToyasCard.lean, 'card_holds'). Laid BY PROGRAM, IN A SANDBOX (cutbox-door.mjs). By AI agents, Wed Nov 11 2026. No macro, syntax, notation, axiom, sorry.
-/
import Derived.Test.YtbpnhijnfhniaaaDoorRows
import GoSem.ClaimSeven
namespace Go.Proofs.YtbpnhijnfhniaaaDoor
namespace Rows

/-- THE TIED CARD OF 'intarsialaw29.SimplifyCopies'. -/
def simplifyCopiesCard : Claim7 := { stood := { row := simplifyCopiesRow, standIns := [], harness := (true, "d457a8eecfbec85074603722bc9f6e9bff7adcfd4f000bb48ac1a77254234484"), looks := false }, kinds := [], alts := [], laidByText := true, laidKinds := [.funcs], laidTests := true, laidLooks := .later }
def SimplifyCopiesCardSaid : Prop := Claim7.holds Tryd.pinned (.plain (OpenSpec.ofChange simplifyCopiesSpec)) simplifyCopiesCard

/-- THE SECOND FORM's CARD OF 'intarsialaw29.SimplifyCopies'. -/
def simplifyCopiesUptoCard : Claim7 := { stood := { row := simplifyCopiesUptoRow, standIns := [], harness := (true, "d457a8eecfbec85074603722bc9f6e9bff7adcfd4f000bb48ac1a77254234484"), looks := false }, kinds := [], alts := [], laidByText := true, laidKinds := [.funcs], laidTests := true, laidLooks := .later }
def SimplifyCopiesUptoCardSaid : Prop := Claim7.holds Tryd.pinned (.plain (OpenSpec.upto simplifyCopiesSpec)) simplifyCopiesUptoCard
end Rows
end Go.Proofs.YtbpnhijnfhniaaaDoor
