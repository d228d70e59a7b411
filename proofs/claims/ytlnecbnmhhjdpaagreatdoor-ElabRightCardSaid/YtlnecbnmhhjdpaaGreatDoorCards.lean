/-
  DERIVED. GIVEN WITH THE SEED: THE CARDS: each row of YtlnecbnmhhjdpaaGreatDoorRows.lean that lists a variable, with what it lists TIED to the program's text (the seventh form; the later family's looks); each row that meets fmt, with fmt's text TOLD by the authors' own Lean function (tested against real Go, not proved from fmt's source: count such statements apart). THE CARD IS WHAT COUNTS. Prove the row's statement (the work); the ties are given (YtlnecbnmhhjdpaaGreatDoorTie.lean); close each card by the builder's one call (the guide's Derived/Test/ToyasCard.lean, 'card_holds'). Laid BY PROGRAM, IN A SANDBOX (cutbox-door.mjs). By AI agents, Wed Nov 11 2026. No macro, syntax, notation, axiom, sorry.
-/
import Derived.Test.YtlnecbnmhhjdpaaGreatDoorRows
import GoSem.ClaimSeven
namespace Go.Proofs.YtlnecbnmhhjdpaaGreatDoor
namespace Rows

/-- THE TIED CARD OF 'intarsialaw15.ElabRight'. -/
def elabRightCard : Claim7 := { stood := { row := elabRightRow, standIns := [], harness := (true, "0043eab8ecfbe8cf4aa9a0075be90c9b98aca7848b22e445e2cd416a4d41d19f"), looks := false }, kinds := [], alts := [], laidByText := true, laidKinds := [.funcs], laidTests := true, laidLooks := .later }
def ElabRightCardSaid : Prop := Claim7.holds Tryz.pinned (.plain (OpenSpec.ofChange elabRightSpec)) elabRightCard

/-- THE SECOND FORM's CARD OF 'intarsialaw15.ElabRight'. -/
def elabRightUptoCard : Claim7 := { stood := { row := elabRightUptoRow, standIns := [], harness := (true, "0043eab8ecfbe8cf4aa9a0075be90c9b98aca7848b22e445e2cd416a4d41d19f"), looks := false }, kinds := [], alts := [], laidByText := true, laidKinds := [.funcs], laidTests := true, laidLooks := .later }
def ElabRightUptoCardSaid : Prop := Claim7.holds Tryz.pinned (.plain (OpenSpec.upto elabRightSpec)) elabRightUptoCard
end Rows
end Go.Proofs.YtlnecbnmhhjdpaaGreatDoor
