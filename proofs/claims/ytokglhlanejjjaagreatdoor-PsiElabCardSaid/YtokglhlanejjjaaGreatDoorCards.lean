/-
  DERIVED. GIVEN WITH THE SEED: THE CARDS: each row of YtokglhlanejjjaaGreatDoorRows.lean that lists a variable, with what it lists TIED to the program's text (the seventh form; the later family's looks); each row that meets fmt, with fmt's text TOLD by the authors' own Lean function (tested against real Go, not proved from fmt's source: count such statements apart). THE CARD IS WHAT COUNTS. Prove the row's statement (the work); the ties are given (YtokglhlanejjjaaGreatDoorTie.lean); close each card by the builder's one call (the guide's Derived/Test/ToyasCard.lean, 'card_holds'). Laid BY PROGRAM, IN A SANDBOX (cutbox-door.mjs). By AI agents, Wed Nov 11 2026. No macro, syntax, notation, axiom, sorry.
-/
import Derived.Test.YtokglhlanejjjaaGreatDoorRows
import GoSem.ClaimSeven
namespace Go.Proofs.YtokglhlanejjjaaGreatDoor
namespace Rows

/-- THE TIED CARD OF 'intarsialaw16.PsiElab'. -/
def psiElabCard : Claim7 := { stood := { row := psiElabRow, standIns := [], harness := (true, "403c65b25cdbda4c10cdbdf4df77ef6161b2ed922baf16d87c6f2d281cc2b5dd"), looks := false }, kinds := [], alts := [], laidByText := true, laidKinds := [.funcs], laidTests := true, laidLooks := .later }
def PsiElabCardSaid : Prop := Claim7.holds Tryz.pinned (.plain (OpenSpec.ofChange psiElabSpec)) psiElabCard

/-- THE SECOND FORM's CARD OF 'intarsialaw16.PsiElab'. -/
def psiElabUptoCard : Claim7 := { stood := { row := psiElabUptoRow, standIns := [], harness := (true, "403c65b25cdbda4c10cdbdf4df77ef6161b2ed922baf16d87c6f2d281cc2b5dd"), looks := false }, kinds := [], alts := [], laidByText := true, laidKinds := [.funcs], laidTests := true, laidLooks := .later }
def PsiElabUptoCardSaid : Prop := Claim7.holds Tryz.pinned (.plain (OpenSpec.upto psiElabSpec)) psiElabUptoCard
end Rows
end Go.Proofs.YtokglhlanejjjaaGreatDoor
