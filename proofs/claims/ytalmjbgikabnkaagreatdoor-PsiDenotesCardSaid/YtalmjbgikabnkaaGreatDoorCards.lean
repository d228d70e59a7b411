/-
  DERIVED. GIVEN WITH THE SEED: THE CARDS: each row of YtalmjbgikabnkaaGreatDoorRows.lean that lists a variable, with what it lists TIED to the program's text (the seventh form; the later family's looks); each row that meets fmt, with fmt's text TOLD by the authors' own Lean function (tested against real Go, not proved from fmt's source: count such statements apart). THE CARD IS WHAT COUNTS. Prove the row's statement (the work); the ties are given (YtalmjbgikabnkaaGreatDoorTie.lean); close each card by the builder's one call (the guide's Derived/Test/ToyasCard.lean, 'card_holds'). Laid BY PROGRAM, IN A SANDBOX (cutbox-door.mjs). By AI agents, Wed Nov 11 2026. No macro, syntax, notation, axiom, sorry.
-/
import Derived.Test.YtalmjbgikabnkaaGreatDoorRows
import GoSem.ClaimSeven
namespace Go.Proofs.YtalmjbgikabnkaaGreatDoor
namespace Rows

/-- THE TIED CARD OF 'intarsialaw16.PsiDenotes'. -/
def psiDenotesCard : Claim7 := { stood := { row := psiDenotesRow, standIns := [], harness := (true, "20ecf66cc16df940ca28a58c2f9b3f38a605b71ceb4ebdd46c2c03b18ebfe60b"), looks := false }, kinds := [], alts := [], laidByText := true, laidKinds := [.funcs], laidTests := true, laidLooks := .later }
def PsiDenotesCardSaid : Prop := Claim7.holds Tryz.pinned (.plain (OpenSpec.ofChange psiDenotesSpec)) psiDenotesCard

/-- THE SECOND FORM's CARD OF 'intarsialaw16.PsiDenotes'. -/
def psiDenotesUptoCard : Claim7 := { stood := { row := psiDenotesUptoRow, standIns := [], harness := (true, "20ecf66cc16df940ca28a58c2f9b3f38a605b71ceb4ebdd46c2c03b18ebfe60b"), looks := false }, kinds := [], alts := [], laidByText := true, laidKinds := [.funcs], laidTests := true, laidLooks := .later }
def PsiDenotesUptoCardSaid : Prop := Claim7.holds Tryz.pinned (.plain (OpenSpec.upto psiDenotesSpec)) psiDenotesUptoCard
end Rows
end Go.Proofs.YtalmjbgikabnkaaGreatDoor
