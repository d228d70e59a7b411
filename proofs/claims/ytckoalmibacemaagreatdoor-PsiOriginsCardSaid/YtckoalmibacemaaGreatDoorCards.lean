/-
  DERIVED. GIVEN WITH THE SEED: THE CARDS: each row of YtckoalmibacemaaGreatDoorRows.lean that lists a variable, with what it lists TIED to the program's text (the seventh form; the later family's looks); each row that meets fmt, with fmt's text TOLD by the authors' own Lean function (tested against real Go, not proved from fmt's source: count such statements apart). THE CARD IS WHAT COUNTS. Prove the row's statement (the work); the ties are given (YtckoalmibacemaaGreatDoorTie.lean); close each card by the builder's one call (the guide's Derived/Test/ToyasCard.lean, 'card_holds'). Laid BY PROGRAM, IN A SANDBOX (cutbox-door.mjs). By AI agents, Wed Nov 11 2026. No macro, syntax, notation, axiom, sorry.
-/
import Derived.Test.YtckoalmibacemaaGreatDoorRows
import GoSem.ClaimSeven
namespace Go.Proofs.YtckoalmibacemaaGreatDoor
namespace Rows

/-- THE TIED CARD OF 'intarsialaw16.PsiDenotes'. -/
def psiDenotesCard : Claim7 := { stood := { row := psiDenotesRow, standIns := [], harness := (true, "cc1c2037d2b6576d82505e4ace6ee7db75e32be5bcac00099fd75ab1736310a6"), looks := false }, kinds := [], alts := [], laidByText := true, laidKinds := [.funcs], laidTests := true, laidLooks := .later }
def PsiDenotesCardSaid : Prop := Claim7.holds Tryz.pinned (.plain (OpenSpec.ofChange psiDenotesSpec)) psiDenotesCard

/-- THE TIED CARD OF 'intarsialaw16.PsiOrigins'. -/
def psiOriginsCard : Claim7 := { stood := { row := psiOriginsRow, standIns := [], harness := (true, "cc1c2037d2b6576d82505e4ace6ee7db75e32be5bcac00099fd75ab1736310a6"), looks := false }, kinds := [], alts := [], laidByText := true, laidKinds := [.funcs], laidTests := true, laidLooks := .later }
def PsiOriginsCardSaid : Prop := Claim7.holds Tryz.pinned (.plain (OpenSpec.ofChange psiOriginsSpec)) psiOriginsCard

/-- THE TIED CARD OF 'intarsialaw16.PsiCells'. -/
def psiCellsCard : Claim7 := { stood := { row := psiCellsRow, standIns := [], harness := (true, "cc1c2037d2b6576d82505e4ace6ee7db75e32be5bcac00099fd75ab1736310a6"), looks := false }, kinds := [], alts := [], laidByText := true, laidKinds := [.funcs], laidTests := true, laidLooks := .later }
def PsiCellsCardSaid : Prop := Claim7.holds Tryz.pinned (.plain (OpenSpec.ofChange psiCellsSpec)) psiCellsCard

/-- THE TIED CARD OF 'intarsialaw16.PsiElab'. -/
def psiElabCard : Claim7 := { stood := { row := psiElabRow, standIns := [], harness := (true, "cc1c2037d2b6576d82505e4ace6ee7db75e32be5bcac00099fd75ab1736310a6"), looks := false }, kinds := [], alts := [], laidByText := true, laidKinds := [.funcs], laidTests := true, laidLooks := .later }
def PsiElabCardSaid : Prop := Claim7.holds Tryz.pinned (.plain (OpenSpec.ofChange psiElabSpec)) psiElabCard

/-- THE SECOND FORM's CARD OF 'intarsialaw16.PsiDenotes'. -/
def psiDenotesUptoCard : Claim7 := { stood := { row := psiDenotesUptoRow, standIns := [], harness := (true, "cc1c2037d2b6576d82505e4ace6ee7db75e32be5bcac00099fd75ab1736310a6"), looks := false }, kinds := [], alts := [], laidByText := true, laidKinds := [.funcs], laidTests := true, laidLooks := .later }
def PsiDenotesUptoCardSaid : Prop := Claim7.holds Tryz.pinned (.plain (OpenSpec.upto psiDenotesSpec)) psiDenotesUptoCard

/-- THE SECOND FORM's CARD OF 'intarsialaw16.PsiOrigins'. -/
def psiOriginsUptoCard : Claim7 := { stood := { row := psiOriginsUptoRow, standIns := [], harness := (true, "cc1c2037d2b6576d82505e4ace6ee7db75e32be5bcac00099fd75ab1736310a6"), looks := false }, kinds := [], alts := [], laidByText := true, laidKinds := [.funcs], laidTests := true, laidLooks := .later }
def PsiOriginsUptoCardSaid : Prop := Claim7.holds Tryz.pinned (.plain (OpenSpec.upto psiOriginsSpec)) psiOriginsUptoCard

/-- THE SECOND FORM's CARD OF 'intarsialaw16.PsiCells'. -/
def psiCellsUptoCard : Claim7 := { stood := { row := psiCellsUptoRow, standIns := [], harness := (true, "cc1c2037d2b6576d82505e4ace6ee7db75e32be5bcac00099fd75ab1736310a6"), looks := false }, kinds := [], alts := [], laidByText := true, laidKinds := [.funcs], laidTests := true, laidLooks := .later }
def PsiCellsUptoCardSaid : Prop := Claim7.holds Tryz.pinned (.plain (OpenSpec.upto psiCellsSpec)) psiCellsUptoCard

/-- THE SECOND FORM's CARD OF 'intarsialaw16.PsiElab'. -/
def psiElabUptoCard : Claim7 := { stood := { row := psiElabUptoRow, standIns := [], harness := (true, "cc1c2037d2b6576d82505e4ace6ee7db75e32be5bcac00099fd75ab1736310a6"), looks := false }, kinds := [], alts := [], laidByText := true, laidKinds := [.funcs], laidTests := true, laidLooks := .later }
def PsiElabUptoCardSaid : Prop := Claim7.holds Tryz.pinned (.plain (OpenSpec.upto psiElabSpec)) psiElabUptoCard
end Rows
end Go.Proofs.YtckoalmibacemaaGreatDoor
