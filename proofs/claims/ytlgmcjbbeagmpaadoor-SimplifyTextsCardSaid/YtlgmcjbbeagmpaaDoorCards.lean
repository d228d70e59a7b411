/-
  DERIVED. GIVEN WITH THE SEED: THE CARDS: each row of YtlgmcjbbeagmpaaDoorRows.lean that lists a variable, with what it lists TIED to the program's text (the seventh form; the later family's looks); each row that meets fmt, with fmt's text TOLD by the authors' own Lean function (tested against real Go, not proved from fmt's source: count such statements apart). THE CARD IS WHAT COUNTS. Prove the row's statement (the work); the ties are given (YtlgmcjbbeagmpaaDoorTie.lean); close each card by the builder's one call (the guide's Derived/Test/ToyasCard.lean, 'card_holds'). Laid BY PROGRAM, IN A SANDBOX (cutbox-door.mjs). By AI agents, Wed Nov 11 2026. No macro, syntax, notation, axiom, sorry.
-/
import Derived.Test.YtlgmcjbbeagmpaaDoorRows
import GoSem.ClaimSeven
namespace Go.Proofs.YtlgmcjbbeagmpaaDoor
namespace Rows

/-- THE TIED CARD OF 'intarsialaw29.SimplifyTexts'. -/
def simplifyTextsCard : Claim7 := { stood := { row := simplifyTextsRow, standIns := [], harness := (true, "080282428cce7e9aca35b11465a96c6fe9a330b5dc2408f22ef99959bbb83207"), looks := false }, kinds := [], alts := [], laidByText := true, laidKinds := [.funcs], laidTests := true, laidLooks := .later }
def SimplifyTextsCardSaid : Prop := Claim7.holds Tryd.pinned (.plain (OpenSpec.ofChange simplifyTextsSpec)) simplifyTextsCard

/-- THE SECOND FORM's CARD OF 'intarsialaw29.SimplifyTexts'. -/
def simplifyTextsUptoCard : Claim7 := { stood := { row := simplifyTextsUptoRow, standIns := [], harness := (true, "080282428cce7e9aca35b11465a96c6fe9a330b5dc2408f22ef99959bbb83207"), looks := false }, kinds := [], alts := [], laidByText := true, laidKinds := [.funcs], laidTests := true, laidLooks := .later }
def SimplifyTextsUptoCardSaid : Prop := Claim7.holds Tryd.pinned (.plain (OpenSpec.upto simplifyTextsSpec)) simplifyTextsUptoCard
end Rows
end Go.Proofs.YtlgmcjbbeagmpaaDoor
