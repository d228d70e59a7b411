/-
  DERIVED. GIVEN WITH THE SEED: THE CARDS: each row of YtckoalmibacemaaDoorRows.lean that lists a variable, with what it lists TIED to the program's text (the seventh form; the later family's looks); each row that meets fmt, with fmt's text TOLD by the authors' own Lean function (tested against real Go, not proved from fmt's source: count such statements apart). THE CARD IS WHAT COUNTS. Prove the row's statement (the work); the ties are given (YtckoalmibacemaaDoorTie.lean); close each card by the builder's one call (the guide's Derived/Test/ToyasCard.lean, 'card_holds'). Laid BY PROGRAM, IN A SANDBOX (cutbox-door.mjs). By AI agents, Wed Nov 11 2026. No macro, syntax, notation, axiom, sorry.
-/
import Derived.Test.YtckoalmibacemaaDoorRows
import GoSem.ClaimSeven
namespace Go.Proofs.YtckoalmibacemaaDoor
namespace Rows

/-- THE TIED CARD OF 'intarsialaw16.PsiInverts'. -/
def psiInvertsCard : Claim7 := { stood := { row := psiInvertsRow, standIns := [], harness := (true, "20cc117b091ed8466d5845bf4cde607f101b35abf33aaeae834f9db9bab61ef1"), looks := false }, kinds := [], alts := [], laidByText := true, laidKinds := [.funcs], laidTests := true, laidLooks := .later }
def PsiInvertsCardSaid : Prop := Claim7.holds Tryd.pinned (.plain (OpenSpec.ofChange psiInvertsSpec)) psiInvertsCard

/-- THE SECOND FORM's CARD OF 'intarsialaw16.PsiInverts'. -/
def psiInvertsUptoCard : Claim7 := { stood := { row := psiInvertsUptoRow, standIns := [], harness := (true, "20cc117b091ed8466d5845bf4cde607f101b35abf33aaeae834f9db9bab61ef1"), looks := false }, kinds := [], alts := [], laidByText := true, laidKinds := [.funcs], laidTests := true, laidLooks := .later }
def PsiInvertsUptoCardSaid : Prop := Claim7.holds Tryd.pinned (.plain (OpenSpec.upto psiInvertsSpec)) psiInvertsUptoCard
end Rows
end Go.Proofs.YtckoalmibacemaaDoor
