/-
  DERIVED. GIVEN WITH THE SEED: THE CARDS: each row of YtpgkpgoebpgacaaDoorRows.lean that lists a variable, with what it lists TIED to the program's text (the seventh form; the later family's looks); each row that meets fmt, with fmt's text TOLD by the authors' own Lean function (tested against real Go, not proved from fmt's source: count such statements apart). THE CARD IS WHAT COUNTS. Prove the row's statement (the work); the ties are given (YtpgkpgoebpgacaaDoorTie.lean); close each card by the builder's one call (the guide's Derived/Test/ToyasCard.lean, 'card_holds'). Laid BY PROGRAM, IN A SANDBOX (cutbox-door.mjs). By AI agents, Wed Nov 11 2026. No macro, syntax, notation, axiom, sorry.
-/
import Derived.Test.YtpgkpgoebpgacaaDoorRows
import GoSem.ClaimSeven
namespace Go.Proofs.YtpgkpgoebpgacaaDoor
namespace Rows

/-- THE TIED CARD OF 'intarsialaw14.CoreRight'. -/
def coreRightCard : Claim7 := { stood := { row := coreRightRow, standIns := [], harness := (true, "3b1a5366ff0b199b23f3766a7f30f5bae507a9dbe9c83d3547835ec4eeaa4126"), looks := false }, kinds := [], alts := [], laidByText := true, laidKinds := [.funcs], laidTests := true, laidLooks := .later }
def CoreRightCardSaid : Prop := Claim7.holds Tryd.pinned (.plain (OpenSpec.ofChange coreRightSpec)) coreRightCard

/-- THE TIED CARD OF 'intarsialaw14.CoreSteps'. -/
def coreStepsCard : Claim7 := { stood := { row := coreStepsRow, standIns := [], harness := (true, "3b1a5366ff0b199b23f3766a7f30f5bae507a9dbe9c83d3547835ec4eeaa4126"), looks := false }, kinds := [], alts := [], laidByText := true, laidKinds := [.funcs], laidTests := true, laidLooks := .later }
def CoreStepsCardSaid : Prop := Claim7.holds Tryd.pinned (.plain (OpenSpec.ofChange coreStepsSpec)) coreStepsCard

/-- THE TIED CARD OF 'intarsialaw14.CoreSame'. -/
def coreSameCard : Claim7 := { stood := { row := coreSameRow, standIns := [], harness := (true, "3b1a5366ff0b199b23f3766a7f30f5bae507a9dbe9c83d3547835ec4eeaa4126"), looks := false }, kinds := [], alts := [], laidByText := true, laidKinds := [.funcs], laidTests := true, laidLooks := .later }
def CoreSameCardSaid : Prop := Claim7.holds Tryd.pinned (.plain (OpenSpec.ofChange coreSameSpec)) coreSameCard

/-- THE TIED CARD OF 'intarsialaw14.CoreReaches'. -/
def coreReachesCard : Claim7 := { stood := { row := coreReachesRow, standIns := [], harness := (true, "3b1a5366ff0b199b23f3766a7f30f5bae507a9dbe9c83d3547835ec4eeaa4126"), looks := false }, kinds := [], alts := [], laidByText := true, laidKinds := [.funcs], laidTests := true, laidLooks := .later }
def CoreReachesCardSaid : Prop := Claim7.holds Tryd.pinned (.plain (OpenSpec.ofChange coreReachesSpec)) coreReachesCard

/-- THE SECOND FORM's CARD OF 'intarsialaw14.CoreRight'. -/
def coreRightUptoCard : Claim7 := { stood := { row := coreRightUptoRow, standIns := [], harness := (true, "3b1a5366ff0b199b23f3766a7f30f5bae507a9dbe9c83d3547835ec4eeaa4126"), looks := false }, kinds := [], alts := [], laidByText := true, laidKinds := [.funcs], laidTests := true, laidLooks := .later }
def CoreRightUptoCardSaid : Prop := Claim7.holds Tryd.pinned (.plain (OpenSpec.upto coreRightSpec)) coreRightUptoCard

/-- THE SECOND FORM's CARD OF 'intarsialaw14.CoreSteps'. -/
def coreStepsUptoCard : Claim7 := { stood := { row := coreStepsUptoRow, standIns := [], harness := (true, "3b1a5366ff0b199b23f3766a7f30f5bae507a9dbe9c83d3547835ec4eeaa4126"), looks := false }, kinds := [], alts := [], laidByText := true, laidKinds := [.funcs], laidTests := true, laidLooks := .later }
def CoreStepsUptoCardSaid : Prop := Claim7.holds Tryd.pinned (.plain (OpenSpec.upto coreStepsSpec)) coreStepsUptoCard

/-- THE SECOND FORM's CARD OF 'intarsialaw14.CoreSame'. -/
def coreSameUptoCard : Claim7 := { stood := { row := coreSameUptoRow, standIns := [], harness := (true, "3b1a5366ff0b199b23f3766a7f30f5bae507a9dbe9c83d3547835ec4eeaa4126"), looks := false }, kinds := [], alts := [], laidByText := true, laidKinds := [.funcs], laidTests := true, laidLooks := .later }
def CoreSameUptoCardSaid : Prop := Claim7.holds Tryd.pinned (.plain (OpenSpec.upto coreSameSpec)) coreSameUptoCard

/-- THE SECOND FORM's CARD OF 'intarsialaw14.CoreReaches'. -/
def coreReachesUptoCard : Claim7 := { stood := { row := coreReachesUptoRow, standIns := [], harness := (true, "3b1a5366ff0b199b23f3766a7f30f5bae507a9dbe9c83d3547835ec4eeaa4126"), looks := false }, kinds := [], alts := [], laidByText := true, laidKinds := [.funcs], laidTests := true, laidLooks := .later }
def CoreReachesUptoCardSaid : Prop := Claim7.holds Tryd.pinned (.plain (OpenSpec.upto coreReachesSpec)) coreReachesUptoCard
end Rows
end Go.Proofs.YtpgkpgoebpgacaaDoor
