/-
  NARROWER THAN 'FOR EVERY INPUT', by the rows' own cells (each row's printed sentence says how): PsiElab: loops, laid.
  DERIVED. THE GIVEN ROWS OF THIS SEAT. 1 by the template 'for every input the law returns true; each argument reads behind the call as it read before'; 0 by the template 'total and deterministic' (their statements: YtokglhlanejjjaaGreatDoorTotals.lean).
  GIVEN WITH THE SEED: the statements are not yours to turn. If you find one false, say at which input.
  Laid BY PROGRAM, IN A SANDBOX (cutbox-rows.mjs): the forced cells as the released guide's own fill.sh prints them over the translation fdf2316cb8550d79… (all of the seat's roots in one cut). By AI agents, Wed Nov 11 2026. No macro, syntax, notation, axiom, sorry.
-/
import Derived.Test.YtokglhlanejjjaaGreatDoorChecked
import GoSem.Claim
import GoSem.ClaimJoined
import GoSem.ClaimMapViews
import Derived.JoinedTies
import Derived.KernelRfl
namespace Go.Proofs.YtokglhlanejjjaaGreatDoor
/- THE CELL 'sum', in the pinned program and in every row, IS THE sha256 OF THE DUMP (.gsa) THAT YtokglhlanejjjaaGreatDoorProg.lean LOADS. Nothing in Lean hashes anything: it is a label: what it is worth is what the hold of that sum in a sandbox is worth. -/
noncomputable def Tryz.pinned : Pinned := { name := "ytokglhlanejjjaagreatdoor", sum := "fdf2316cb8550d798d9fd65b200aa7f017e20b139d045fd631a855bb99103666", checked := Tryz.checked }
namespace Rows
def none {H : Type} : Left H := { results := [], args := [] }

/- WHAT THE LISTED PACKAGE-LEVEL VARIABLES READ AS WHEN THE CALL BEGINS. Each datum BY PROGRAM (the guide's laid-datum.mjs) off the statement by which the dump's own 'gosem.cut.vars' lays the variable. In a bare row this is a premise. The card (YtokglhlanejjjaaGreatDoorCards.lean) ties it to the program's text. -/
def laid_intarsia_core_kinds {H : Type} : DataW H := .iface "func table" (.agg [.agg [.lit (.int .i64 0), .nil, .nil], .agg [.lit (.int .i64 0), .iface "func" (.lit (.string [105, 110, 116, 97, 114, 115, 105, 97, 47, 99, 111, 114, 101, 46, 110, 111, 116, 104, 105, 110, 103])), .iface "func" (.lit (.string [105, 110, 116, 97, 114, 115, 105, 97, 47, 99, 111, 114, 101, 46, 115, 116, 97, 121, 115]))], .agg [.lit (.int .i64 1), .iface "func" (.lit (.string [105, 110, 116, 97, 114, 115, 105, 97, 47, 99, 111, 114, 101, 46, 114, 105, 103, 104, 116, 87, 105, 110, 100, 111, 119])), .iface "func" (.lit (.string [105, 110, 116, 97, 114, 115, 105, 97, 47, 99, 111, 114, 101, 46, 115, 116, 101, 112, 87, 105, 110, 100, 111, 119]))], .agg [.lit (.int .i64 1), .iface "func" (.lit (.string [105, 110, 116, 97, 114, 115, 105, 97, 47, 99, 111, 114, 101, 46, 114, 105, 103, 104, 116, 82, 101, 118, 101, 114, 115, 101])), .iface "func" (.lit (.string [105, 110, 116, 97, 114, 115, 105, 97, 47, 99, 111, 114, 101, 46, 115, 116, 101, 112, 82, 101, 118, 101, 114, 115, 101]))], .agg [.lit (.int .i64 1), .iface "func" (.lit (.string [105, 110, 116, 97, 114, 115, 105, 97, 47, 99, 111, 114, 101, 46, 114, 105, 103, 104, 116, 82, 111, 116, 97, 116, 101])), .iface "func" (.lit (.string [105, 110, 116, 97, 114, 115, 105, 97, 47, 99, 111, 114, 101, 46, 115, 116, 101, 112, 82, 111, 116, 97, 116, 101]))], .agg [.lit (.int .i64 1), .iface "func" (.lit (.string [105, 110, 116, 97, 114, 115, 105, 97, 47, 99, 111, 114, 101, 46, 114, 105, 103, 104, 116, 84, 114, 97, 110, 115, 112, 111, 115, 101])), .iface "func" (.lit (.string [105, 110, 116, 97, 114, 115, 105, 97, 47, 99, 111, 114, 101, 46, 115, 116, 101, 112, 84, 114, 97, 110, 115, 112, 111, 115, 101]))], .agg [.lit (.int .i64 1), .iface "func" (.lit (.string [105, 110, 116, 97, 114, 115, 105, 97, 47, 99, 111, 114, 101, 46, 110, 111, 116, 104, 105, 110, 103])), .iface "func" (.lit (.string [105, 110, 116, 97, 114, 115, 105, 97, 47, 99, 111, 114, 101, 46, 115, 116, 101, 112, 82, 101, 115, 104, 97, 112, 101]))], .agg [.lit (.int .i64 2), .iface "func" (.lit (.string [105, 110, 116, 97, 114, 115, 105, 97, 47, 99, 111, 114, 101, 46, 114, 105, 103, 104, 116, 67, 97, 116, 101, 110, 97, 116, 101])), .iface "func" (.lit (.string [105, 110, 116, 97, 114, 115, 105, 97, 47, 99, 111, 114, 101, 46, 115, 116, 101, 112, 67, 97, 116, 101, 110, 97, 116, 101]))]])

/-- 'intarsialaw16.PsiElab': WHATEVER THE INPUT: true; the input reads as it did. -/
def psiElabSpec : ChangeSpec := { name := "psiElab", fn := fun _ => fun
  | [d1, d2] => { results := [.lit (.bool true)], args := [d1, d2] }
  | _ => none }
def psiElabRow : OpenClaim := { program := "ytokglhlanejjjaagreatdoor", sum := "fdf2316cb8550d798d9fd65b200aa7f017e20b139d045fd631a855bb99103666", func := "intarsia/intarsialaw16.PsiElab", spec := "psiElab", unfollowed := true, recurses := true, named := ["intarsia/core.kinds"], loops := true, apart := false, laid := [("intarsia/core.kinds", laid_intarsia_core_kinds)] }
def PsiElabSaid : Prop := psiElabRow.holds Tryz.pinned (OpenSpec.ofChange psiElabSpec)

/-- ITS FALSE NEIGHBOUR: 'it returns false'. Refute it at one input. -/
def psiElabWrong : ChangeSpec := { name := "psiElab", fn := fun _ => fun
  | [d1, d2] => { results := [.lit (.bool false)], args := [d1, d2] }
  | _ => none }
def PsiElabWrongFalsely : Prop := psiElabRow.holds Tryz.pinned (OpenSpec.ofChange psiElabWrong)

/- THE SECOND FORM. 'bulk': how many values and letters a reading holds, each counted each time it is reached (what is shared counts as often as it is met; a slice's spare places count too). A statement '..UptoSaid' is the law's where the arguments, and the package variables that the reading takes, are together of bulk at most 1048576: NARROWER than '..Said'. Prove '..Said' where nothing that the law and all that it calls make is longer than what came in: it says more and counts as full. Else prove '..UptoSaid'. A law counts once. -/
mutual
def uptoBulk {H : Type} : DataW H → Nat
  | .lit (.string bytes) => bytes.length + 1
  | .lit _ => 1
  | .nil => 1
  | .ptr d => uptoBulk d + 1
  | .slice elems spare => uptoBulkAll elems + uptoBulkAll spare + 1
  | .agg parts => uptoBulkAll parts + 1
  | .iface _ d => uptoBulk d + 1
  | .map entries => uptoBulkEntries entries + 1
  | .held _ => 1
def uptoBulkAll {H : Type} : List (DataW H) → Nat
  | [] => 0
  | d :: r => uptoBulk d + uptoBulkAll r
def uptoBulkEntries {H : Type} : List (Lit × DataW H) → Nat
  | [] => 0
  | x :: r => uptoBulkEntry x + uptoBulkEntries r
def uptoBulkEntry {H : Type} : Lit × DataW H → Nat
  | (.string bytes, d) => bytes.length + uptoBulk d + 1
  | (_, d) => uptoBulk d + 1
 end
def uptoSmall : (H : Type) → List (DataW H) → Bool := fun _ ds => decide (uptoBulkAll ds ≤ 1048576)
def OpenSpec.upto (s : _root_.Go.ChangeSpec) : _root_.Go.OpenSpec := { _root_.Go.OpenSpec.ofChange s with cond := some uptoSmall }

/-- 'intarsialaw16.PsiElab', WHERE WHAT IT READS IS OF BULK AT MOST 1048576: true; the input reads as it did. -/
def psiElabUptoRow : OpenClaim := { program := "ytokglhlanejjjaagreatdoor", sum := "fdf2316cb8550d798d9fd65b200aa7f017e20b139d045fd631a855bb99103666", func := "intarsia/intarsialaw16.PsiElab", spec := "psiElab", unfollowed := true, recurses := true, named := ["intarsia/core.kinds"], loops := true, apart := false, laid := [("intarsia/core.kinds", laid_intarsia_core_kinds)], narrowed := true }
def PsiElabUptoSaid : Prop := psiElabUptoRow.holds Tryz.pinned (OpenSpec.upto psiElabSpec)

end Rows
end Go.Proofs.YtokglhlanejjjaaGreatDoor
