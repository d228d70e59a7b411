/-
  NARROWER THAN 'FOR EVERY INPUT', by the rows' own cells (each row's printed sentence says how): SimplifyCopies: loops, laid.
  DERIVED. THE GIVEN ROWS OF THIS SEAT. 1 by the template 'for every input the law returns true; each argument reads behind the call as it read before'; 0 by the template 'total and deterministic' (their statements: YtbpnhijnfhniaaaDoorTotals.lean).
  GIVEN WITH THE SEED: the statements are not yours to turn. If you find one false, say at which input.
  Laid BY PROGRAM, IN A SANDBOX (cutbox-rows.mjs): the forced cells as the released guide's own fill.sh prints them over the translation b0042ea5e75f2b3c… (all of the seat's roots in one cut). By AI agents, Wed Nov 11 2026. No macro, syntax, notation, axiom, sorry.
-/
import Derived.Test.YtbpnhijnfhniaaaDoorChecked
import GoSem.Claim
import GoSem.ClaimJoined
import GoSem.ClaimMapViews
import Derived.JoinedTies
import Derived.KernelRfl
namespace Go.Proofs.YtbpnhijnfhniaaaDoor
/- THE CELL 'sum', in the pinned program and in every row, IS THE sha256 OF THE DUMP (.gsa) THAT YtbpnhijnfhniaaaDoorProg.lean LOADS. Nothing in Lean hashes anything: it is a label: what it is worth is what the hold of that sum in a sandbox is worth. -/
noncomputable def Tryd.pinned : Pinned := { name := "ytbpnhijnfhniaaadoor", sum := "b0042ea5e75f2b3ccf942066003a67432f7568daf2d6dffdfee69bef930d3c81", checked := Tryd.checked }
namespace Rows
def none {H : Type} : Left H := { results := [], args := [] }

/- WHAT THE LISTED PACKAGE-LEVEL VARIABLES READ AS WHEN THE CALL BEGINS. Each datum BY PROGRAM (the guide's laid-datum.mjs) off the statement by which the dump's own 'gosem.cut.vars' lays the variable. In a bare row this is a premise. The card (YtbpnhijnfhniaaaDoorCards.lean) ties it to the program's text. -/
def laid_intarsia_simplify_rules {H : Type} : DataW H := .iface "func table" (.agg [.agg [.iface "func" (.lit (.string [105, 110, 116, 97, 114, 115, 105, 97, 47, 115, 105, 109, 112, 108, 105, 102, 121, 46, 114, 101, 118, 101, 114, 115, 101, 100]))], .agg [.iface "func" (.lit (.string [105, 110, 116, 97, 114, 115, 105, 97, 47, 115, 105, 109, 112, 108, 105, 102, 121, 46, 116, 114, 97, 110, 115, 112, 111, 115, 101, 100]))], .agg [.iface "func" (.lit (.string [105, 110, 116, 97, 114, 115, 105, 97, 47, 115, 105, 109, 112, 108, 105, 102, 121, 46, 114, 97, 118, 101, 108, 101, 100]))], .agg [.iface "func" (.lit (.string [105, 110, 116, 97, 114, 115, 105, 97, 47, 115, 105, 109, 112, 108, 105, 102, 121, 46, 114, 101, 115, 104, 97, 112, 101, 100]))], .agg [.iface "func" (.lit (.string [105, 110, 116, 97, 114, 115, 105, 97, 47, 115, 105, 109, 112, 108, 105, 102, 121, 46, 114, 111, 116, 97, 116, 101, 100]))], .agg [.iface "func" (.lit (.string [105, 110, 116, 97, 114, 115, 105, 97, 47, 115, 105, 109, 112, 108, 105, 102, 121, 46, 100, 114, 111, 112, 112, 101, 100]))]])

/-- 'intarsialaw29.SimplifyCopies': WHATEVER THE INPUT: true; the input reads as it did. -/
def simplifyCopiesSpec : ChangeSpec := { name := "simplifyCopies", fn := fun _ => fun
  | [d] => { results := [.lit (.bool true)], args := [d] }
  | _ => none }
def simplifyCopiesRow : OpenClaim := { program := "ytbpnhijnfhniaaadoor", sum := "b0042ea5e75f2b3ccf942066003a67432f7568daf2d6dffdfee69bef930d3c81", func := "intarsia/intarsialaw29.SimplifyCopies", spec := "simplifyCopies", unfollowed := true, recurses := true, named := ["intarsia/simplify.rules"], loops := true, apart := false, laid := [("intarsia/simplify.rules", laid_intarsia_simplify_rules)] }
def SimplifyCopiesSaid : Prop := simplifyCopiesRow.holds Tryd.pinned (OpenSpec.ofChange simplifyCopiesSpec)

/-- ITS FALSE NEIGHBOUR: 'it returns false'. Refute it at one input. -/
def simplifyCopiesWrong : ChangeSpec := { name := "simplifyCopies", fn := fun _ => fun
  | [d] => { results := [.lit (.bool false)], args := [d] }
  | _ => none }
def SimplifyCopiesWrongFalsely : Prop := simplifyCopiesRow.holds Tryd.pinned (OpenSpec.ofChange simplifyCopiesWrong)

/- THE SECOND FORM. 'bulk': how many values and letters a reading holds, each counted each time it is reached (what is shared counts as often as it is met; a slice's spare places count too). A statement '..UptoSaid' is the law's where the arguments, and the package variables that the reading takes, are together of bulk at most 1048576: NARROWER than '..Said'. Prove '..Said' where nothing that the law and all that it calls make is longer than what came in: it says more and counts as full. Else prove '..UptoSaid'. A law counts once. -/
mutual
def uptoBulk {H : Type} : DataW H → Nat
  | .lit (.string bytes) => bytes.length + 1
  | .lit _ => 1
  | .nil => 1
  | .ptr d => uptoBulk d + 1
  | .slice elems spare => uptoBulkAll elems + uptoBulkAll spare + 1
  | .agg parts => uptoBulkAll parts + 1
  | .iface _ d => uptoBulk d + 1
  | .map entries => uptoBulkEntries entries + 1
  | .held _ => 1
def uptoBulkAll {H : Type} : List (DataW H) → Nat
  | [] => 0
  | d :: r => uptoBulk d + uptoBulkAll r
def uptoBulkEntries {H : Type} : List (Lit × DataW H) → Nat
  | [] => 0
  | x :: r => uptoBulkEntry x + uptoBulkEntries r
def uptoBulkEntry {H : Type} : Lit × DataW H → Nat
  | (.string bytes, d) => bytes.length + uptoBulk d + 1
  | (_, d) => uptoBulk d + 1
 end
def uptoSmall : (H : Type) → List (DataW H) → Bool := fun _ ds => decide (uptoBulkAll ds ≤ 1048576)
def OpenSpec.upto (s : _root_.Go.ChangeSpec) : _root_.Go.OpenSpec := { _root_.Go.OpenSpec.ofChange s with cond := some uptoSmall }

/-- 'intarsialaw29.SimplifyCopies', WHERE WHAT IT READS IS OF BULK AT MOST 1048576: true; the input reads as it did. -/
def simplifyCopiesUptoRow : OpenClaim := { program := "ytbpnhijnfhniaaadoor", sum := "b0042ea5e75f2b3ccf942066003a67432f7568daf2d6dffdfee69bef930d3c81", func := "intarsia/intarsialaw29.SimplifyCopies", spec := "simplifyCopies", unfollowed := true, recurses := true, named := ["intarsia/simplify.rules"], loops := true, apart := false, laid := [("intarsia/simplify.rules", laid_intarsia_simplify_rules)], narrowed := true }
def SimplifyCopiesUptoSaid : Prop := simplifyCopiesUptoRow.holds Tryd.pinned (OpenSpec.upto simplifyCopiesSpec)

end Rows
end Go.Proofs.YtbpnhijnfhniaaaDoor
