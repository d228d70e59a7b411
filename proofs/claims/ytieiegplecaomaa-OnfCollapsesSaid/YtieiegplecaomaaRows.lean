/-
  No cell of these rows narrows 'for every input' (looked for: loops, veiled, ifaces, maps, wideKeys, modest, calm, conditions, laid).
  DERIVED. THE GIVEN ROWS OF THIS SEAT. 6 by the template 'for every input the law returns true; each argument reads behind the call as it read before'; 0 by the template 'total and deterministic' (their statements: YtieiegplecaomaaTotals.lean).
  GIVEN WITH THE SEED: the statements are not yours to turn. If you find one false, say at which input.
  Laid BY PROGRAM, IN A SANDBOX (cutbox-rows.mjs): the forced cells as the released guide's own fill.sh prints them over the translation 70f796b1e2aa40c0… (all of the seat's roots in one cut). By AI agents, Wed Nov 11 2026. No macro, syntax, notation, axiom, sorry.
-/
import Derived.Test.YtieiegplecaomaaChecked
import GoSem.Claim
import GoSem.ClaimJoined
import GoSem.ClaimMapViews
import Derived.JoinedTies
import Derived.KernelRfl
namespace Go.Proofs.Ytieiegplecaomaa
/- THE CELL 'sum', in the pinned program and in every row, IS THE sha256 OF THE DUMP (.gsa) THAT YtieiegplecaomaaProg.lean LOADS. Nothing in Lean hashes anything: it is a label: what it is worth is what the hold of that sum in a sandbox is worth. -/
noncomputable def Try.pinned : Pinned := { name := "ytieiegplecaomaa", sum := "70f796b1e2aa40c0f6791fd2a83abaa8f566f4bfe9a53bf131a9182d77efa80c", checked := Try.checked }
namespace Rows
def none {H : Type} : Left H := { results := [], args := [] }

/-- 'intarsialaw13.RuleSymmetric': WHATEVER THE INPUT: true; the input reads as it did. -/
def ruleSymmetricSpec : ChangeSpec := { name := "ruleSymmetric", fn := fun _ => fun
  | [d1, d2, d3, d4] => { results := [.lit (.bool true)], args := [d1, d2, d3, d4] }
  | _ => none }
def ruleSymmetricRow : OpenClaim := { program := "ytieiegplecaomaa", sum := "70f796b1e2aa40c0f6791fd2a83abaa8f566f4bfe9a53bf131a9182d77efa80c", func := "intarsia/intarsialaw13.RuleSymmetric", spec := "ruleSymmetric", unfollowed := true, recurses := true, apart := false }
def RuleSymmetricSaid : Prop := ruleSymmetricRow.holds Try.pinned (OpenSpec.ofChange ruleSymmetricSpec)

/-- ITS FALSE NEIGHBOUR: 'it returns false'. Refute it at one input. -/
def ruleSymmetricWrong : ChangeSpec := { name := "ruleSymmetric", fn := fun _ => fun
  | [d1, d2, d3, d4] => { results := [.lit (.bool false)], args := [d1, d2, d3, d4] }
  | _ => none }
def RuleSymmetricWrongFalsely : Prop := ruleSymmetricRow.holds Try.pinned (OpenSpec.ofChange ruleSymmetricWrong)

/-- 'intarsialaw13.RuleTakesDrop': WHATEVER THE INPUT: true; the input reads as it did. -/
def ruleTakesDropSpec : ChangeSpec := { name := "ruleTakesDrop", fn := fun _ => fun
  | [d1, d2] => { results := [.lit (.bool true)], args := [d1, d2] }
  | _ => none }
def ruleTakesDropRow : OpenClaim := { program := "ytieiegplecaomaa", sum := "70f796b1e2aa40c0f6791fd2a83abaa8f566f4bfe9a53bf131a9182d77efa80c", func := "intarsia/intarsialaw13.RuleTakesDrop", spec := "ruleTakesDrop", unfollowed := true, recurses := true, apart := false }
def RuleTakesDropSaid : Prop := ruleTakesDropRow.holds Try.pinned (OpenSpec.ofChange ruleTakesDropSpec)

/-- ITS FALSE NEIGHBOUR: 'it returns false'. Refute it at one input. -/
def ruleTakesDropWrong : ChangeSpec := { name := "ruleTakesDrop", fn := fun _ => fun
  | [d1, d2] => { results := [.lit (.bool false)], args := [d1, d2] }
  | _ => none }
def RuleTakesDropWrongFalsely : Prop := ruleTakesDropRow.holds Try.pinned (OpenSpec.ofChange ruleTakesDropWrong)

/-- 'intarsialaw13.RuleRight': WHATEVER THE INPUT: true; the input reads as it did. -/
def ruleRightSpec : ChangeSpec := { name := "ruleRight", fn := fun _ => fun
  | [d1, d2, d3] => { results := [.lit (.bool true)], args := [d1, d2, d3] }
  | _ => none }
def ruleRightRow : OpenClaim := { program := "ytieiegplecaomaa", sum := "70f796b1e2aa40c0f6791fd2a83abaa8f566f4bfe9a53bf131a9182d77efa80c", func := "intarsia/intarsialaw13.RuleRight", spec := "ruleRight", unfollowed := true, recurses := true, apart := false }
def RuleRightSaid : Prop := ruleRightRow.holds Try.pinned (OpenSpec.ofChange ruleRightSpec)

/-- ITS FALSE NEIGHBOUR: 'it returns false'. Refute it at one input. -/
def ruleRightWrong : ChangeSpec := { name := "ruleRight", fn := fun _ => fun
  | [d1, d2, d3] => { results := [.lit (.bool false)], args := [d1, d2, d3] }
  | _ => none }
def RuleRightWrongFalsely : Prop := ruleRightRow.holds Try.pinned (OpenSpec.ofChange ruleRightWrong)

/-- 'intarsialaw21.OnfCollapses': WHATEVER THE INPUT: true; the input reads as it did. -/
def onfCollapsesSpec : ChangeSpec := { name := "onfCollapses", fn := fun _ => fun
  | [d] => { results := [.lit (.bool true)], args := [d] }
  | _ => none }
def onfCollapsesRow : OpenClaim := { program := "ytieiegplecaomaa", sum := "70f796b1e2aa40c0f6791fd2a83abaa8f566f4bfe9a53bf131a9182d77efa80c", func := "intarsia/intarsialaw21.OnfCollapses", spec := "onfCollapses", unfollowed := true, recurses := true, apart := false }
def OnfCollapsesSaid : Prop := onfCollapsesRow.holds Try.pinned (OpenSpec.ofChange onfCollapsesSpec)

/-- ITS FALSE NEIGHBOUR: 'it returns false'. Refute it at one input. -/
def onfCollapsesWrong : ChangeSpec := { name := "onfCollapses", fn := fun _ => fun
  | [d] => { results := [.lit (.bool false)], args := [d] }
  | _ => none }
def OnfCollapsesWrongFalsely : Prop := onfCollapsesRow.holds Try.pinned (OpenSpec.ofChange onfCollapsesWrong)

/-- 'intarsialaw21.OnfRounds': WHATEVER THE INPUT: true; the input reads as it did. -/
def onfRoundsSpec : ChangeSpec := { name := "onfRounds", fn := fun _ => fun
  | [d] => { results := [.lit (.bool true)], args := [d] }
  | _ => none }
def onfRoundsRow : OpenClaim := { program := "ytieiegplecaomaa", sum := "70f796b1e2aa40c0f6791fd2a83abaa8f566f4bfe9a53bf131a9182d77efa80c", func := "intarsia/intarsialaw21.OnfRounds", spec := "onfRounds", unfollowed := true, recurses := true, apart := false }
def OnfRoundsSaid : Prop := onfRoundsRow.holds Try.pinned (OpenSpec.ofChange onfRoundsSpec)

/-- ITS FALSE NEIGHBOUR: 'it returns false'. Refute it at one input. -/
def onfRoundsWrong : ChangeSpec := { name := "onfRounds", fn := fun _ => fun
  | [d] => { results := [.lit (.bool false)], args := [d] }
  | _ => none }
def OnfRoundsWrongFalsely : Prop := onfRoundsRow.holds Try.pinned (OpenSpec.ofChange onfRoundsWrong)

/-- 'intarsialaw21.OnfSame': WHATEVER THE INPUT: true; the input reads as it did. -/
def onfSameSpec : ChangeSpec := { name := "onfSame", fn := fun _ => fun
  | [d1, d2] => { results := [.lit (.bool true)], args := [d1, d2] }
  | _ => none }
def onfSameRow : OpenClaim := { program := "ytieiegplecaomaa", sum := "70f796b1e2aa40c0f6791fd2a83abaa8f566f4bfe9a53bf131a9182d77efa80c", func := "intarsia/intarsialaw21.OnfSame", spec := "onfSame", unfollowed := true, recurses := true, apart := false }
def OnfSameSaid : Prop := onfSameRow.holds Try.pinned (OpenSpec.ofChange onfSameSpec)

/-- ITS FALSE NEIGHBOUR: 'it returns false'. Refute it at one input. -/
def onfSameWrong : ChangeSpec := { name := "onfSame", fn := fun _ => fun
  | [d1, d2] => { results := [.lit (.bool false)], args := [d1, d2] }
  | _ => none }
def OnfSameWrongFalsely : Prop := onfSameRow.holds Try.pinned (OpenSpec.ofChange onfSameWrong)

/- THE SECOND FORM. 'bulk': how many values and letters a reading holds, each counted each time it is reached (what is shared counts as often as it is met; a slice's spare places count too). A statement '..UptoSaid' is the law's where the arguments, and the package variables that the reading takes, are together of bulk at most 1048576: NARROWER than '..Said'. Prove '..Said' where nothing that the law and all that it calls make is longer than what came in: it says more and counts as full. Else prove '..UptoSaid'. A law counts once. -/
mutual
def uptoBulk {H : Type} : DataW H → Nat
  | .lit (.string bytes) => bytes.length + 1
  | .lit _ => 1
  | .nil => 1
  | .ptr d => uptoBulk d + 1
  | .slice elems spare => uptoBulkAll elems + uptoBulkAll spare + 1
  | .agg parts => uptoBulkAll parts + 1
  | .iface _ d => uptoBulk d + 1
  | .map entries => uptoBulkEntries entries + 1
  | .held _ => 1
def uptoBulkAll {H : Type} : List (DataW H) → Nat
  | [] => 0
  | d :: r => uptoBulk d + uptoBulkAll r
def uptoBulkEntries {H : Type} : List (Lit × DataW H) → Nat
  | [] => 0
  | x :: r => uptoBulkEntry x + uptoBulkEntries r
def uptoBulkEntry {H : Type} : Lit × DataW H → Nat
  | (.string bytes, d) => bytes.length + uptoBulk d + 1
  | (_, d) => uptoBulk d + 1
 end
def uptoSmall : (H : Type) → List (DataW H) → Bool := fun _ ds => decide (uptoBulkAll ds ≤ 1048576)
def OpenSpec.upto (s : _root_.Go.ChangeSpec) : _root_.Go.OpenSpec := { _root_.Go.OpenSpec.ofChange s with cond := some uptoSmall }

/-- 'intarsialaw13.RuleSymmetric', WHERE WHAT IT READS IS OF BULK AT MOST 1048576: true; the input reads as it did. -/
def ruleSymmetricUptoRow : OpenClaim := { program := "ytieiegplecaomaa", sum := "70f796b1e2aa40c0f6791fd2a83abaa8f566f4bfe9a53bf131a9182d77efa80c", func := "intarsia/intarsialaw13.RuleSymmetric", spec := "ruleSymmetric", unfollowed := true, recurses := true, apart := false, narrowed := true }
def RuleSymmetricUptoSaid : Prop := ruleSymmetricUptoRow.holds Try.pinned (OpenSpec.upto ruleSymmetricSpec)

/-- 'intarsialaw13.RuleTakesDrop', WHERE WHAT IT READS IS OF BULK AT MOST 1048576: true; the input reads as it did. -/
def ruleTakesDropUptoRow : OpenClaim := { program := "ytieiegplecaomaa", sum := "70f796b1e2aa40c0f6791fd2a83abaa8f566f4bfe9a53bf131a9182d77efa80c", func := "intarsia/intarsialaw13.RuleTakesDrop", spec := "ruleTakesDrop", unfollowed := true, recurses := true, apart := false, narrowed := true }
def RuleTakesDropUptoSaid : Prop := ruleTakesDropUptoRow.holds Try.pinned (OpenSpec.upto ruleTakesDropSpec)

/-- 'intarsialaw13.RuleRight', WHERE WHAT IT READS IS OF BULK AT MOST 1048576: true; the input reads as it did. -/
def ruleRightUptoRow : OpenClaim := { program := "ytieiegplecaomaa", sum := "70f796b1e2aa40c0f6791fd2a83abaa8f566f4bfe9a53bf131a9182d77efa80c", func := "intarsia/intarsialaw13.RuleRight", spec := "ruleRight", unfollowed := true, recurses := true, apart := false, narrowed := true }
def RuleRightUptoSaid : Prop := ruleRightUptoRow.holds Try.pinned (OpenSpec.upto ruleRightSpec)

/-- 'intarsialaw21.OnfCollapses', WHERE WHAT IT READS IS OF BULK AT MOST 1048576: true; the input reads as it did. -/
def onfCollapsesUptoRow : OpenClaim := { program := "ytieiegplecaomaa", sum := "70f796b1e2aa40c0f6791fd2a83abaa8f566f4bfe9a53bf131a9182d77efa80c", func := "intarsia/intarsialaw21.OnfCollapses", spec := "onfCollapses", unfollowed := true, recurses := true, apart := false, narrowed := true }
def OnfCollapsesUptoSaid : Prop := onfCollapsesUptoRow.holds Try.pinned (OpenSpec.upto onfCollapsesSpec)

/-- 'intarsialaw21.OnfRounds', WHERE WHAT IT READS IS OF BULK AT MOST 1048576: true; the input reads as it did. -/
def onfRoundsUptoRow : OpenClaim := { program := "ytieiegplecaomaa", sum := "70f796b1e2aa40c0f6791fd2a83abaa8f566f4bfe9a53bf131a9182d77efa80c", func := "intarsia/intarsialaw21.OnfRounds", spec := "onfRounds", unfollowed := true, recurses := true, apart := false, narrowed := true }
def OnfRoundsUptoSaid : Prop := onfRoundsUptoRow.holds Try.pinned (OpenSpec.upto onfRoundsSpec)

/-- 'intarsialaw21.OnfSame', WHERE WHAT IT READS IS OF BULK AT MOST 1048576: true; the input reads as it did. -/
def onfSameUptoRow : OpenClaim := { program := "ytieiegplecaomaa", sum := "70f796b1e2aa40c0f6791fd2a83abaa8f566f4bfe9a53bf131a9182d77efa80c", func := "intarsia/intarsialaw21.OnfSame", spec := "onfSame", unfollowed := true, recurses := true, apart := false, narrowed := true }
def OnfSameUptoSaid : Prop := onfSameUptoRow.holds Try.pinned (OpenSpec.upto onfSameSpec)

end Rows
end Go.Proofs.Ytieiegplecaomaa
