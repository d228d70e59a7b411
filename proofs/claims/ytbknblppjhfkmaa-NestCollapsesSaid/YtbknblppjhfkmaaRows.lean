/-
  No cell of these rows narrows 'for every input' (looked for: loops, veiled, ifaces, maps, wideKeys, modest, calm, conditions, laid).
  DERIVED. THE GIVEN ROWS OF THIS SEAT. 7 by the template 'for every input the law returns true; each argument reads behind the call as it read before'; 0 by the template 'total and deterministic' (their statements: YtbknblppjhfkmaaTotals.lean).
  GIVEN WITH THE SEED: the statements are not yours to turn. If you find one false, say at which input.
  Laid BY PROGRAM, IN A SANDBOX (cutbox-rows.mjs): the forced cells as the released guide's own fill.sh prints them over the translation a2b4cb1fd7ae8e3f… (all of the seat's roots in one cut). By AI agents, Wed Nov 11 2026. No macro, syntax, notation, axiom, sorry.
-/
import Derived.Test.YtbknblppjhfkmaaChecked
import GoSem.Claim
import GoSem.ClaimJoined
import GoSem.ClaimMapViews
import Derived.JoinedTies
import Derived.KernelRfl
namespace Go.Proofs.Ytbknblppjhfkmaa
/- THE CELL 'sum', in the pinned program and in every row, IS THE sha256 OF THE DUMP (.gsa) THAT YtbknblppjhfkmaaProg.lean LOADS. Nothing in Lean hashes anything: it is a label: what it is worth is what the hold of that sum in a sandbox is worth. -/
noncomputable def Try.pinned : Pinned := { name := "ytbknblppjhfkmaa", sum := "a2b4cb1fd7ae8e3f4e9e16bdfd249c9b497c51c58642447ed7954acf84b46137", checked := Try.checked }
namespace Rows
def none {H : Type} : Left H := { results := [], args := [] }

/-- 'intarsialaw23.NestEvents': WHATEVER THE INPUT: true; the input reads as it did. -/
def nestEventsSpec : ChangeSpec := { name := "nestEvents", fn := fun _ => fun
  | [d1, d2] => { results := [.lit (.bool true)], args := [d1, d2] }
  | _ => none }
def nestEventsRow : OpenClaim := { program := "ytbknblppjhfkmaa", sum := "a2b4cb1fd7ae8e3f4e9e16bdfd249c9b497c51c58642447ed7954acf84b46137", func := "intarsia/intarsialaw23.NestEvents", spec := "nestEvents", unfollowed := true, recurses := true, apart := false }
def NestEventsSaid : Prop := nestEventsRow.holds Try.pinned (OpenSpec.ofChange nestEventsSpec)

/-- ITS FALSE NEIGHBOUR: 'it returns false'. Refute it at one input. -/
def nestEventsWrong : ChangeSpec := { name := "nestEvents", fn := fun _ => fun
  | [d1, d2] => { results := [.lit (.bool false)], args := [d1, d2] }
  | _ => none }
def NestEventsWrongFalsely : Prop := nestEventsRow.holds Try.pinned (OpenSpec.ofChange nestEventsWrong)

/-- 'intarsialaw23.NestRuns': WHATEVER THE INPUT: true; the input reads as it did. -/
def nestRunsSpec : ChangeSpec := { name := "nestRuns", fn := fun _ => fun
  | [d1, d2, d3] => { results := [.lit (.bool true)], args := [d1, d2, d3] }
  | _ => none }
def nestRunsRow : OpenClaim := { program := "ytbknblppjhfkmaa", sum := "a2b4cb1fd7ae8e3f4e9e16bdfd249c9b497c51c58642447ed7954acf84b46137", func := "intarsia/intarsialaw23.NestRuns", spec := "nestRuns", unfollowed := true, recurses := true, apart := false }
def NestRunsSaid : Prop := nestRunsRow.holds Try.pinned (OpenSpec.ofChange nestRunsSpec)

/-- ITS FALSE NEIGHBOUR: 'it returns false'. Refute it at one input. -/
def nestRunsWrong : ChangeSpec := { name := "nestRuns", fn := fun _ => fun
  | [d1, d2, d3] => { results := [.lit (.bool false)], args := [d1, d2, d3] }
  | _ => none }
def NestRunsWrongFalsely : Prop := nestRunsRow.holds Try.pinned (OpenSpec.ofChange nestRunsWrong)

/-- 'intarsialaw23.NestSingles': WHATEVER THE INPUT: true; the input reads as it did. -/
def nestSinglesSpec : ChangeSpec := { name := "nestSingles", fn := fun _ => fun
  | [d1, d2, d3] => { results := [.lit (.bool true)], args := [d1, d2, d3] }
  | _ => none }
def nestSinglesRow : OpenClaim := { program := "ytbknblppjhfkmaa", sum := "a2b4cb1fd7ae8e3f4e9e16bdfd249c9b497c51c58642447ed7954acf84b46137", func := "intarsia/intarsialaw23.NestSingles", spec := "nestSingles", unfollowed := true, recurses := true, apart := false }
def NestSinglesSaid : Prop := nestSinglesRow.holds Try.pinned (OpenSpec.ofChange nestSinglesSpec)

/-- ITS FALSE NEIGHBOUR: 'it returns false'. Refute it at one input. -/
def nestSinglesWrong : ChangeSpec := { name := "nestSingles", fn := fun _ => fun
  | [d1, d2, d3] => { results := [.lit (.bool false)], args := [d1, d2, d3] }
  | _ => none }
def NestSinglesWrongFalsely : Prop := nestSinglesRow.holds Try.pinned (OpenSpec.ofChange nestSinglesWrong)

/-- 'intarsialaw23.NestCollapses': WHATEVER THE INPUT: true; the input reads as it did. -/
def nestCollapsesSpec : ChangeSpec := { name := "nestCollapses", fn := fun _ => fun
  | [d] => { results := [.lit (.bool true)], args := [d] }
  | _ => none }
def nestCollapsesRow : OpenClaim := { program := "ytbknblppjhfkmaa", sum := "a2b4cb1fd7ae8e3f4e9e16bdfd249c9b497c51c58642447ed7954acf84b46137", func := "intarsia/intarsialaw23.NestCollapses", spec := "nestCollapses", unfollowed := true, recurses := true, apart := false }
def NestCollapsesSaid : Prop := nestCollapsesRow.holds Try.pinned (OpenSpec.ofChange nestCollapsesSpec)

/-- ITS FALSE NEIGHBOUR: 'it returns false'. Refute it at one input. -/
def nestCollapsesWrong : ChangeSpec := { name := "nestCollapses", fn := fun _ => fun
  | [d] => { results := [.lit (.bool false)], args := [d] }
  | _ => none }
def NestCollapsesWrongFalsely : Prop := nestCollapsesRow.holds Try.pinned (OpenSpec.ofChange nestCollapsesWrong)

/-- 'intarsialaw24.AuditExact': WHATEVER THE INPUT: true; the input reads as it did. -/
def auditExactSpec : ChangeSpec := { name := "auditExact", fn := fun _ => fun
  | [d1, d2, d3] => { results := [.lit (.bool true)], args := [d1, d2, d3] }
  | _ => none }
def auditExactRow : OpenClaim := { program := "ytbknblppjhfkmaa", sum := "a2b4cb1fd7ae8e3f4e9e16bdfd249c9b497c51c58642447ed7954acf84b46137", func := "intarsia/intarsialaw24.AuditExact", spec := "auditExact", unfollowed := true, recurses := true, apart := false }
def AuditExactSaid : Prop := auditExactRow.holds Try.pinned (OpenSpec.ofChange auditExactSpec)

/-- ITS FALSE NEIGHBOUR: 'it returns false'. Refute it at one input. -/
def auditExactWrong : ChangeSpec := { name := "auditExact", fn := fun _ => fun
  | [d1, d2, d3] => { results := [.lit (.bool false)], args := [d1, d2, d3] }
  | _ => none }
def AuditExactWrongFalsely : Prop := auditExactRow.holds Try.pinned (OpenSpec.ofChange auditExactWrong)

/-- 'intarsialaw24.AuditUsed': WHATEVER THE INPUT: true; the input reads as it did. -/
def auditUsedSpec : ChangeSpec := { name := "auditUsed", fn := fun _ => fun
  | [d1, d2] => { results := [.lit (.bool true)], args := [d1, d2] }
  | _ => none }
def auditUsedRow : OpenClaim := { program := "ytbknblppjhfkmaa", sum := "a2b4cb1fd7ae8e3f4e9e16bdfd249c9b497c51c58642447ed7954acf84b46137", func := "intarsia/intarsialaw24.AuditUsed", spec := "auditUsed", unfollowed := true, recurses := true, apart := false }
def AuditUsedSaid : Prop := auditUsedRow.holds Try.pinned (OpenSpec.ofChange auditUsedSpec)

/-- ITS FALSE NEIGHBOUR: 'it returns false'. Refute it at one input. -/
def auditUsedWrong : ChangeSpec := { name := "auditUsed", fn := fun _ => fun
  | [d1, d2] => { results := [.lit (.bool false)], args := [d1, d2] }
  | _ => none }
def AuditUsedWrongFalsely : Prop := auditUsedRow.holds Try.pinned (OpenSpec.ofChange auditUsedWrong)

/-- 'intarsialaw24.AuditRuns': WHATEVER THE INPUT: true; the input reads as it did. -/
def auditRunsSpec : ChangeSpec := { name := "auditRuns", fn := fun _ => fun
  | [d1, d2, d3] => { results := [.lit (.bool true)], args := [d1, d2, d3] }
  | _ => none }
def auditRunsRow : OpenClaim := { program := "ytbknblppjhfkmaa", sum := "a2b4cb1fd7ae8e3f4e9e16bdfd249c9b497c51c58642447ed7954acf84b46137", func := "intarsia/intarsialaw24.AuditRuns", spec := "auditRuns", unfollowed := true, recurses := true, apart := false }
def AuditRunsSaid : Prop := auditRunsRow.holds Try.pinned (OpenSpec.ofChange auditRunsSpec)

/-- ITS FALSE NEIGHBOUR: 'it returns false'. Refute it at one input. -/
def auditRunsWrong : ChangeSpec := { name := "auditRuns", fn := fun _ => fun
  | [d1, d2, d3] => { results := [.lit (.bool false)], args := [d1, d2, d3] }
  | _ => none }
def AuditRunsWrongFalsely : Prop := auditRunsRow.holds Try.pinned (OpenSpec.ofChange auditRunsWrong)

/- THE SECOND FORM. 'bulk': how many values and letters a reading holds, each counted each time it is reached (what is shared counts as often as it is met; a slice's spare places count too). A statement '..UptoSaid' is the law's where the arguments, and the package variables that the reading takes, are together of bulk at most 1048576: NARROWER than '..Said'. Prove '..Said' where nothing that the law and all that it calls make is longer than what came in: it says more and counts as full. Else prove '..UptoSaid'. A law counts once. -/
mutual
def uptoBulk {H : Type} : DataW H → Nat
  | .lit (.string bytes) => bytes.length + 1
  | .lit _ => 1
  | .nil => 1
  | .ptr d => uptoBulk d + 1
  | .slice elems spare => uptoBulkAll elems + uptoBulkAll spare + 1
  | .agg parts => uptoBulkAll parts + 1
  | .iface _ d => uptoBulk d + 1
  | .map entries => uptoBulkEntries entries + 1
  | .held _ => 1
def uptoBulkAll {H : Type} : List (DataW H) → Nat
  | [] => 0
  | d :: r => uptoBulk d + uptoBulkAll r
def uptoBulkEntries {H : Type} : List (Lit × DataW H) → Nat
  | [] => 0
  | x :: r => uptoBulkEntry x + uptoBulkEntries r
def uptoBulkEntry {H : Type} : Lit × DataW H → Nat
  | (.string bytes, d) => bytes.length + uptoBulk d + 1
  | (_, d) => uptoBulk d + 1
 end
def uptoSmall : (H : Type) → List (DataW H) → Bool := fun _ ds => decide (uptoBulkAll ds ≤ 1048576)
def OpenSpec.upto (s : _root_.Go.ChangeSpec) : _root_.Go.OpenSpec := { _root_.Go.OpenSpec.ofChange s with cond := some uptoSmall }

/-- 'intarsialaw23.NestEvents', WHERE WHAT IT READS IS OF BULK AT MOST 1048576: true; the input reads as it did. -/
def nestEventsUptoRow : OpenClaim := { program := "ytbknblppjhfkmaa", sum := "a2b4cb1fd7ae8e3f4e9e16bdfd249c9b497c51c58642447ed7954acf84b46137", func := "intarsia/intarsialaw23.NestEvents", spec := "nestEvents", unfollowed := true, recurses := true, apart := false, narrowed := true }
def NestEventsUptoSaid : Prop := nestEventsUptoRow.holds Try.pinned (OpenSpec.upto nestEventsSpec)

/-- 'intarsialaw23.NestRuns', WHERE WHAT IT READS IS OF BULK AT MOST 1048576: true; the input reads as it did. -/
def nestRunsUptoRow : OpenClaim := { program := "ytbknblppjhfkmaa", sum := "a2b4cb1fd7ae8e3f4e9e16bdfd249c9b497c51c58642447ed7954acf84b46137", func := "intarsia/intarsialaw23.NestRuns", spec := "nestRuns", unfollowed := true, recurses := true, apart := false, narrowed := true }
def NestRunsUptoSaid : Prop := nestRunsUptoRow.holds Try.pinned (OpenSpec.upto nestRunsSpec)

/-- 'intarsialaw23.NestSingles', WHERE WHAT IT READS IS OF BULK AT MOST 1048576: true; the input reads as it did. -/
def nestSinglesUptoRow : OpenClaim := { program := "ytbknblppjhfkmaa", sum := "a2b4cb1fd7ae8e3f4e9e16bdfd249c9b497c51c58642447ed7954acf84b46137", func := "intarsia/intarsialaw23.NestSingles", spec := "nestSingles", unfollowed := true, recurses := true, apart := false, narrowed := true }
def NestSinglesUptoSaid : Prop := nestSinglesUptoRow.holds Try.pinned (OpenSpec.upto nestSinglesSpec)

/-- 'intarsialaw23.NestCollapses', WHERE WHAT IT READS IS OF BULK AT MOST 1048576: true; the input reads as it did. -/
def nestCollapsesUptoRow : OpenClaim := { program := "ytbknblppjhfkmaa", sum := "a2b4cb1fd7ae8e3f4e9e16bdfd249c9b497c51c58642447ed7954acf84b46137", func := "intarsia/intarsialaw23.NestCollapses", spec := "nestCollapses", unfollowed := true, recurses := true, apart := false, narrowed := true }
def NestCollapsesUptoSaid : Prop := nestCollapsesUptoRow.holds Try.pinned (OpenSpec.upto nestCollapsesSpec)

/-- 'intarsialaw24.AuditExact', WHERE WHAT IT READS IS OF BULK AT MOST 1048576: true; the input reads as it did. -/
def auditExactUptoRow : OpenClaim := { program := "ytbknblppjhfkmaa", sum := "a2b4cb1fd7ae8e3f4e9e16bdfd249c9b497c51c58642447ed7954acf84b46137", func := "intarsia/intarsialaw24.AuditExact", spec := "auditExact", unfollowed := true, recurses := true, apart := false, narrowed := true }
def AuditExactUptoSaid : Prop := auditExactUptoRow.holds Try.pinned (OpenSpec.upto auditExactSpec)

/-- 'intarsialaw24.AuditUsed', WHERE WHAT IT READS IS OF BULK AT MOST 1048576: true; the input reads as it did. -/
def auditUsedUptoRow : OpenClaim := { program := "ytbknblppjhfkmaa", sum := "a2b4cb1fd7ae8e3f4e9e16bdfd249c9b497c51c58642447ed7954acf84b46137", func := "intarsia/intarsialaw24.AuditUsed", spec := "auditUsed", unfollowed := true, recurses := true, apart := false, narrowed := true }
def AuditUsedUptoSaid : Prop := auditUsedUptoRow.holds Try.pinned (OpenSpec.upto auditUsedSpec)

/-- 'intarsialaw24.AuditRuns', WHERE WHAT IT READS IS OF BULK AT MOST 1048576: true; the input reads as it did. -/
def auditRunsUptoRow : OpenClaim := { program := "ytbknblppjhfkmaa", sum := "a2b4cb1fd7ae8e3f4e9e16bdfd249c9b497c51c58642447ed7954acf84b46137", func := "intarsia/intarsialaw24.AuditRuns", spec := "auditRuns", unfollowed := true, recurses := true, apart := false, narrowed := true }
def AuditRunsUptoSaid : Prop := auditRunsUptoRow.holds Try.pinned (OpenSpec.upto auditRunsSpec)

end Rows
end Go.Proofs.Ytbknblppjhfkmaa
