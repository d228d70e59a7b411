/-
  NARROWER THAN 'FOR EVERY INPUT', by the rows' own cells (each row's printed sentence says how): DnfReduces: loops · DnfCounts: loops · DnfPlain: loops · DnfFew: loops.
  DERIVED. THE GIVEN ROWS OF THIS SEAT. 4 by the template 'for every input the law returns true; each argument reads behind the call as it read before'; 0 by the template 'total and deterministic' (their statements: YtjcfpjpdopfefaaGreatTotals.lean).
  GIVEN WITH THE SEED: the statements are not yours to turn. If you find one false, say at which input.
  Laid BY PROGRAM, IN A SANDBOX (cutbox-rows.mjs): the forced cells as the released guide's own fill.sh prints them over the translation dd9875412c92c17d… (all of the seat's roots in one cut). By AI agents, Wed Nov 11 2026. No macro, syntax, notation, axiom, sorry.
-/
import Derived.Test.YtjcfpjpdopfefaaGreatChecked
import GoSem.Claim
import GoSem.ClaimJoined
import GoSem.ClaimMapViews
import Derived.JoinedTies
import Derived.KernelRfl
namespace Go.Proofs.YtjcfpjpdopfefaaGreat
/- THE CELL 'sum', in the pinned program and in every row, IS THE sha256 OF THE DUMP (.gsa) THAT YtjcfpjpdopfefaaGreatProg.lean LOADS. Nothing in Lean hashes anything: it is a label: what it is worth is what the hold of that sum in a sandbox is worth. -/
noncomputable def Tryz.pinned : Pinned := { name := "ytjcfpjpdopfefaagreat", sum := "dd9875412c92c17d07f8e0b63769f3a7248ab238d8e4c390c995c41a04476e40", checked := Tryz.checked }
namespace Rows
def none {H : Type} : Left H := { results := [], args := [] }

/-- 'intarsialaw20.DnfReduces': WHATEVER THE INPUT: true; the input reads as it did. -/
def dnfReducesSpec : ChangeSpec := { name := "dnfReduces", fn := fun _ => fun
  | [d1, d2] => { results := [.lit (.bool true)], args := [d1, d2] }
  | _ => none }
def dnfReducesRow : OpenClaim := { program := "ytjcfpjpdopfefaagreat", sum := "dd9875412c92c17d07f8e0b63769f3a7248ab238d8e4c390c995c41a04476e40", func := "intarsia/intarsialaw20.DnfReduces", spec := "dnfReduces", unfollowed := true, recurses := true, loops := true, apart := false }
def DnfReducesSaid : Prop := dnfReducesRow.holds Tryz.pinned (OpenSpec.ofChange dnfReducesSpec)

/-- ITS FALSE NEIGHBOUR: 'it returns false'. Refute it at one input. -/
def dnfReducesWrong : ChangeSpec := { name := "dnfReduces", fn := fun _ => fun
  | [d1, d2] => { results := [.lit (.bool false)], args := [d1, d2] }
  | _ => none }
def DnfReducesWrongFalsely : Prop := dnfReducesRow.holds Tryz.pinned (OpenSpec.ofChange dnfReducesWrong)

/-- 'intarsialaw20.DnfCounts': WHATEVER THE INPUT: true; the input reads as it did. -/
def dnfCountsSpec : ChangeSpec := { name := "dnfCounts", fn := fun _ => fun
  | [d1, d2] => { results := [.lit (.bool true)], args := [d1, d2] }
  | _ => none }
def dnfCountsRow : OpenClaim := { program := "ytjcfpjpdopfefaagreat", sum := "dd9875412c92c17d07f8e0b63769f3a7248ab238d8e4c390c995c41a04476e40", func := "intarsia/intarsialaw20.DnfCounts", spec := "dnfCounts", unfollowed := true, recurses := true, loops := true, apart := false }
def DnfCountsSaid : Prop := dnfCountsRow.holds Tryz.pinned (OpenSpec.ofChange dnfCountsSpec)

/-- ITS FALSE NEIGHBOUR: 'it returns false'. Refute it at one input. -/
def dnfCountsWrong : ChangeSpec := { name := "dnfCounts", fn := fun _ => fun
  | [d1, d2] => { results := [.lit (.bool false)], args := [d1, d2] }
  | _ => none }
def DnfCountsWrongFalsely : Prop := dnfCountsRow.holds Tryz.pinned (OpenSpec.ofChange dnfCountsWrong)

/-- 'intarsialaw20.DnfPlain': WHATEVER THE INPUT: true; the input reads as it did. -/
def dnfPlainSpec : ChangeSpec := { name := "dnfPlain", fn := fun _ => fun
  | [d1, d2] => { results := [.lit (.bool true)], args := [d1, d2] }
  | _ => none }
def dnfPlainRow : OpenClaim := { program := "ytjcfpjpdopfefaagreat", sum := "dd9875412c92c17d07f8e0b63769f3a7248ab238d8e4c390c995c41a04476e40", func := "intarsia/intarsialaw20.DnfPlain", spec := "dnfPlain", unfollowed := true, recurses := true, loops := true, apart := false }
def DnfPlainSaid : Prop := dnfPlainRow.holds Tryz.pinned (OpenSpec.ofChange dnfPlainSpec)

/-- ITS FALSE NEIGHBOUR: 'it returns false'. Refute it at one input. -/
def dnfPlainWrong : ChangeSpec := { name := "dnfPlain", fn := fun _ => fun
  | [d1, d2] => { results := [.lit (.bool false)], args := [d1, d2] }
  | _ => none }
def DnfPlainWrongFalsely : Prop := dnfPlainRow.holds Tryz.pinned (OpenSpec.ofChange dnfPlainWrong)

/-- 'intarsialaw20.DnfFew': WHATEVER THE INPUT: true; the input reads as it did. -/
def dnfFewSpec : ChangeSpec := { name := "dnfFew", fn := fun _ => fun
  | [d1, d2, d3, d4] => { results := [.lit (.bool true)], args := [d1, d2, d3, d4] }
  | _ => none }
def dnfFewRow : OpenClaim := { program := "ytjcfpjpdopfefaagreat", sum := "dd9875412c92c17d07f8e0b63769f3a7248ab238d8e4c390c995c41a04476e40", func := "intarsia/intarsialaw20.DnfFew", spec := "dnfFew", unfollowed := true, recurses := true, loops := true, apart := false }
def DnfFewSaid : Prop := dnfFewRow.holds Tryz.pinned (OpenSpec.ofChange dnfFewSpec)

/-- ITS FALSE NEIGHBOUR: 'it returns false'. Refute it at one input. -/
def dnfFewWrong : ChangeSpec := { name := "dnfFew", fn := fun _ => fun
  | [d1, d2, d3, d4] => { results := [.lit (.bool false)], args := [d1, d2, d3, d4] }
  | _ => none }
def DnfFewWrongFalsely : Prop := dnfFewRow.holds Tryz.pinned (OpenSpec.ofChange dnfFewWrong)

/- THE SECOND FORM. 'bulk': how many values and letters a reading holds, each counted each time it is reached (what is shared counts as often as it is met; a slice's spare places count too). A statement '..UptoSaid' is the law's where the arguments, and the package variables that the reading takes, are together of bulk at most 1048576: NARROWER than '..Said'. Prove '..Said' where nothing that the law and all that it calls make is longer than what came in: it says more and counts as full. Else prove '..UptoSaid'. A law counts once. -/
mutual
def uptoBulk {H : Type} : DataW H → Nat
  | .lit (.string bytes) => bytes.length + 1
  | .lit _ => 1
  | .nil => 1
  | .ptr d => uptoBulk d + 1
  | .slice elems spare => uptoBulkAll elems + uptoBulkAll spare + 1
  | .agg parts => uptoBulkAll parts + 1
  | .iface _ d => uptoBulk d + 1
  | .map entries => uptoBulkEntries entries + 1
  | .held _ => 1
def uptoBulkAll {H : Type} : List (DataW H) → Nat
  | [] => 0
  | d :: r => uptoBulk d + uptoBulkAll r
def uptoBulkEntries {H : Type} : List (Lit × DataW H) → Nat
  | [] => 0
  | x :: r => uptoBulkEntry x + uptoBulkEntries r
def uptoBulkEntry {H : Type} : Lit × DataW H → Nat
  | (.string bytes, d) => bytes.length + uptoBulk d + 1
  | (_, d) => uptoBulk d + 1
 end
def uptoSmall : (H : Type) → List (DataW H) → Bool := fun _ ds => decide (uptoBulkAll ds ≤ 1048576)
def OpenSpec.upto (s : _root_.Go.ChangeSpec) : _root_.Go.OpenSpec := { _root_.Go.OpenSpec.ofChange s with cond := some uptoSmall }

/-- 'intarsialaw20.DnfReduces', WHERE WHAT IT READS IS OF BULK AT MOST 1048576: true; the input reads as it did. -/
def dnfReducesUptoRow : OpenClaim := { program := "ytjcfpjpdopfefaagreat", sum := "dd9875412c92c17d07f8e0b63769f3a7248ab238d8e4c390c995c41a04476e40", func := "intarsia/intarsialaw20.DnfReduces", spec := "dnfReduces", unfollowed := true, recurses := true, loops := true, apart := false, narrowed := true }
def DnfReducesUptoSaid : Prop := dnfReducesUptoRow.holds Tryz.pinned (OpenSpec.upto dnfReducesSpec)

/-- 'intarsialaw20.DnfCounts', WHERE WHAT IT READS IS OF BULK AT MOST 1048576: true; the input reads as it did. -/
def dnfCountsUptoRow : OpenClaim := { program := "ytjcfpjpdopfefaagreat", sum := "dd9875412c92c17d07f8e0b63769f3a7248ab238d8e4c390c995c41a04476e40", func := "intarsia/intarsialaw20.DnfCounts", spec := "dnfCounts", unfollowed := true, recurses := true, loops := true, apart := false, narrowed := true }
def DnfCountsUptoSaid : Prop := dnfCountsUptoRow.holds Tryz.pinned (OpenSpec.upto dnfCountsSpec)

/-- 'intarsialaw20.DnfPlain', WHERE WHAT IT READS IS OF BULK AT MOST 1048576: true; the input reads as it did. -/
def dnfPlainUptoRow : OpenClaim := { program := "ytjcfpjpdopfefaagreat", sum := "dd9875412c92c17d07f8e0b63769f3a7248ab238d8e4c390c995c41a04476e40", func := "intarsia/intarsialaw20.DnfPlain", spec := "dnfPlain", unfollowed := true, recurses := true, loops := true, apart := false, narrowed := true }
def DnfPlainUptoSaid : Prop := dnfPlainUptoRow.holds Tryz.pinned (OpenSpec.upto dnfPlainSpec)

/-- 'intarsialaw20.DnfFew', WHERE WHAT IT READS IS OF BULK AT MOST 1048576: true; the input reads as it did. -/
def dnfFewUptoRow : OpenClaim := { program := "ytjcfpjpdopfefaagreat", sum := "dd9875412c92c17d07f8e0b63769f3a7248ab238d8e4c390c995c41a04476e40", func := "intarsia/intarsialaw20.DnfFew", spec := "dnfFew", unfollowed := true, recurses := true, loops := true, apart := false, narrowed := true }
def DnfFewUptoSaid : Prop := dnfFewUptoRow.holds Tryz.pinned (OpenSpec.upto dnfFewSpec)

end Rows
end Go.Proofs.YtjcfpjpdopfefaaGreat
