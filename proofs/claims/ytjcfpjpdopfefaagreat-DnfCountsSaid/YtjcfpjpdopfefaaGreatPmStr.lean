/-
 The pure machine, walked by program: strings (lengths, bytes, comparisons, parts, sums).
-/
import Derived.Test.YtjcfpjpdopfefaaGreatPmSx
import Derived.Laws.Strings
namespace Go.Pm
open Go
set_option linter.unusedVariables false
section
variable {P:Program} {E:Env} {ow:List (Nat × TypeId)} {o:Oper} {ρ:Operand→PV} {H:List Blk} {K:PV→List Blk→Prop}
end
end Go.Pm
