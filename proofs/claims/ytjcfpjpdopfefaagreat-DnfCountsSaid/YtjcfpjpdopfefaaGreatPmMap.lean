/-
 The pure machine, walked by program: maps from texts to numbers; the characters of texts, one after the other.
-/
import Derived.Test.YtjcfpjpdopfefaaGreatPmStr
namespace Go.Pm
open Go
set_option linter.unusedVariables false
section
variable {P:Program} {E:Env} {ow:List (Nat × TypeId)} {o:Oper} {ρ:Operand→PV} {H:List Blk} {K:PV→List Blk→Prop}
end
section
variable {P:Program} {E:Env} {hn:Hint} {r i:Nat} {ops:Array Oper} {c:Cf} {Q:Cf→Prop}
end
end Go.Pm
