/-
 The pure machine: laws for walks: lists of structures that are written within.
-/
import Derived.Test.YtjcfpjpdopfefaaGreatPmPk
namespace Go.Pm
open Go Go.RowKit
set_option linter.unusedVariables false
section
variable {P:Program} {E:Env} {hn:Hint} {rg:Bool} {r i:Nat} {ops:Array Oper} {fl:List (Nat × List Nat)} {st:St} {Q:St→Prop} {o:Oper} {ρ:Operand→PV} {H:List Blk} {K:PV→List Blk→Prop} {ow:List (Nat × TypeId)}

section
variable {α:Type} {f:α→Dat} {sh:α→List Int→α} {q h g n size:Nat} {L out:List α} {p:α} {hi:List Int}
end
end
end Go.Pm
