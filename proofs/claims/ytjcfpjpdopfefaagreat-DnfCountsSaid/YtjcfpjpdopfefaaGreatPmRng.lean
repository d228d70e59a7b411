/-
 The pure machine: a range whose body may return.
-/
import Derived.Test.YtjcfpjpdopfefaaGreatPmIt
namespace Go.Pm
open Go
set_option linter.unusedVariables false

section
variable {σ:Type} {P:Program} {E:Env} {Y:Nat→Nat→List Dat→σ→Option (Bool × σ)}
end
end Go.Pm
