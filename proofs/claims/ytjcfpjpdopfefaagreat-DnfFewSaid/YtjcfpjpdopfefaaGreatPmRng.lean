/-
 The pure machine: a range whose body may return.
-/
import Derived.Test.YtjcfpjpdopfefaaGreatPmIt
namespace Go.Pm
open Go
set_option linter.all false
section
variable{σ:Type}{P:fm}{E:Env}{Y:Nat->Nat->List fy->σ->Option (Bool×σ)}
end
end Go.Pm
