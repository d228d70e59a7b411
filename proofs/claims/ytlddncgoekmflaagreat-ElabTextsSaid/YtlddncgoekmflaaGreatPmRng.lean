/-
 The pure machine: a range whose body may return.
-/
import Derived.Test.YtlddncgoekmflaaGreatPmIt
namespace Go.Pm
open Go
set_option linter.unusedVariables false

end Go.Pm
