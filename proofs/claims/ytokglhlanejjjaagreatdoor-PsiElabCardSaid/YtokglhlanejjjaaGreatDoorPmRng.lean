/-
 The pure machine: a range whose body may return.
-/
import Derived.Test.YtokglhlanejjjaaGreatDoorPmIt
namespace Go.Pm
open Go
set_option linter.all false

end Go.Pm
