/-
 The pure machine, walked by program: strings (lengths, bytes, comparisons, parts, sums).
-/
import Derived.Test.YtjcfpjpdopfefaaGreatPmSx
import Derived.Laws.Strings
namespace Go.Pm
open Go
set_option linter.all false
section
variable{P:fm}{E:Env}{ow:List (Nat×TypeId)}{o:Oper}{ρ:ft->PV}{H:List fB}{K:PV->List fB->Prop}
end
end Go.Pm
