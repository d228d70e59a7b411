/-
 The pure machine, walked by program: maps from texts to numbers; the characters of texts, one after the other.
-/
import Derived.Test.YtjcfpjpdopfefaaGreatPmStr
namespace Go.Pm
open Go
set_option linter.all false
section
variable{P:fm}{E:Env}{ow:List (Nat×TypeId)}{o:Oper}{ρ:ft->PV}{H:List fB}{K:PV->List fB->Prop}
end
section
variable{P:fm}{E:Env}{hn:Hint}{r i:Nat}{ops:Array Oper}{c:Cf}{Q:Cf->Prop}
end
end Go.Pm
