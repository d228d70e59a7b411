/-
 The pure machine: laws for walks: lists of structures that are written within.
-/
import Derived.Test.YtjcfpjpdopfefaaGreatPmPk
namespace Go.Pm
open Go Go.RowKit
set_option linter.all false
section
variable{P:fm}{E:Env}{hn:Hint}{rg:Bool}{r i:Nat}{ops:Array Oper}{fl:List (Nat×List Nat)}{st:St}{Q:St->Prop}{o:Oper}{ρ:ft->PV}{H:List fB}{K:PV->List fB->Prop}{ow:List (Nat×TypeId)}
section
variable{α:Type}{f:α->fy}{sh:α->fj->α}{q h g n size:Nat}{L out:List α}{p:α}{hi:fj}
def Bh(sh:α->fj->α):List α->fj->List α
 |[],_=>[]
 |[p],hi=>[sh p hi]
 |p::c::r,hi=>p::Bh sh (c::r) hi
theorem CZ:∀L:List α,Bh sh (L++[p]) hi=L++[sh p hi]
 |[]=>by simp[Bh]
 |[a]=>by simp[Bh]
 |a::b::r=>by
  have c:=CZ (b::r);simp only[aW]at c |-;rw[Bh,c]
theorem zi:∀out:List α,(Bh sh out hi).length=out.length
 |[]=>rfl
 |[_]=>rfl
 |a::b::r=>by rw[Bh,zG,zi (b::r)];rfl
def T2(g:Nat)(out:List α):Nat:=if out.isEmpty then g else g+1
def I8(bytes:Nat)(sh:α->fj->α)(out:List α)(hi:fj)(p:α):Option (List α):=if(out.length+1)*bytes<=gO then some (Bh sh out hi++[p])else none
end
end
end Go.Pm
