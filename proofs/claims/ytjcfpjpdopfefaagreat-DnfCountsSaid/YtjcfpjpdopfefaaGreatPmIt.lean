/-
 The pure machine: what an iterator's code comes to, whatever the fuel, if it is enough.
-/
import Derived.Test.YtjcfpjpdopfefaaGreatPmOp
namespace Go.Pm
open Go
set_option linter.unusedVariables false

section
variable {σ:Type} (P:Program) (E:Env) (Y:Nat→Nat→List Dat→σ→Option (Bool × σ))

def IR (hn:Hint) (c:Code) (is:ISt σ) (Q:Ex→ISt σ→Prop):Prop :=
 ∃ e is',(∃ N,∀ k n n',N≤k→N≤n→N≤n'→icode P (pfun P E k) hn (Y k n) n' c is=some (e,is'))∧Q e is'
end

section
variable {σ:Type} {P:Program} {E:Env} {Y:Nat→Nat→List Dat→σ→Option (Bool × σ)} {hn:Hint} {c a b:Code} {is:ISt σ} {Q Q':Ex→ISt σ→Prop}

theorem IR.mono (h:IR P E Y hn c is Q) (hq:∀ e s,Q e s→Q' e s):IR P E Y hn c is Q':=let ⟨e,s,h1,h2⟩:=h; ⟨e,s,h1,hq e s h2⟩
end
end Go.Pm
