/-
 The pure machine: soundness of control, of loops, of ranges over functions.
-/
import Derived.Test.YtlddncgoekmflaaGreatPmIter
import Derived.RangeFuncRecord
namespace Go.Pm
open Go Go.RowKit
set_option linter.unusedVariables false

def mark (r:Nat):Deferred:={ target:=.collected r,args:=#[] }

def Df (a:Act) (w:World) (a':Act) (w':World):Prop :=
 ∃ ms:List Nat,a'.defers=ms.map mark++a.defers∧ms.Nodup∧∀ r,r∈ms→w.heap.size≤r∧w'.heap[r]? = some (.deferred (some []))

theorem Df.same {a a':Act} {w w':World} (h:a'.defers=a.defers):Df a w a' w':=⟨[],by simpa using h,by simp,fun r h=>by simp at h⟩

theorem Df.trans {P:Program} {B0 N:Nat} {g1 g2:Gh} {H1 H2:List Blk} {a a1 a2:Act} {w w1 w2:World} (h:Df a w a1 w1) (hs:w.heap.size≤w1.heap.size) (hH:Qr P g1 B0 N H1 w1) (f:Fr g1 H1 w1 g2 H2 w2) (k:Df a1 w1 a2 w2):Df a w a2 w2:=by
 obtain ⟨ms,h1,h2,h3⟩:=h
 obtain ⟨ks,k1,k2,k3⟩:=k
 refine ⟨ks++ms,by simp [k1,h1],?_,fun r hr=>?_⟩
 ·refine List.nodup_append.2 ⟨k2,h2,fun x hx y hy e=>?_⟩
  subst e
  have:=(k3 x hx).1
  have:=lt_of_heap (h3 x hy).2
  omega
 ·rcases List.mem_append.1 hr with hr|hr
  ·exact ⟨Nat.le_trans hs (k3 r hr).1,(k3 r hr).2⟩
  ·obtain ⟨c1,c2⟩:=h3 r hr
   exact ⟨c1,(f.keep r (lt_of_heap c2) (hH.occ_not c2 rfl rfl)).trans c2⟩

section
variable {P:Program} {B0:Nat} {w0:World} {S0:Nat→Nat→Prop} {Nb:Nat} {F:Fence} {m:Nat} {pf:FuncId→Bool} {hint:FuncId→Hint} {call:CallF} {h:Hint}

def CodeOK (P:Program) (call:CallF) (rg:Bool) (c:Code) (st:St) (e:Ex) (st':St):Prop :=
 ∀ (B0:Nat) (w0:World) (S0:Nat→Nat→Prop) (Nb:Nat) (g:Gh) (a:Act) (w:World) (F:Fence) (m:Nat) (Q:Exit→Act→World→Prop),Free F→(rg=true→F=Fence.wide)→StOK P B0 w0 S0 Nb g st a w →
  (∀ g' a' w',Ext Nb g w g' w'→Fr g st.heap w g' st'.heap w'→StOK P B0 w0 S0 Nb g' st' a' w'→Df a w a' w'→Q (exOf e) a' w')→c.wpIn F m P Q a w

def DrawOK (P:Program) (call:CallF) (pf:FuncId→Bool) (h:Hint):Prop :=
 ∀ (r:Nat) (ops:Array Oper) (st st':St) (fl:List Nat),orderOk st.heap.length ops fl=true→drawRun P call pf h r ops 0 ops.toList st=some (st',fl)→CodeOK P call false (.region r ops true) st .normal st'

theorem RepV.still {g:Gh} {N N':Nat} {w:World} {v:Value} {p:PV} (h:RepV g N w v p) (hp:p.still=true):RepV (gS g.S) N' w v p:=by
 cases p with
 | dat d=>exact .dat _ _ h.datInv
 | iptr cs=>cases h with|iptr b o cs c h1 h2=>exact .iptr b o cs c h1 h2
 | _=>simp [PV.still] at hp

end
end Go.Pm
