/-
 The pure machine, walked by program: strings (lengths, bytes, comparisons, parts, sums).
-/
import Derived.Test.YtdecaohlejlglaaGreatPmSx
import Derived.Laws.Strings
namespace Go.Pm
open Go
set_option linter.unusedVariables false
def sidx (b:ByteArray) (n:Int):Option Int:=if 0≤n then (b.data[n.toNat]?).map (fun x=>(x.toNat:Int)) else none
section
variable {P:Program} {E:Env} {ow:List (Nat × TypeId)} {o:Oper} {ρ:Operand→PV} {H:List Blk} {K:PV→List Blk→Prop}
theorem str_eq (a b:ByteArray):(a.toList == b.toList)=decide (a=b):=by
 rw [ByteArray.toList_eq,ByteArray.toList_eq]
 by_cases h:a=b
 ·subst h; simp
 ·rw [decide_eq_false h,beq_eq_false_iff_ne]
  intro e
  apply h
  cases a; cases b
  simp only at e
  congr
  exact Array.toList_inj.1 e
theorem QcH {t yt:TypeId} {x y:Operand} {a b:ByteArray} (ho:o.op=.binOp .eql t x y yt) (hx:ρ x=.dat (strD a)) (hy:ρ y=.dat (strD b)) (hk:K (Qs (decide (a=b))) H):SemE P E ow o ρ H K:=by
 have hv:(ρ x).toVal=some (.string a):=by rw [hx]; rfl
 have hw:(ρ y).toVal=some (.string b):=by rw [hy]; rfl
 refine Qci (fun call=>by simp only [sem,ho,toVal_fnNil hv,toVal_lstNil hv]) (plain_bin ho (r:=.bool (decide (a=b))) hv hw (fun ρ' h1 h2=>?_) rfl) hk
 have h4:evalP P (eqGuard .eql t x y (.string a) (.string b))=some ():=rfl
 simp only [execOp,ho,h1,h2,evalP_bind,h4,Option.bind_some,binOp,Op.stringOp,str_eq]; rfl
theorem Qfn {t yt:TypeId} {x y:Operand} {a b:ByteArray} (ho:o.op=.binOp .neq t x y yt) (hx:ρ x=.dat (strD a)) (hy:ρ y=.dat (strD b)) (hk:K (Qs (decide (a≠b))) H):SemE P E ow o ρ H K:=by
 have hv:(ρ x).toVal=some (.string a):=by rw [hx]; rfl
 have hw:(ρ y).toVal=some (.string b):=by rw [hy]; rfl
 refine Qci (fun call=>by simp only [sem,ho,toVal_fnNil hv,toVal_lstNil hv]) (plain_bin ho (r:=.bool (decide (a≠b))) hv hw (fun ρ' h1 h2=>?_) rfl) hk
 have h4:evalP P (eqGuard .neq t x y (.string a) (.string b))=some ():=rfl
 have h5:(!decide (a=b))=decide (a≠b):=by simp
 simp only [execOp,ho,h1,h2,evalP_bind,h4,Option.bind_some,binOp,Op.stringOp,str_eq,h5]; rfl
theorem Qfm {t:TypeId} {x:Operand} {b:ByteArray} (hu:P.underlying t=some .string) (ho:o.op=.call { callee:=.builtin .len,args:=#[x],argTypes:=#[t] }) (hx:ρ x=.dat (strD b)) (hk:K (Qc (b.size:Int)) H):SemE P E ow o ρ H K:=by
 have hv:(ρ x).toVal=some (.string b):=by rw [hx]; rfl
 refine Qci (fun call=>?_) ?_ hk
 ·have hn:builtinSem P .len #[t] ((#[x]:Array Operand).toList.map ρ) H=none:=by
   simp only [builtinSem,List.map_cons,List.map_nil]
   simp [hu]
  simp only [sem,ho,hn]
 ·have he:evalP P (execOp (fun z=>((ρ z).toVal).getD undef) o)=some (.value (.int .i64 (b.size:Int))):=by
   simp only [execOp,ho,resolve,invoke,builtin,Builtin.len_]
   simp [hv,evalP_bind,evalP_underlying hu]
   rfl
  have hop:(Op.call { callee:=.builtin .len,args:=#[x],argTypes:=#[t] }).operands.toList=[x]:=by simp [Op.operands,Call.operands]
  simp only [plainSem,ho,hop]
  simp [hv,he]
  rfl
theorem sidx_some {b:ByteArray} {n v:Int} (h:sidx b n=some v):∃ u:UInt8,(if 0≤n then b[n.toNat]? else none)=some u∧v=(u.toNat:Int):=by
 unfold sidx at h
 split at h
 ·rename_i hn
  cases hu:b.data[n.toNat]? with
  | none=>rw [hu] at h; cases h
  | some u =>
   rw [hu] at h
   refine ⟨u,?_,(Option.some.inj h).symm⟩
   rw [if_pos hn]
   obtain ⟨hl,e⟩:=Array.getElem?_eq_some_iff.1 hu
   have hl2:n.toNat < b.size:=hl
   have e2:b[n.toNat]? = some (b[n.toNat]'hl2):=by simp [getElem?,decidableGetElem?,hl2]
   rw [e2]
   exact congrArg some e
 ·cases h
theorem Qfl {t:TypeId} {x ix:Operand} {b:ByteArray} {n v:Int} {k:IntKind} (hi:sidx b n=some v) (hu:P.underlying t=some .string) (ho:o.op=.index t x ix) (hx:ρ x=.dat (strD b)) (hn:ρ ix=.dat (.raw (.int k n))) (hk:K (.dat (numD .u8 v)) H):SemE P E ow o ρ H K:=by
 have hv:(ρ x).toVal=some (.string b):=by rw [hx]; rfl
 have hw:(ρ ix).toVal=some (.int k n):=by rw [hn]; rfl
 obtain ⟨u,e1,rfl⟩:=sidx_some hi
 refine Qci (fun call=>by simp only [sem,ho]) ?_ hk
 have he:evalP P (execOp (fun z=>((ρ z).toVal).getD undef) o)=some (.value (.int .u8 (u.toNat:Int))):=by
  simp only [execOp,ho,hv,hw,Option.getD_some,Instr.index,asIntOf,evalP_bind,evalP_pure,evalP_underlying hu,Option.bind_some,e1]
 simp only [plainSem,ho,Op.operands]
 simp [hv,hw,he]
 rfl
end
end Go.Pm
