/-
 The pure machine, walked by program: strings (lengths, bytes, comparisons, parts, sums).
-/
import Derived.Test.YtlddncgoekmflaaGreatPmSx
import Derived.Laws.Strings
namespace Go.Pm
open Go
set_option linter.unusedVariables false
def sidx (b:ByteArray) (n:Int):Option Int:=if 0≤n then (b.data[n.toNat]?).map (fun x=>(x.toNat:Int)) else none
def ssub (b:ByteArray) (lo hi:Int):Option ByteArray:=if 0≤lo∧lo≤hi∧hi≤(b.size:Int) then some (b.extract lo.toNat hi.toNat) else none
section
variable {P:Program} {E:Env} {ow:List (Nat × TypeId)} {o:Oper} {ρ:Operand→PV} {H:List Blk} {K:PV→List Blk→Prop}
theorem str_eq (a b:ByteArray):(a.toList == b.toList)=decide (a=b):=by
 rw [ByteArray.toList_eq,ByteArray.toList_eq]
 by_cases h:a=b
 ·subst h; simp
 ·rw [decide_eq_false h,beq_eq_false_iff_ne]
  intro e
  apply h
  cases a; cases b
  simp only at e
  congr
  exact Array.toList_inj.1 e
theorem QaO {t yt:TypeId} {x y:Operand} {a b:ByteArray} (ho:o.op=.binOp .eql t x y yt) (hx:ρ x=.dat (strD a)) (hy:ρ y=.dat (strD b)) (hk:K (Qo (decide (a=b))) H):SemE P E ow o ρ H K:=by
 have hv:(ρ x).toVal=some (.string a):=by rw [hx]; rfl
 have hw:(ρ y).toVal=some (.string b):=by rw [hy]; rfl
 refine Qcg (fun call=>by simp only [sem,ho,toVal_fnNil hv,toVal_lstNil hv]) (plain_bin ho (r:=.bool (decide (a=b))) hv hw (fun ρ' h1 h2=>?_) rfl) hk
 have h4:evalP P (eqGuard .eql t x y (.string a) (.string b))=some ():=rfl
 simp only [execOp,ho,h1,h2,evalP_bind,h4,Option.bind_some,binOp,Op.stringOp,str_eq]; rfl
theorem QeY {t yt:TypeId} {x y:Operand} {a b:ByteArray} (ho:o.op=.binOp .neq t x y yt) (hx:ρ x=.dat (strD a)) (hy:ρ y=.dat (strD b)) (hk:K (Qo (decide (a≠b))) H):SemE P E ow o ρ H K:=by
 have hv:(ρ x).toVal=some (.string a):=by rw [hx]; rfl
 have hw:(ρ y).toVal=some (.string b):=by rw [hy]; rfl
 refine Qcg (fun call=>by simp only [sem,ho,toVal_fnNil hv,toVal_lstNil hv]) (plain_bin ho (r:=.bool (decide (a≠b))) hv hw (fun ρ' h1 h2=>?_) rfl) hk
 have h4:evalP P (eqGuard .neq t x y (.string a) (.string b))=some ():=rfl
 have h5:(!decide (a=b))=decide (a≠b):=by simp
 simp only [execOp,ho,h1,h2,evalP_bind,h4,Option.bind_some,binOp,Op.stringOp,str_eq,h5]; rfl
theorem XG {t:TypeId} {x:Operand} {b:ByteArray} (hu:P.underlying t=some .string) (ho:o.op=.call { callee:=.builtin .len,args:=#[x],argTypes:=#[t] }) (hx:ρ x=.dat (strD b)) (hk:K (Qe (b.size:Int)) H):SemE P E ow o ρ H K:=by
 have hv:(ρ x).toVal=some (.string b):=by rw [hx]; rfl
 refine Qcg (fun call=>?_) ?_ hk
 ·have hn:builtinSem P .len #[t] ((#[x]:Array Operand).toList.map ρ) H=none:=by
   simp only [builtinSem,List.map_cons,List.map_nil]
   simp [hu]
  simp only [sem,ho,hn]
 ·have he:evalP P (execOp (fun z=>((ρ z).toVal).getD undef) o)=some (.value (.int .i64 (b.size:Int))):=by
   simp only [execOp,ho,resolve,invoke,builtin,Builtin.len_]
   simp [hv,evalP_bind,evalP_underlying hu]
   rfl
  have hop:(Op.call { callee:=.builtin .len,args:=#[x],argTypes:=#[t] }).operands.toList=[x]:=by simp [Op.operands,Call.operands]
  simp only [plainSem,ho,hop]
  simp [hv,he]
  rfl
theorem sidx_some {b:ByteArray} {n v:Int} (h:sidx b n=some v):∃ u:UInt8,(if 0≤n then b[n.toNat]? else none)=some u∧v=(u.toNat:Int):=by
 unfold sidx at h
 split at h
 ·rename_i hn
  cases hu:b.data[n.toNat]? with
  | none=>rw [hu] at h; cases h
  | some u =>
   rw [hu] at h
   refine ⟨u,?_,(Option.some.inj h).symm⟩
   rw [if_pos hn]
   obtain ⟨hl,e⟩:=Array.getElem?_eq_some_iff.1 hu
   have hl2:n.toNat < b.size:=hl
   have e2:b[n.toNat]? = some (b[n.toNat]'hl2):=by simp [getElem?,decidableGetElem?,hl2]
   rw [e2]
   exact congrArg some e
 ·cases h
theorem QaP {t:TypeId} {x ix:Operand} {b:ByteArray} {n v:Int} {k:IntKind} (hi:sidx b n=some v) (hu:P.underlying t=some .string) (ho:o.op=.index t x ix) (hx:ρ x=.dat (strD b)) (hn:ρ ix=.dat (.raw (.int k n))) (hk:K (.dat (numD .u8 v)) H):SemE P E ow o ρ H K:=by
 have hv:(ρ x).toVal=some (.string b):=by rw [hx]; rfl
 have hw:(ρ ix).toVal=some (.int k n):=by rw [hn]; rfl
 obtain ⟨u,e1,rfl⟩:=sidx_some hi
 refine Qcg (fun call=>by simp only [sem,ho]) ?_ hk
 have he:evalP P (execOp (fun z=>((ρ z).toVal).getD undef) o)=some (.value (.int .u8 (u.toNat:Int))):=by
  simp only [execOp,ho,hv,hw,Option.getD_some,Instr.index,asIntOf,evalP_bind,evalP_pure,evalP_underlying hu,Option.bind_some,e1]
 simp only [plainSem,ho,Op.operands]
 simp [hv,hw,he]
 rfl
theorem evalP_bound {v:Value} {k:IntKind} {n:Int} {y:Nat} {c:BoundsCode} (hv:v=.int k n) (h:0≤n∧n≤(y:Int)):evalP P (Instr.sliceBound v y c)=some n.toNat:=by
 subst hv
 simp only [Instr.sliceBound,asIntOf,evalP_bind,evalP_pure,Option.bind_some,if_pos h]
theorem QdH {t:TypeId} {x:Operand} {lo hi:Option Operand} {b c:ByteArray} {l h:Int} (hs:ssub b l h=some c) (hu:P.underlying t=some .string) (ho:o.op=.slice t x lo hi none) (hx:ρ x=.dat (strD b))
  (hl:(lo=none∧l=0)∨∃ y k,lo=some y∧ρ y=.dat (.raw (.int k l))) (hh:(hi=none∧h=(b.size:Int))∨∃ y k,hi=some y∧ρ y=.dat (.raw (.int k h)))
  (hk:K (.dat (strD c)) H):SemE P E ow o ρ H K:=by
 have hv:(ρ x).toVal=some (.string b):=by rw [hx]; rfl
 unfold ssub at hs
 split at hs
 ·rename_i hc
  cases hs
  refine Qcg (fun call=>by simp only [sem,ho,hx,strD]) ?_ hk
  have hsl:∀ ρ':Operand→Value,ρ' x=.string b→(∀ y,(ρ y).toVal.isSome→ρ' y=((ρ y).toVal).getD undef)→evalP P (execOp ρ' o)=some (.value (.string (b.extract l.toNat h.toNat))):=by
   intro ρ' h1 h2
   have e1:∀ y k (n:Int),ρ y=.dat (.raw (.int k n))→ρ' y=.int k n:=by
    intro y k n e
    have e2:(ρ y).toVal=some (.int k n):=by rw [e]; rfl
    rw [h2 y (by rw [e2]; rfl),e2]; rfl
   have hb:evalP P (Instr.sliceBounds false b.size b.size (lo.map ρ') (hi.map ρ') none)=some (l.toNat,h.toNat,b.size):=by
    rcases hh with ⟨rfl,rfl⟩|⟨y,k,rfl,e⟩ <;> rcases hl with ⟨rfl,rfl⟩|⟨y',k',rfl,e'⟩ <;> unfold Instr.sliceBounds <;> simp only [Option.map_none,Option.map_some,evalP_bind,evalP_pure,Option.bind_some]
    ·rfl
    ·rw [evalP_bound (e1 y' k' l e') ⟨hc.1,by omega⟩]; rfl
    ·rw [evalP_bound (e1 y k h e) ⟨by omega,hc.2.2⟩]; rfl
    ·rw [evalP_bound (e1 y k h e) ⟨by omega,hc.2.2⟩]; simp only [Option.bind_some]; rw [evalP_bound (e1 y' k' l e') ⟨hc.1,by omega⟩]; rfl
   have hs2:evalP P (Instr.slice t (.string b) (lo.map ρ') (hi.map ρ') none)=some (.string (b.extract l.toNat h.toNat)):=by
    unfold Instr.slice
    rw [evalP_bind,evalP_underlying hu]
    show evalP P ((Instr.sliceBounds false b.size b.size (lo.map ρ') (hi.map ρ') none:Sem (Nat × Nat × Nat))>>=fun q=>(pure (Value.string (b.extract q.1 q.2.1)):Sem Value))=_
    rw [evalP_bind,hb]
    rfl
   have hs3:evalP P (Instr.sliceAt t (.string b) (lo.map ρ') (hi.map ρ') none)=some (.string (b.extract l.toNat h.toNat)):=by
    unfold Instr.sliceAt
    rw [evalP_bind,evalP_underlying hu]
    exact hs2
   simp only [execOp,ho,h1,Option.map_none]
   rw [evalP_bind,hs3]
   rfl
  have hop:∀ z∈o.op.operands.toList,((ρ z).toVal).isSome:=by
   rw [ho]
   intro z hz
   rcases hl with ⟨rfl,_⟩|⟨y,k,rfl,e⟩ <;> rcases hh with ⟨rfl,_⟩|⟨y',k',rfl,e'⟩ <;> simp [Op.operands] at hz
   ·subst hz; rw [hv]; rfl
   ·rcases hz with rfl|rfl
    ·rw [hv]; rfl
    ·rw [e']; rfl
   ·rcases hz with rfl|rfl
    ·rw [hv]; rfl
    ·rw [e]; rfl
   ·rcases hz with rfl|rfl|rfl
    ·rw [hv]; rfl
    ·rw [e]; rfl
    ·rw [e']; rfl
  have hall:(o.op.operands.toList.map fun z=>(ρ z).toVal).all Option.isSome=true:=by
   rw [List.all_eq_true]
   intro v hv'
   obtain ⟨z,hz,rfl⟩:=List.mem_map.1 hv'
   exact hop z hz
  simp only [plainSem,hall,if_true]
  rw [hsl _ (by simp only [hv,Option.getD_some]) (fun y _=>rfl)]
  rfl
 ·cases hs
end
end Go.Pm
