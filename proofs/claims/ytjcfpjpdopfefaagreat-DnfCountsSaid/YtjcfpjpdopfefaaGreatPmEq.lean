/-
 The pure machine: comparing structs without lists, and closures with nil.
-/
import Derived.Test.YtjcfpjpdopfefaaGreatPmOp
import Derived.Laws.StructEq
namespace Go.Pm
open Go
set_option linter.unusedVariables false

theorem evalP_pure {P:Program} {α:Type} (a:α):evalP P (pure a:Sem α)=some a:=rfl
theorem evalP_program {P:Program}:evalP P program=some P:=rfl
theorem evalP_underlying {P:Program} {t:TypeId} {u:TypeDesc} (h:P.underlying t=some u):evalP P (underlying t)=some u:=by
 unfold underlying;rw [evalP_bind,evalP_program];simp only [zU,h]; rfl

def scalarEq (P:Program) (t:TypeId) (x y:Value):Option Bool :=
 match P.underlying t,x,y with
 | some .bool,.bool a,.bool b=>some (a == b)
 | some (.int _),.int k a,.int k' b=>if k=k' then some (a == b) else none
 | some .string,.string a,.string b=>some (a == b)
 | _,_,_=>none
theorem scalarEq_ok {P:Program} {t:TypeId} {x y:Value} {b:Bool} (d:Nat) (h:scalarEq P t x y=some b):evalP P (Op.equalIn (d+1) t x y)=some b:=by
 unfold scalarEq at h;split at h
 ·rename_i hu; cases h; simp only [Op.equalIn,evalP_bind,evalP_underlying hu,zU]; rfl
 ·rename_i hu;split at h
  ·rename_i hk; subst hk; cases h; simp only [Op.equalIn,evalP_bind,evalP_underlying hu,zU,if_true]; rfl
  ·cases h
 ·rename_i hu; cases h; simp only [Op.equalIn,evalP_bind,evalP_underlying hu,zU]; rfl
 ·cases h
theorem scalarEq_type {P:Program} {t:TypeId} {x y:Value} {b:Bool} (h:scalarEq P t x y=some b):evalP P (isAgg t)=some false:=by
 unfold scalarEq at h;unfold isAgg;split at h <;> first|(rename_i hu; rw [evalP_bind,evalP_underlying hu]; rfl)|cases h
theorem part_ok {P:Program} {t:TypeId} {xs:Array Value} {off:Nat} {v:Value} (ht:evalP P (isAgg t)=some false) (hx:xs[off]? = some v):evalP P (part t xs off)=some v:=by
 unfold part;rw [evalP_bind,ht];simp only [zU,j6,if_false,hx]; rfl
structure SEq (P:Program) (t:TypeId) (xs ys:Array Value) (b:Bool):Prop where
 eq:evalP P (Op.equal t (.agg xs) (.agg ys))=some b
 guard:P.eqGuardType P.depth t=false
section
variable {P:Program} {E:Env} {ow:List (Nat × TypeId)} {o:Oper} {ρ:Operand→PV} {H:List Blk} {K:PV→List Blk→Prop}
theorem eqGuard_ok {op:BinOp} {t:TypeId} {x y:Operand} {xs ys:Array Value} (h:P.eqGuardType P.depth t=false):evalP P (eqGuard op t x y (.agg xs) (.agg ys))=some ():=by
 unfold eqGuard;cases op <;> first|rfl|(simp only [Bool.not_true,j6,if_false,evalP_bind,evalP_program,zU,h]; rfl)
theorem Qbx {t yt:TypeId} {x y:Operand} {xs ys:Array Value} {b:Bool} (ho:o.op=.binOp .eql t x y yt) (hx:(ρ x).toVal=some (.agg xs)) (hy:(ρ y).toVal=some (.agg ys)) (hs:SEq P t xs ys b) (hk:K (.dat (.raw (.bool b))) H):SemE P E ow o ρ H K :=
 J0 (fun call=>by simp only [sem,ho,toVal_fnNil hx,toVal_lstNil hx]) (plain_bin ho (r:=.bool b) hx hy (fun ρ' h1 h2=>by
  simp only [execOp,ho,h1,h2,evalP_bind,eqGuard_ok hs.guard,zU,binOp,hs.eq,evalP_pure]) rfl) hk
theorem QaF {x y:Operand} {ts:Array TypeId} {k:IntKind} {m n:Int} (ho:o.op=.call { callee:=.builtin .min,args:=#[x,y],argTypes:=ts }) (hx:ρ x=.dat (.raw (.int k m))) (hy:ρ y=.dat (.raw (.int k n))) (hk:K (.dat (.raw (.int k (if n < m then n else m)))) H):SemE P E ow o ρ H K:=by
 refine J0 (fun call=>by simp only [sem,ho]; rfl) ?_ hk;have hv:(ρ x).toVal=some (.int k m):=by rw [hx]; rfl
 have hw:(ρ y).toVal=some (.int k n):=by rw [hy]; rfl
 have he:evalP P (execOp (fun z=>((ρ z).toVal).getD undef) o)=some (.value (.int k (if n < m then n else m))):=by
  simp only [execOp,ho,resolve,invoke,builtin,Builtin.min_];simp [hv,hw,Builtin.min2,evalP_pure]
 have hop:(Op.call { callee:=.builtin .min,args:=#[x,y],argTypes:=ts }).operands.toList=[x,y]:=by simp [Op.operands,Call.operands]
 simp only [plainSem,ho,hop];simp [hv,hw,he];rfl
theorem Qaf {x y:Operand} {ts:Array TypeId} {k:IntKind} {m n:Int} (ho:o.op=.call { callee:=.builtin .max,args:=#[x,y],argTypes:=ts }) (hx:ρ x=.dat (.raw (.int k m))) (hy:ρ y=.dat (.raw (.int k n))) (hk:K (.dat (.raw (.int k (if m < n then n else m)))) H):SemE P E ow o ρ H K:=by
 refine J0 (fun call=>by simp only [sem,ho]; rfl) ?_ hk;have hv:(ρ x).toVal=some (.int k m):=by rw [hx]; rfl
 have hw:(ρ y).toVal=some (.int k n):=by rw [hy]; rfl
 have he:evalP P (execOp (fun z=>((ρ z).toVal).getD undef) o)=some (.value (.int k (if m < n then n else m))):=by
  simp only [execOp,ho,resolve,invoke,builtin,Builtin.max_];simp [hv,hw,Builtin.max2,evalP_pure]
 have hop:(Op.call { callee:=.builtin .max,args:=#[x,y],argTypes:=ts }).operands.toList=[x,y]:=by simp [Op.operands,Call.operands]
 simp only [plainSem,ho,hop];simp [hv,hw,he];rfl
theorem pures_self (H:List Blk):∀ ds:List Dat,pures H (ds.map .dat)=some ds
 | []=>rfl
 | d::ds=>by simp only [zS,pures,pure1,pureC,pures_self H ds]
theorem PC_lend {f:FuncId} {args:List PV} {ds:List Dat} {H H0 H0':List Blk} {p:PV} (hs:E.summ f=none) (hp:E.pure f=true) (h:PC P E f (ds.map .dat) H0 p H0') (hds:pures H args=some ds) (hl:args.any PV.lends=true→scalarOut p=true):PC P E f args H p H:=by
 obtain ⟨N,h⟩:=h;refine ⟨N,fun k hk=>?_⟩;have:=h k hk;cases k with
 | zero=>simp [pfun] at this
 | succ k =>
  unfold pfun at this ⊢;simp only [hs,hp,if_true,pures_self,hds] at this ⊢;split at this
  ·cases this
  ·rename_i he;rw [if_neg he];split at this
   ·rename_i r H' hb;split at this
    ·rename_i v hv;split at this
     ·cases this
     ·simp only [j9,jI] at this;obtain ⟨rfl,_⟩:=this;rw [if_neg];intro hc;simp only [jE,Bool.not_eq_true'] at hc;rw [hl hc.1] at hc;exact Bool.noConfusion hc.2
    ·cases this
   ·cases this
theorem Qby {t yt:TypeId} {x y:Operand} {a b:Bool} (ht:P.underlying t=some .bool) (ho:o.op=.binOp .neq t x y yt) (hx:ρ x=.dat (.raw (.bool a))) (hy:ρ y=.dat (.raw (.bool b))) (hk:K (.dat (.raw (.bool (a != b)))) H):SemE P E ow o ρ H K:=by
 have hv:(ρ x).toVal=some (.bool a):=by rw [hx]; rfl
 have hw:(ρ y).toVal=some (.bool b):=by rw [hy]; rfl
 exact J0 (fun call=>by simp only [sem,ho,toVal_fnNil hv,toVal_lstNil hv]) (plain_bin ho (r:=.bool (a != b)) hv hw (fun ρ' h1 h2=>by
  have he:scalarEq P t (.bool a) (.bool b)=some (a == b):=by simp only [scalarEq,ht]
  have h3:evalP P (Op.equal t (.bool a) (.bool b))=some (a == b):=scalarEq_ok 9999 he;have h4:evalP P (eqGuard .neq t x y (.bool a) (.bool b))=some ():=rfl;simp only [execOp,ho,h1,h2,evalP_bind,h4,zU,binOp,h3,evalP_pure]; rfl) rfl) hk
theorem all_map {α:Type} (f:α→Dat) (l:List α):allDat (l.map fun m=>.dat (f m))=some (l.map f):=by
 induction l with
 | nil=>rfl
 | cons a l ih=>simp only [zS,allDat,ih,jN]
theorem pure_map {α:Type} (f:α→Dat) (hf:∀ a,(f a).isCell=true) {H:List Blk} {i:Nat} {l:List α} {cap:Nat} (h:H[i]? = some (.box (l.map fun m=>.dat (f m)))) (hc:l.length≤cap:=by first|exact j7 _|assumption|omega):pure1 H (.arr i 0 l.length cap)=some (.lst (l.map f)):=by
 have e1:cut (l.map fun m=>PV.dat (f m)) 0 l.length=some (l.map fun m=>PV.dat (f m)):=by
  rw [cut,if_pos y7,List.drop_zero,List.take_of_length_le y7]
 have e2:(l.map f).all Dat.isCell=true:=by simp only [List.all_map,j8]; intro x _; exact hf x
 have e3:¬ ((0:Nat)=0∧0 < cap∧2 * cap≤(l.map fun m=>PV.dat (f m)).length):=by rw [jY]; omega
 have e4:arrDat (l.map fun m=>PV.dat (f m)) 0 l.length cap=some (l.map f):=by
  unfold arrDat;rw [if_neg e3,e1];simp only [zU,all_map,e2,if_true]
 simp only [pure1,pureC,h,e4,jN]
end
end Go.Pm
