/-
 The pure machine: comparing structs without lists, and closures with nil.
-/
import Derived.Test.YtjcfpjpdopfefaaGreatPmOp
import Derived.Laws.StructEq
namespace Go.Pm
open Go
set_option linter.unusedVariables false

theorem evalP_pure {P:Program} {α:Type} (a:α):evalP P (pure a:Sem α)=some a:=rfl
section
variable {P:Program} {E:Env} {ow:List (Nat × TypeId)} {o:Oper} {ρ:Operand→PV} {H:List Blk} {K:PV→List Blk→Prop}
theorem QbF {x y:Operand} {ts:Array TypeId} {k:IntKind} {m n:Int} (ho:o.op=.call { callee:=.builtin .min,args:=#[x,y],argTypes:=ts }) (hx:ρ x=.dat (.raw (.int k m))) (hy:ρ y=.dat (.raw (.int k n))) (hk:K (.dat (.raw (.int k (if n < m then n else m)))) H):SemE P E ow o ρ H K:=by
 refine QbI (fun call=>by simp only [sem,ho]; rfl) ?_ hk
 have hv:(ρ x).toVal=some (.int k m):=by rw [hx]; rfl
 have hw:(ρ y).toVal=some (.int k n):=by rw [hy]; rfl
 have he:evalP P (execOp (fun z=>((ρ z).toVal).getD undef) o)=some (.value (.int k (if n < m then n else m))):=by
  simp only [execOp,ho,resolve,invoke,builtin,Builtin.min_]
  simp [hv,hw,Builtin.min2,evalP_pure]
 have hop:(Op.call { callee:=.builtin .min,args:=#[x,y],argTypes:=ts }).operands.toList=[x,y]:=by simp [Op.operands,Call.operands]
 simp only [plainSem,ho,hop]
 simp [hv,hw,he]
 rfl
theorem Qbd {x y:Operand} {ts:Array TypeId} {k:IntKind} {m n:Int} (ho:o.op=.call { callee:=.builtin .max,args:=#[x,y],argTypes:=ts }) (hx:ρ x=.dat (.raw (.int k m))) (hy:ρ y=.dat (.raw (.int k n))) (hk:K (.dat (.raw (.int k (if m < n then n else m)))) H):SemE P E ow o ρ H K:=by
 refine QbI (fun call=>by simp only [sem,ho]; rfl) ?_ hk
 have hv:(ρ x).toVal=some (.int k m):=by rw [hx]; rfl
 have hw:(ρ y).toVal=some (.int k n):=by rw [hy]; rfl
 have he:evalP P (execOp (fun z=>((ρ z).toVal).getD undef) o)=some (.value (.int k (if m < n then n else m))):=by
  simp only [execOp,ho,resolve,invoke,builtin,Builtin.max_]
  simp [hv,hw,Builtin.max2,evalP_pure]
 have hop:(Op.call { callee:=.builtin .max,args:=#[x,y],argTypes:=ts }).operands.toList=[x,y]:=by simp [Op.operands,Call.operands]
 simp only [plainSem,ho,hop]
 simp [hv,hw,he]
 rfl
theorem pures_self (H:List Blk):∀ ds:List Dat,pures H (ds.map .dat)=some ds
 | []=>rfl
 | d::ds=>by simp only [List.map_cons,pures,pure1,pureC,pures_self H ds]
theorem PC_lend {f:FuncId} {args:List PV} {ds:List Dat} {H H0 H0':List Blk} {p:PV} (hs:E.summ f=none) (hp:E.pure f=true) (h:PC P E f (ds.map .dat) H0 p H0') (hds:pures H args=some ds) (hl:args.any PV.lends=true→scalarOut p=true):PC P E f args H p H:=by
 obtain ⟨N,h⟩:=h
 refine ⟨N,fun k hk=>?_⟩
 have:=h k hk
 cases k with
 | zero=>simp [pfun] at this
 | succ k =>
  unfold pfun at this ⊢
  simp only [hs,hp,if_true,pures_self,hds] at this ⊢
  split at this
  ·cases this
  ·rename_i he
   rw [if_neg he]
   split at this
   ·rename_i r H' hb
    split at this
    ·rename_i v hv
     split at this
     ·cases this
     ·simp only [Option.some.injEq,Prod.mk.injEq] at this
      obtain ⟨rfl,_⟩:=this
      rw [if_neg]
      intro hc
      simp only [Bool.and_eq_true,Bool.not_eq_true'] at hc
      rw [hl hc.1] at hc
      exact Bool.noConfusion hc.2
    ·cases this
   ·cases this
theorem purge_map {fl:Bool} {α:Type} (f:α→Dat) (H:List Blk) (h0:Nat) (l:List α):purgeB fl H h0 (.box (l.map fun m=>.dat (f m)))=.box (l.map fun m=>.dat (f m)):=by
 simp only [purgeB,List.map_map]; rfl
theorem all_map {α:Type} (f:α→Dat) (l:List α):allDat (l.map fun m=>.dat (f m))=some (l.map f):=by
 induction l with
 | nil=>rfl
 | cons a l ih=>simp only [List.map_cons,allDat,ih,Option.map_some]
theorem pure_map {α:Type} (f:α→Dat) (hf:∀ a,(f a).isCell=true) {H:List Blk} {i:Nat} {l:List α} {cap:Nat} (h:H[i]? = some (.box (l.map fun m=>.dat (f m)))) (hc:l.length≤cap:=by first|exact Nat.le_refl _|assumption|omega):pure1 H (.arr i 0 l.length cap)=some (.lst (l.map f)):=by
 have e1:cut (l.map fun m=>PV.dat (f m)) 0 l.length=some (l.map fun m=>PV.dat (f m)):=by
  rw [cut,if_pos (by simp),List.drop_zero,List.take_of_length_le (by simp)]
 have e2:(l.map f).all Dat.isCell=true:=by simp only [List.all_map,List.all_eq_true]; intro x _; exact hf x
 have e3:¬ ((0:Nat)=0∧0 < cap∧2 * cap≤(l.map fun m=>PV.dat (f m)).length):=by rw [List.length_map]; omega
 have e4:arrDat (l.map fun m=>PV.dat (f m)) 0 l.length cap=some (l.map f):=by
  unfold arrDat
  rw [if_neg e3,e1]
  simp only [Option.bind_some,all_map,e2,if_true]
 simp only [pure1,pureC,h,e4,Option.map_some]
end
end Go.Pm
