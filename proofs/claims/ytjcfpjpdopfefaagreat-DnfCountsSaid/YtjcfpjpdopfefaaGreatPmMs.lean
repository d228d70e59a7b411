/-
 The pure machine: written lists, in the words of a walk.
-/
import Derived.Test.YtjcfpjpdopfefaaGreatPmRng
import Derived.Test.YtjcfpjpdopfefaaGreatPmEq
namespace Go.Pm
open Go
set_option linter.unusedVariables false

section
variable {P:Program} {E:Env} {ow:List (Nat × TypeId)} {o:Oper} {ρ:Operand→PV} {H:List Blk} {K:PV→List Blk→Prop}

def cellsOf {α:Type} (f:α→Dat) (l:List α):List PV:=l.map fun m=>.dat (f m)
theorem cellsOf_len {α:Type} (f:α→Dat) (l:List α):(cellsOf f l).length=l.length:=by simp [cellsOf]
theorem cellsOf_append {α:Type} (f:α→Dat) (a b:List α):cellsOf f a++cellsOf f b=cellsOf f (a++b):=by simp [cellsOf]
theorem cellsOf_take {α:Type} (f:α→Dat) (l:List α) (n:Nat):(cellsOf f l).take n=cellsOf f (l.take n):=by simp [cellsOf]
theorem cellsOf_set {α:Type} (f:α→Dat) (l:List α) (n:Nat) (v:α):(cellsOf f l).set n (.dat (f v))=cellsOf f (l.set n v):=by simp [cellsOf,List.map_set]
theorem cellsOf_flat {α:Type} (f:α→Dat) (hf:∀ a,(f a).isCell=true) (l:List α):(cellsOf f l).all PV.flat=true:=by
 simp only [cellsOf,List.all_map,j8];intro x _;have:=hf x;simp only [Function.comp];cases h:f x <;> first|rfl|(rw [h] at this; simp [Dat.isCell] at this)
theorem cellsOf_all {α:Type} {f:α→Dat} (hf:∀ a,(f a).isCell=true) (l:List α):(cellsOf f l).all PV.cell=true:=by
 simp only [cellsOf,List.all_map,j8];intro x _;have:=hf x;show (PV.dat (f x)).cell=true
 cases h:f x with
 | agg cs=>rw [h] at this; cases this
 | _=>rfl
theorem cellsOf_allDat {α:Type} (f:α→Dat) (l:List α):allDat (cellsOf f l)=some (l.map f):=all_map f l
theorem cellsOf_isSome {α:Type} (f:α→Dat) (l:List α):(allDat (cellsOf f l)).isSome=true:=by rw [cellsOf_allDat]; rfl
theorem purge_mt {fl:Bool} {α:Type} (f:α→Dat) (H:List Blk) (h0:Nat) (e g:Nat) (l:List α):purgeB fl H h0 (.mt e g (cellsOf f l))=.mt e g (cellsOf f l):=by
 simp only [purgeB,cellsOf,zD]; rfl

theorem Jq {t:Nat} {e g:Nat} {cs:List PV} (h:H[t]? = some (.mt e g cs)):mtOf H t=some (e,g,cs):=by
 simp [mtOf,h,Blk.mtOf]
theorem cut_hi {lo:Operand} {t g len cap l:Nat} (hl:natOf (ρ lo)=some l) (h1:l < len) (h2:len≤cap):cutMs ρ (some lo) none t g 0 len cap=some (.ms t g l (len - l) (cap - l)):=by
 rw [cutMs_of (lo:=some lo) (hi:=none) (l:=l) (h:=len) hl rfl y5 y5 (Or.inr h1)];simp only [zW,Nat.max_eq_right h2]
theorem source_lst {α:Type} {f:α→Dat} (hf:∀ a,(f a).isCell=true) {l:List α}:sourceOf H (.dat (.lst (l.map f)))=some (cellsOf f l):=by
 have h:(l.map f).all Dat.isCell=true:=by simp only [List.all_map,j8]; intro x _; exact hf x
 simp only [sourceOf,appended,h,if_true,cellsOf,zD]; rfl
theorem ms_append_grow {α:Type} {f:α→Dat} (hf:∀ a,(f a).isCell=true) {e bytes t g len cap:Nat} {l es:List α} (hm:mtOf H t=some (e,g,cellsOf f l)) (h0:0 < es.length) (hl:len=l.length) (h:(len+es.length) * bytes≤room) :
  appendMs H e bytes t g 0 len cap (cellsOf f es)=some (.ms t (g+1) 0 (len+es.length) (len+es.length),H.set t (.mt e (g+1) (cellsOf f (l++es)))):=by
 rw [appendMs_grow hm (cellsOf_all hf es) (by rw [cellsOf_len]; exact h0) (by rw [cellsOf_len]; exact hl) (by rw [cellsOf_len]; exact h)];simp only [cellsOf_len,cellsOf_append]

theorem pure_ms {α:Type} {f:α→Dat} (hf:∀ a,(f a).isCell=true) {t g len cap e:Nat} {l:List α} (hm:mtOf H t=some (e,g,cellsOf f l)) (h:len≤l.length):pureC H (.ms t g 0 len cap)=some (.lst ((l.take len).map f)):=by
 have e1:cut (cellsOf f l) 0 len=some (cellsOf f (l.take len)):=by
  rw [cut,if_pos (by rw [cellsOf_len]; omega),List.drop_zero,cellsOf_take]
 have e2:((l.take len).map f).all Dat.isCell=true:=by simp only [List.all_map,j8]; intro x _; exact hf x
 simp only [pureC,hm,if_true,e1,zU,cellsOf_allDat,evenD,e2,Bool.true_or]
theorem Qa2 {α:Type} {f0:α→Dat} {l:List α} {f:FuncId} {x:Operand} {args:Array Operand} {ts:Array TypeId} {first cap:Array Value} {ow':List (Nat × TypeId)} {j:Nat × TypeId} {ds:List Dat} {t g cp e:Nat} {H1:List Blk}
  (ho:o.op=.call { callee:=.value x,args,argTypes:=ts }) (hx:ρ x=.dat (.raw (.func (.func f) first cap))) (hw:ow=j::ow') (hl:(!((args.toList.map ρ).any PV.lends) || (cellsOf f0 l).all PV.plainCell)=true) (hd:pures H (args.toList.map ρ)=some ds)
  (hc:PC P E f (ds.map .dat) [] (.ms t g 0 l.length cp) H1) (hm:mtOf H1 t=some (e,g,cellsOf f0 l)) (hk:K (.ms H.length 1 0 l.length l.length) (H++[.mt e 1 (cellsOf f0 l)])) (hj:¬ 2000≤j.1:=by decide):SemE P E ow o ρ H K:=by
 have e1:(cellsOf f0 l).take l.length=cellsOf f0 l:=List.take_of_length_le (by rw [cellsOf_len]; exact j7 _);refine QaZ ho hx hw (by rw [e1]; exact hl) hd hc hm (by rw [cellsOf_len]; exact j7 _) (by rw [e1]; exact cellsOf_isSome f0 l) ?_ hj;rw [e1]; exact hk
theorem prune_some {h0:Nat} {keep:Option (List Nat)} {ks:List Nat} {st:St} (h:keep=some ks):prune h0 keep st=⟨keepS (fgt ks) st.heap h0 ks 0 st.slots,(st.heap.take h0).map (purgeB (fgt ks) st.heap h0)⟩:=by subst h; rfl
end
end Go.Pm
