/-
 The pure machine: written lists, in the words of a walk.
-/
import Derived.Test.YtjcfpjpdopfefaaGreatPmRng
import Derived.Test.YtjcfpjpdopfefaaGreatPmEq
namespace Go.Pm
open Go
set_option linter.all false
section
variable{P:fm}{E:Env}{ow:List (Nat×TypeId)}{o:Oper}{ρ:ft->PV}{H:List fB}{K:PV->List fB->Prop}
def cellsOf{c:Type}(f:c->fy)(l:List c):List PV:=l.map λm=>.dat (f m)
theorem gU{c:Type}(f:c->fy)(l:List c):(cellsOf f l).length=l.length:=by simp[cellsOf]
theorem wb{c:Type}(f:c->fy)(a b:List c):cellsOf f a++cellsOf f b=cellsOf f (a++b):=by simp[cellsOf]
theorem Au{c:Type}(f:c->fy)(l:List c)(n:Nat):(cellsOf f l).take n=cellsOf f (l.take n):=by simp[cellsOf]
theorem pQ{c:Type}(f:c->fy)(l:List c)(n:Nat)(v:c):(cellsOf f l).set n (.dat (f v))=cellsOf f (l.set n v):=by simp[cellsOf,fg]
theorem AH{c:Type}(f:c->fy)(d:∀a,(f a).isCell=true)(l:List c):(cellsOf f l).all PV.flat=true:=by
 simp only[cellsOf,aR,j8];intro x _;have:=d x;simp only[Function.comp];cases h:f x<;>first|rfl|(rw[h]at this;simp[fy.isCell]at this)
theorem Bu{c:Type}{f:c->fy}(d:∀a,(f a).isCell=true)(l:List c):(cellsOf f l).all PV.cell=true:=by
 simp only[cellsOf,aR,j8];intro x _;have:=d x;show(PV.dat (f x)).cell=true
 cases h:f x with
 |agg cs=>rw[h]at this;cases this
 |_=>rfl
theorem lA{c:Type}(f:c->fy)(l:List c):gQ (cellsOf f l)=some (l.map f):=all_map f l
theorem xg{c:Type}(f:c->fy)(l:List c):(gQ (cellsOf f l)).isSome=true:=by rw[lA];rfl
theorem fX{fl:Bool}{c:Type}(f:c->fy)(H:List fB)(h0:Nat)(e g:Nat)(l:List c):fN fl H h0 (.mt e g (cellsOf f l))=.mt e g (cellsOf f l):=by
 simp only[fN,cellsOf,zF];rfl
theorem ZN{t:Nat}{e g:Nat}{cs:List PV}(h:H[t]?=some (.mt e g cs)):mtOf H t=some (e,g,cs):=by
 simp[mtOf,h,fB.mtOf]
theorem Ie{lo:ft}{t g len cap l:Nat}(hl:pV (ρ lo)=some l)(c:l<len)(d:len<=cap):sn ρ (some lo) none t g 0 len cap=some (.ms t g l (len - l) (cap - l)):=by
 rw[Ib (lo:=some lo) (hi:=none) (l:=l) (h:=len) hl rfl y8 y8 (Or.inr c)];simp only[zY,Nat.max_eq_right d]
theorem Ew{c:Type}{f:c->fy}(d:∀a,(f a).isCell=true){l:List c}:iR H (.dat (.lst (l.map f)))=some (cellsOf f l):=by
 have h:(l.map f).all fy.isCell=true:=by simp only[aR,j8];intro x _;exact d x
 simp only[iR,iE,h,ak,cellsOf,zF];rfl
theorem vH{c:Type}{f:c->fy}(d:∀a,(f a).isCell=true){e bytes t g len cap:Nat}{l es:List c}(hm:mtOf H t=some (e,g,cellsOf f l))(h0:0<es.length)(hl:len=l.length)(h:(len+es.length)*bytes<=gO):
  ku H e bytes t g 0 len cap (cellsOf f es)=some (.ms t (g+1) 0 (len+es.length) (len+es.length),H.set t (.mt e (g+1) (cellsOf f (l++es)))):=by
 rw[xJ hm (Bu d es) (by rw[gU];exact h0) (by rw[gU];exact hl) (by rw[gU];exact h)];simp only[gU,wb]
theorem M3{c:Type}{f:c->fy}(d:∀a,(f a).isCell=true){t g len cap e:Nat}{l:List c}(hm:mtOf H t=some (e,g,cellsOf f l))(h:len<=l.length):fR H (.ms t g 0 len cap)=some (.lst ((l.take len).map f)):=by
 have j:cut (cellsOf f l) 0 len=some (cellsOf f (l.take len)):=by
  rw[cut,ai (by rw[gU];omega),cw,Au]
 have k:((l.take len).map f).all fy.isCell=true:=by simp only[aR,j8];intro x _;exact d x
 simp only[fR,hm,ak,j,zW,lA,wQ,k,Bool.true_or]
theorem nz{c:Type}{f:c->fy}(d:∀a,(f a).scalar=true)(l:List c):(cellsOf f l).all PV.plainCell=true:=by
 simp only[cellsOf,aR,j8];intro x _;exact d x
theorem Vt{k:Type}{c:k->fy}{l:List k}{f:fo}{x:ft}{args:Array Operand}{ts:Array TypeId}{first cap:Array Value}{ow':List (Nat×TypeId)}{j:Nat×TypeId}{ds:List fy}{t g cp e:Nat}{H1:List fB}(m:o.op=.call {callee:=.value x,args,argTypes:=ts})(n:ρ x=.dat (.raw (.func (.func f) first cap)))(hw:ow=j::ow')(hl:(!((args.toList.map ρ).any PV.lends)||(cellsOf c l).all PV.plainCell)=true)(p:gp H (args.toList.map ρ)=some ds)(hc:PC P E f (ds.map .dat) [] (.ms t g 0 l.length cp) H1)(hm:mtOf H1 t=some (e,g,cellsOf c l))(q:K (.ms H.length 1 0 l.length l.length) (H++[.mt e 1 (cellsOf c l)]))(r:¬2000<=j.1:=by decide):iV P E ow o ρ H K:=by
 have d:(cellsOf c l).take l.length=cellsOf c l:=cG (by rw[gU];exact j7 _);refine Vi m n hw (by rw[d];exact hl) p hc hm (by rw[gU];exact j7 _) (by rw[d];exact xg c l) ?_ r;rw[d];exact q
theorem Es{h0:Nat}{keep:Option (List Nat)}{ks:List Nat}{st:St}(h:keep=some ks):iU h0 keep st=⟨qV (Ly ks) st.heap h0 ks 0 st.slots,(st.heap.take h0).map (fN (Ly ks) st.heap h0)⟩:=by subst h;rfl
end
end Go.Pm
