/-
 The pure machine: comparing structs without lists, and closures with nil.
-/
import Derived.Test.YtjcfpjpdopfefaaGreatPmOp
import Derived.Laws.StructEq
namespace Go.Pm
open Go
set_option linter.all false
theorem mS{P:fm}{c:Type}(a:c):iK P (pure a:Sem c)=some a:=rfl
theorem nC{P:fm}:iK P program=some P:=rfl
theorem ju{P:fm}{t:fq}{u:TypeDesc}(h:P.underlying t=some u):iK P (underlying t)=some u:=by
 unfold underlying;rw[iN,nC];simp only[zW,h];rfl
def mD(P:fm)(t:fq)(x y:fu):Option Bool:=
 match P.underlying t,x,y with
 |some .bool,.bool a,.bool b=>some (a==b)
 |some (.int _),.int k a,.int c b=>if k=c then some (a==b)else none
 |some .string,.string a,.string b=>some (a==b)
 |_,_,_=>none
theorem Cs{P:fm}{t:fq}{x y:fu}{b:Bool}(d:Nat)(h:mD P t x y=some b):iK P (Op.equalIn (d+1) t x y)=some b:=by
 unfold mD at h;split at h
 .rename_i c;cases h;simp only[Op.equalIn,iN,ju c,zW];rfl
 .rename_i c;split at h
  .rename_i e;subst e;cases h;simp only[Op.equalIn,iN,ju c,zW,ak];rfl
  .cases h
 .rename_i c;cases h;simp only[Op.equalIn,iN,ju c,zW];rfl
 .cases h
theorem qX{P:fm}{t:fq}{x y:fu}{b:Bool}(h:mD P t x y=some b):iK P (isAgg t)=some false:=by
 unfold mD at h;unfold isAgg;split at h<;>first|(rename_i c;rw[iN,ju c];rfl)|cases h
theorem uL{P:fm}{t:fq}{xs:Array Value}{off:Nat}{v:fu}(c:iK P (isAgg t)=some false)(d:xs[off]?=some v):iK P (part t xs off)=some v:=by
 unfold part;rw[iN,c];simp only[zW,j6,aj,d];rfl
def mP(P:fm)(xs ys:Array Value):List Field->Option Bool
 |[]=>some true
 |f::fs=>if f.name= "_" then mP P xs ys fs else
  match xs[f.offset]?,ys[f.offset]?,mP P xs ys fs with
  |some x,some y,some r=>(mD P f.type x y).map λb=>b &&r
  |_,_,_=>none
theorem ve{P:fm}{t:fq}{xs ys:Array Value}{fs:Array Field}{b:Bool}(d:Nat)(m:∀(t:fq) (x y:fu) (b:Bool),mD P t x y=some b->iK P (Op.equalIn d t x y)=some b)(j:P.underlying t=some (.struct fs))(n:P.stoodInHeld t=false)(e:mP P xs ys fs.toList=some b):
  iK P (Op.equalIn (d+1) t (.agg xs) (.agg ys))=some b:=by
 simp only[Op.equalIn,iN,ju j,nC,n,zW,j6,aj];rw[<-Array.forIn_toList];generalize fs.toList=l at e |-;clear j;induction l generalizing b with
 |nil=>simp only[mP,j9]at e;subst e;simp only[List.forIn_nil];rfl
 |cons f l k=>
  simp only[List.forIn_cons]
  by_cases g:f.name= "_"
  .simp only[mP,g,ak]at e;simp only[g,ne_eq,not_true_eq_false,aj,iN,mS,zW];exact k e
  .simp only[mP,g,aj]at e;split at e
   .rename_i x y r p q s;cases hc:mD P f.type x y with
    |none=>rw[hc]at e;cases e
    |some c=>
     rw[hc]at e;simp only[jN,j9]at e;simp only[ne_eq,g,not_false_eq_true,ak,iN,uL (qX hc) p,uL (qX hc) q,m _ _ _ _ hc,zW];cases c with
     |false=>subst e;rfl
     |true=>
      subst e
      simpa[mS]using k s
   .cases e
structure T4 (P:fm) (t:fq) (xs ys:Array Value) (b:Bool):Prop where
 eq:iK P (Op.equal t (.agg xs) (.agg ys))=some b
 guard:P.eqGuardType P.depth t=false
theorem OR{P:fm}{t:fq}{xs ys:Array Value}{fs:Array Field}{b:Bool}(c:P.underlying t=some (.struct fs))(d:P.stoodInHeld t=false)(e:P.eqGuardType P.depth t=false)(f:mP P xs ys fs.toList=some b):T4 P t xs ys b:=
 ⟨ve 9999 (λ_ _ _ _ h=>Cs 9998 h) c d f,e⟩
section
variable{P:fm}{E:Env}{ow:List (Nat×TypeId)}{o:Oper}{ρ:ft->PV}{H:List fB}{K:PV->List fB->Prop}
theorem EF{op:BinOp}{t:fq}{x y:ft}{xs ys:Array Value}(h:P.eqGuardType P.depth t=false):iK P (eqGuard op t x y (.agg xs) (.agg ys))=some ():=by
 unfold eqGuard;cases op<;>first|rfl|(simp only[bC,j6,aj,iN,nC,zW,h];rfl)
theorem Wf{t f:fq}{x y:ft}{xs ys:Array Value}{b:Bool}(c:o.op=.binOp .neq t x y f)(d:(ρ x).toVal=some (.agg xs))(g:(ρ y).toVal=some (.agg ys))(e:T4 P t xs ys b)(j:K (.dat (.raw (.bool !b))) H):iV P E ow o ρ H K:=
 PQ (λcall=>by simp only[gq,c,ug d,se d]) (yp c (r:=.bool !b) d g (λρ' k l=>by
  simp only[execOp,c,k,l,iN,EF e.guard,zW,binOp,e.eq,mS]) rfl) j
theorem MS{x y:ft}{ts:Array TypeId}{k:IntKind}{m n:Int}(c:o.op=.call {callee:=.builtin .min,args:=#[x,y],argTypes:=ts})(f:ρ x=.dat (.raw (.int k m)))(g:ρ y=.dat (.raw (.int k n)))(j:K (.dat (.raw (.int k (if n<m then n else m)))) H):iV P E ow o ρ H K:=by
 refine PQ (λcall=>by simp only[gq,c];rfl) ?_ j;have e:(ρ x).toVal=some (.int k m):=by rw[f];rfl
 have hw:(ρ y).toVal=some (.int k n):=by rw[g];rfl
 have l:iK P (execOp (λz=>((ρ z).toVal).getD undef) o)=some (.value (.int k (if n<m then n else m))):=by
  simp only[execOp,c,resolve,invoke,builtin,Builtin.min_];simp[e,hw,Builtin.min2,mS]
 have d:(Op.call {callee:=.builtin .min,args:=#[x,y],argTypes:=ts}).operands.toList=[x,y]:=by simp[Op.operands,Call.operands]
 simp only[gv,c,d];simp[e,hw,l];rfl
theorem NB{x y:ft}{ts:Array TypeId}{k:IntKind}{m n:Int}(c:o.op=.call {callee:=.builtin .max,args:=#[x,y],argTypes:=ts})(f:ρ x=.dat (.raw (.int k m)))(g:ρ y=.dat (.raw (.int k n)))(j:K (.dat (.raw (.int k (if m<n then n else m)))) H):iV P E ow o ρ H K:=by
 refine PQ (λcall=>by simp only[gq,c];rfl) ?_ j;have e:(ρ x).toVal=some (.int k m):=by rw[f];rfl
 have hw:(ρ y).toVal=some (.int k n):=by rw[g];rfl
 have l:iK P (execOp (λz=>((ρ z).toVal).getD undef) o)=some (.value (.int k (if m<n then n else m))):=by
  simp only[execOp,c,resolve,invoke,builtin,Builtin.max_];simp[e,hw,Builtin.max2,mS]
 have d:(Op.call {callee:=.builtin .max,args:=#[x,y],argTypes:=ts}).operands.toList=[x,y]:=by simp[Op.operands,Call.operands]
 simp only[gv,c,d];simp[e,hw,l];rfl
theorem pc(H:List fB):∀ds:List fy,gp H (ds.map .dat)=some ds
 |[]=>rfl
 |d::ds=>by simp only[zU,gp,iu,fR,pc H ds]
theorem Ff{f:fo}{args:List PV}{ds:List fy}{H H0 c:List fB}{p:PV}(e:E.summ f=none)(g:E.pure f=true)(h:PC P E f (ds.map .dat) H0 p c)(d:gp H args=some ds)(hl:args.any PV.lends=true->la p=true):PC P E f args H p H:=by
 obtain⟨N,h⟩:=h;refine⟨N,λk j=>?_⟩;have:=h k j;cases k with
 |zero=>simp[jq]at this
 |succ k=>
  unfold jq at this |-;simp only[e,g,ak,pc,d]at this |-;split at this
  .cases this
  .rename_i l;rw[af l];split at this
   .rename_i r H' m;split at this
    .rename_i v n;split at this
     .cases this
     .simp only[j9,jI]at this;obtain⟨rfl,_⟩:=this;rw[af];intro hc;simp only[jE,cm]at hc;rw[hl hc.1]at hc;exact Bool.noConfusion hc.2
    .cases this
   .cases this
theorem Gz{fl:Bool}{c:Type}(f:c->fy)(H:List fB)(h0:Nat)(l:List c):fN fl H h0 (.box (l.map λm=>.dat (f m)))=.box (l.map λm=>.dat (f m)):=by
 simp only[fN,zF];rfl
theorem all_map{c:Type}(f:c->fy)(l:List c):gQ (l.map λm=>.dat (f m))=some (l.map f):=by
 induction l with
 |nil=>rfl
 |cons a l d=>simp only[zU,gQ,d,jN]
theorem Ll{c:Type}(f:c->fy)(d:∀a,(f a).isCell=true){H:List fB}{i:Nat}{l:List c}{cap:Nat}(h:H[i]?=some (.box (l.map λm=>.dat (f m))))(hc:l.length<=cap:=by first|exact j7 _|assumption|omega):iu H (.arr i 0 l.length cap)=some (.lst (l.map f)):=by
 have e:cut (l.map λm=>PV.dat (f m)) 0 l.length=some (l.map λm=>PV.dat (f m)):=by
  rw[cut,ai yA,cw,cG yA]
 have g:(l.map f).all fy.isCell=true:=by simp only[aR,j8];intro x _;exact d x
 have j:¬((0:Nat)=0/\0<cap/\2*cap<=(l.map λm=>PV.dat (f m)).length):=by rw[jY];omega
 have k:wy (l.map λm=>PV.dat (f m)) 0 l.length cap=some (l.map f):=by
  unfold wy;rw[af j,e];simp only[zW,all_map,g,ak]
 simp only[iu,fR,h,k,jN]
end
end Go.Pm
