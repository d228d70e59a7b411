/-
 The pure machine: its operations, one law each.
-/
import Derived.Test.YtjcfpjpdopfefaaGreatPmWp
namespace Go.Pm
open Go
set_option linter.all false
section
variable{P:fm}{E:Env}{ow:List (Nat×TypeId)}{o:Oper}{ρ:ft->PV}{H:List fB}{K:PV->List fB->Prop}
theorem Gp{cs:List PV}{off:Nat}{v:PV}(h:cs[off]?=some v):cut cs off 1=some [v]:=by
 obtain⟨c,rfl⟩:=ae.1 h;unfold cut;rw[ai y8,aU c];rfl
theorem TQ{x:ft}(c:o.op=.move x)(d:K (ρ x) H)(e:jh ow=false:=by kernel_rfl):iV P E ow o ρ H K:=iw (λcall=>by simp only[gq,c,e,j6,aj]) d
theorem Ib{lo hi:Option Operand}{tt g c len cap l h:Nat}(hl:iD ρ 0 lo=some l)(d:iD ρ len hi=some h)(e:l<=h)(f:h<=max len cap)(j:l=0\/l<h):sn ρ lo hi tt g c len cap=some (.ms tt g (c+l) (h - l) (max len cap - l)):=by
 simp only[sn,hl,d];rw[ai ⟨e,f⟩,ai j]
theorem Q9{t e:fq}{x c:ft}{n:Int}{j tt g lo len cap:Nat}{k:IntKind}(d:fA P t=some e)(f:fJ P e=some 1)(l:o.op=.indexAddr t x c)(hi:ρ c=.dat (.raw (.int k n)))(m:ρ x=.ms tt g lo len cap)(hn:n=(j:Int))(p:j<len)(q:K (.mp tt g (lo+j)) H):iV P E ow o ρ H K:=by
 subst hn;have h0:(0:Int)<=(j:Int):=Int.natCast_nonneg j;exact iw (λcall=>by simp[gq,l,hi,d,f,h0,m,p,pR]) q
theorem Xv{t e:fq}{x:ft}{tt g j:Nat}{cs:List PV}{v:PV}(f:pF P t=some false)(hn:fJ P t=some 1)(k:o.op=.load t x)(l:ρ x=.mp tt g j)(m:mtOf H tt=some (e,g,cs))(d:cs[j]?=some v)(n:K v H)(hw:ow=[]:=by kernel_rfl)(c:v.flat=true:=by rfl):iV P E ow o ρ H K:=
 iw (λcall=>by simp[gq,jy,hw,k,f,hn,l,m,Gp d,ofCells,d,c]) n
theorem Uz{t e:fq}{x y:ft}{tt g j:Nat}{cs:List PV}{v:PV}(hn:fJ P t=some 1)(d:o.op=.store t x y)(f:ρ x=.mp tt g j)(k:mtOf H tt=some (e,g,cs))(l:ρ y=v)(hc:v.cell=true)(hl:j<cs.length)(hw:ow=[])(m:K (.tup []) (H.set tt (.mt e g (cs.set j v))))(c:cs.all PV.flat=true):iV P E ow o ρ H K:=
 iw (λcall=>by simp[gq,iP,hw,d,hn,f,k,l,hc,hl,an.1 c _ (zC hl)]) m
theorem TW{ts e:fq}{x s:ft}{bytes tt g lo len cap:Nat}{es:List PV}{v:PV}{H':List fB}(k:fA P ts=some e)(l:fJ P e=some 1)(m:bytesOf P e=some bytes)(n:(fL P e).map fy.num=some 1)(h0:0<bytes)(q:o.op=.call {callee:=.builtin .append,args:=#[s,x],argTypes:=#[ts,ts]})(j:ρ s=.ms tt g lo len cap)(f:iR H (ρ x)=some es)(p:ku H e bytes tt g lo len cap es=some (v,H'))(r:K v H'):iV P E ow o ρ H K:=
 iw (λcall=>by
  have:fZ P .append #[ts,ts] [ρ s,ρ x] H=some (v,H'):=by
   rw[j];cases c:ρ x with
   |dat d=>cases d with
    |raw u=>rw[c]at f;cases u<;>simp[iR,iE]at f
    |_=>rw[c]at f;simp[fZ,k,m,f,l,h0,n,p]
   |_=>rw[c]at f;simp[fZ,k,m,f,l,h0,n,p]
  simp only[gq,q,zU,aN,this]) r
theorem WG{t e:fq}{m k:ft}{ok:Bool}{i j:Nat}{es:List (Value×PV)}{c:fu}{v:PV}(d:o.op=.lookup t m k ok)(hm:ρ m=.mapv i)(f:mapOf H i=some es)(g:mM P ρ k t es=some (c,e,some (j,v)))(l:K (if ok then .tup [v,Qp true]else v) H):iV P E ow o ρ H K:=
 iw (λcall=>by simp only[gq,d,hm,f,g]) l
theorem xJ{e bytes tt g len cap:Nat}{es cs:List PV}(hm:mtOf H tt=some (e,g,cs))(hc:es.all PV.cell=true)(h0:0<es.length)(hl:len=cs.length)(h:(len+es.length)*bytes<=gO):
  ku H e bytes tt g 0 len cap es=some (.ms tt (g+1) 0 (len+es.length) (len+es.length),H.set tt (.mt e (g+1) (cs++es))):=by
 have hn:es.isEmpty=false:=by cases es with|nil=>simp at h0|cons=>rfl
 subst hl;have c:¬(cs.length+es.length<=cs.length):=by omega
 simp only[ku,hm,hc,hn,and_self,ak,j6,aj,af c,true_and,ai h]
theorem PQ{p:PV}(c:∀call,gq P call ow o ρ H=gv P o ρ H)(d:gv P o ρ H=some (p,H))(e:K p H):iV P E ow o ρ H K:=
 iw (λcall=>(c call).trans d) e
theorem iN{P:fm}{α β:Type}:∀(s:Sem α) (f:α->Sem β),iK P (s>>=f)=(iK P s).bind λa=>iK P (f a)
 | .pure a,f=>rfl
 | .program k,f=>iN (k P) f
 | .load ..,f=>rfl
 | .store ..,f=>rfl
 | .new ..,f=>rfl
 | .shape ..,f=>rfl
 | .freeze ..,f=>rfl
 | .frozen ..,f=>rfl
 | .getObj ..,f=>rfl
 | .setObj ..,f=>rfl
 | .choose ..,f=>rfl
 | .sys ..,f=>rfl
 | .mark ..,f=>rfl
 | .halt ..,f=>rfl
def vF(op:BinOp)(k:IntKind)(a b:Int):Option Value:=
 match op with
 | .add=>some (.int k (k.wrap (a+b)))
 | .sub=>some (.int k (k.wrap (a - b)))
 | .mul=>some (.int k (k.wrap (a*b)))
 | .quo=>if b=0 then none else some (.int k (k.wrap (a.tdiv b)))
 | .rem=>if b=0 then none else some (.int k (a.tmod b))
 | .eql=>some (.bool (a==b))
 | .neq=>some (.bool (a !=b))
 | .lss=>some (.bool (decide (a<b)))
 | .leq=>some (.bool (decide (a<=b)))
 | .gtr=>some (.bool (decide (a>b)))
 | .geq=>some (.bool (decide (a>=b)))
 |_=>none
theorem IX{op:BinOp}{t d:fq}{x y:ft}{k:IntKind}{a b:Int}{r:fu}{ρ':ft->fu}(e:o.op=.binOp op t x y d)(f:ρ' x=.int k a)(g:ρ' y=.int k b)(c:vF op k a b=some r):
  iK P (execOp ρ' o)=some (.value r)/\isRaw r=true/\rF r=some (.dat (.raw r)):=by
 simp only[execOp,e,f,g];cases op<;>simp only[vF,j9,reduceCtorEq]at c<;>try (subst c;cases k<;>exact⟨rfl,rfl,rfl⟩)
 all_goals
  split at c
  .cases c
  .rename_i j;cases c;cases k<;>simp[eqGuard,binOp,Op.intDiv,j,iK,Pure.pure,Bind.bind,Sem.bind,isRaw,rF,tX]
theorem CU{op:BinOp}{k:IntKind}{a b:Int}{r:fu}(c:vF op k a b=some r):rF r=some (.dat (.raw r)):=by
 cases op<;>simp only[vF,j9,reduceCtorEq]at c<;>try (subst c;rfl)
 all_goals
  split at c
  .cases c
  .cases c;rfl
theorem yp{op:BinOp}{t e:fq}{x y:ft}{u v r:fu}(f:o.op=.binOp op t x y e)(c:(ρ x).toVal=some u)(d:(ρ y).toVal=some v){p:PV}(g:∀ρ':ft->Value,ρ' x=u->ρ' y=v->iK P (execOp ρ' o)=some (.value r))(j:rF r=some p):gv P o ρ H=some (p,H):=by
 have:=g (λz=>((ρ z).toVal).getD undef) (by simp[c]) (by simp[d]);simp only[gv,f,Op.operands];simp[c,d,this,j]
theorem ug{op:BinOp}{t:fq}{p q:PV}{u:fu}(h:p.toVal=some u):Bi P op t p q=none:=by
 cases p<;>first|rfl|(simp[PV.toVal]at h)
theorem se{op:BinOp}{t:fq}{p:PV}{y:ft}{u:fu}(h:p.toVal=some u):ti P op t p y=none:=by
 unfold ti;split
 .cases p with
  |dat d=>cases d with
   |lst es=>simp[PV.toVal]at h
   |raw v=>rfl
   |agg cs=>rfl
  |_=>simp[PV.toVal]at h
 .rfl
theorem TH{op:BinOp}{t g:fq}{x y:ft}{k:IntKind}{a b:Int}{r:fu}(d:o.op=.binOp op t x y g)(j:ρ x=.dat (.raw (.int k a)))(l:ρ y=.dat (.raw (.int k b)))(f:vF op k a b=some r)(m:K (.dat (.raw r)) H):iV P E ow o ρ H K:=by
 have c:(ρ x).toVal=some (.int k a):=by rw[j];rfl
 have e:(ρ y).toVal=some (.int k b):=by rw[l];rfl
 exact PQ (λcall=>by simp only[gq,d,ug c,se c]) (yp d c e (λρ' n p=>(IX d n p f).1) (CU f)) m
theorem Ul{t:fq}{x:ft}{b:Bool}(c:o.op=.unOp .not t x)(d:ρ x=.dat (.raw (.bool b)))(e:K (.dat (.raw (.bool !b))) H):iV P E ow o ρ H K:=by
 refine PQ (λcall=>by simp only[gq,c]) ?_ e;simp only[gv,c,Op.operands];simp[d,PV.toVal,execOp,c];rfl
theorem TR{op:BinOp}{t c:fq}{x y:ft}{p:PV}{b:Bool}(d:o.op=.binOp op t x y c)(e:ρ x=p)(f:Bi P op t p (ρ y)=none)(g:ti P op t p y=some b)(j:K (Qp b) H):iV P E ow o ρ H K:=
 iw (λcall=>by simp only[gq,d,e,f,g]) j
section
variable{α β:Type}
theorem n0(s:List PV)(d:Nat)(v:PV):lN s (some d) v=s.set d v:=rfl
theorem n1(s:List PV)(v:PV):lN s none v=s:=rfl
theorem n2(a:α)(s:List α)(v:α):(a::s).set 0 v=v::s:=rfl
theorem n3(a:α)(s:List α)(n:Nat)(v:α):(a::s).set (n+1) v=a::s.set n v:=rfl
theorem n5(a:PV)(s:List PV)(n:Nat):ev (a::s) (.tmp (n+1))=ev s (.tmp n):=rfl
theorem n6(s:List PV)(v:fu):ev s (.const v)=qv v:=rfl
theorem n7(s:List PV)(f:fo):ev s (.func f)=.dat (.raw (.func (.func f) #[] #[])):=rfl
theorem m0:qv (.slice none 0 0)=.dat (.lst []):=rfl
theorem m1:qv .nilFunc=.dat (.raw .nilFunc):=rfl
theorem m2:([]:List α).length=0:=rfl
theorem m3(a:α)(s:List α):(a::s).length=s.length+1:=rfl
theorem m4(s:List α):[]++s=s:=rfl
theorem m5(a:α)(s t:List α):(a::s)++t=a::(s++t):=rfl
theorem m6(f:α->β)(a:α)(s:List α):(a::s).map f=f a::s.map f:=rfl
theorem m7(f:α->β):([]:List α).map f=[]:=rfl
theorem o0(s:List α):s.take 0=[]:=rfl
theorem o1(a:α)(s:List α)(n:Nat):(a::s).take (n+1)=a::s.take n:=rfl
theorem o2(n:Nat):n+0=n:=rfl
theorem o3:(false=true)=False:=j6
end
end
end Go.Pm
