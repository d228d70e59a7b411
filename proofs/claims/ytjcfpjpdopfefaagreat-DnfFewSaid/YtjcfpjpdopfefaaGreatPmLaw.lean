/-
 The pure machine: from a pure call to a statement's contract.
-/
import Derived.Test.YtjcfpjpdopfefaaGreatPmArg
namespace Go.Pm
open Go Go.RowKit Go.Proofs.YtjcfpjpdopfefaaGreat Go.ChangeShapes
set_option linter.all false
def Pu(P:fm)(B:Nat)(t:fq)(d:fy):Prop:=∃n cs,ry P B n t cs/\d=lD P t cs
def Ei(P:fm)(B:Nat):List TypeId->List fy->Prop
 |[],[]=>True
 |t::ts,d::ds=>Pu P B t d/\Ei P B ts ds
 |_,_=>False
theorem K5{P:fm}{B:Nat}:∀{c:List fy},Ei P B [] c->c=[]
 |[],_=>rfl
 |_::_,h=>h.elim
theorem qo{P:fm}{B:Nat}{t:fq}{ts:List TypeId}:∀{c:List fy},Ei P B (t::ts) c->∃d ds,c=d::ds/\Pu P B t d/\Ei P B ts ds
 |[],h=>h.elim
 |d::ds,h=>⟨d,ds,rfl,h.1,h.2⟩
section
variable{P:fm}{w:fk}{H:Type}{enc:TypeId×Value->H}{T:List TypeId}{B:Nat}
theorem Mw{t:fq}{v:fu}(f:lC P T=true)(g:T.contains t=true)(j:rK P t=false){r:Reach}{b:Nat}(h:Value.okWide P w r b t v):v.cells.toList=[v]:=by
 have c:=tp f g;cases v with
 |agg cs=>
  exfalso
  revert c j h;unfold rK Value.okWide;split
  .intro h;cases h
  .rename_i e;intro _ c;cases d:P.underlying t with
   |none=>rw[d]at c;cases c
   |some u=>rw[d]at c;cases u<;>first|(cases c;done)|(simp[Cell.okWide,Cell.ok,d];done)|(rename_i fs;exact absurd d (e fs))
 |_=>rfl
theorem LS{t:fq}{v:fu}{d:DataW H}{n:List MemPlace}{g:Nat->Bool}{held:Bool}(p:lC P T=true)(q:T.contains t=true)(s:OL P B t d){r:Reach}{b:Nat}(e:Value.okWide P w r b t v)(h:DataW.Trod enc P w 0 g held t v d n):
  ∃x,fY w (λb _=>b<w.heap.size) v x/\Pu P B t x:=by
 obtain⟨f,u⟩:=h;obtain⟨ds,k,y,z⟩:=wP p f t _ d n q s u;refine⟨lD P t ds,?_,f,ds,y,rfl⟩;unfold lD;cases l:rK P t with
 |true=>
  have:∃vs,v=.agg vs:=by
   unfold rK at l;split at l
   .rename_i A;unfold Value.okWide at e;rw[A]at e;obtain⟨cs,rfl,_⟩:=e;exact⟨cs,rfl⟩
   .cases l
  obtain⟨vs,rfl⟩:=this;refine .agg vs ds (by have:=k.1;simp[Value.cells]at this;omega) λj v c m hc=>(k.2 j v c (by simpa[Value.cells]using m) hc).1
 |false=>
  have m:=Mw p q l e;rw[m]at k z
  match ds,k with
  |[c],k=>exact(k.2 0 v c rfl rfl).1
theorem Cm(n:lC P T=true){e:Nat->Bool}{held:Bool}{r:Reach}{b:Nat}:∀{ts:List TypeId} {vs:List Value} {ds:List (DataW H)} {m:List MemPlace},ts.all (λt=>T.contains t)=true->
  (∀(j:Nat) t v,ts[j]?=some t->vs[j]?=some v->Value.okWide P w r b t v)->tc P B ts ds->DataW.TrodAll enc P w 0 e held ts vs ds m->
  ∃f:List fy,f.length=vs.length/\(∀(j:Nat) v d,vs[j]?=some v->f[j]?=some d->fY w (λb _=>b<w.heap.size) v d)/\Ei P B ts f
 |[],vs,ds,m,_,_,_,h=>by
  obtain⟨rfl,rfl,rfl⟩:=trodAll_nil h;exact⟨[],rfl,λj v d h=>by simp at h,trivial⟩
 |t::ts,vs,ds,m,c,g,s,h=>by
  obtain⟨v,u,d,ds',p,q,rfl,rfl,rfl,k,y⟩:=trodAll_cons h;simp only[bq,jE]at c;obtain⟨x,z,A⟩:=LS n c.1 (tc.head s) (g 0 t v rfl rfl) k;obtain⟨xs,C,D,E⟩:=Cm n c.2 (λj t v F l=>g (j+1) t v (by simpa using F) (by simpa using l)) (tc.tail s) y;refine⟨x::xs,by simp[C],λj v d l k=>?_,A,E⟩;cases j with
  |zero=>simp at l k;subst l;subst k;exact z
  |succ j=>exact D j v d (by simpa using l) (by simpa using k)
theorem yz(hl:laidOutB P=true){w':fk}(k:Below w.heap.size w w'){sp:Nat->Bool}:∀{ts:List TypeId} {vs:List Value} {ds:List (DataW H)} {f:List MemPlace},ts.all (λt=>P.readableRec t &&decide (t<P.types.size))=true->
  (∀p∈f,p.block<w.heap.size)->(∀p∈f,sp p.block=true)->DataW.TrodAll enc P w 0 (λ_=>true) true ts vs ds f->DataW.TrodAll enc P w' 0 sp true ts vs ds f
 |[],vs,ds,f,_,_,_,h=>by
  obtain⟨rfl,rfl,rfl⟩:=trodAll_nil h;exact rfl
 |t::ts,vs,ds,f,c,g,j,h=>by
  obtain⟨v,l,d,ds',p,q,rfl,rfl,rfl,m,n⟩:=trodAll_cons h;simp only[bq,jE,zD]at c
  exact⟨p,q,WideElems.Trod_stays hl c.1.1 c.1.2 m (λx e=>k.same (g x (by simp[e]))) (λx e=>j x (by simp[e])),
   yz hl k (by simpa using c.2) (λx e=>g x (by simp[e])) (λx e=>j x (by simp[e])) n,rfl⟩
theorem Hm{f:fo}{fn:Func}{s:ChangeSpec}{bt:fq}(O:lC P T=true)(hl:laidOutB P=true)(u:fn.params.toList.all (λt=>T.contains t)=true)(E:fn.params.toList.all (λt=>P.readableRec t &&decide (t<P.types.size))=true)(w:fn.resultTypes=#[bt])(F:P.underlying bt=some .bool)(c:s.vars=[])(G:∀ds:List (DataW H),ds.length=fn.params.size->s.fn H ds={results:=[.lit (.bool true)],args:=ds})(I:∀l:List fy,Ei P B fn.params.toList l->mH P f l (Qp true))(W:fk)(base:Nat)(args:Array Value)(ds gs:List (DataW H))(k:List MemPlace)(y:∀(j:Nat) t v,fn.params[j]?=some t->args[j]?=some v->Value.okWide P W .any base t v)(L:DataW.Whole enc P fn.params.toList s.vars false W args.toList ds gs k)(Q:tc P B fn.params.toList ds)(R:ij (gS λb _=>b<W.heap.size) W:=by intro gl cs hc;cases hc):
  Calls P f args W λe M=>∃v,e=.returned v/\s.post enc P fn false true false false W args v M:=by
 have z:=L;obtain⟨p,q,J,S,rfl,U,V⟩:=L;have A:=S;rw[c]at A;obtain⟨rfl,rfl⟩:=trodVars_none A;obtain⟨l,X,Y,Z⟩:=Cm O u (λj t v ht C=>y j t v (by simpa using ht) (by simpa using C)) Q J;have n:∀x∈p++[],x.block<W.heap.size:=λx r=>z.lt x r
 simp only[jU]at n
 have g:ds.length=fn.params.size:=by
  have:∀{ts:List TypeId} {vs:List Value} {ds:List (DataW H)} {K:List MemPlace},DataW.TrodAll enc P W 0 (λ_=>true) true ts vs ds K->ds.length=ts.length:=by
   intro ts;induction ts with
   |nil=>intro vs ds K h;obtain⟨rfl,rfl,rfl⟩:=trodAll_nil h;rfl
   |cons t ts ih=>intro vs ds K h;obtain⟨v,vs',d,ds',p,q,rfl,rfl,rfl,N,hr⟩:=trodAll_cons h;simp[ih hr]
  rw[this J];simp
 refine(I l Z W (λb _=>b<W.heap.size) args (λb o h=>h) (by rw[X];simp) (λj v d C N=>Y j v d (by simpa using C) N) R).mono λe M he=>?_
 obtain⟨v,rfl,m,D⟩:=he
 have C:v=.bool true:=by
  cases D with
  |dat _ _ h=>cases h with
   |raw _ h=>rfl
 subst C;refine⟨_,rfl,ds,[],p++[],[],p,[],z,?_,?_,?_,?_,λh=>by cases h⟩
 .rw[jU,G ds g,w];exact trodAll_mk1 (shut_bool F true)
 .rw[jU,G ds g];exact yz hl m E n (λx r=>by simpa using n x r) J
 .rw[c,jU,G ds g];rfl
 .exact World.keptBut_mono (λx r=>⟨by simpa using r,Or.inr (Or.inl (by simpa using r))⟩) (m.frame (·∈p))
end
end Go.Pm
