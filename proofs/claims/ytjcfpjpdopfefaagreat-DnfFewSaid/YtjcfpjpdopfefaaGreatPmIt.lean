/-
 The pure machine: what an iterator's code comes to, whatever the fuel, if it is enough.
-/
import Derived.Test.YtjcfpjpdopfefaaGreatPmOp
namespace Go.Pm
open Go
set_option linter.all false
section
variable{σ:Type}(P:fm)(E:Env)(Y:Nat->Nat->List fy->σ->Option (Bool×σ))
def YE(ds:List fy)(s:σ)(b:Bool)(s':σ):Prop:=∃N,∀k n,N<=k->N<=n->Y k n ds s=some (b,s')
def IR(hn:Hint)(c:Code)(is:nQ σ)(Q:Ex->nQ σ->Prop):Prop:=
 ∃e is',(∃N,∀k n n',N<=k->N<=n->N<=n'->gA P (jq P E k) hn (Y k n) n' c is=some (e,is'))/\Q e is'
def Rq(hn:Hint)(b:Code)(h0:Nat)(is:nQ σ)(Q:Ex->nQ σ->Prop):Prop:=
 ∃e is',(∃N,∀k n n',N<=k->N<=n->N<=n'->gA.iloop P (jq P E k) hn (Y k n) b h0 n' is=some (e,is'))/\Q e is'
def B5(hn:Hint)(r:Nat)(ops:Array Oper)(i:Nat)(os:List Oper)(is:nQ σ)(Q:nQ σ->Prop):Prop:=
 ∃is',(∃N,∀k n,N<=k->N<=n->jr P (jq P E k) hn (Y k n) r ops i os is=some is')/\Q is'
end
section
variable{σ:Type}{P:fm}{E:Env}{Y:Nat->Nat->List fy->σ->Option (Bool×σ)}{hn:Hint}{c a b:Code}{is:nQ σ}{Q Q':Ex->nQ σ->Prop}
theorem IR.mono(h:IR P E Y hn c is Q)(d:∀e s,Q e s->Q' e s):IR P E Y hn c is Q':=let ⟨e,s,f,g⟩:=h;⟨e,s,f,d e s g⟩
theorem Rb{is':nQ σ}(h:is=is')(k:IR P E Y hn c is' Q):IR P E Y hn c is Q:=h ▸ k
theorem E3(h:Q .normal is):IR P E Y hn .skip is Q:=⟨_,_,⟨1,λk n n' _ _ hn=>by cases n' with|zero=>omega|succ n'=>rfl⟩,h⟩
theorem L3{id:Nat}(h:Q (.exit id) is):IR P E Y hn (.exit id) is Q:=⟨_,_,⟨1,λk n n' _ _ hn=>by cases n' with|zero=>omega|succ n'=>rfl⟩,h⟩
theorem Oq(h:Q .ret is):IR P E Y hn .ret is Q:=⟨_,_,⟨1,λk n n' _ _ hn=>by cases n' with|zero=>omega|succ n'=>rfl⟩,h⟩
theorem pL(h:IR P E Y hn a is λe s=>match e with|.normal=>IR P E Y hn b s Q|e=>Q e s):IR P E Y hn (.seq a b) is Q:=by
 obtain⟨e,s,⟨N,d⟩,f⟩:=h;cases e with
 |normal=>
  obtain⟨e',s',⟨N',j⟩,l⟩:=f;refine⟨e',s',⟨max N N'+1,λk n n' g hn c=>?_⟩,l⟩;cases n' with
  |zero=>omega
  |succ n'=>simp only[gA];rw[d k n n' y8 y8 y8];exact j k n n' y8 y8 y8
 |exit id=>
  refine⟨_,s,⟨N+1,λk n n' g hn c=>?_⟩,f⟩;cases n' with
  |zero=>omega
  |succ n'=>simp only[gA];rw[d k n n' y8 y8 y8]
 |ret=>
  refine⟨_,s,⟨N+1,λk n n' g hn c=>?_⟩,f⟩;cases n' with
  |zero=>omega
  |succ n'=>simp only[gA];rw[d k n n' y8 y8 y8]
theorem F2{x:ft}{t:Bool}(g:ev is.st.slots x=Qp t)(c:t=true->IR P E Y hn a is Q)(d:t=false->IR P E Y hn b is Q):IR P E Y hn (.cond x a b) is Q:=by
 cases t with
 |true=>
  obtain⟨e,s,⟨N,c⟩,d⟩:=c rfl;refine⟨e,s,⟨N+1,λk n n' j hn f=>?_⟩,d⟩;cases n' with
  |zero=>omega
  |succ n'=>simp only[gA,g,Qp,nF];exact c k n n' y8 y8 y8
 |false=>
  obtain⟨e,s,⟨N,c⟩,d⟩:=d rfl;refine⟨e,s,⟨N+1,λk n n' j hn f=>?_⟩,d⟩;cases n' with
  |zero=>omega
  |succ n'=>simp only[gA,g,Qp,nF];exact c k n n' y8 y8 y8
theorem Fz{x:ft}(c:ev is.st.slots x=Qp true)(h:IR P E Y hn a is Q):IR P E Y hn (.cond x a b) is Q:=F2 c (λ_=>h) (λh=>by cases h)
theorem BK{x:ft}(c:ev is.st.slots x=Qp false)(h:IR P E Y hn b is Q):IR P E Y hn (.cond x a b) is Q:=F2 c (λh=>by cases h) (λ_=>h)
theorem vU{id:Nat}(h:IR P E Y hn b is λe s=>match e with|.exit c=>if c=id then Q .normal s else Q (.exit c) s|e=>Q e s):IR P E Y hn (.block id b) is Q:=by
 obtain⟨e,s,⟨N,j⟩,g⟩:=h;cases e with
 |exit c=>
  by_cases d:c=id
  .simp only[d,ak]at g;refine⟨_,s,⟨N+1,λk n n' l hn f=>?_⟩,g⟩;cases n' with
   |zero=>omega
   |succ n'=>simp only[gA];rw[j k n n' y8 y8 y8];simp[d]
  .simp only[d,aj]at g;refine⟨_,s,⟨N+1,λk n n' l hn f=>?_⟩,g⟩;cases n' with
   |zero=>omega
   |succ n'=>simp only[gA];rw[j k n n' y8 y8 y8];simp[d]
 |normal=>
  refine⟨_,s,⟨N+1,λk n n' l hn f=>?_⟩,g⟩;cases n' with
  |zero=>omega
  |succ n'=>simp only[gA];rw[j k n n' y8 y8 y8]
 |ret=>
  refine⟨_,s,⟨N+1,λk n n' l hn f=>?_⟩,g⟩;cases n' with
  |zero=>omega
  |succ n'=>simp only[gA];rw[j k n n' y8 y8 y8]
theorem LN(h:Rq P E Y hn b is.st.heap.length is Q):IR P E Y hn (.loop b) is Q:=by
 obtain⟨e,s,⟨N,c⟩,d⟩:=h;refine⟨e,s,⟨N+1,λk n n' g hn f=>?_⟩,d⟩;cases n' with
 |zero=>omega
 |succ n'=>simp only[gA];exact c k n n' y8 y8 y8
theorem Km{h0:Nat}(h:IR P E Y hn b ⟨iU h0 ((Q0 b).bind hn.keepAt) is.st,ze ((Q0 b).bind hn.keepAt) is.ys,is.out⟩ λe s=>match e with|.normal=>Rq P E Y hn b h0 s Q|e=>Q e s):Rq P E Y hn b h0 is Q:=by
 obtain⟨e,s,⟨N,d⟩,f⟩:=h;cases e with
 |normal=>
  obtain⟨e',s',⟨N',j⟩,l⟩:=f;refine⟨e',s',⟨max N N'+1,λk n n' g hn c=>?_⟩,l⟩;cases n' with
  |zero=>omega
  |succ n'=>simp only[gA.iloop];rw[d k n n' y8 y8 y8];exact j k n n' y8 y8 y8
 |exit id=>
  refine⟨_,s,⟨N+1,λk n n' g hn c=>?_⟩,f⟩;cases n' with
  |zero=>omega
  |succ n'=>simp only[gA.iloop];rw[d k n n' y8 y8 y8]
 |ret=>
  refine⟨_,s,⟨N+1,λk n n' g hn c=>?_⟩,f⟩;cases n' with
  |zero=>omega
  |succ n'=>simp only[gA.iloop];rw[d k n n' y8 y8 y8]
theorem sV{r:Nat}{ops:Array Oper}(h:B5 P E Y hn r ops 0 ops.toList is λs=>Q .normal s):IR P E Y hn (.region r ops false) is Q:=by
 obtain⟨s,⟨N,c⟩,d⟩:=h;refine⟨_,s,⟨N+1,λk n n' f hn e=>?_⟩,d⟩;cases n' with
 |zero=>omega
 |succ n'=>simp only[gA,c k n y8 y8,jN]
theorem Bp{r i:Nat}{ops:Array Oper}{Q:nQ σ->Prop}(h:Q is):B5 P E Y hn r ops i [] is Q:=⟨is,⟨0,λk n _ _=>rfl⟩,h⟩
theorem qn{r i:Nat}{ops:Array Oper}{o:Oper}{os:List Oper}{Q:nQ σ->Prop}(c:∀(call:gk) (Y:List fy->σ->Option (Bool×σ)),ln P call hn Y r ops i o is=(iJ P call hn r ops i o is.st).map λst=>⟨st,rJ is.ys o.dst,is.out⟩)(hw:fU ops is.st.slots o=some true)(h:iV P E (hn.ownAt r i) o (ev is.st.slots) is.st.heap λv H=>B5 P E Y hn r ops (i+1) os ⟨⟨lN is.st.slots o.dst v,H⟩,rJ is.ys o.dst,is.out⟩ Q):B5 P E Y hn r ops i (o::os) is Q:=by
 obtain⟨v,H,⟨N,d⟩,s,⟨N',e⟩,f⟩:=h;refine⟨s,⟨max N N',λk n g hn=>?_⟩,f⟩;simp only[jr,c,iJ,hw,d k y8,jN];exact e k n y8 y8
theorem ER{r i:Nat}{ops:Array Oper}{o:Oper}{os:List Oper}{Q:nQ σ->Prop}{t d:Tmp}(e:o.op=.move (.tmp t))(c:o.guard=none)(hc:is.ys.contains t=true)(f:o.dst=some d)(hl:d<is.st.slots.length)(h:B5 P E Y hn r ops (i+1) os ⟨⟨is.st.slots.set d .undef,is.st.heap⟩,d::is.ys,is.out⟩ Q):B5 P E Y hn r ops i (o::os) is Q:=by
 obtain⟨s,⟨N',g⟩,j⟩:=h;refine⟨s,⟨N',λk n l hn=>?_⟩,j⟩;simp only[jr,ln,e,c,hc,f,hl,ak];exact g k n y8 y8
theorem vX{r i:Nat}{ops:Array Oper}{o:Oper}{os:List Oper}{Q:nQ σ->Prop}{t:Tmp}{args:Array Operand}{ts:Array TypeId}{ds:List fy}{b:Bool}{out:σ}(f:o.op=.call {callee:=.value (.tmp t),args,argTypes:=ts})(c:o.guard=none)(hc:is.ys.contains t=true)(g:gp is.st.heap (args.toList.map (ev is.st.slots))=some ds)(d:(args.toList.map (ev is.st.slots)).any PV.lends=false)(e:YE Y ds is.out b out)(h:B5 P E Y hn r ops (i+1) os ⟨⟨lN is.st.slots o.dst (Qp b),is.st.heap⟩,rJ is.ys o.dst,out⟩ Q):B5 P E Y hn r ops i (o::os) is Q:=by
 obtain⟨s,⟨N',j⟩,l⟩:=h;obtain⟨N,e⟩:=e;refine⟨s,⟨max N N',λk n m hn=>?_⟩,l⟩;simp only[jr,ln,f,c,hc,g,d,e k n y8 y8,ak,j6,aj];exact j k n y8 y8
theorem Mg{fn:Func}(h:fn.body=some c)(k:IR P E Y hn c is Q):∀d,fn.body=some d->IR P E Y hn d is Q:=λd e=>by
 rw[h]at e;cases e;exact k
inductive Ni (Y:Nat->Nat->List fy->σ->Option (Bool×σ)) (fin:σ):List fy->σ->Prop
 |done:Ni Y fin [] fin
 |go {d:fy} {ds:List fy} {s s':σ}:YE Y [d] s true s'->Ni Y fin ds s'->Ni Y fin (d::ds) s
 |stop {d:fy} {ds:List fy} {s:σ}:YE Y [d] s false fin->Ni Y fin (d::ds) s
theorem FY{c:Type}{h0:Nat}(C:c->nQ σ)(I:c->Prop)(d:c->Nat)(g:∀x,I x->IR P E Y hn b (C x) λe s=>match e with|.normal=>∃y,(⟨iU h0 ((Q0 b).bind hn.keepAt) s.st,ze ((Q0 b).bind hn.keepAt) s.ys,s.out⟩:nQ σ)=C y/\d y<d x/\I y|e=>Q e s):
  ∀(n:Nat) (x:c) (is:nQ σ),d x<n->I x->(⟨iU h0 ((Q0 b).bind hn.keepAt) is.st,ze ((Q0 b).bind hn.keepAt) is.ys,is.out⟩:nQ σ)=C x->Rq P E Y hn b h0 is Q
 |0,x,is,hn,j,k=>by omega
 |n+1,x,is,l,j,k=>by
  refine Km ?_;rw[k];refine(g x j).mono λe s f=>?_
  cases e with
  |normal=>
   obtain⟨y,m,q,p⟩:=f;exact FY C I d g n y s y8 p m
  |exit id=>exact f
  |ret=>exact f
theorem V9{hint:Hint}{f:ft}{g:Array Tmp}{assign body:Code}{st:St}{K:Ex->St->Prop}{gf:fo}{caps:List PV}{fn:Func}{c:Code}(j:ev st.slots f=.fn gf caps)(l:P.funcs[gf]?=some fn)(d:(fn.name== "runtime.NumGoroutine")=false)(m:fn.body=some c)(hst:(caps.all PV.still &&fn.results.isEmpty)=true)(p:IR P E (λk n=>ll (fP P (jq P E k) E.pf E.hint hint false n assign) (fP P (jq P E k) E.pf E.hint hint false n body) st.heap.length st.slots g.toList) (E.hint gf) c
   ⟨⟨.undef::caps++List.replicate (fn.ntmps - (caps.length+1)) (.tup []),[]⟩,[0],⟨st.heap,none⟩⟩ λe is=>(match e with|.exit _=>False|_=>True)/\K (is.out.pend.getD .normal) ⟨st.slots,is.out.heap⟩):
  R P E hint true (.rangeFunc f g assign body) st K:=by
 obtain⟨e,is,⟨N,q⟩,r,s⟩:=p;refine⟨_,_,⟨N+1,λk n t hn=>?_⟩,s⟩;cases n with
 |zero=>omega
 |succ n=>
  simp only[fP,ak,j,nc,l,d,Kl,m,hst,j6,aj,q k n n y8 y8 y8];cases e with
  |exit id=>exact r.elim
  |normal=>rfl
  |ret=>rfl
theorem Lv{hint:Hint}{assign body:Code}{h0:Nat}{slots sl:List PV}{f:List Tmp}{ds:List fy}{H:List fB}{b:Bool}{x:yX}(g:sC slots f ds=some sl)(h:R P E hint false assign ⟨sl,H⟩ λe s=>e=.normal/\R P E hint false body s λe c=>match e with
   | .normal=>b=true/\x=⟨(iU h0 (some []) c).heap,none⟩
   |e=>b=false/\x=⟨(iU h0 (some []) c).heap,some e⟩):
  YE (λk n=>ll (fP P (jq P E k) E.pf E.hint hint false n assign) (fP P (jq P E k) E.pf E.hint hint false n body) h0 slots f) ds ⟨H,none⟩ b x:=by
 obtain⟨e,s,⟨N,j⟩,rfl,l,c,⟨m,p⟩,d⟩:=h;refine⟨max N m,λk n q hn=>?_⟩;simp only[ll,g,j k n y8 y8,p k n y8 y8];cases l with
 |normal=>obtain⟨rfl,rfl⟩:=d;rfl
 |exit id=>obtain⟨rfl,rfl⟩:=d;rfl
 |ret=>obtain⟨rfl,rfl⟩:=d;rfl
end
end Go.Pm
