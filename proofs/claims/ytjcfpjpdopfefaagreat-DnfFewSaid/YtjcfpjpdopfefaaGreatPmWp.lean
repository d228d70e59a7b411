/-
 The pure machine: what a piece of code comes to, whatever the fuel, if it is enough.
-/
import Derived.Test.YtjcfpjpdopfefaaGreatPmFun
namespace Go.Pm
open Go
set_option linter.all false
section
variable(P:fm)(E:Env)
def PC(f:fo)(args:List PV)(H:List fB)(p:PV)(H':List fB):Prop:=∃N,∀k,N<=k->jq P E k f args H=some (p,H')
def R(hn:Hint)(rg:Bool)(c:Code)(st:St)(Q:Ex->St->Prop):Prop:=
 ∃e st',(∃N,∀k n,N<=k->N<=n->fP P (jq P E k) E.pf E.hint hn rg n c st=some (e,st'))/\Q e st'
def RL(hn:Hint)(rg:Bool)(b:Code)(h0:Nat)(st:St)(Q:Ex->St->Prop):Prop:=
 ∃e st',(∃N,∀k n,N<=k->N<=n->fP.ploop P (jq P E k) E.pf E.hint hn rg b h0 n st=some (e,st'))/\Q e st'
def Tg(hn:Hint)(r:Nat)(ops:Array Oper)(i:Nat)(os:List Oper)(st:St)(Q:St->Prop):Prop:=
 ∃st',(∃N,∀k,N<=k->kP P (jq P E k) hn r ops i os st=some st')/\Q st'
def iV(ow:List (Nat×TypeId))(o:Oper)(ρ:ft->PV)(H:List fB)(Q:PV->List fB->Prop):Prop:=
 ∃v H',(∃N,∀k,N<=k->gq P (jq P E k) ow o ρ H=some (v,H'))/\Q v H'
def F6(hn:Hint)(r:Nat)(ops:Array Oper)(i:Nat)(os:List Oper)(st:St)(fl:List Nat)(Q:List Nat->St->Prop):Prop:=
 ∃st' c,(∃N,∀k,N<=k->gR P (jq P E k) E.pf hn r ops i os st=some (st',c))/\Q (fl++c) st'
end
section
variable{P:fm}{E:Env}{hn:Hint}{rg:Bool}{c a b:Code}{st:St}{Q Q':Ex->St->Prop}
theorem R.mono(h:R P E hn rg c st Q)(d:∀e s,Q e s->Q' e s):R P E hn rg c st Q':=let ⟨e,s,f,g⟩:=h;⟨e,s,f,d e s g⟩
theorem RL.mono{h0:Nat}(h:RL P E hn rg b h0 st Q)(c:∀e s,Q e s->Q' e s):RL P E hn rg b h0 st Q':=let ⟨e,s,d,f⟩:=h;⟨e,s,d,c e s f⟩
theorem Qr(h:Q .normal st):R P E hn rg .skip st Q:=⟨_,_,⟨1,λk n c hn=>by cases n with|zero=>omega|succ n=>rfl⟩,h⟩
theorem QO{id:Nat}(h:Q (.exit id) st):R P E hn rg (.exit id) st Q:=⟨_,_,⟨1,λk n c hn=>by cases n with|zero=>omega|succ n=>rfl⟩,h⟩
theorem Qn(h:Q .ret st):R P E hn rg .ret st Q:=⟨_,_,⟨1,λk n c hn=>by cases n with|zero=>omega|succ n=>rfl⟩,h⟩
theorem Qg(h:R P E hn rg a st λe s=>match e with|.normal=>R P E hn rg b s Q|e=>Q e s):R P E hn rg (.seq a b) st Q:=by
 obtain⟨e,s,⟨N,c⟩,d⟩:=h;cases e with
 |normal=>
  obtain⟨e',s',⟨N',g⟩,j⟩:=d;refine⟨e',s',⟨max N N'+1,λk n f hn=>?_⟩,j⟩;cases n with
  |zero=>omega
  |succ n=>simp only[fP];rw[c k n y8 y8];exact g k n y8 y8
 |exit id=>
  refine⟨_,s,⟨N+1,λk n f hn=>?_⟩,d⟩;cases n with
  |zero=>omega
  |succ n=>simp only[fP];rw[c k n y8 y8]
 |ret=>
  refine⟨_,s,⟨N+1,λk n f hn=>?_⟩,d⟩;cases n with
  |zero=>omega
  |succ n=>simp only[fP];rw[c k n y8 y8]
theorem ON{x:ft}(c:ev st.slots x=Qp true)(h:R P E hn rg a st Q):R P E hn rg (.cond x a b) st Q:=by
 obtain⟨e,s,⟨N,d⟩,f⟩:=h;refine⟨e,s,⟨N+1,λk n g hn=>?_⟩,f⟩;cases n with
 |zero=>omega
 |succ n=>simp only[fP,c,Qp,nF];exact d k n y8 y8
theorem He{x:ft}(c:ev st.slots x=Qp false)(h:R P E hn rg b st Q):R P E hn rg (.cond x a b) st Q:=by
 obtain⟨e,s,⟨N,d⟩,f⟩:=h;refine⟨e,s,⟨N+1,λk n g hn=>?_⟩,f⟩;cases n with
 |zero=>omega
 |succ n=>simp only[fP,c,Qp,nF];exact d k n y8 y8
theorem Vx{x:ft}{t:Bool}(c:ev st.slots x=Qp t)(d:t=true->R P E hn rg a st Q)(e:t=false->R P E hn rg b st Q):R P E hn rg (.cond x a b) st Q:=by
 cases t with
 |true=>exact ON c (d rfl)
 |false=>exact He c (e rfl)
theorem U8{x:ft}{p:Prop}[Decidable p](c:ev st.slots x=Qp (decide p))(d:p->R P E hn rg a st Q)(e:¬p->R P E hn rg b st Q):R P E hn rg (.cond x a b) st Q:=
 Vx c (λh=>d (of_decide_eq_true h)) (λh=>e (of_decide_eq_false h))
theorem Qo{id:Nat}(h:R P E hn rg b st λe s=>match e with|.exit c=>if c=id then Q .normal s else Q (.exit c) s|e=>Q e s):R P E hn rg (.block id b) st Q:=by
 obtain⟨e,s,⟨N,g⟩,f⟩:=h;cases e with
 |exit c=>
  by_cases d:c=id
  .simp only[d,ak]at f;refine⟨_,s,⟨N+1,λk n j hn=>?_⟩,f⟩;cases n with
   |zero=>omega
   |succ n=>simp only[fP];rw[g k n y8 y8];simp[d]
  .simp only[d,aj]at f;refine⟨_,s,⟨N+1,λk n j hn=>?_⟩,f⟩;cases n with
   |zero=>omega
   |succ n=>simp only[fP];rw[g k n y8 y8];simp[d]
 |normal=>
  refine⟨_,s,⟨N+1,λk n j hn=>?_⟩,f⟩;cases n with
  |zero=>omega
  |succ n=>simp only[fP];rw[g k n y8 y8]
 |ret=>
  refine⟨_,s,⟨N+1,λk n j hn=>?_⟩,f⟩;cases n with
  |zero=>omega
  |succ n=>simp only[fP];rw[g k n y8 y8]
theorem WH{l:Nat}(h:Q .normal st):R P E hn rg (.label l) st Q:=by
 refine⟨.normal,st,⟨1,λk n c hn=>?_⟩,h⟩;cases n with
 |zero=>omega
 |succ n=>simp only[fP]
theorem VV(h:R P E hn rg b st Q):R P E hn rg (.scope b) st Q:=by
 obtain⟨e,s,⟨N,c⟩,d⟩:=h;refine⟨e,s,⟨N+1,λk n f hn=>?_⟩,d⟩;cases n with
 |zero=>omega
 |succ n=>simp only[fP];exact c k n y8 y8
theorem Pl(h:RL P E hn rg b st.heap.length st Q):R P E hn rg (.loop b) st Q:=by
 obtain⟨e,s,⟨N,c⟩,d⟩:=h;refine⟨e,s,⟨N+1,λk n f hn=>?_⟩,d⟩;cases n with
 |zero=>omega
 |succ n=>simp only[fP];exact c k n y8 y8
theorem L9{h0:Nat}(h:R P E hn rg b (iU h0 ((Q0 b).bind hn.keepAt) st) λe s=>match e with|.normal=>RL P E hn rg b h0 s Q|e=>Q e s):RL P E hn rg b h0 st Q:=by
 obtain⟨e,s,⟨N,c⟩,d⟩:=h;cases e with
 |normal=>
  obtain⟨e',s',⟨N',g⟩,j⟩:=d;refine⟨e',s',⟨max N N'+1,λk n f hn=>?_⟩,j⟩;cases n with
  |zero=>omega
  |succ n=>simp only[fP.ploop];rw[c k n y8 y8];exact g k n y8 y8
 |exit id=>
  refine⟨_,s,⟨N+1,λk n f hn=>?_⟩,d⟩;cases n with
  |zero=>omega
  |succ n=>simp only[fP.ploop];rw[c k n y8 y8]
 |ret=>
  refine⟨_,s,⟨N+1,λk n f hn=>?_⟩,d⟩;cases n with
  |zero=>omega
  |succ n=>simp only[fP.ploop];rw[c k n y8 y8]
theorem Wu{r:Nat}{ops:Array Oper}(h:Tg P E hn r ops 0 ops.toList st λs=>Q .normal s)(c:hn.flatAt r=none:=by kernel_rfl):R P E hn rg (.region r ops false) st Q:=by
 obtain⟨s,⟨N,d⟩,e⟩:=h;refine⟨_,s,⟨N+1,λk n f hn=>?_⟩,e⟩;cases n with
 |zero=>omega
 |succ n=>simp only[fP,c,d k y8,jN]
theorem UE{r:Nat}{ops:Array Oper}(h:F6 P E hn r ops 0 ops.toList st [] λfl s=>kR st.heap.length ops fl=true/\Q .normal s):R P E hn rg (.region r ops true) st Q:=by
 obtain⟨s,fl,⟨N,d⟩,c,e⟩:=h;refine⟨_,s,⟨N+1,λk n f hn=>?_⟩,e⟩;cases n with
 |zero=>omega
 |succ n=>
  simp only[jQ]at c;simp only[fP,d k y8,c,ak]
theorem vv{r i:Nat}{ops:Array Oper}{o:Oper}{os:List Oper}{fl:List Nat}{Q:List Nat->St->Prop}(hw:fU ops st.slots o=some true)(h:iV P E (hn.ownAt r i) o (ev st.slots) st.heap λv H=>F6 P E hn r ops (i+1) os ⟨lN st.slots o.dst v,H⟩ (fl++[kI E.pf hn r i o (ev st.slots)]) Q):
  F6 P E hn r ops i (o::os) st fl Q:=by
 obtain⟨v,H,⟨N,d⟩,s,c,⟨N',e⟩,f⟩:=h;refine⟨s,kI E.pf hn r i o (ev st.slots)::c,⟨max N N',λk g=>?_⟩,by simpa using f⟩;simp only[gR,iJ,hw,d k y8,e k y8,ak]
section
variable{ow:List (Nat×TypeId)}{o:Oper}{ρ:ft->PV}{H:List fB}{K:PV->List fB->Prop}
theorem iw{v:PV}{H':List fB}(h:∀call,gq P call ow o ρ H=some (v,H'))(c:K v H'):iV P E ow o ρ H K:=⟨v,H',⟨0,λk _=>h _⟩,c⟩
theorem Vi{f:fo}{x:ft}{args:Array Operand}{ts:Array TypeId}{first cap:Array Value}{ow':List (Nat×TypeId)}{j:Nat×TypeId}{ds:List fy}{t g len cp e:Nat}{cs:List PV}{H1:List fB}(l:o.op=.call {callee:=.value x,args,argTypes:=ts})(m:ρ x=.dat (.raw (.func (.func f) first cap)))(hw:ow=j::ow')(hl:(!((args.toList.map ρ).any PV.lends)||(cs.take len).all PV.plainCell)=true)(n:gp H (args.toList.map ρ)=some ds)(hc:PC P E f (ds.map .dat) [] (.ms t g 0 len cp) H1)(hm:mtOf H1 t=some (e,g,cs))(c:len<=cs.length)(p:(gQ (cs.take len)).isSome=true)(d:K (.ms H.length 1 0 len len) (H++[.mt e 1 (cs.take len)]))(q:¬2000<=j.1:=by decide):iV P E ow o ρ H K:=by
 obtain⟨N,h⟩:=hc;subst hw;exact⟨_,_,⟨N,λk d=>by rw[gq];simp only[l,m,af q,af (show¬13000<=j.1 by omega),af (show¬12000<=j.1 by omega),af (show¬j.1=7000 by omega),af (show¬6000<=j.1 by omega),af (show¬j.1=5000 by omega),kf,hl,n,h k d,hm,c,p,and_self,ak]⟩,d⟩
theorem WO{f:fo}{x:ft}{args:Array Operand}{ts:Array TypeId}{caps:List PV}{j:Nat}{e:Nat}{ow':List (Nat×TypeId)}{p:PV}(g:o.op=.call {callee:=.value x,args,argTypes:=ts})(l:ρ x=.fn f caps)(hw:ow=(j,e)::ow')(hc:PC P E f (args.toList.map ρ++caps) H p H)(d:K p H)(c:(decide (6000<=j) && !decide (j=7000) && !decide (12000<=j))=true:=by decide):iV P E ow o ρ H K:=by
 obtain⟨N,h⟩:=hc;subst hw;simp only[jE,zD,cm,decide_eq_false_iff_not]at c;exact⟨p,H,⟨N,λk d=>by rw[gq];simp only[g,af (show¬13000<=j by omega),af c.2,af c.1.2,ai c.1.1,pN,l,lz,h k d,or_true,ak]⟩,d⟩
theorem Jg{f:fo}{x:ft}{args:Array Operand}{ts:Array TypeId}{first cap:Array Value}{ow':List (Nat×TypeId)}{e:Nat}{ds:List fy}{p:PV}{H1:List fB}{d:fy}(g:o.op=.call {callee:=.value x,args,argTypes:=ts})(j:ρ x=.dat (.raw (.func (.func f) first cap)))(hw:ow=(7000,e)::ow')(hl:(args.toList.map ρ).any PV.lends=false)(l:gp H (args.toList.map ρ)=some ds)(hc:PC P E f (ds.map .dat) [] p H1)(m:iu H1 p=some d)(c:K (.dat d) H):iV P E ow o ρ H K:=by
 obtain⟨N,h⟩:=hc;subst hw;exact⟨_,_,⟨N,λk c=>by rw[gq];simp only[g,j,af (show¬13000<=7000 by decide),af (show¬12000<=7000 by decide),ak,oe,hl,j6,aj,l,h k c,m,jN]⟩,c⟩
theorem UZ{f:fo}{x:ft}{args:Array Operand}{ts:Array TypeId}{cap:List PV}{ow':List (Nat×TypeId)}{b n j e:Nat}{p:PV}{H1 W:List fB}{A:List PV}(l:o.op=.call {callee:=.value x,args,argTypes:=ts})(m:HK (ρ x)=some (f,cap))(hw:ow=(j,e)::ow')(hn:tA (args.toList.map ρ++cap)+e=n)(q:(args.toList.map ρ++cap).map (PV.ren (qA b n))=A)(r:((H.take n).drop b).map (fB.ren (qA b n))=W)(hc:PC P E f A W p H1)(hi:(decide (b<=n) &&decide (n<=H.length) &&decide (W.length=n - b) &&decide (b<H.length) &&(ly (n - b) A &&W.all (fB.under (n - b))))=true)(d:(p.under (n - b) &&(H1.take (n - b)).all (fB.under (n - b)))=true)(c:K (p.ren (uZ b n)) (H.take b++(H1.take (n - b)).map (fB.ren (uZ b n))++H.drop n))(s:j=12500+b/\b<500):iV P E ow o ρ H K:=by
 obtain⟨N,h⟩:=hc;subst hw;subst hn;subst q;simp only[jE,zD]at hi d;obtain⟨⟨⟨⟨t,u⟩,g⟩,z⟩,v⟩:=hi;obtain⟨rfl,B⟩:=s;have w:W.take (tA (args.toList.map ρ++cap)+e - b)=W:=by rw[<-g];exact cO
 have y:W.drop (tA (args.toList.map ρ++cap)+e - b)=[]:=by rw[<-g];exact dW
 refine⟨_,_,⟨N,λk c=>?_⟩,c⟩;rw[gq];simp only[l,af (show¬13000<=12500+b by omega),ai (show 12000<=12500+b by omega),ai (show 12500<=12500+b by omega),show 12500+b - 12500=b by omega,qx,Dw m,DU,af (show¬H.length<=b by omega),th];rw[ai ⟨t,u⟩,r];unfold iI;rw[w,y,ai ⟨by omega,v⟩,h k c];simp only[ai d,jU]
end
theorem LZ{f:fo}{fn:Func}{args:List PV}{ds:List fy}{H:List fB}{p:PV}(g:mO P f=true)(q:E.summ f=none)(r:E.pure f=true)(t:P.funcs[f]?=some fn)(u:fn.body=some c)(j:gp H args=some ds)(hR:R P E (E.hint f) true c ⟨ds.map .dat++List.replicate (fn.ntmps - (ds.map PV.dat).length) (.tup []),[]⟩ λe s=>(match e with|.exit _=>False|_=>True)/\∃vs,ir P s.slots s.heap fn.results.toList=some vs/\gM s.heap (iO vs)=some p)(hl:args.any PV.lends=true->la p=true)(l:(E.split f &&(nm (ds.map .dat) &&true))=false:=by rfl):PC P E f args H p H:=by
 obtain⟨e,s,⟨N,v⟩,w,vs,n,x⟩:=hR;refine⟨N+1,λk y=>?_⟩;cases k with
 |zero=>omega
 |succ k=>
  have m:kV P E (jq P E k) k f (ds.map .dat) []=some (iO vs,s.heap):=by
   unfold kV;rw[af (by rw[show(E.split f &&(nm (ds.map PV.dat) &&([]:List fB).isEmpty))=false from l];decide)];unfold qh;simp only[t,u,v k k y8 y8];cases e with
   |exit id=>exact w.elim
   |normal=>simp[n]
   |ret=>simp[n]
  simp only[jq,g,q,r,j,m,x];by_cases d:args.any PV.lends=true
  .simp[d,hl d]
  .simp[d]
theorem ME{f:fo}{fn:Func}{args:List PV}{H H':List fB}{p:PV}(d:mO P f=true)(m:E.summ f=none)(n:E.pure f=false)(q:P.funcs[f]?=some fn)(r:fn.body=some c)(hR:R P E (E.hint f) true c ⟨args++List.replicate (fn.ntmps - args.length) (.tup []),H⟩ λe s=>(match e with|.exit _=>False|_=>True)/\∃vs,ir P s.slots s.heap fn.results.toList=some vs/\p=iO vs/\H'=s.heap)(g:(E.split f &&(nm args &&H.isEmpty))=false:=by rfl):PC P E f args H p H':=by
 obtain⟨e,s,⟨N,t⟩,u,vs,l,rfl,rfl⟩:=hR;refine⟨N+1,λk v=>?_⟩;cases k with
 |zero=>omega
 |succ k=>
  have j:kV P E (jq P E k) k f args H=some (iO vs,s.heap):=by
   unfold kV;rw[af (by rw[g];decide)];unfold qh;simp only[q,r,t k k y8 y8];cases e with
   |exit id=>exact u.elim
   |normal=>simp[l]
   |ret=>simp[l]
  simp[jq,d,m,n,j]
end
end Go.Pm
