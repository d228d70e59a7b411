/-
 The pure machine: short forms for walks.
-/
import Derived.Test.YtjcfpjpdopfefaaGreatPmSx
import Derived.KernelRfl
namespace Go.Pm
open Go Go.RowKit
set_option linter.all false
theorem G5{P:fm}{slots:List PV}{H c:List fB}{d:List ResultVar}{p:PV}(h:(ir P slots H d).map iO=some p)(e:c++H.drop c.length=H):∃X,∃vs,ir P slots H d=some vs/\p=iO vs/\c++X=H:=G2 _ h e
theorem kr{p:Prop}(h:p:=by kernel_rfl):p:=h
theorem zf{p:Prop}(h:p:=by
 first|obtain rfl:=xt hm|obtain⟨rfl,rfl⟩:=VA hm|obtain⟨rfl,rfl,rfl⟩:=Wn hm|obtain⟨rfl,rfl,rfl,rfl⟩:=VQ hm|obtain⟨rfl,rfl,rfl,rfl,rfl⟩:=WK hm|obtain⟨rfl,rfl,rfl,rfl,rfl,rfl⟩:=VR hm|obtain⟨rfl,rfl,rfl,rfl,rfl,rfl,rfl⟩:=Vf hm|obtain⟨rfl,rfl,rfl,rfl,rfl,rfl,rfl,rfl⟩:=VZ hm|obtain⟨rfl,rfl,rfl,rfl,rfl,rfl,rfl,rfl,rfl⟩:=UT hm|obtain⟨rfl,rfl,rfl,rfl,rfl,rfl,rfl,rfl,rfl,rfl⟩:=Wr hm|obtain⟨rfl,rfl,rfl,rfl,rfl,rfl,rfl,rfl,rfl,rfl,rfl⟩:=Vv hm|obtain⟨rfl,rfl,rfl,rfl,rfl,rfl,rfl,rfl,rfl,rfl,rfl,rfl⟩:=Wc hm|obtain⟨rfl,rfl,rfl,rfl,rfl,rfl,rfl,rfl,rfl,rfl,rfl,rfl,rfl⟩:=UH hm|obtain⟨rfl,rfl,rfl,rfl,rfl,rfl,rfl,rfl,rfl,rfl,rfl,rfl,rfl,rfl⟩:=WT hm|obtain⟨rfl,rfl,rfl,rfl,rfl,rfl,rfl,rfl,rfl,rfl,rfl,rfl,rfl,rfl,rfl⟩:=inj15 hm|skip
 first|exact⟨trivial,VO⟩|exact⟨trivial,GR⟩|exact⟨rfl,TZ⟩|exact TZ|exact hJ _ _|exact⟨trivial,NI (by kernel_rfl) (by kernel_rfl)⟩|exact⟨trivial,G5 (by kernel_rfl) (by kernel_rfl)⟩):p:=h
theorem bi{c e:Type}{x:Option (c)}{f:c->Option e}{r:e}{P:Prop}(h:(x>>=f)=some r)(k:∀d,x=some d->f d=some r->P):P:=by
 obtain⟨d,g,j⟩:=Z9 h;exact k d g j
theorem uy{c d j:Type}{x:Option (c×d)}{f:(c×d)->Option j}{r:j}{P:Prop}(h:(x>>=f)=some r)(k:∀e g,x=some (e,g)->f (e,g)=some r->P):P:=by
 obtain⟨⟨e,g⟩,l,m⟩:=Z9 h;exact k e g l m
theorem Nd{c d e m:Type}{x:Option (c×d×e)}{f:(c×d×e)->Option m}{r:m}{P:Prop}(h:(x>>=f)=some r)(k:∀g j l,x=some (g,j,l)->f (g,j,l)=some r->P):P:=by
 obtain⟨⟨g,j,l⟩,n,p⟩:=Z9 h;exact k g j l n p
theorem PW{c d e g j l u:Type}{x:Option (c×d×e×g×j×l)}{f:(c×d×e×g×j×l)->Option u}{r:u}{P:Prop}(h:(x>>=f)=some r)(k:∀m n p q s t,x=some (m,n,p,q,s,t)->f (m,n,p,q,s,t)=some r->P):P:=by
 obtain⟨⟨m,n,p,q,s,t⟩,v,w⟩:=Z9 h;exact k m n p q s t v w
theorem bs{d c e:Type}{x:Option (d⊕ c)}{f:d⊕ c->Option e}{r:e}{P:Prop}(h:(x>>=f)=some r)(k1:∀a,x=some (.inl a)->f (.inl a)=some r->P)(k2:∀a,x=some (.inr a)->f (.inr a)=some r->P):P:=by
 obtain⟨a,g,j⟩:=Z9 h;cases a with
 |inl a=>exact k1 a g j
 |inr a=>exact k2 a g j
theorem gi{p:Prop}[Decidable p]{c:Type}{f:Unit->Option c}{r:c}{P:Prop}(h:(QR p>>=f)=some r)(k:p->f ()=some r->P):P:=by
 obtain⟨_,d,e⟩:=Z9 h;exact k (Us d) e
def FP(P:fm)(E:Env)(f:fo)(ds:List fy)(p:PV):Prop:=∀H,PC P E f (ds.map .dat) H p H
def P1{A:Type}(c:Ex)(f:A->List PV->St)(a:A)(e:Ex)(s:St):Prop:=e=c/\∃d,s=f a d
def P2{A B:Type}(c:Ex)(d:A->List PV->St)(e:Ex)(f:B->List PV->St):A⊕ B->Ex->St->Prop
 | .inl a=>P1 c d a
 | .inr b=>P1 e f b
def LP(P:fm)(E:Env)(f:Func)(n:Nat)(path:List Nat)(h0:Nat)(C:St)(post:Ex->St->Prop):Prop:=
 ∀st,iU h0 ((Q0 (JW path (G0 f))).bind (E.hint n).keepAt) st=C->RL P E (E.hint n) true (JW path (G0 f)) h0 st post
section
variable{P:fm}{E:Env}{f:Func}{n:Nat}{path:List Nat}{h0:Nat}{C:St}{post Q:Ex->St->Prop}{b:Code}{st:St}
theorem lp(k:R P E (E.hint n) true (JW path (G0 f)) C λe s=>match e with|.normal=>RL P E (E.hint n) true (JW path (G0 f)) h0 s post|e=>post e s):LP P E f n path h0 C post:=λ_ h=>p6 h k
theorem ru{post:Ex->St->Prop}(w:LP P E f n path h0 C post)(after:∀e s,post e s->Q e s)(hst:iU h0 ((Q0 (JW path (G0 f))).bind (E.hint n).keepAt) st=C)(c:b=JW path (G0 f))(d:st.heap.length=h0):R P E (E.hint n) true (.loop b) st Q:=
 Pl (Ow w hst after c d)
theorem nA{A c:Type}{m:Option A}{k:A->Option c}{r:c}{g:Ex}{j:A->List PV->St}(hm:(m>>=k)=some r)(w:∀o,m=some o->LP P E f n path h0 C (P1 g j o))(k1:∀a d,k a=some r->Q g (j a d))(hst:iU h0 ((Q0 (JW path (G0 f))).bind (E.hint n).keepAt) st=C:=by kernel_rfl)(l:b=JW path (G0 f):=by kernel_rfl)(p:st.heap.length=h0:=by kernel_rfl):R P E (E.hint n) true (.loop b) st Q:=by
 obtain⟨o,q,t⟩:=Z9 hm;refine ru (w o q) (λe s h=>?_) hst l p;obtain⟨rfl,d,rfl⟩:=h;exact k1 o d t
theorem rN{A B c:Type}{m:Option (A⊕ B)}{k:A⊕ B->Option c}{r:c}{g j:Ex}{l:A->List PV->St}{p:B->List PV->St}(hm:(m>>=k)=some r)(w:∀o,m=some o->LP P E f n path h0 C (P2 g l j p o))(k1:∀a d,k (.inl a)=some r->Q g (l a d))(k2:∀a d,k (.inr a)=some r->Q j (p a d))(hst:iU h0 ((Q0 (JW path (G0 f))).bind (E.hint n).keepAt) st=C:=by kernel_rfl)(t:b=JW path (G0 f):=by kernel_rfl)(u:st.heap.length=h0:=by kernel_rfl):R P E (E.hint n) true (.loop b) st Q:=by
 obtain⟨o,v,q⟩:=Z9 hm;refine ru (w o v) (λe s h=>?_) hst t u;cases o with
 |inl a=>obtain⟨rfl,d,rfl⟩:=h;exact k1 a d q
 |inr a=>obtain⟨rfl,d,rfl⟩:=h;exact k2 a d q
end
section
variable{P:fm}{E:Env}{hn:Hint}{rg:Bool}{r i:Nat}{ops:Array Oper}{c:Cf}{Q:Cf->Prop}{b:Code}{st:St}{QQ:Ex->St->Prop}
theorem fp{f:fo}{fn:Func}{ds:List fy}{p:PV}{c:Code}(d:fn.body=some c)(hR:R P E (E.hint f) true c ⟨en fn.ntmps (ds.map .dat),[]⟩ λe s=>(match e with|.exit _=>False|_=>True)/\∃vs,ir P s.slots s.heap fn.results.toList=some vs/\gM s.heap (iO vs)=some p)(g:(mO P f &&((E.summ f).isNone &&E.pure f && !(E.split f &&(nm (ds.map .dat) &&true))))=true:=by kernel_rfl)(j:P.funcs[f]?=some fn:=by kernel_rfl)(hl:pY (ds.map .dat) p=true:=by kernel_rfl):FP P E f ds p:=
 λ_=>sA d hR g j hl
theorem cp{f:fo}{ds:List fy}{p:PV}(hc:FP P E f ds p)(d:G P E hn r ops (i+1) (mn E hn r ops i c p id) Q)(e:(E.pure f &&(E.summ f).isNone)=true:=by kernel_rfl)(h:Ag hn r ops i c.1 p=some (f,ds):=by kernel_rfl):G P E hn r ops i c Q:=Y3 (hc []) d e h
theorem re(k:Nat)(d:Q (Kb P E hn r ops i k c))(h:(Ht P E hn r ops i k c.1).isSome=true:=by kernel_rfl)(hl:decide (i+k<=ops.size)=true:=by kernel_rfl)(e:decide (i+k=ops.size)=true:=by kernel_rfl):G P E hn r ops i c Q:=
 Qe k (Q6 d e) h hl
theorem gr{a:Code}(k:Nat)(e:G P E hn r ops (0+k) (Kb P E hn r ops 0 k (st,[])) (λc=>R P E hn rg a c.1 QQ))(h:(Ht P E hn r ops 0 k st).isSome=true:=by kernel_rfl)(hl:decide (0+k<=ops.size)=true:=by kernel_rfl)(d:hn.flatAt r=none:=by kernel_rfl):
  R P E hn rg (.seq (.region r ops false) a) st QQ:=Qg (gd (Qe k e h hl) d)
theorem ge{a:Code}(k:Nat)(d:R P E hn rg a (Kb P E hn r ops 0 k (st,[])).1 QQ)(h:(Ht P E hn r ops 0 k st).isSome=true:=by kernel_rfl)(hl:decide (0+k<=ops.size)=true:=by kernel_rfl)(e:decide (0+k=ops.size)=true:=by kernel_rfl)(c:hn.flatAt r=none:=by kernel_rfl):
  R P E hn rg (.seq (.region r ops false) a) st QQ:=Qg (gd (Qe k (Q6 d e) h hl) c)
def DY(hn:Hint)(r:Nat)(ops:Array Oper)(i:Nat)(st:St):Option (FuncId×List PV):=
 match ops[i]? with
 |some o=>if fU ops st.slots o=some true then
   (match o.op with
    | .call c=>match c.callee,hn.ownAt r i with
     | .value x,j::_=>match ev st.slots x with
      | .dat (.raw (.func (.func f) _ _))=>if j.1<2000 then some (f,c.args.toList.map (ev st.slots))else none
      |_=>none
     |_,_=>none
    |_=>none)else none
 |none=>none
theorem SG{s:Type}(N e:Nat)(k:s->fy){l:List s}{f:fo}{args:List PV}{ds:List fy}{t g cp:Nat}{H1:List fB}(hc:PC P E f (ds.map .dat) [] (.ms t g 0 l.length cp) H1)(hm:mtOf H1 t=some (e,g,cellsOf k l))(u:gp c.1.heap args=some ds)(hl:(!(args.any PV.lends)||(cellsOf k l).all PV.plainCell)=true)(v:G P E hn r ops (i+1) (mn E hn r ops i c (.ms N 1 0 l.length l.length) (λH=>H++[.mt e 1 (cellsOf k l)])) Q)(h:DY hn r ops i c.1=some (f,args):=by kernel_rfl)(w:c.1.heap.length=N:=by kernel_rfl):G P E hn r ops i c Q:=by
 simp only[DY]at h;cases m:ops[i]? with
 |none=>rw[m]at h;cases h
 |some o=>
  rw[m]at h;simp only at h;by_cases hw:fU ops c.1.slots o=some true
  .rw[ai hw]at h;split at h
   .rename_i n p;split at h
    .rename_i x j ow' d q;split at h
     .rename_i g' a b y;split at h
      .rename_i z;cases h;refine Su m hw ?_;rw[q];refine UG N (x:=x) (args:=n.args) (ts:=n.argTypes) ?_ y rfl hl u hc hm v w y8;rw[p];cases n;simp only at d;rw[d]
      .cases h
     .cases h
    .cases h
   .cases h
  .rw[af hw]at h;cases h
def Ii(hn:Hint)(r:Nat)(ops:Array Oper)(i:Nat)(st:St):Option (FuncId×List fy):=
 match DY hn r ops i st with
 |some (f,args)=>if args.any PV.lends then none else(gp st.heap args).map λds=>(f,ds)
 |none=>none
theorem go{m:Type}(N e:Nat)(j:m->fy){l:List m}{f:fo}{ds:List fy}{t g cp:Nat}{H1:List fB}(hc:PC P E f (ds.map .dat) [] (.ms t g 0 l.length cp) H1)(n:G P E hn r ops (i+1) (mn E hn r ops i c (.ms N 1 0 l.length l.length) (λH=>H++[.mt e 1 (cellsOf j l)])) Q)(hm:mtOf H1 t=some (e,g,cellsOf j l):=by exact ZN (by kernel_rfl))(h:Ii hn r ops i c.1=some (f,ds):=by kernel_rfl)(p:c.1.heap.length=N:=by kernel_rfl):G P E hn r ops i c Q:=by
 simp only[Ii]at h;split at h
 .rename_i s args q;split at h
  .cases h
  .rename_i hl;cases k:gp c.1.heap args with
   |none=>rw[k]at h;cases h
   |some d=>rw[k]at h;cases h;exact SG N e j hc hm k (by simp[hl]) n q p
 .cases h
theorem ri{x:ft}{p:Prop}[Decidable p]{d:Type}{e f:Option d}{c:d}{a b:Code}(hm:(if p then e else f)=some c)(g:e=some c->R P E hn rg a st QQ)(j:f=some c->R P E hn rg b st QQ)(k:ev st.slots x=Qp (decide p):=by kernel_rfl):R P E hn rg (.cond x a b) st QQ:=Pt hm (rfl) g j k
theorem gs{p:Prop}[Decidable p]{e:Type}{f g:Option e}{d:e}(j:Nat)(hm:(if p then f else g)=some d)(k:f=some d->G P E hn r ops i (qO c j true) Q)(l:g=some d->G P E hn r ops i (qO c j false) Q)(m:c.1.slots[j]?=some (Qp (decide p)):=by kernel_rfl):G P E hn r ops i c Q:=Px j hm (rfl) k l m
theorem mr{x:ft}{q:Bool}{d:Type}{e f:Option d}{c:d}{a b:Code}(hm:(if q=true then e else f)=some c)(g:e=some c->R P E hn rg a st QQ)(j:f=some c->R P E hn rg b st QQ)(k:ev st.slots x=Qp (q):=by kernel_rfl):R P E hn rg (.cond x a b) st QQ:=Pt hm (TX _) g j k
theorem mU{q:Bool}{e:Type}{f g:Option e}{d:e}(j:Nat)(hm:(if q=true then f else g)=some d)(k:f=some d->G P E hn r ops i (qO c j true) Q)(l:g=some d->G P E hn r ops i (qO c j false) Q)(m:c.1.slots[j]?=some (Qp (q)):=by kernel_rfl):G P E hn r ops i c Q:=Px j hm (TX _) k l m
theorem HF{x:ft}{q:Bool}{d:Type}{e f:Option d}{c:d}{a b:Code}(hm:(if q=false then e else f)=some c)(g:e=some c->R P E hn rg a st QQ)(j:f=some c->R P E hn rg b st QQ)(k:ev st.slots x=Qp (!q):=by kernel_rfl):R P E hn rg (.cond x a b) st QQ:=Pt hm (Td _) g j k
theorem SA{q:Bool}{e:Type}{f g:Option e}{d:e}(j:Nat)(hm:(if q=false then f else g)=some d)(k:f=some d->G P E hn r ops i (qO c j true) Q)(l:g=some d->G P E hn r ops i (qO c j false) Q)(m:c.1.slots[j]?=some (Qp (!q)):=by kernel_rfl):G P E hn r ops i c Q:=Px j hm (Td _) k l m
theorem sQ{x:ft}{d:Type}[DecidableEq d]{y z:d}{e:Type}{f g:Option e}{c:e}{a b:Code}(hm:(if y=z then f else g)=some c)(j:f=some c->R P E hn rg a st QQ)(k:g=some c->R P E hn rg b st QQ)(l:ev st.slots x=Qp (y==z):=by kernel_rfl):R P E hn rg (.cond x a b) st QQ:=Pt hm (TS _ _) j k l
theorem HD{e:Type}[DecidableEq e]{y z:e}{f:Type}{g k:Option f}{d:f}(j:Nat)(hm:(if y=z then g else k)=some d)(l:g=some d->G P E hn r ops i (qO c j true) Q)(m:k=some d->G P E hn r ops i (qO c j false) Q)(n:c.1.slots[j]?=some (Qp (y==z)):=by kernel_rfl):G P E hn r ops i c Q:=Px j hm (TS _ _) l m n
theorem Eo{x:ft}{d:Type}[DecidableEq d]{y z:d}{e:Type}{f g:Option e}{c:e}{a b:Code}(hm:(if y≠z then f else g)=some c)(j:f=some c->R P E hn rg a st QQ)(k:g=some c->R P E hn rg b st QQ)(l:ev st.slots x=Qp (y !=z):=by kernel_rfl):R P E hn rg (.cond x a b) st QQ:=Pt hm (KL _ _) j k l
theorem LB{e:Type}[DecidableEq e]{y z:e}{f:Type}{g k:Option f}{d:f}(j:Nat)(hm:(if y≠z then g else k)=some d)(l:g=some d->G P E hn r ops i (qO c j true) Q)(m:k=some d->G P E hn r ops i (qO c j false) Q)(n:c.1.slots[j]?=some (Qp (y !=z)):=by kernel_rfl):G P E hn r ops i c Q:=Px j hm (KL _ _) l m n
theorem QY{d e:Type}{l:List d}{n:Int}{k:d->Option e}{g:e}(size:Nat)(f:d->fy)(hm:(idx l n>>=k)=some g)(j:∀x,k x=some g->G P E hn r ops (i+1) (mn E hn r ops i c (.iptr (f x).cells) id) Q)(m:∀x,(f x).num=size:=by intro _;rfl)(h:ue P hn r ops i c.1=LX size (l.map f) n c.1.heap:=by kernel_rfl):G P E hn r ops i c Q:=N5 size f hm rfl m j h
theorem QZ{d:Type}(f:d->fy)(l:List d)(e:G P E hn r ops (i+1) (mn E hn r ops i c (Qd (l.length:Int)) id) Q)(h:BE P hn r ops i c.1=PS (l.map f).length c.1.heap:=by kernel_rfl):G P E hn r ops i c Q:=G3 f l rfl e h
end
end Go.Pm
