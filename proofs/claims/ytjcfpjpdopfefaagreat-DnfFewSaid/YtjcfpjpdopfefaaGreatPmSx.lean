/-
 The pure machine, walked by program: runs of plain operations by the kernel, one law for each operation that asks for something, joins, loops by what their model says.
-/
import Derived.Test.YtjcfpjpdopfefaaGreatPmMs
import Derived.Test.YtjcfpjpdopfefaaGreatPmMono
import Derived.KernelRfl
namespace Go.Pm
open Go
set_option linter.all false
def Qf(n:Int):fy:=.raw (.int .i64 n)
def uA(k:IntKind)(n:Int):fy:=.raw (.int k n)
def PY(b:Bool):fy:=.raw (.bool b)
abbrev W(n:Int):Int:=IntKind.i64.wrap n
abbrev Ea:PV:=.dat (.lst ((List.map Qf) []))
abbrev La(l:fj):PV:=.dat (.lst ((List.map Qf) l))
abbrev Lb(l:fj):fy:=.lst ((List.map Qf) l)
def idx{c:Type}(l:List c)(i:Int):Option c:=if 0<=i then l[i.toNat]? else none
def A5(a b:Int):Option Int:=if b=0 then none else some (W (a.tdiv b))
def mX(a b:Int):Option Int:=if b=0 then none else some (a.tmod b)
def app{c:Type}(bytes:Nat)(l es:List c):Option (List c):=if(l.length+es.length)*bytes<=gO then some (l++es)else none
def sub{c:Type}(l:List c)(lo hi:Int):Option (List c):=if 0<=lo/\lo<=hi/\hi<=(l.length:Int)then some ((l.take hi.toNat).drop lo.toNat)else none
theorem Z9{c d:Type}{x:Option c}{f:c->Option d}{r:d}(h:(x>>=f)=some r):∃a,x=some a/\f a=some r:=by
 cases x with
 |none=>cases h
 |some a=>exact⟨a,rfl,h⟩
theorem TE{p:Prop}[Decidable p]{c:Type}{a b:Option c}{r:c}(d:p)(h:(if p then a else b)=some r):a=some r:=(ai d).symm.trans h
theorem Ui{p:Prop}[Decidable p]{c:Type}{a b:Option c}{r:c}(d:¬p)(h:(if p then a else b)=some r):b=some r:=(af d).symm.trans h
theorem Vr{c:Type}{r:c}(h:(none:Option c)=some r):False:=by cases h
def QR(p:Prop)[Decidable p]:Option Unit:=if p then some ()else none
theorem Us{p:Prop}[Decidable p]{u:Unit}(h:QR p=some u):p:=by
 unfold QR at h;split at h
 .assumption
 .cases h
theorem TX(b:Bool):b=decide (b=true):=by cases b<;>rfl
theorem Td(b:Bool):(!b)=decide (b=false):=by cases b<;>rfl
theorem TS{c:Type}[DecidableEq c](a b:c):(a==b)=decide (a=b):=rfl
theorem KL{c:Type}[DecidableEq c](a b:c):(a !=b)=decide (a≠b):=by
 show(!(decide (a=b)))=_
 by_cases h:a=b<;>simp[h]
theorem xt{c:Type}{a b:c}(h:some a=some b):a=b:=jS h
theorem VA{c d:Type}{e f:c}{g b1:d}(h:some (e,g)=some (f,b1)):e=f/\g=b1:=by
 have h:=jS h
 simpa only[jI]using h
theorem Wn{c d e:Type}{f g:c}{j b1:d}{k b2:e}(h:some (f,j,k)=some (g,b1,b2)):f=g/\j=b1/\k=b2:=by
 have h:=jS h
 simpa only[jI]using h
theorem VQ{c d e f:Type}{g j:c}{k b1:d}{l b2:e}{m n:f}(h:some (g,k,l,m)=some (j,b1,b2,n)):g=j/\k=b1/\l=b2/\m=n:=by
 have h:=jS h
 simpa only[jI]using h
theorem WK{c d e f g:Type}{j k:c}{l b1:d}{m b2:e}{n p:f}{q r:g}(h:some (j,l,m,n,q)=some (k,b1,b2,p,r)):j=k/\l=b1/\m=b2/\n=p/\q=r:=by
 have h:=jS h
 simpa only[jI]using h
theorem VR{c d e f g j:Type}{k l:c}{m b1:d}{n b2:e}{p q:f}{r s:g}{t u:j}(h:some (k,m,n,p,r,t)=some (l,b1,b2,q,s,u)):k=l/\m=b1/\n=b2/\p=q/\r=s/\t=u:=by
 have h:=jS h
 simpa only[jI]using h
theorem Vf{c d e f g j k:Type}{l m:c}{n b1:d}{p b2:e}{q r:f}{s t:g}{u v:j}{w x:k}(h:some (l,n,p,q,s,u,w)=some (m,b1,b2,r,t,v,x)):l=m/\n=b1/\p=b2/\q=r/\s=t/\u=v/\w=x:=by
 have h:=jS h
 simpa only[jI]using h
theorem VZ{c d e f g j k l:Type}{m n:c}{p b1:d}{q b2:e}{r s:f}{t u:g}{v w:j}{x y:k}{z A:l}(h:some (m,p,q,r,t,v,x,z)=some (n,b1,b2,s,u,w,y,A)):m=n/\p=b1/\q=b2/\r=s/\t=u/\v=w/\x=y/\z=A:=by
 have h:=jS h
 simpa only[jI]using h
theorem UT{c d e f g j k l m:Type}{n p:c}{q b1:d}{r b2:e}{s t:f}{u v:g}{w x:j}{y z:k}{A B:l}{C D:m}(h:some (n,q,r,s,u,w,y,A,C)=some (p,b1,b2,t,v,x,z,B,D)):n=p/\q=b1/\r=b2/\s=t/\u=v/\w=x/\y=z/\A=B/\C=D:=by
 have h:=jS h
 simpa only[jI]using h
theorem Wr{c d e f g j k l m n:Type}{p q:c}{r b1:d}{s b2:e}{t u:f}{v w:g}{x y:j}{z A:k}{B C:l}{D E:m}{F G:n}(h:some (p,r,s,t,v,x,z,B,D,F)=some (q,b1,b2,u,w,y,A,C,E,G)):p=q/\r=b1/\s=b2/\t=u/\v=w/\x=y/\z=A/\B=C/\D=E/\F=G:=by
 have h:=jS h
 simpa only[jI]using h
theorem Vv{f g j k l m n p q r c:Type}{s t:f}{u b1:g}{v b2:j}{w x:k}{y z:l}{A B:m}{C D:n}{E F:p}{G H:q}{I J:r}{d e:c}(h:some (s,u,v,w,y,A,C,E,G,I,d)=some (t,b1,b2,x,z,B,D,F,H,J,e)):s=t/\u=b1/\v=b2/\w=x/\y=z/\A=B/\C=D/\E=F/\G=H/\I=J/\d=e:=by
 have h:=jS h
 simpa only[jI]using h
theorem Wc{k l m n p q r s t u c d:Type}{v w:k}{x b1:l}{y b2:m}{z A:n}{B C:p}{D E:q}{F G:r}{H I:s}{J K:t}{L M:u}{e f:c}{g j:d}(h:some (v,x,y,z,B,D,F,H,J,L,e,g)=some (w,b1,b2,A,C,E,G,I,K,M,f,j)):v=w/\x=b1/\y=b2/\z=A/\B=C/\D=E/\F=G/\H=I/\J=K/\L=M/\e=f/\g=j:=by
 have h:=jS h
 simpa only[jI]using h
theorem UH{n p q r s t u v w x c d e:Type}{y z:n}{A b1:p}{B b2:q}{C D:r}{E F:s}{G H:t}{I J:u}{K L:v}{M N:w}{O P:x}{f g:c}{j k:d}{l m:e}(h:some (y,A,B,C,E,G,I,K,M,O,f,j,l)=some (z,b1,b2,D,F,H,J,L,N,P,g,k,m)):y=z/\A=b1/\B=b2/\C=D/\E=F/\G=H/\I=J/\K=L/\M=N/\O=P/\f=g/\j=k/\l=m:=by
 have h:=jS h
 simpa only[jI]using h
theorem WT{r s t u v w x y z A c d e f:Type}{B C:r}{D b1:s}{E b2:t}{F G:u}{H I:v}{J K:w}{L M:x}{N O:y}{P Q:z}{R S:A}{g j:c}{k l:d}{m n:e}{p q:f}(h:some (B,D,E,F,H,J,L,N,P,R,g,k,m,p)=some (C,b1,b2,G,I,K,M,O,Q,S,j,l,n,q)):B=C/\D=b1/\E=b2/\F=G/\H=I/\J=K/\L=M/\N=O/\P=Q/\R=S/\g=j/\k=l/\m=n/\p=q:=by
 have h:=jS h
 simpa only[jI]using h
def sl(d:List PV)(n:Nat)(l:List (Nat×PV)):List PV:=(List.range n).map λi=>match l.find? λx=>x.1==i with|some x=>x.2|none=>d.getD i (.tup [])
def kp(n:Nat)(l:List (Nat×PV)):List PV:=(List.range n).map λi=>match l.find? λx=>x.1==i with|some x=>x.2|none=>.undef
def en(n:Nat)(l:List PV):List PV:=l++List.replicate (n - l.length) (.tup [])
def SN:gk:=λ_ _ _=>none
theorem Kf(call:gk):∀f args H,nl (SN f args H) (call f args H):=λ_ _ _ _ h=>by cases h
section
variable{P:fm}{E:Env}{hn:Hint}{rg:Bool}{r i:Nat}{ops:Array Oper}
abbrev Cf:=St×List Nat
variable{c:Cf}{Q:Cf->Prop}
def G(P:fm)(E:Env)(hn:Hint)(r:Nat)(ops:Array Oper)(i:Nat)(c:Cf)(Q:Cf->Prop):Prop:=F6 P E hn r ops i (ops.toList.drop i) c.1 c.2 (λfl s=>Q (s,fl))
theorem pK(call:gk)(pf:fo->Bool)(h:Hint)(r:Nat)(ops:Array Oper):∀(a b:List Oper) (i:Nat) (st d:St) (e:List Nat),gR P call pf h r ops i a st=some (d,e)->
  gR P call pf h r ops i (a++b) st=(gR P call pf h r ops (i+a.length) b d).map λx=>(x.1,e++x.2)
 |[],b,i,st,d,e,c=>by
  simp only[gR,j9,jI]at c;obtain⟨rfl,rfl⟩:=c;simp only[jQ,jL,zX];cases gR P call pf h r ops i b st<;>rfl
 |o::a,b,i,st,d,e,c=>by
  simp only[gR]at c;simp only[aW,gR];cases l:iJ P call h r ops i o st with
  |none=>rw[l]at c;cases c
  |some f=>
   rw[l]at c;simp only at c |-;cases j:gR P call pf h r ops (i+1) a f with
   |none=>rw[j]at c;cases c
   |some x=>
    obtain⟨g,k⟩:=x;rw[j]at c;simp only[j9,jI]at c;obtain⟨rfl,rfl⟩:=c;rw[pK call pf h r ops a b (i+1) f g k j,show i+1+a.length=i+(o::a).length by simp;omega];cases gR P call pf h r ops (i+(o::a).length) b g<;>rfl
noncomputable def Ht(P:fm)(E:Env)(hn:Hint)(r:Nat)(ops:Array Oper)(i k:Nat)(st:St):Option (St×List Nat):=gR P SN E.pf hn r ops i ((ops.toList.drop i).take k) st
noncomputable def Kb(P:fm)(E:Env)(hn:Hint)(r:Nat)(ops:Array Oper)(i k:Nat)(c:Cf):Cf:=match Ht P E hn r ops i k c.1 with|some x=>(x.1,c.2++x.2)|none=>(⟨[],[]⟩,[])
theorem Qe(k:Nat)(l:G P E hn r ops (i+k) (Kb P E hn r ops i k c) Q)(h:(Ht P E hn r ops i k c.1).isSome=true:=by kernel_rfl)(hl:decide (i+k<=ops.size)=true:=by kernel_rfl):G P E hn r ops i c Q:=by
 have hl:=of_decide_eq_true hl;cases d:Ht P E hn r ops i k c.1 with
 |none=>rw[d]at h;cases h
 |some x=>
  obtain⟨p,e⟩:=x;simp only[Kb,d]at l;obtain⟨f,g,⟨N,q⟩,s⟩:=l;refine⟨f,e++g,⟨N,λn j=>?_⟩,by rw[<-aB];exact s⟩;have t:ops.toList.drop i=(ops.toList.drop i).take k++ops.toList.drop (i+k):=by rw[<-dB,y7]
  have u:=oL (Kf (jq P E n)) r ops ((ops.toList.drop i).take k) i c.1 _ d;have v:((ops.toList.drop i).take k).length=k:=by simp;omega
  have m:=q n j;simp only at m;rw[t,pK _ _ _ _ _ _ _ _ _ _ _ u,v,m];rfl
noncomputable def ue(P:fm)(hn:Hint)(r:Nat)(ops:Array Oper)(i:Nat)(st:St):Option (PV×List fB):=
 match ops[i]? with
 |some o=>if fU ops st.slots o=some true then gq P SN (hn.ownAt r i) o (ev st.slots) st.heap else none
 |none=>none
def AL(E:Env)(hn:Hint)(r:Nat)(ops:Array Oper)(i:Nat)(st:St):Nat:=match ops[i]? with|some o=>kI E.pf hn r i o (ev st.slots)|none=>0
def mn(E:Env)(hn:Hint)(r:Nat)(ops:Array Oper)(i:Nat)(c:Cf)(v:PV)(g:List fB->List fB):Cf:=(⟨lN c.1.slots ((ops[i]?).bind (·.dst)) v,g c.1.heap⟩,c.2++[AL E hn r ops i c.1])
theorem wA{o:Oper}(h:ops[i]?=some o):ops.toList.drop i=o::ops.toList.drop (i+1):=by
 have c:ops.toList[i]?=some o:=by simpa using h
 obtain⟨hi,d⟩:=ae.1 c;rw[aU hi,d]
theorem Ry{v:PV}{g:List fB->List fB}(h:ue P hn r ops i c.1=some (v,g c.1.heap))(e:G P E hn r ops (i+1) (mn E hn r ops i c v g) Q):G P E hn r ops i c Q:=by
 simp only[ue]at h;cases d:ops[i]? with
 |none=>rw[d]at h;cases h
 |some o=>
  rw[d]at h;simp only at h;by_cases hw:fU ops c.1.slots o=some true
  .rw[ai hw]at h;unfold G;rw[wA d];refine vv hw ⟨v,_,⟨0,λk _=>Cb (Kf (jq P E k)) _ _ _ _ _ h⟩,?_⟩;simp only[G,mn,AL,d,zW]at e;exact e
  .rw[af hw]at h;cases h
theorem Su{o:Oper}(d:ops[i]?=some o)(hw:fU ops c.1.slots o=some true)(h:iV P E (hn.ownAt r i) o (ev c.1.slots) c.1.heap λv H=>G P E hn r ops (i+1) (mn E hn r ops i c v λ_=>H) Q):G P E hn r ops i c Q:=by
 unfold G;rw[wA d];refine vv hw ?_;simp only[G,mn,AL,d,zW]at h;exact h
theorem QB{o:Oper}{v:PV}(d:ops[i]?=some o)(h:∀K:PV->List fB->Prop,K v c.1.heap->iV P E (hn.ownAt r i) o (ev c.1.slots) c.1.heap K)(e:G P E hn r ops (i+1) (mn E hn r ops i c v id) Q)(hw:fU ops c.1.slots o=some true:=by kernel_rfl):G P E hn r ops i c Q:=
 Su d hw (h _ e)
theorem Zz{o:Oper}{v:PV}(g:List fB->List fB)(d:ops[i]?=some o)(hw:fU ops c.1.slots o=some true)(h:∀K:PV->List fB->Prop,K v (g c.1.heap)->iV P E (hn.ownAt r i) o (ev c.1.slots) c.1.heap K)(e:G P E hn r ops (i+1) (mn E hn r ops i c v g) Q):G P E hn r ops i c Q:=
 Su d hw (h _ e)
def rq(hn:Hint)(r:Nat)(ops:Array Oper)(i:Nat)(st:St):Option (FuncId×List PV):=
 match ops[i]? with
 |some o=>if fU ops st.slots o=some true then
   (match o.op with
    | .call c=>match c.callee,hn.ownAt r i with
     | .value x,[]=>match ev st.slots x with
      | .dat (.raw (.func (.func f) _ _))=>some (f,c.args.toList.map (ev st.slots))
      | .fn f cap=>some (f,c.args.toList.map (ev st.slots)++cap)
      |_=>none
     |_,_=>none
    |_=>none)else none
 |none=>none
theorem RA{f:fo}{args:List PV}{p:PV}{g:List fB->List fB}(hc:PC P E f args c.1.heap p (g c.1.heap))(h:rq hn r ops i c.1=some (f,args))(q:G P E hn r ops (i+1) (mn E hn r ops i c p g) Q):G P E hn r ops i c Q:=by
 obtain⟨N,s⟩:=hc;simp only[rq]at h;cases m:ops[i]? with
 |none=>rw[m]at h;cases h
 |some o=>
  rw[m]at h;simp only at h;by_cases hw:fU ops c.1.slots o=some true
  .rw[ai hw]at h;unfold G;rw[wA m];simp only[G,mn,AL,m,zW]at q;refine vv hw ⟨p,_,⟨N,λk e=>?_⟩,q⟩;split at h
   .rename_i t j;split at h
    .rename_i x d l;split at h
     .rename_i g a b n;cases h;rw[gq];simp only[j,d,l,n];exact s k e
     .rename_i g cap n;cases h;rw[gq];simp only[j,d,l,n];exact s k e
     .cases h
    .cases h
   .cases h
  .rw[af hw]at h;cases h
theorem Q5{f:fo}{args:List PV}{p:PV}{H H':List fB}(hc:PC P E f args H p H')(d:G P E hn r ops (i+1) (mn E hn r ops i c p λ_=>H') Q)(e:c.1.heap=H:=by kernel_rfl)(h:rq hn r ops i c.1=some (f,args):=by kernel_rfl):G P E hn r ops i c Q:=by
 subst e;exact RA (g:=λ_=>H') hc h d
theorem TT{o:Oper}{f:fo}{x:ft}{args:Array Operand}{ts:Array TypeId}{caps A:List PV}{j e:Nat}{ow':List (Nat×TypeId)}{p:PV}{H:List fB}(hc:PC P E f A H p H)(k:G P E hn r ops (i+1) (mn E hn r ops i c p id) Q)(l:ops[i]?=some o)(d:o.op=.call {callee:=.value x,args,argTypes:=ts})(hw:fU ops c.1.slots o=some true)(m:ev c.1.slots x=.fn f caps)(n:args.toList.map (ev c.1.slots)++caps=A)(q:c.1.heap=H)(g:hn.ownAt r i=(j,e)::ow')(s:(decide (6000<=j) && !decide (j=7000) && !decide (12000<=j))=true:=by decide):G P E hn r ops i c Q:=
 QB (v:=p) l (λK t=>WO d m g (by rw[n,q];exact hc) t s) k hw
def Sb(P:fm)(E:Env)(f:fo)(args:List PV)(H:List fB)(p:PV)(c:List fB):Prop:=∃X,PC P E f args H p (c++X)
def Kx(hn:Hint)(r:Nat)(ops:Array Oper)(i:Nat)(st:St):Option (FuncId×List PV×Nat×Nat):=
 match ops[i]? with
 |some o=>if fU ops st.slots o=some true then
   (match o.op with
    | .call c=>match c.callee,hn.ownAt r i with
     | .value x,(j,e)::_=>if 12500<=j/\j<13000 then(match HK (ev st.slots x)with
      |some (f,cap)=>some (f,c.args.toList.map (ev st.slots)++cap,j,tA (c.args.toList.map (ev st.slots)++cap)+e)
      |none=>none)else none
     |_,_=>none
    |_=>none)else none
 |none=>none
theorem AO{f:Nat->Nat}:([]:List fB).map (fB.ren f)=[]:=rfl
theorem kS{f:Nat->Nat}{x y:fB}{l m:List fB}(h:x.ren f=y)(c:l.map (fB.ren f)=m):(x::l).map (fB.ren f)=y::m:=by rw[zU,h,c]
theorem El{st:St}{f:fo}{A:List PV}{j n:Nat}(h:Kx hn r ops i st=some (f,A,j,n)):∃o x args ts cap e ow',ops[i]?=some o/\fU ops st.slots o=some true/\o.op=.call {callee:=.value x,args:=args,argTypes:=ts}/\HK (ev st.slots x)=some (f,cap)/\
  hn.ownAt r i=(j,e)::ow'/\args.toList.map (ev st.slots)++cap=A/\tA (args.toList.map (ev st.slots)++cap)+e=n/\12500<=j/\j<13000:=by
 simp only[Kx]at h;split at h
 case h_2=>cases h
 rename_i o l;by_cases hw:fU ops st.slots o=some true
 case neg=>rw[af hw]at h;cases h
 rw[ai hw]at h;split at h
 case h_2=>cases h
 rename_i p g;obtain⟨callee,args,ts⟩:=p;cases callee with
 |builtin b=>cases h
 |invoke x m=>cases h
 |value x=>
  cases c:hn.ownAt r i with
  |nil=>simp only[c]at h;cases h
  |cons q ow'=>
   obtain⟨k,e⟩:=q;simp only[c]at h;by_cases d:12500<=k/\k<13000
   case neg=>rw[af d]at h;cases h
   rw[ai d]at h;split at h
   case h_2=>cases h
   rename_i v cap s;simp only[j9,jI]at h;obtain⟨rfl,t,rfl,u⟩:=h;exact⟨o,x,args,ts,cap,e,ow',l,hw,g,s,rfl,t,u,d.1,d.2⟩
theorem Uh{f:fo}{A0 A:List PV}{p q:PV}{H0 W d g:List fB}{b n:Nat}(hc:Sb P E f A W p d)(s:H0.map (fB.ren (qA b n))=W)(t:d.map (fB.ren (uZ b n))=g)(u:G P E hn r ops (i+1) (mn E hn r ops i c q λH=>H.take b++g++H.drop n) Q)(h:Kx hn r ops i c.1=some (f,A0,12500+b,n):=by kernel_rfl)(v:A0.map (PV.ren (qA b n))=A:=by kernel_rfl)(w:(c.1.heap.take n).drop b=H0:=by kernel_rfl)(hi:(decide (b<=n) &&decide (n<=c.1.heap.length) &&decide (W.length=n - b) &&decide (b<c.1.heap.length) &&(ly (n - b) A &&W.all (fB.under (n - b))))=true:=by kernel_rfl)(y:(p.under (n - b) &&d.all (fB.under (n - b)))=true:=by kernel_rfl)(hl:d.length=n - b:=by kernel_rfl)(z:p.ren (uZ b n)=q:=by kernel_rfl)(j:decide (b<499)=true:=by kernel_rfl):G P E hn r ops i c Q:=by
 obtain⟨X,hc⟩:=hc;obtain⟨o,x,args,ts,cap,e,ow',B,hw,k,C,l,D,F,J,L⟩:=El h;have m:(d++X).take (n - b)=d:=by rw[<-hl];exact dC
 refine Zz (λH=>H.take b++g++H.drop n) B hw (λK I=>?_) u;exact UZ (cap:=cap) k C l F (by rw[D];exact v) (by rw[w];exact s) hc hi (by rw[m];exact y) (by rw[m,t,z];exact I) ⟨rfl,by have:=of_decide_eq_true j;omega⟩
def pY(args:List PV)(p:PV):Bool:=!args.any PV.lends||la p
def Ag(hn:Hint)(r:Nat)(ops:Array Oper)(i:Nat)(st:St)(p:PV):Option (FuncId×List fy):=match rq hn r ops i st with|some (f,args)=>if pY args p then(gp st.heap args).map λds=>(f,ds)else none|none=>none
theorem Y3{f:fo}{ds:List fy}{p:PV}{H0 j:List fB}(hc:PC P E f (ds.map .dat) H0 p j)(l:G P E hn r ops (i+1) (mn E hn r ops i c p id) Q)(k:(E.pure f &&(E.summ f).isNone)=true:=by kernel_rfl)(h:Ag hn r ops i c.1 p=some (f,ds):=by kernel_rfl):G P E hn r ops i c Q:=by
 simp only[jE,bQ]at k;simp only[Ag]at h;cases d:rq hn r ops i c.1 with
 |none=>rw[d]at h;cases h
 |some m=>
  obtain⟨g,args⟩:=m;rw[d]at h;simp only at h;by_cases hl:pY args p=true
  .rw[ai hl]at h;cases e:gp c.1.heap args with
   |none=>rw[e]at h;cases h
   |some ds'=>
    rw[e]at h;cases h;refine RA (g:=id) (Ff k.2 k.1 hc e (λn=>?_)) d l;simp only[pY,n,bC,cE]at hl;exact hl
  .rw[af hl]at h;cases h
def qO(c:Cf)(j:Nat)(b:Bool):Cf:=(⟨c.1.slots.set j (Qp b),c.1.heap⟩,c.2)
theorem VM{b:Bool}{p:Prop}[Decidable p](j:Nat)(g:b=decide p)(k:p->G P E hn r ops i (qO c j true) Q)(l:¬p->G P E hn r ops i (qO c j false) Q)(m:c.1.slots[j]?=some (Qp b):=by kernel_rfl):G P E hn r ops i c Q:=by
 obtain⟨q,f⟩:=ae.1 m
 have e:∀t,c.1.slots[j]=Qp t->qO c j t=c:=λt n=>by
  have:c.1.slots.set j (Qp t)=c.1.slots:=by rw[<-n,ck]
  simp only[qO,this]
 subst g;by_cases d:p
 .have:=k d;rw[e true (by rw[f,decide_eq_true d])]at this;exact this
 .have:=l d;rw[e false (by rw[f,zZ d])]at this;exact this
theorem Px{b:Bool}{p:Prop}[Decidable p]{e:Type}{f g:Option e}{d:e}(j:Nat)(hm:(if p then f else g)=some d)(k:b=decide p)(l:f=some d->G P E hn r ops i (qO c j true) Q)(m:g=some d->G P E hn r ops i (qO c j false) Q)(n:c.1.slots[j]?=some (Qp b):=by kernel_rfl):G P E hn r ops i c Q:=
 VM j k (λhc=>l (TE hc hm)) (λhc=>m (Ui hc hm)) n
theorem Q6(d:Q c)(h:decide (i=ops.size)=true:=by kernel_rfl):G P E hn r ops i c Q:=by
 have:=of_decide_eq_true h;subst this;exact⟨c.1,[],⟨0,λk _=>by rw[show ops.toList.drop ops.size=[] by simp];rfl⟩,by rw[jU];exact d⟩
theorem qd(call:gk)(pf:fo->Bool)(h:Hint)(r:Nat)(ops:Array Oper):∀(os:List Oper) (i:Nat) (st d:St) (fl:List Nat),gR P call pf h r ops i os st=some (d,fl)->kP P call h r ops i os st=some d
 |[],i,st,d,fl,c=>by
  simp only[gR,j9,jI]at c;obtain⟨rfl,rfl⟩:=c;rfl
 |o::os,i,st,d,fl,c=>by
  simp only[gR]at c;simp only[kP];cases k:iJ P call h r ops i o st with
  |none=>rw[k]at c;cases c
  |some e=>
   rw[k]at c;simp only at c |-;cases f:gR P call pf h r ops (i+1) os e with
   |none=>rw[f]at c;cases c
   |some x=>
    obtain⟨g,j⟩:=x;rw[f]at c;simp only[j9,jI]at c;obtain⟨rfl,rfl⟩:=c;exact qd call pf h r ops os (i+1) e g j f
theorem gd{st:St}{e:Ex->St->Prop}(h:G P E hn r ops 0 (st,[]) (λc=>e .normal c.1))(d:hn.flatAt r=none:=by kernel_rfl):R P E hn rg (.region r ops false) st e:=by
 obtain⟨s,fl,⟨N,f⟩,g⟩:=h;exact Wu ⟨s,⟨N,λk j=>qd _ _ _ _ _ _ _ _ _ _ (f k j)⟩,g⟩ d
theorem ZP{st:St}{d:Ex->St->Prop}(h:G P E hn r ops 0 (st,[]) (λc=>kR st.heap.length ops c.2=true/\d .normal c.1)):R P E hn rg (.region r ops true) st d:=by
 refine UE ?_;exact h
def p8:List Nat->List Nat->Bool
 |[],_=>true
 |a::fl,b::w=>decide (a<=b) &&p8 fl w
 |_::_,[]=>false
theorem sB:∀{fl w:List Nat},p8 fl w=true->∀i,fl.getD i 0<=w.getD i 0
 |[],_,_,i=>by simp
 |a::fl,b::w,h,i=>by
  simp only[p8,jE,zD]at h;cases i with
  |zero=>simpa using h.1
  |succ i=>simpa using sB h.2 i
theorem Di:∀{a b w:List Nat},p8 a w=true->p8 b (w.drop a.length)=true->p8 (a++b) w=true
 |[],_,_,_,h=>by simpa using h
 |x::a,b,y::w,h,c=>by
  simp only[p8,jE,aW]at h |-;exact⟨h.1,Di h.2 (by simpa using c)⟩
theorem KZ:∀a b c d:Fin 4,yZ a.val b.val=true->c<=a->d<=b->yZ c.val d.val=true:=by decide
theorem G6{a b c d:Nat}(h:yZ a b=true)(e:c<=a)(f:d<=b)(g:a<=3)(j:b<=3):yZ c d=true:=
 KZ ⟨a,by omega⟩ ⟨b,by omega⟩ ⟨c,by omega⟩ ⟨d,by omega⟩ h e f
theorem GQ{fl w A:List Nat}(h:p8 fl w=true)(hw:w.all (λa=>decide (a<=3))=true){x y:Nat}(c:pX ops w A x y=true):pX ops fl A x y=true:=by
 have f:∀z,w.getD z 0<=3:=λz=>by
  rw[jB];cases e:w[z]? with
  |none=>simp
  |some v=>simpa using an.1 hw v (jF e)
 unfold pX at c |-;split at c
 .simp only[jE,zS]at c |-;refine⟨c.1,?_⟩;rcases c.2 with d|d
  .exact Or.inl d
  .exact Or.inr (G6 d (sB h x) (sB h y) (f x) (f y))
 .rfl
theorem DQ{h0:Nat}{fl w:List Nat}(h:p8 fl w=true)(hw:(kR 0 ops w &&w.all (λa=>decide (a<=3)))=true):kR h0 ops fl=true:=by
 simp only[jE]at hw;obtain⟨c,d⟩:=hw;unfold kR at c |-;simp only[jE]at c |-
 have f:∀j,fl.getD j 0<=3:=λj=>by
  have n:=sB h j
  have p:w.getD j 0<=3:=by
   rw[jB];cases e:w[j]? with
   |none=>simp
   |some v=>simpa using an.1 d v (jF e)
  omega
 refine⟨⟨an.2 λj _=>?_,an.2 λa g=>?_⟩,c.2.1,an.2 λx k=>an.2 λy l=>?_⟩
 .have:=f j;rw[decide_eq_true (by omega:fl.getD j 0<16)];rfl
 .obtain⟨j,m,rfl⟩:=bM g;have:=f j;rw[jB,jC m]at this;simp only[aE]at this;rw[decide_eq_true (by omega:fl[j]%16≠9)];rfl
 .exact GQ h d (an.1 (an.1 c.2.2 x k) y l)
def H5(E:Env)(hn:Hint)(r:Nat)(ops:Array Oper):List Nat:=(List.range ops.size).map λi=>match ops[i]? with
 |some o=>kI E.pf hn r i o λ|.func f=>.dat (.raw (.func (.func f) #[] #[]))|_=>.undef
 |none=>0
@[reducible] def QW(w:List Nat)(i:Nat)(K:St->Prop):Cf->Prop:=λc=>p8 c.2 (w.drop i)=true/\K c.1
theorem Nx{st:St}{c:Ex->St->Prop}(h:G P E hn r ops 0 (st,[]) (QW (H5 E hn r ops) 0 (c .normal)))(hw:(kR 0 ops (H5 E hn r ops) &&(H5 E hn r ops).all (λa=>decide (a<=3)))=true:=by kernel_rfl):R P E hn rg (.region r ops true) st c:=
 ZP (by
  obtain⟨s,fl,d,e,f⟩:=h;exact⟨s,fl,d,DQ e hw,f⟩)
theorem HE{st:St}{d:Ex->St->Prop}(h:G P E hn r ops 0 (st,[]) (QW (List.replicate ops.size 99) 0 (d .normal)))(c:hn.flatAt r=none:=by kernel_rfl):R P E hn rg (.region r ops false) st d:=
 gd (by
  obtain⟨s,fl,e,g,f⟩:=h;exact⟨s,fl,e,f⟩) c
theorem Yy{w:List Nat}{i j k:Nat}{K:St->Prop}(C:List PV->St)(n:∀d,G P E hn r ops j (C d,[]) (QW w j K))(h:(∀b e,(_:e.1=C e.1.slots:=by kernel_rfl)->(_:(p8 e.2 (w.drop b) &&decide (e.2.length+b=j))=true:=by kernel_rfl)->G P E hn r ops j e (QW w b K))->G P E hn r ops k c (QW w i K)):G P E hn r ops k c (QW w i K):=
 h λb e p l=>by
  simp only[jE,zD]at l;obtain⟨f,g,m,q,s⟩:=n e.1.slots;rw[<-p]at m;refine⟨f,g,m,Di l.1 ?_,s⟩;rw[dB,show b+e.2.length=j by omega]
  simpa using q
end
section
variable{P:fm}{E:Env}{hn:Hint}{rg:Bool}{c a b:Code}{st:St}{Q Q':Ex->St->Prop}
theorem UD{x:ft}{t:Bool}{p:Prop}[Decidable p](c:t=decide p)(d:p->R P E hn rg a st Q)(e:¬p->R P E hn rg b st Q)(f:ev st.slots x=Qp t:=by kernel_rfl):R P E hn rg (.cond x a b) st Q:=by
 subst c;exact U8 f d e
theorem Pt{x:ft}{t:Bool}{p:Prop}[Decidable p]{d:Type}{e f:Option d}{c:d}(hm:(if p then e else f)=some c)(g:t=decide p)(j:e=some c->R P E hn rg a st Q)(k:f=some c->R P E hn rg b st Q)(l:ev st.slots x=Qp t:=by kernel_rfl):R P E hn rg (.cond x a b) st Q:=
 UD g (λhc=>j (TE hc hm)) (λhc=>k (Ui hc hm)) l
theorem Xe(C:List PV->St)(c:R P E hn rg a st λe s=>match e with|.normal=>∃d,s=C d|e=>Q e s)(f:∀d,Q .normal (C d)):R P E hn rg a st Q:=
 c.mono λe s h=>by
  cases e with
  |normal=>obtain⟨d,rfl⟩:=h;exact f d
  |exit id=>exact h
  |ret=>exact h
theorem TZ{C:List PV->St}(h:st=C st.slots:=by kernel_rfl):∃d,st=C d:=⟨_,h⟩
def JW:List Nat->Code->Code
 |[],c=>c
 |0::p,.seq a _=>JW p a
 |_::p,.seq _ b=>JW p b
 |0::p,.cond _ a _=>JW p a
 |_::p,.cond _ _ b=>JW p b
 |_::p,.block _ b=>JW p b
 |_::p,.loop b=>JW p b
 |_::p,.scope b=>JW p b
 |_,c=>c
def G0(f:Func):Code:=f.body.getD .skip
theorem Ow{b f:Code}{h0 c:Nat}{C:St}{d:Ex->St->Prop}(hR:∀st,iU c ((Q0 f).bind hn.keepAt) st=C->RL P E hn rg f c st d)(hst:iU c ((Q0 f).bind hn.keepAt) st=C)(after:∀e s,d e s->Q e s)(g:b=f:=by kernel_rfl)(j:h0=c:=by kernel_rfl):RL P E hn rg b h0 st Q:=by
 subst g;subst j;exact(hR st hst).mono after
theorem p6{h0:Nat}{st':St}(h:iU h0 ((Q0 b).bind hn.keepAt) st=st')(k:R P E hn rg b st' λe s=>match e with|.normal=>RL P E hn rg b h0 s Q|e=>Q e s):RL P E hn rg b h0 st Q:=by
 subst h;exact L9 k
theorem VO{H:List fB}{slots:List PV}{c:List ResultVar}{p:PV}(h:((ir P slots H c).bind λvs=>gM H (iO vs))=some p:=by kernel_rfl):∃vs,ir P slots H c=some vs/\gM H (iO vs)=some p:=by
 cases d:ir P slots H c with
 |none=>rw[d]at h;cases h
 |some vs=>rw[d]at h;exact⟨vs,rfl,h⟩
theorem sA{f:fo}{fn:Func}{ds:List fy}{H:List fB}{p:PV}(g:fn.body=some c)(hR:R P E (E.hint f) true c ⟨en fn.ntmps (ds.map .dat),[]⟩ λe s=>(match e with|.exit _=>False|_=>True)/\∃vs,ir P s.slots s.heap fn.results.toList=some vs/\gM s.heap (iO vs)=some p)(d:(mO P f &&((E.summ f).isNone &&E.pure f && !(E.split f &&(nm (ds.map .dat) &&true))))=true:=by kernel_rfl)(j:P.funcs[f]?=some fn:=by kernel_rfl)(hl:pY (ds.map .dat) p=true:=by kernel_rfl):PC P E f (ds.map .dat) H p H:=by
 simp only[jE,bQ]at d;refine LZ d.1 d.2.1.1 d.2.1.2 j g (pc _ _) hR (λk=>?_) (by cases l:E.split f<;>cases hi:nm (ds.map PV.dat)<;>simp_all);simp only[pY,k,bC,cE]at hl;exact hl
theorem gB{f:fo}{fn:Func}{args:List PV}{H H':List fB}{p:PV}(g:fn.body=some c)(hR:R P E (E.hint f) true c ⟨en fn.ntmps args,H⟩ λe s=>(match e with|.exit _=>False|_=>True)/\∃vs,ir P s.slots s.heap fn.results.toList=some vs/\p=iO vs/\H'=s.heap)(d:(mO P f &&((E.summ f).isNone && !E.pure f && !(E.split f &&(nm args &&H.isEmpty))))=true:=by kernel_rfl)(j:P.funcs[f]?=some fn:=by kernel_rfl):PC P E f args H p H':=by
 simp only[jE,bQ,cm,Bool.and_eq_false_iff]at d;refine ME d.1 d.2.1.1 d.2.1.2 j g hR ?_;have:=d.2.2;cases k:E.split f<;>cases hi:nm args<;>cases l:H.isEmpty<;>simp_all
theorem Nc{f:fo}{fn:Func}{args:List PV}{H d:List fB}{p:PV}(g:fn.body=some c)(hR:R P E (E.hint f) true c ⟨en fn.ntmps args,H⟩ λe s=>(match e with|.exit _=>False|_=>True)/\∃X,∃vs,ir P s.slots s.heap fn.results.toList=some vs/\p=iO vs/\d++X=s.heap)(j:(mO P f &&((E.summ f).isNone && !E.pure f && !(E.split f &&(nm args &&H.isEmpty))))=true:=by kernel_rfl)(k:P.funcs[f]?=some fn:=by kernel_rfl):Sb P E f args H p d:=by
 obtain⟨e,s,l,m,X,n⟩:=hR;exact⟨X,gB g ⟨e,s,l,m,n⟩ j k⟩
theorem G2(n:Nat){slots:List PV}{H d:List fB}{c:List ResultVar}{p:PV}(h:(ir P slots H c).map iO=some p)(f:d++H.drop n=H):∃X,∃vs,ir P slots H c=some vs/\p=iO vs/\d++X=H:=by
 cases e:ir P slots H c with
 |none=>rw[e]at h;cases h
 |some vs=>rw[e]at h;exact⟨_,vs,rfl,(jS h).symm,f⟩
theorem NI{slots:List PV}{H H':List fB}{c:List ResultVar}{p:PV}(h:(ir P slots H c).map iO=some p)(e:H'=H):∃vs,ir P slots H c=some vs/\p=iO vs/\H'=H:=by
 cases d:ir P slots H c with
 |none=>rw[d]at h;cases h
 |some vs=>rw[d]at h;exact⟨vs,rfl,(jS h).symm,e⟩
end
section
variable{P:fm}{E:Env}{hn:Hint}{r i:Nat}{ops:Array Oper}{c:Cf}{Q:Cf->Prop}
def BE(P:fm)(hn:Hint)(r:Nat)(ops:Array Oper)(i:Nat)(st:St):Option (PV×List fB):=
 match ops[i]? with
 |some o=>if fU ops st.slots o=some true then
   (match o.op with
    | .call c=>match c.callee with
     | .builtin b=>fZ P b c.argTypes (c.args.toList.map (ev st.slots)) st.heap
     |_=>none
    |_=>none)else none
 |none=>none
theorem FZ{x:PV×List fB}(h:BE P hn r ops i c.1=some x):ue P hn r ops i c.1=some x:=by
 simp only[BE]at h;simp only[ue];cases e:ops[i]? with
 |none=>rw[e]at h;cases h
 |some o=>
  rw[e]at h;simp only at h |-;by_cases hw:fU ops c.1.slots o=some true
  .rw[ai hw]at h |-;split at h
   .rename_i c d;split at h
    .rename_i b f;rw[gq];simp only[d,f,h]
    .cases h
   .cases h
  .rw[af hw]at h;cases h
def PS(n:Nat)(H:List fB):Option (PV×List fB):=some (Qd (n:Int),H)
theorem G3{d:Type}(f:d->fy)(l:List d){es:List fy}(e:es=l.map f)(j:G P E hn r ops (i+1) (mn E hn r ops i c (Qd (l.length:Int)) id) Q)(h:BE P hn r ops i c.1=PS es.length c.1.heap:=by kernel_rfl):G P E hn r ops i c Q:=by
 subst e;rw[jY]at h;exact Ry (g:=id) (FZ h) j
def LX(size:Nat)(es:List fy)(n:Int)(H:List fB):Option (PV×List fB):=if 0<=n then(match es[n.toNat]? with|some d=>if d.num=size then some (.iptr d.cells,H)else none|none=>none)else none
theorem mG{c:Type}{l:List c}{n:Int}{x:c}(h:idx l n=some x):0<=n/\l[n.toNat]?=some x:=by
 unfold idx at h;split at h
 .exact⟨by assumption,h⟩
 .cases h
theorem Ji{e:Type}(size:Nat)(f:e->fy)(l:List e)(n:Int)(x:e){es:List fy}{d:fy}(j:es=l.map f)(k:idx l n=some x)(m:f x=d)(p:d.num=size)(q:G P E hn r ops (i+1) (mn E hn r ops i c (.iptr d.cells) id) Q)(h:ue P hn r ops i c.1=LX size es n c.1.heap:=by kernel_rfl):G P E hn r ops i c Q:=by
 subst j;subst m;obtain⟨h0,s⟩:=mG k;refine Ry (g:=id) (h.trans ?_) q;simp only[LX,h0,ak,jD,s,jN,p,id]
theorem N5{d g:Type}{l:List d}{n:Int}{k:d->Option g}{j:g}(size:Nat)(f:d->fy){es:List fy}(hm:(idx l n>>=k)=some j)(m:es=l.map f)(p:∀x,(f x).num=size)(q:∀x,k x=some j->G P E hn r ops (i+1) (mn E hn r ops i c (.iptr (f x).cells) id) Q)(h:ue P hn r ops i c.1=LX size es n c.1.heap:=by kernel_rfl):G P E hn r ops i c Q:=by
 obtain⟨x,s,e⟩:=Z9 hm;exact Ji size f l n x m s rfl (p x) (q x e) h
def Ri(H:List fB)(e size bytes t n:Nat)(xs es:List fy):Option (PV×List fB):=
 if es.all (fy.fits size)then(if xs.all (fy.fits size)/\e=e/\n=xs.length/\(xs.length+es.length)*bytes<=gO then some (.vec t (xs++es),H.set t (.tok e (xs.length+es.length)))else none)else none
theorem KN{c:Type}{f:c->fy}{k:Nat}(h:∀a,fy.fits k (f a)=true)(l:List c):(l.map f).all (fy.fits k)=true:=by
 simp only[aR,j8];intro x _;exact h x
theorem p7{c:Type}{bytes:Nat}{l es r:List c}(h:app bytes l es=some r):(l.length+es.length)*bytes<=gO/\r=l++es:=by
 unfold app at h;split at h
 .exact⟨by assumption,(jS h).symm⟩
 .cases h
theorem Jh{d:Type}(e size bytes t:Nat)(f:d->fy)(l ys j:List d){xs es:List fy}{L:List d->List fy}(k:∀l,L l=l.map f)(m:xs=L l)(n:es=L ys)(p:∀a,fy.fits size (f a)=true)(q:app bytes l ys=some j)(s:G P E hn r ops (i+1) (mn E hn r ops i c (.vec t (L j)) λH=>H.set t (.tok e j.length)) Q)(h:BE P hn r ops i c.1=Ri c.1.heap e size bytes t l.length xs es:=by kernel_rfl):G P E hn r ops i c Q:=by
 subst m;subst n;obtain⟨u,rfl⟩:=p7 q;refine Ry (g:=λH=>H.set t (.tok e (l++ys).length)) (FZ (h.trans ?_)) s;simp only[Ri,k,KN p,ak,jY,true_and,u,zL,jV]
def IF(size:Nat)(es:List fy)(l h:Option Nat)(H:List fB):Option (PV×List fB):=
 match l,h with
 |some l,some h=>if l<=h/\h<=es.length/\(l==0||es.all λd=>d.num==size)then some (.dat (.lst ((es.take h).drop l)),H)else none
 |_,_=>none
def KJ(n:Int):Option Nat:=if 0<=n then some n.toNat else none
theorem IJ{c:Type}{l r:List c}{lo hi:Int}(h:sub l lo hi=some r):(0<=lo/\lo<=hi/\hi<=(l.length:Int))/\r=(l.take hi.toNat).drop lo.toNat:=by
 unfold sub at h;split at h
 .exact⟨by assumption,(jS h).symm⟩
 .cases h
theorem WS{j:Type}(size:Nat)(f:j->fy)(l k:List j)(lo hi:Int){es:List fy}{L:List j->List fy}{a b:Option Nat}(m:∀l,L l=l.map f)(n:es=L l)(p:∀a,(f a).num=size)(q:sub l lo hi=some k)(s:a=KJ lo)(e:b=KJ hi\/(b=some es.length/\hi=(l.length:Int)))(t:G P E hn r ops (i+1) (mn E hn r ops i c (.dat (.lst (L k))) id) Q)(h:ue P hn r ops i c.1=IF size es a b c.1.heap:=by kernel_rfl):G P E hn r ops i c Q:=by
 subst n;obtain⟨⟨u,z,A⟩,rfl⟩:=IJ q;refine Ry (g:=id) (h.trans ?_) t;have v:a=some lo.toNat:=by rw[s,KJ,ai u]
 have w:b=some hi.toNat:=by
  rcases e with e|⟨e,B⟩
  .rw[e,KJ,ai y8]
  .rw[e,m,jY];congr 1;omega
 have y:((l.map f).all λd=>d.num==size)=true:=by simp only[aR,j8];intro x _;simp[p x]
 subst v;subst w;simp only[IF,m,jY,y,dn,and_true];rw[ai ⟨by omega,by omega⟩,List.map_drop,dM];rfl
end
section
variable{P:fm}{E:Env}{ow:List (Nat×TypeId)}{o:Oper}{ρ:ft->PV}{H:List fB}{K:PV->List fB->Prop}
theorem K6{a b q:Int}(h:A5 a b=some q):b≠0/\q=W (a.tdiv b):=by
 unfold A5 at h;split at h
 .cases h
 .exact⟨by assumption,(jS h).symm⟩
theorem Lp{a b q:Int}(h:mX a b=some q):b≠0/\q=a.tmod b:=by
 unfold mX at h;split at h
 .cases h
 .exact⟨by assumption,(jS h).symm⟩
theorem T3{t c:fq}{x y:ft}{a b q:Int}(d:A5 a b=some q)(e:o.op=.binOp .quo t x y c)(f:ρ x=Qd a)(g:ρ y=Qd b)(j:K (Qd q) H):iV P E ow o ρ H K:=by
 obtain⟨h0,rfl⟩:=K6 d;exact TH e f g (af h0) j
theorem NT{t c:fq}{x y:ft}{a b q:Int}(d:mX a b=some q)(e:o.op=.binOp .rem t x y c)(f:ρ x=Qd a)(g:ρ y=Qd b)(j:K (Qd q) H):iV P E ow o ρ H K:=by
 obtain⟨h0,rfl⟩:=Lp d;exact TH e f g (af h0) j
theorem DM{k:Nat}{d:fy}(h:fy.fits k d=true):d.num=k:=by
 simp only[fy.fits,jE,bo]at h;exact h.1
end
def iL{c:Type}(l:List c)(n:Int)(y:c):Option (List c):=if 0<=n/\n.toNat<l.length then some (l.set n.toNat y)else none
def jb{c:Type}(bytes:Nat)(n:Int)(z:c):Option (List c):=if 0<=n/\n*(bytes:Int)<=(gO:Int)/\n<=9223372036854775807 then some (List.replicate n.toNat z)else none
theorem gx{c:Type}{l:List c}{n:Int}{x:c}(h:idx l n=some x):n=((n.toNat:Nat):Int):=by have:=(mG h).1;omega
theorem gV{c:Type}{l:List c}{n:Int}{x:c}(h:idx l n=some x):n.toNat<l.length:=(ae.1 (mG h).2).1
theorem wM{c:Type}{l l2:List c}{n:Int}{y:c}(h:iL l n y=some l2):n.toNat<l.length/\l2=l.set n.toNat y:=by
 unfold iL at h;split at h
 .rename_i d;exact⟨d.2,(jS h).symm⟩
 .cases h
theorem gK{c:Type}(f:c->fy){l:List c}{n:Int}{x:c}(h:idx l n=some x):(cellsOf f l)[0+n.toNat]?=some (.dat (f x)):=by
 simp only[cellsOf,zY,jD,(mG h).2,jN]
section
variable{P:fm}{E:Env}{ow:List (Nat×TypeId)}{o:Oper}{ρ:ft->PV}{H:List fB}{K:PV->List fB->Prop}
theorem B9{c:Type}{f:c->fy}(d:∀a,(f a).isCell=true)(y:c):(PV.dat (f y)).cell=true:=by
 have:=d y;cases h:f y with
 |agg cs=>rw[h]at this;cases this
 |_=>rfl
theorem D1{c:Type}(f:c->fy){l l2:List c}{n:Int}{y:c}{t e:fq}{x z:ft}{tt g:Nat}(k:iL l n y=some l2)(d:∀a,(f a).isCell=true)(hn:fJ P t=some 1)(m:o.op=.store t x z)(j:ρ x=.mp tt g (0+n.toNat))(p:H[tt]?=some (.mt e g (cellsOf f l)))(q:ρ z=.dat (f y))(hw:ow=[])(r:K (.tup []) (H.set tt (.mt e g (cellsOf f l2)))):iV P E ow o ρ H K:=by
 obtain⟨s,rfl⟩:=wM k;rw[zY]at j;refine Uz hn m j (ZN p) q (B9 d y) (by rw[gU];exact s) hw ?_ (AH f d l);rw[pQ];exact r
def gb(g:Nat)(b:Bool):Nat:=if b then g else g+1
theorem WE{d:Type}(f:d->fy){l es l2:List d}{ts e:fq}{x s:ft}{bytes tt g m:Nat}(u:app bytes l es=some l2)(w:∀a,(f a).isCell=true)(j:fA P ts=some e)(k:fJ P e=some 1)(n:bytesOf P e=some bytes)(p:(fL P e).map fy.num=some 1)(h0:decide (0<bytes)=true)(q:o.op=.call {callee:=.builtin .append,args:=#[s,x],argTypes:=#[ts,ts]})(c:ρ s=.ms tt g 0 m m)(hl:l.length=m)(hm:H[tt]?=some (.mt e g (cellsOf f l)))(r:iR H (ρ x)=some (cellsOf f es))(t:K (.ms tt (gb g es.isEmpty) 0 l2.length l2.length) (H.set tt (.mt e (gb g es.isEmpty) (cellsOf f l2)))):iV P E ow o ρ H K:=by
 subst hl;obtain⟨y,rfl⟩:=p7 u;cases es with
 |nil=>
  refine TW j k n p (of_decide_eq_true h0) q c r (v:=.ms tt g 0 l.length l.length) (H':=H) (by simp[ku,cellsOf]) ?_
  have z:H.set tt (.mt e g (cellsOf f l))=H:=by
   obtain⟨B,A⟩:=ae.1 hm;rw[<-A,ck]
  simpa[gb,z]using t
 |cons a es=>
  refine TW j k n p (of_decide_eq_true h0) q c r (vH w (ZN hm) (Nat.succ_pos _) rfl y) ?_
  simpa[gb]using t
theorem S7{w:Type}(f:w->fy){l es l2:List w}{ts e:fq}{x s:ft}{bytes tt g m size:Nat}(y:app bytes l es=some l2)(q:∀a,(f a).fits size=true)(r:es.isEmpty=false)(z:fA P ts=some e)(A:fJ P e=some size)(k:decide (1<size)=true)(B:bytesOf P e=some bytes)(C:(fL P e).map fy.num=some size)(h0:decide (0<bytes)=true)(D:o.op=.call {callee:=.builtin .append,args:=#[s,x],argTypes:=#[ts,ts]})(t:ρ s=.ms tt g 0 m m)(hl:l.length=m)(hm:H[tt]?=some (.mt e g (cellsOf f l)))(n:ρ x=.dat (.lst (es.map f)))(F:K (.ms tt (g+1) 0 l2.length l2.length) (H.set tt (.mt e (g+1) (cellsOf f l2)))):iV P E ow o ρ H K:=by
 subst hl;obtain⟨c,rfl⟩:=p7 y;replace k:=of_decide_eq_true k;cases es with
 |nil=>cases r
 |cons a es=>
  have G:(f a).isCell=false:=by
   have hn:=gC (q a);rw[oQ hn k];rfl
  have d:((a::es).map f).all (fy.fits size)=true:=by simp only[aR,j8];intro x _;exact q x
  have j:iR H (.dat (.lst ((a::es).map f)))=none:=by simp[iR,iE,G]
  have u:oy H e size bytes tt g 0 l.length (.dat (.lst ((a::es).map f)))=some (.ms tt (g+1) 0 (l.length+(a::es).length) (l.length+(a::es).length),H.set tt (.mt e (g+1) (cellsOf f (l++a::es)))):=by
   simp only[oy,iE,ZN hm]
   rw[ai ⟨k,d,trivial,trivial,trivial,by rw[gU],by simp,by simpa using c,by
    simp only[cellsOf,aR,j8];intro x _;have p:=gC (q x);show(!PV.flat (.dat (f x)))=true
    cases n:f x with
    |agg cs=>rfl
    |raw v=>rw[n]at p;simp[fy.num]at p;omega
    |lst es=>rw[n]at p;simp[fy.num]at p;omega⟩]
   simp[cellsOf];rfl
  refine iw (λcall=>?_) F
  have:fZ P .append #[ts,ts] [ρ s,ρ x] H=some (.ms tt (g+1) 0 (l++a::es).length (l++a::es).length,H.set tt (.mt e (g+1) (cellsOf f (l++a::es)))):=by
   rw[t,n];simp only[fZ,z,B,j,A,C,of_decide_eq_true h0,and_self,ak,u,jV]
  simp only[gq,D,zU,aN,this]
theorem P0{t e:fq}{x d:ft}{g:Type}{l:List g}{n:Int}{v:g}{i cap m:Nat}(c:idx l n=some v)(hl:l.length=m)(j:fA P t=some e)(k:fJ P e=some 1)(p:o.op=.indexAddr t x d)(hi:ρ d=Qd n)(q:ρ x=.arr i 0 m cap)(r:K (.ptr i n.toNat) H):iV P E ow o ρ H K:=by
 subst hl;have s:=gV c;have h0:=(mG c).1;have f:ρ d=.dat (.raw (.int .i64 n)):=hi;refine iw (λcall=>?_) r;simp only[gq,p,f,j,k,h0,ak,q,s,aK,zY]
theorem Vy{c:Type}(f:c->fy){l:List c}{n:Int}{v:c}{t:fq}{x:ft}{i:Nat}(d:idx l n=some v)(e:pF P t=some false)(hn:fJ P t=some 1)(g:o.op=.load t x)(j:ρ x=.ptr i n.toNat)(k:H[i]?=some (.box (cellsOf f l)))(m:K (.dat (f v)) H)(hw:ow=[]:=by kernel_rfl):iV P E ow o ρ H K:=by
 have p:(cellsOf f l)[n.toNat]?=some (.dat (f v)):=by have:=gK f d;rwa [zY]at this
 refine iw (λcall=>?_) m;simp[gq,jy,hw,g,e,hn,j,k,Gp p,ofCells]
theorem Rz{c:Type}(f:c->fy){l l2:List c}{n:Int}{y:c}{t:fq}{x z:ft}{i:Nat}(e:iL l n y=some l2)(d:∀a,(f a).isCell=true)(hn:fJ P t=some 1)(g:o.op=.store t x z)(j:ρ x=.ptr i n.toNat)(k:H[i]?=some (.box (cellsOf f l)))(m:ρ z=.dat (f y))(hw:ow=[])(p:K (.tup []) (H.set i (.box (cellsOf f l2)))):iV P E ow o ρ H K:=by
 obtain⟨q,rfl⟩:=wM e;refine iw (λcall=>?_) p
 have r:(PV.dat (f y)).cells=[.dat (f y)]:=by
  have:=d y;cases h:f y with
  |agg cs=>rw[h]at this;cases this
  |_=>rfl
 have s:nY (cellsOf f l) n.toNat [.dat (f y)]=some (cellsOf f (l.set n.toNat y)):=by
  rw[<-pQ,nY,ai (by rw[gU];simp;omega)];simp[List.set_eq_take_append_cons_drop,gU,q]
 simp only[gq,iP,hw,g,hn,j,k,m,r,zG,jL,bq,List.all_nil,B9 d y,cY,and_self,ak,s,jN]
theorem UQ{g:Type}(f:g->fy){z:g}{l:List g}{n:Int}{t e:fq}{j k:ft}{bytes:Nat}(d:jb bytes n z=some l)(r:fA P t=some e)(s:fL P e=some (f z))(u:fJ P e=some 1)(v:bytesOf P e=some bytes)(m:(f z).isCell=true)(w:o.op=.makeSlice t j k)(hl:ρ j=Qd n)(hc:ρ k=Qd n)(x:K (.arr H.length 0 l.length l.length) (H++[.box (cellsOf f l)]))(hw:ow=[]:=by kernel_rfl):iV P E ow o ρ H K:=by
 unfold jb at d;split at d
 .rename_i p;cases d;have q:ρ j=.dat (.raw (.int .i64 n)):=hl;have c:ρ k=.dat (.raw (.int .i64 n)):=hc;refine iw (λcall=>?_) x;have y:cellsOf f (List.replicate n.toNat z)=List.replicate n.toNat (.dat (f z)):=by simp[cellsOf]
  simp only[gq,w,hw,r,s,u,v,q,c,y,zJ];rw[ai ⟨p.1,aC _,p.2.1,p.2.2,m⟩]
 .cases d
def mg{c:Type}(l:List c):Nat:=if l.isEmpty then 0 else 1
theorem SS(N:Nat){g:Type}(f:g->fy){z:g}{l:List g}{n:Int}{t e:fq}{os:List (Nat×TypeId)}{j k:ft}{bytes:Nat}(d:jb bytes n z=some l)(r:fA P t=some e)(s:fL P e=some (f z))(u:fJ P e=some 1)(v:bytesOf P e=some bytes)(m:(f z).isCell=true)(h0:decide (0<bytes)=true)(w:o.op=.makeSlice t j k)(hl:ρ j=Qd n)(hc:ρ k=Qd n)(hw:ow=(1000,e)::os)(x:K (.ms N (mg l) 0 l.length l.length) (H++[.mt e (mg l) (cellsOf f l)]))(y:H.length=N:=by kernel_rfl):iV P E ow o ρ H K:=by
 subst y;unfold jb at d;split at d
 .rename_i p;cases d;have q:ρ j=.dat (.raw (.int .i64 n)):=hl;have c:ρ k=.dat (.raw (.int .i64 n)):=hc;refine iw (λcall=>?_) x;simp only[gq,w,hw,show¬8000<=1000 by omega,aj,ak,r,s,u,v,q,c,and_self,oJ];rw[ai ⟨p.1,p.2.1,p.2.2,of_decide_eq_true h0,.inl ⟨trivial,m⟩⟩];by_cases hn:n=0
  .subst hn;simp[mg,cellsOf]
  .have:n.toNat≠0:=by omega
   have A:mg (List.replicate n.toNat z)=1:=by simp[mg,this]
   have B:cellsOf f (List.replicate n.toNat z)=List.replicate n.toNat (.dat (f z)):=by simp[cellsOf]
   rw[af hn,A,B,zJ]
 .cases d
theorem UY{g:Type}(f:g->fy){z:g}{l:List g}{n:Int}{t e j e':fq}{os:List (Nat×TypeId)}{k m:ft}{bytes:Nat}(d:jb bytes n z=some l)(s:fA P t=some e)(u:fL P e=some (f z))(v:fJ P e=some 1)(w:bytesOf P e=some bytes)(p:(f z).isCell=true)(x:o.op=.makeSlice t k m)(hl:ρ k=Qd n)(hc:ρ m=Qd n)(hw:ow=(j,e')::os)(y:K (.dat (.lst (l.map f))) H)(A:8000<=j:=by decide):iV P E ow o ρ H K:=by
 unfold jb at d;split at d
 .rename_i q;cases d;have r:ρ k=.dat (.raw (.int .i64 n)):=hl;have c:ρ m=.dat (.raw (.int .i64 n)):=hc;refine iw (λcall=>?_) y;simp only[gq,x,hw,ai A,s,u,v,w,r,c,List.map_replicate];rw[ai ⟨q.1,trivial,q.2.1,q.2.2,p⟩]
 .cases d
end
section
variable{P:fm}{E:Env}{ow:List (Nat×TypeId)}{o:Oper}{ρ:ft->PV}{H:List fB}{K:PV->List fB->Prop}
theorem UG(N:Nat){d:Type}{c:d->fy}{l:List d}{f:fo}{x:ft}{args:Array Operand}{ts:Array TypeId}{first cap:Array Value}{ow':List (Nat×TypeId)}{j:Nat×TypeId}{ds:List fy}{t g cp e:Nat}{H1:List fB}(k:o.op=.call {callee:=.value x,args,argTypes:=ts})(m:ρ x=.dat (.raw (.func (.func f) first cap)))(hw:ow=j::ow')(hl:(!((args.toList.map ρ).any PV.lends)||(cellsOf c l).all PV.plainCell)=true)(n:gp H (args.toList.map ρ)=some ds)(hc:PC P E f (ds.map .dat) [] (.ms t g 0 l.length cp) H1)(hm:mtOf H1 t=some (e,g,cellsOf c l))(p:K (.ms N 1 0 l.length l.length) (H++[.mt e 1 (cellsOf c l)]))(q:H.length=N:=by kernel_rfl)(r:¬2000<=j.1:=by decide):iV P E ow o ρ H K:=by
 subst q;exact Vt k m hw hl n hc hm p r
theorem Sd(N:Nat){c:Type}(f:c->fy){z:c}{l:List c}{n:Int}{t e:fq}{g j:ft}{bytes:Nat}(k:jb bytes n z=some l)(m:fA P t=some e)(p:fL P e=some (f z))(q:fJ P e=some 1)(r:bytesOf P e=some bytes)(d:(f z).isCell=true)(s:o.op=.makeSlice t g j)(hl:ρ g=Qd n)(hc:ρ j=Qd n)(u:K (.arr N 0 l.length l.length) (H++[.box (cellsOf f l)]))(v:H.length=N:=by kernel_rfl)(hw:ow=[]:=by kernel_rfl):iV P E ow o ρ H K:=by
 subst v;exact UQ f k m p q r d s hl hc u hw
end
theorem tC{H:List fB}{cs:List PV}{ds:List fy}(h:kC H cs=some ds):gM H (.agg cs)=some (.dat (.agg ds)):=by simp only[gM,iu,h,jN]
theorem AX{H:List fB}{i o len cap:Nat}{d:fy}(h:fR H (.arr i o len cap)=some d):gM H (.arr i o len cap)=some (.dat d):=by simp only[gM,iu,h,jN]
theorem Nt{H:List fB}{t g lo len cap:Nat}{d:fy}(h:fR H (.ms t g lo len cap)=some d):gM H (.ms t g lo len cap)=some (.dat d):=by simp only[gM,iu,h,jN]
theorem tu{H:List fB}:gp H []=some []:=rfl
theorem ml{H:List fB}{v:PV}{vs:List PV}{d:fy}{ds:List fy}(c:iu H v=some d)(e:gp H vs=some ds):gp H (v::vs)=some (d::ds):=by simp only[gp,c,e]
theorem vp{H:List fB}{cs:List PV}{ds:List fy}(h:kC H cs=some ds):iu H (.agg cs)=some (.agg ds):=by simp only[iu,h,jN]
theorem DX{H:List fB}{i o len cap:Nat}{d:fy}(h:fR H (.arr i o len cap)=some d):iu H (.arr i o len cap)=some d:=h
theorem xV{H:List fB}{t g lo len cap:Nat}{d:fy}(h:fR H (.ms t g lo len cap)=some d):iu H (.ms t g lo len cap)=some d:=h
theorem mT{H:List fB}:kC H []=some []:=rfl
theorem fK{H:List fB}{v:PV}{vs:List PV}{d:fy}{ds:List fy}(c:fR H v=some d)(e:kC H vs=some ds):kC H (v::vs)=some (d::ds):=by simp only[kC,c,e]
theorem qi{H:List fB}{c:Type}(f:c->fy)(l:List c){i cap m:Nat}(hl:l.length=m)(d:∀a,(f a).isCell=true)(e:H[i]?=some (.box (cellsOf f l)))(hc:m<=cap:=by first|exact j7 _|assumption|omega):fR H (.arr i 0 m cap)=some (.lst (l.map f)):=by
 subst hl;exact Ll (cap:=cap) f d e
theorem IG{H:List fB}{c:Type}(f:c->fy)(l:List c){t g e cap m:Nat}(hl:l.length=m)(j:∀a,(f a).isCell=false)(k:H[t]?=some (.mt e g (cellsOf f l))):fR H (.ms t g 0 m cap)=some (.lst (l.map f)):=by
 subst hl
 have n:cut (cellsOf f l) 0 l.length=some (cellsOf f l):=by
  rw[cut,ai (by rw[gU];omega),cw,show l.length=(cellsOf f l).length by rw[gU],cO]
 have p:((l.map f).all λd=>!d.isCell)=true:=by simp only[aR,j8];intro x _;simp[j x]
 simp only[fR,ZN k,ak,n,zW,lA,wQ,p,beq_self_eq_true,aY,dn]
theorem kG{H:List fB}{c:Type}(f:c->fy)(l:List c){t g e cap m:Nat}(hl:l.length=m)(d:∀a,(f a).isCell=true)(j:H[t]?=some (.mt e g (cellsOf f l))):fR H (.ms t g 0 m cap)=some (.lst (l.map f)):=by
 subst hl;have:=M3 (g:=g) (t:=t) (cap:=cap) (f:=f) d (ZN j) (j7 _)
 rwa [cO]at this
section
variable{P:fm}{E:Env}{hn:Hint}{rg:Bool}{r i:Nat}{ops:Array Oper}{c:Cf}{Q:Cf->Prop}
theorem JI{H:List fB}{slots:List PV}{c:List ResultVar}{p:PV}(vs:List PV)(h:ir P slots H c=some vs)(d:gM H (iO vs)=some p):∃vs,ir P slots H c=some vs/\gM H (iO vs)=some p:=⟨vs,h,d⟩
theorem GR{H:List fB}{slots:List PV}{c:List ResultVar}{p:PV}(h:((ir P slots H c).bind λvs=>if kN H (iO vs)=true then gM H (iO vs)else none)=some p:=by kernel_rfl):∃vs,ir P slots H c=some vs/\gM H (iO vs)=some p/\kN H (iO vs)=true:=by
 cases d:ir P slots H c with
 |none=>rw[d]at h;cases h
 |some vs=>
  rw[d,zW]at h;split at h
  .exact⟨vs,rfl,h,by assumption⟩
  .cases h
theorem vN{H:List fB}{slots:List PV}{c:List ResultVar}{p:PV}(vs:List PV)(h:ir P slots H c=some vs)(d:gM H (iO vs)=some p)(e:kN H (iO vs)=true):∃vs,ir P slots H c=some vs/\gM H (iO vs)=some p/\kN H (iO vs)=true:=⟨vs,h,d,e⟩
theorem Lj{H:List fB}{cs:List PV}(h:cs.all (lF H)=true):kN H (.agg cs)=true:=h
theorem If{H:List fB}:([]:List PV).all (lF H)=true:=rfl
theorem kk{H:List fB}{v:PV}{vs:List PV}(c:lF H v=true)(d:vs.all (lF H)=true):(v::vs).all (lF H)=true:=by rw[bq,c,d];rfl
theorem KG{H:List fB}{c:Type}(f:c->fy)(l:List c){i cap m:Nat}(hl:l.length=m)(d:∀a,(f a).isCell=true)(e:H[i]?=some (.box (cellsOf f l)))(g:∀a,(f a).isRaw=true:=by intro _;rfl)(hc:m<=cap:=by first|exact j7 _|assumption|omega):lF H (.arr i 0 m cap)=true:=by
 simp only[lF,qi f l (cap:=cap) hl d e,xi,aR,j8];intro a _;exact g a
def FF(P:fm)(E:Env)(f:fo)(ds:List fy)(p:PV):Prop:=∀args H,gp H args=some ds->PC P E f args H p H
theorem Vc{f:fo}{fn:Func}{ds:List fy}{p:PV}{c:Code}(q:fn.body=some c)(hR:R P E (E.hint f) true c ⟨en fn.ntmps (ds.map .dat),[]⟩ λe s=>(match e with|.exit _=>False|_=>True)/\∃vs,ir P s.slots s.heap fn.results.toList=some vs/\gM s.heap (iO vs)=some p/\kN s.heap (iO vs)=true)(d:(mO P f &&((E.summ f).isNone &&E.pure f && !(E.split f &&(nm (ds.map .dat) &&true))))=true:=by kernel_rfl)(r:P.funcs[f]?=some fn:=by kernel_rfl):FF P E f ds p:=by
 intro args H g;simp only[jE,bQ]at d;obtain⟨e,s,⟨N,t⟩,u,vs,m,v,w⟩:=hR;refine⟨N+1,λk x=>?_⟩;cases k with
 |zero=>omega
 |succ k=>
  have j:(E.split f &&(nm (ds.map PV.dat) &&([]:List fB).isEmpty))=false:=by cases y:E.split f<;>cases hi:nm (ds.map PV.dat)<;>simp_all
  have l:kV P E (jq P E k) k f (ds.map .dat) []=some (iO vs,s.heap):=by
   unfold kV;rw[j];simp only[j6,aj];have n:=t k k y8 y8;unfold en at n;unfold qh;simp only[r,q,n];cases e with
   |exit id=>exact u.elim
   |normal=>simp[m]
   |ret=>simp[m]
  unfold jq;simp only[d.1,d.2.1.1,d.2.1.2,bC,j6,aj,ak,g,l,v,w,dn,dz]
theorem U6{f:fo}{ds:List fy}{p:PV}(h:FF P E f ds p)(H:List fB):PC P E f (ds.map .dat) H p H:=h _ H (pc _ _)
theorem UR{f:fo}{ds:List fy}{args:List PV}{p:PV}(hc:FF P E f ds p)(d:gp c.1.heap args=some ds)(e:G P E hn r ops (i+1) (mn E hn r ops i c p id) Q)(h:rq hn r ops i c.1=some (f,args):=by kernel_rfl):G P E hn r ops i c Q:=RA (g:=id) (hc _ _ d) h e
theorem Vm{f:fo}{ds:List fy}{args:List PV}{p:PV}{H0 d:List fB}(hc:PC P E f (ds.map .dat) H0 p d)(e:gp c.1.heap args=some ds)(k:G P E hn r ops (i+1) (mn E hn r ops i c p id) Q)(j:(E.pure f &&(E.summ f).isNone)=true:=by kernel_rfl)(h:rq hn r ops i c.1=some (f,args):=by kernel_rfl)(hl:pY args p=true:=by kernel_rfl):G P E hn r ops i c Q:=by
 simp only[jE,bQ]at j;refine RA (g:=id) (Ff j.2 j.1 hc e (λl=>?_)) h k;simp only[pY,l,bC,cE]at hl;exact hl
theorem kZ{fl:Bool}{c:Type}(f:c->fy)(H:List fB)(h0:Nat)(l:List c):fN fl H h0 (.box (cellsOf f l))=.box (cellsOf f l):=Gz f H h0 l
theorem iq{fl:Bool}{H:List fB}{h0:Nat}:([]:List fB).map (fN fl H h0)=[]:=rfl
theorem fD{fl:Bool}{H:List fB}{h0:Nat}{b d:fB}{bs c:List fB}(e:fN fl H h0 b=d)(f:bs.map (fN fl H h0)=c):(b::bs).map (fN fl H h0)=d::c:=by rw[zU,e,f]
theorem fO{st:St}{h0:Nat}{keep:Option (List Nat)}{ks:List Nat}{H':List fB}{c:List PV}(bs:List fB)(d:∀H,bs.map (fN (Ly ks) H h0)=H')(e:keep=some ks)(f:st.heap.take h0=bs:=by kernel_rfl)(g:qV (Ly ks) st.heap h0 ks 0 st.slots=c:=by kernel_rfl):iU h0 keep st=⟨c,H'⟩:=by
 rw[Es e,f,d,g]
theorem Co{a b:Bool}(h:b=true):(a||b)=true:=by rw[h,dn]
end
section
variable{P:fm}{E:Env}{hn:Hint}{r i:Nat}{ops:Array Oper}{c:Cf}{Q:Cf->Prop}
end
section
variable{P:fm}{E:Env}{ow:List (Nat×TypeId)}{o:Oper}{ρ:ft->PV}{H:List fB}{K:PV->List fB->Prop}
theorem zm{H:List fB}:ga H []=some ([],H):=rfl
theorem lu{H H':List fB}{d:fy}{cs:List PV}{ds:List fy}(h:ga H cs=some (ds,H')):ga H (.dat d::cs)=some (d::ds,H'):=by
 simp only[ga,gY,h]
theorem uk{d:Type}(f:d->fy){l:List d}{H H':List fB}{t e g n cap:Nat}{cs:List PV}{ds:List fy}(m:∀a,(f a).isCell=true)(j:H[t]?=some (.mt e g (cellsOf f l)))(hl:l.length=n)(h:ga (H.set t (.mt e (g+1) [])) cs=some (ds,H')):
  ga H (.ms t g 0 n cap::cs)=some (.lst (l.map f)::ds,H'):=by
 subst hl;have hm:mtOf H t=some (e,g,cellsOf f l):=by simp[mtOf,j,fB.mtOf]
 have p:fR H (.ms t g 0 l.length cap)=some (.lst (l.map f)):=by
  simp only[fR,hm,ak]
  have k:cut (cellsOf f l) 0 l.length=some (cellsOf f l):=by
   have c:(cellsOf f l).length=l.length:=by simp[cellsOf]
   simp only[cut,c,zY,j7,ak,cw];rw[cG (by rw[c];exact j7 _)]
  have q:gQ (cellsOf f l)=some (l.map f):=by
   unfold cellsOf;clear k hm j h;induction l with
   |nil=>rfl
   |cons a l r=>simp only[zU,gQ,r,jN]
  have s:wQ 0 (l.map f)=true:=by
   simp only[wQ,zS];left;rw[aR,j8];exact λa _=>m a
  simp only[k,q,zW,s,ak]
 simp only[ga,gY,p,hm,h]
theorem R7{t:fq}{x:ft}{n i off:Nat}{j:Nat×TypeId}{ow':List (Nat×TypeId)}{bs cs:List PV}{ds:List fy}{H':List fB}(d:o.op=.load t x)(hw:ow=j::ow')(e:pF P t=some true)(hn:fJ P t=some n)(f:ρ x=.ptr i off)(g:H[i]?=some (.box bs))(hc:cut bs off n=some cs)(hm:mkAgg cs=.agg cs)(c:ga H cs=some (ds,H'))(k:K (.dat (.agg ds)) H'):iV P E ow o ρ H K:=by
 refine iw (λcall=>?_) k;have l:jy P t (ρ x) H=some (.agg cs,H):=by simp only[jy,e,hn,f,g,hc,zW,ofCells,ak,hm,jN]
 obtain⟨m,p⟩:=j;simp only[gq,d,hw,l,c,jN]
end
end Go.Pm
