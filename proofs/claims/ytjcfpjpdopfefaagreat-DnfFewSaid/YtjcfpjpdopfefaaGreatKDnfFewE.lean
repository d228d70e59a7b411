/-
 Models of functions, their walks, and plain laws.
-/
import Derived.Test.YtjcfpjpdopfefaaGreatKDnfFewD
namespace Go.Proofs.Tryz
open Go Go.Pm
set_option linter.all false
set_option maxRecDepth 2000
-- Plain laws: the run with an index, in the program and in the reference.
def oI(r:Qq)(k:Nat):Qi:=if r.fill=true then⟨true,0,0⟩else⟨false,r.buffer,r.offset+k*r.step⟩
structure xF (r:Qq):Prop where
 b:0<=r.buffer/\r.buffer<=100000
 o:0<=r.offset/\r.offset<=200
 s:-200<=r.step/\r.step<=200
def gn(l:List Qi):Nat->List Qq->Prop
 |a,[]=>a=l.length
 |a,r::R=>∃m:Nat,(r.at0_=(a:Int)/\r.len=(m:Int))/\(1<=m/\a+m<=l.length)/\(∀k,k<m->ce l (a+k)=oI r k)/\xF r/\gn l (a+m) R
theorem CJ{l:List Qi}(hc:∀c∈l,ng c):∀(f a:Nat),a<=l.length->l.length - a<=f->gn l a (Fi l f a)
 |0,a,m,n=>by
  simp only[Fi,gn];omega
 |f+1,a,m,n=>by
  rw[Fi];split
  .rename_i h;have hn:=AD h;have hca:=hc _ (lQ h);refine⟨mJ l a,⟨rfl,rfl⟩,hn,λk p=>?_,⟨hca.1,hca.2.1,Nk hc a h⟩,CJ hc f _ hn.2 y8⟩;have e:oI (IL l a) k=pM (ce l a) (sR l a) k:=rfl;rw[e];by_cases h0:k=0
   .subst h0;unfold pM;by_cases d:(ce l a).fill=true
    .have j:=hca.2.2 d
     have:ce l (a+0)=ce l a:=rfl
     rw[this,ai d];generalize ce l a=x at d j;obtain⟨g,b,o⟩:=x;simp at d j;simp[d,j]
    .have:ce l (a+0)=ce l a:=rfl
     rw[this,af d];generalize ce l a=x at d;obtain⟨g,b,o⟩:=x;simp at d;simp[d]
   .exact qL.1 (AE l a _ 1 k y8 p)
  .simp only[gn];omega
def pos:List Qq->Nat->Nat×Nat
 |[],_=>(0,0)
 |r::R,g=>if g<r.len.toNat then(0,g)else((pos R (g - r.len.toNat)).1+1,(pos R (g - r.len.toNat)).2)
theorem wF{l:List Qi}:∀{R:List Qq} {a g:Nat},gn l a R->a+g<l.length->∃r,R[(pos R g).1]?=some r/\r.at0_+((pos R g).2:Int)=((a+g:Nat):Int)/\((pos R g).2:Int)<r.len/\ce l (a+g)=oI r (pos R g).2/\xF r
 |[],a,g,h,d=>by simp only[gn]at h;omega
 |r::R,a,g,h,d=>by
  obtain⟨m,⟨q,s⟩,⟨t,u⟩,e,f,j⟩:=h;rw[pos];have hm:r.len.toNat=m:=by omega
  rw[hm];split
  .rename_i c;exact⟨r,rfl,by simp;omega,by simp;omega,e g c,f⟩
  .rename_i c;obtain⟨k,k1,k2,k3,n,p⟩:=wF (g:=g - m) j y8;refine⟨k,by simpa using k1,by simp only;omega,k3,?_,p⟩;rw[show a+g=a+m+(g - m) by omega];exact n
theorem qg{l:List Qi}:∀{R:List Qq} {a:Nat},gn l a R->R.length+a<=l.length
 |[],a,h=>by simp only[gn]at h;simp;omega
 |r::R,a,h=>by
  obtain⟨m,_,⟨d,e⟩,_,_,c⟩:=h;have:=qg c;simp;omega
theorem Ce{l:List Qi}(hl:l.length<=600){g:Nat}(f:g<l.length):∀(s p:List Qq) (a:Nat),p.length<=a->a<=g->gn l a s->JG (p++s,(g:Int),(p.length:Int))=some (.inl ((p.length+(pos s (g - a)).1:Nat):Int))
 |[],p,a,j,k,h=>by simp only[gn]at h;omega
 |r::s,p,a,j,k,h=>by
  obtain⟨m,⟨t,u⟩,⟨v,w⟩,_,_,n⟩:=h;rw[JG,pos];have hm:r.len.toNat=m:=by omega
  have d:(g:Int)>=r.at0_:=by omega
  have q:W (r.at0_+r.len)=r.at0_+r.len:=gh y8 y8;simp only[Q4,ak,Qy,Qc,d,q,hm];by_cases c:g - a<m
  .have:(g:Int)<r.at0_+r.len:=by omega
   simp[this,c]
  .have hn:¬((g:Int)<r.at0_+r.len):=by omega
   have e:W ((p.length:Int)+1)=((p++[r]).length:Int):=by rw[gh y8 y8];simp
   simp only[hn,y3,j6,aj,c,e];rw[Qv,Ce hl f s (p++[r]) (a+m) y9 y8 n];simp only[jV,cg];rw[show g - (a+m)=g - a - m by omega];congr 2;omega
theorem rZ{l:List Qi}(hl:l.length<=600){R:List Qq}(hR:gn l 0 R){g:Nat}(c:g<l.length):Po (R,(g:Int))=some (((pos R g).1:Nat):Int):=by
 have e:=Ce hl c R [] 0 (j7 _) (zP _) hR
 have e':JG (R,(g:Int),0)=some (.inl (((pos R g).1:Nat):Int)):=by
  have:=e;simp only[jQ,jL,zY,Nat.sub_zero]at this;exact this
 simp only[Po,e',Qc]
def atR(R:List Qq)(i:Nat):Int:=(R.map (·.at0_)).getD i 0
theorem IZ{l:List Qi}:∀{R:List Qq} {a:Nat},gn l a R->∀i,i<R.length->(a:Int)<=atR R i
 |[],a,h,i,hi=>by simp at hi
 |r::R,a,h,i,hi=>by
  obtain⟨m,⟨c,e⟩,⟨f,g⟩,_,_,d⟩:=h;cases i with
  |zero=>simp[atR,c]
  |succ i=>
   have:=IZ d i (by simpa using hi);simp only[atR,zU,cT]at this |-;omega
theorem zy{l:List Qi}:∀{R:List Qq} {a:Nat},gn l a R->∀i j r,i<j->j<R.length->R[i]?=some r->atR R i+r.len<=atR R j
 |[],a,h,i,j,r,_,c,_=>by simp at c
 |f::R,a,h,i,j,r,e,c,hi=>by
  obtain⟨m,⟨g,k⟩,⟨n,p⟩,_,_,d⟩:=h;cases j with
  |zero=>omega
  |succ j=>
   cases i with
   |zero=>
    simp at hi;subst hi;have:=IZ d j (by simpa using c);simp only[atR,zU,List.getD_cons_zero,cT]at this |-;omega
   |succ i=>
    have:=zy d i j r y8 (by simpa using c) (by simpa using hi)
    simpa[atR]using this
theorem H8{R:List Qq}{i:Nat}{r:Qq}(h:R[i]?=some r):atR R i=r.at0_:=by simp[atR,h]
theorem uN{l:List Qi}:∀{R:List Qq} {a:Nat},gn l a R->∀r∈R,1<=r.len/\r.len<=1000000000\/l.length>600
 |[],a,h,r,c=>by simp at c
 |f::R,a,h,r,c=>by
  obtain⟨m,⟨g,j⟩,⟨k,n⟩,_,_,d⟩:=h;rcases aq.1 c with rfl|c
  .by_cases e:l.length>600
   .exact .inr e
   .exact .inl ⟨by omega,by omega⟩
  .exact uN d r c
theorem MZ{i j:Nat}(h:i+j<=1000000):W (Int.fdiv (IntKind.u64.wrap (W ((i:Int)+j))) 2)=(((i+j)/2:Nat):Int):=by
 have c:W ((i:Int)+j)=((i+j:Nat):Int):=by rw[gh y8 y8];omega
 have d:IntKind.u64.wrap ((i+j:Nat):Int)=((i+j:Nat):Int):=by
  simp only[IntKind.wrap,IntKind.bits,IntKind.signed];simp;omega
 rw[c,d]
 have e:Int.fdiv ((i+j:Nat):Int) 2=(((i+j)/2:Nat):Int):=by
  rw[Int.fdiv_eq_ediv_of_nonneg _ yC];omega
 rw[e];exact gh y8 y8
theorem DI(a b:Int):XY (a,b)=some (if a<b then -1 else if a>b then 1 else 0):=by
 unfold XY JE;simp only[bne_self_eq_false,Qc,j6,aj];split
 .rfl
 .split <;>rfl
theorem oc{R:List Qq}{i:Nat}{r:Qq}(h:R[i]?=some r):idx (R.map gm) (i:Int)=some (gm r):=by
 obtain⟨c,d⟩:=ae.1 h;rw[oP (by simpa using c)];simp[d]
theorem Ek{R:List Qq}(hl:R.length<=600)(g:Int):∀(n i j:Nat),j - i<=n->i<=j->j<=R.length->(∀k,k<i->atR R k<g)->(∀k,j<=k->k<R.length->g<=atR R k)->(∀i j,i<j->j<R.length->atR R i<atR R j)->
  ∃c:Nat,Qt (R.map gm,g,(i:Int),(j:Int))=some (c:Int)/\c<=R.length/\(∀k,k<c->atR R k<g)/\(∀k,c<=k->k<R.length->g<=atR R k)
 |0,i,j,hn,q,t,m,p,hm=>by
  rw[Qt]
  have:¬((i:Int)<(j:Int)):=by omega
  simp only[this,aj];exact⟨i,rfl,by omega,m,λk a b=>p k y8 b⟩
 |n+1,i,j,hn,q,t,m,p,hm=>by
  rw[Qt];by_cases h:(i:Int)<(j:Int)
  .have d:(i+j)/2<R.length:=by omega
   have u:R[(i+j)/2]?=some R[(i+j)/2]:=jC d;have v:=H8 u;have r:W ((((i+j)/2:Nat):Int)+1)=(((i+j)/2+1:Nat):Int):=by rw[gh y8 y8];omega
   simp only[h,ak,MZ (show i+j<=1000000 by omega),oc u,Qc,X6,DI,r];have s:(gm R[(i+j)/2]).at0_=R[(i+j)/2].at0_:=rfl;rw[s,<-v];by_cases f:atR R ((i+j)/2)<g
   .simp only[f,ak]
    exact Ek hl g n ((i+j)/2+1) j y8 y8 t (λk w=>by
     by_cases e:k=(i+j)/2
     .subst e;exact f
     .have:=hm k ((i+j)/2) y8 d;omega) p hm
   .have l:¬((if atR R ((i+j)/2)>g then(1:Int)else 0)<0):=by split <;>omega
    simp only[f,aj,l]
    exact Ek hl g n i ((i+j)/2) y8 y8 y8 m (λk a b=>by
     by_cases e:k=(i+j)/2
     .subst e;omega
     .have:=hm ((i+j)/2) k y8 b;omega) hm
  .simp only[h,aj];exact⟨i,rfl,by omega,m,λk a b=>p k y8 b⟩
theorem Cg{l:List Qi}(hl:l.length<=600){R:List Qq}(hR:gn l 0 R){g:Nat}(U:g<l.length):∃r,R[(pos R g).1]?=some r/\J5 (R.map gm,(g:Int))=some (gm r,((pos R g).2:Int),true):=by
 have E:=qg hR;obtain⟨r,n,G,H,V,X⟩:=wF (g:=g) hR y8;refine⟨r,n,?_⟩;generalize I:(pos R g).1=k at n;generalize Y:(pos R g).2=o at G H;have f:k<R.length:=(ae.1 n).1
 have d:∀i j,i<j->j<R.length->atR R i<atR R j:=λi j y J=>by
  have hi:R[i]?=some R[i]:=jC y8;have:=zy hR i j _ y J hi;have n:=uN hR R[i] (zC y8);omega
 obtain⟨c,e,c1,c2,x⟩:=Ek y8 (g:Int) R.length 0 R.length y8 (zP _) (j7 _) (λk I=>by omega) (λk a b=>by omega) d;have K:=H8 n;have L:=IZ hR k f
 have q:∀j,k<j->j<R.length->(g:Int)<atR R j:=λj a b=>by
  have:=zy hR k j r a b n;omega
 have e':Qt (R.map gm,(g:Int),0,(R.length:Int))=some (c:Int):=e
 have t:∀b:Bool,(if b=false then some (W ((c:Int) - 1))else some (c:Int))=some ((k:Nat):Int)->
   ((if b=false then some (W ((c:Int) - 1))else some (c:Int))>>=λu=>
    (if u<0 then some true else idx (R.map gm) u>>=λM=>idx (R.map gm) u>>=λN=>some (decide ((g:Int)>=(W (M.at0_+N.len)))))>>=λ(O:Bool)=>
    if O=true then some ((⟨0,0,false,0,0,0⟩:Qs),0,false)else idx (R.map gm) u>>=λP=>idx (R.map gm) u>>=λQ=>some (P,(W ((g:Int) - Q.at0_)),true))=some (gm r,(o:Int),true):=λb S=>by
  rw[S,Qc];have hn:¬(((k:Nat):Int)<0):=by omega
  have z:W ((gm r).at0_+(gm r).len)=r.at0_+r.len:=gh (by have:=uN hR r (jF n);simp only[gm];omega) (by have:=uN hR r (jF n);simp only[gm];omega);have v:¬((g:Int)>=r.at0_+r.len):=by omega
  have A:W ((g:Int) - (gm r).at0_)=(o:Int):=by rw[gh (by simp only[gm];omega) (by simp only[gm];omega)];simp only[gm];omega
  simp only[hn,aj,oc n,Qc,z,v,y3,j6,A]
 have T:QK (R.map gm,(g:Int))=some ((c:Int),decide (o=0)):=by
  simp only[QK,jY,e',Qc];by_cases o0:o=0
  .have m:c=k:=by
    rcases cn c k with h|h|h
    .have:=x c (j7 _) y8;have:=d c k h f;omega
    .exact h
    .have:=c2 k h;omega
   subst m;have p:((c:Nat):Int)<(R.length:Int):=by omega
   have B:r.at0_=(g:Int):=by omega
   have s:(gm r).at0_=r.at0_:=rfl;simp[p,oc n,Qc,X6,DI,s,B,o0]
  .have m:c=k+1:=by
    rcases cn c (k+1)with h|h|h
    .have:=x k y8 f;omega
    .exact h
    .have:=c2 (k+1) h;have:=q (k+1) y8 y8;omega
   by_cases p:((c:Nat):Int)<(R.length:Int)
   .have w:c<R.length:=by omega
    have F:R[c]?=some R[c]:=jC w;have Z:=H8 F;have:=q c y8 w;have s:(gm R[c]).at0_=R[c].at0_:=rfl;have C:¬(R[c].at0_<(g:Int)):=by omega
    have D:R[c].at0_>(g:Int):=by omega
    simp only[p,ak,oc F,Qc,X6,DI,s,C,D,aj];simp[o0]
   .simp[p,o0]
 simp only[J5,T,Qc];refine t _ ?_;by_cases o0:o=0
 .have m:c=k:=by
   rcases cn c k with h|h|h
   .have:=x c (j7 _) y8;have:=d c k h f;omega
   .exact h
   .have:=c2 k h;omega
  simp[o0,m]
 .have m:c=k+1:=by
   rcases cn c (k+1)with h|h|h
   .have:=x k y8 f;omega
   .exact h
   .have:=c2 (k+1) h;have:=q (k+1) y8 y8;omega
  have z:W ((c:Int) - 1)=(k:Int):=by rw[gh y8 y8];omega
  simp[o0,z]
-- Plain laws: the pieces of a reshape, row by row, in the program.
theorem Ge(S D j:fj)(g:Nat):∀(t p P q:fj) (o:Int),S=P++gF t->P.length=p.length->q.length=p.length->(q++List.replicate t.length 0).length=j.length->(p++t).length<=1000->(∀n∈t,1<=n)->0<=o->o<=65536->
  Q1 (S,j,g,D,q++List.replicate t.length 0,o,(p.length:Int))=some (q++iT t o)
 |[],p,P,q,o,e,c,l,m,r,s,f,x=>by
  rw[Q1]
  have:¬((p.length:Int)<(S.length:Int)):=by rw[e];simp[gF,c]
  simp only[this,aj];rfl
 |n::t,p,P,q,o,e,c,l,m,r,s,f,x=>by
  rw[Q1];have hpos:∀k∈t,1<=k:=λk y=>s k (jG _ y)
  have u:=fM hpos;have z:((p.length:Int)<(S.length:Int)):=by rw[e];simp[gF,c];omega
  have hi:idx S (p.length:Int)=some (fw t):=by rw[e,<-c];exact Qy
  have A:q++List.replicate (n::t).length (0:Int)=q++0::List.replicate t.length 0:=by rw[zG,aJ]
  have v:p.length<(q++List.replicate (n::t).length (0:Int)).length:=by simp;omega
  have d:(q++List.replicate (n::t).length (0:Int)).set p.length (o/fw t)=(q++[o/fw t])++List.replicate t.length 0:=by rw[A,<-l,qH]
  have w:W ((p.length:Int)+1)=((p++[n]).length:Int):=by
   simp at r;rw[lg y8 y8];simp
  have B:=bz o (show fw t≠0 by omega)
  have E:o%fw t<=o:=by
   have:=cL o (fw t)
   have:0<=fw t*(o/fw t):=cr y8 (dp f y8)
   omega
  have C:=Ge S D j g t (p++[n]) (P++[fw t]) (q++[o/fw t]) (o%fw t) (by rw[e];simp[gF]) (by simp[c]) (by simp[l]) (by simp at m |-;omega) (by rw[<-Qv];exact r) hpos B y8;simp only[z,ak,hi,Qc,L1 f u y8,fI m,oP v,jo v,d,oY f u,w,C,iT];simp
theorem yP{s:fj}{o:Int}(hc:fH s=0)(hpos:∀n∈s,1<=n)(c:0<=o)(j:o<fw s)(g:Nat):Y0 (s,o,g)=some (.inr (iT s o,gF s,s,s.length)):=by
 obtain⟨c1,c2,k⟩:=fE hc;have e:=Ge (gF s) s (List.replicate s.length 0) g s [] [] [] o yA rfl rfl yA y9 hpos c y8;simp only[jQ,jL,jJ]at e;have d:¬o<0:=by omega
 have f:¬o>=fw s:=by omega
 simp only[Y0,d,aj,ke s (jf (show s.length<=1000 by omega)),Qc,iS,hc,ak,f,y3,j6,Y8,oK hc hpos,YT,qE (show s.length<=1000 by omega),e,zJ]
def Sn:Qq:=⟨0,0,false,0,0,0⟩
def fS(R:List Qq)(g:Nat):Qq:=R.getD (pos R g).1 Sn
def p9(R:List Qq)(n:Nat):Nat->Nat->Nat->Nat->List (Nat×Nat×Qq×Nat)
 |0,_,_,_=>[]
 |k+1,f,x,w=>if w=0 then[]else(x,min w ((fS R (f%n)).len.toNat - (pos R (f%n)).2),fS R (f%n),(pos R (f%n)).2)::
   p9 R n k (f+min w ((fS R (f%n)).len.toNat - (pos R (f%n)).2)) (x+min w ((fS R (f%n)).len.toNat - (pos R (f%n)).2)) (w - min w ((fS R (f%n)).len.toNat - (pos R (f%n)).2))
def sd(r:Qq)(o c x:Nat):QD:=if r.fill=true then⟨1,0,0,[],0,0,0⟩else⟨2,r.buffer,r.offset+o*r.step - r.step*x,List.replicate c 0++[r.step],0,0,0⟩
def DH(c:fj)(q:Nat×Nat×Qq×Nat):Qk:=⟨⟨c++[(q.1:Int)],c.map (·+1)++[((q.1+q.2.1:Nat):Int)]⟩,sd q.2.2.1 q.2.2.2 c.length q.1⟩
def M5(a:QD):Qh:=⟨a.kind,a.buffer,a.base,a.strides,a.start,a.step,a.mod⟩
def km(p:Qk):Qa:=⟨⟨p.box.lo,p.box.hi⟩,M5 p.access⟩
theorem jm{l:List Qi}{R:List Qq}(hR:gn l 0 R){g:Nat}(p:g<l.length):R[(pos R g).1]?=some (fS R g)/\(fS R g).at0_+((pos R g).2:Int)=(g:Int)/\((pos R g).2:Int)<(fS R g).len/\ce l g=oI (fS R g) (pos R g).2/\xF (fS R g)/\(fS R g).len<=l.length:=by
 obtain⟨r,d,f,j,k,e⟩:=wF (g:=g) hR y8
 have:fS R g=r:=by simp[fS,d]
 rw[this];refine⟨d,by omega,j,by simpa using k,e,?_⟩
 have key:∀{R:List Qq} {a:Nat},gn l a R->∀r∈R,r.len<=l.length:=λ{R}=>by
  induction R with
  |nil=>intro a _ r c;simp at c
  |cons q R n=>
   intro a h r c;obtain⟨m,⟨s,t⟩,⟨d,f⟩,_,_,e⟩:=h;rcases aq.1 c with rfl|c
   .omega
   .exact n e r c
 exact key hR r (jF d)
theorem ql{p:fj}{x y:Int}:(p++[x]).set p.length y=p++[y]:=by simp
theorem lj{p:fj}{x:Int}:idx (p++[x]) (p.length:Int)=some x:=by simp[idx]
theorem Ab{p:fj}{x:Int}(h:p.length<=1000):W (((p++[x]).length:Int) - 1)=(p.length:Int):=by
 rw[gh (by simp <;>omega) (by simp <;>omega)];simp
theorem ED{r:Qq}(h:xF r){o:Nat}(c:o<=600):W ((o:Int)*r.step)=o*r.step/\W (r.offset+o*r.step)=r.offset+o*r.step/\-60000000<=(o:Int)*r.step/\(o:Int)*r.step<=60000000:=by
 have:=pz (a:=(o:Int)) (b:=r.step) (A:=600) (B:=200) y8 y8 h.s.1 h.s.2;have:=h.o;exact⟨gh y8 y8,gh y8 y8,by omega,by omega⟩
theorem uL{r:Qq}(h:xF r){o x:Nat}(g:o<=600)(t:x<=65536){c:fj}(u:c.length<=900):Jl (gm r,(o:Int),c++[(x:Int)])=some (M5 (sd r o c.length x)):=by
 obtain⟨j,k,v,w⟩:=ED h g;have z:=pz (a:=r.step) (b:=(x:Int)) (A:=200) (B:=65536) h.s.1 h.s.2 y8 y8;have l:W (r.step*(x:Int))=r.step*x:=gh y8 y8;have m:W (r.offset+(o:Int)*r.step - r.step*x)=r.offset+o*r.step - r.step*x:=by have:=h.o;exact gh y8 y8
 have e:((c.length:Nat):Int)>=0:=by omega
 unfold Jl sd;simp only[Ab (x:=(x:Int)) (show c.length<=1000 by omega)];by_cases f:r.fill=true
 .simp[gm,f,M5]
 .have d:List.replicate (c++[(x:Int)]).length (0:Int)=List.replicate c.length 0++[0]:=by simp[dq]
  have hl:(List.replicate c.length (0:Int)).length=c.length:=by simp
  have n:idx (List.replicate c.length (0:Int)++[0]) (c.length:Int)=some 0:=by
   have:=lj (p:=List.replicate c.length (0:Int)) (x:=0)
   rwa [hl]at this
  have q:iL (List.replicate c.length (0:Int)++[0]) (c.length:Int) r.step=some (List.replicate c.length 0++[r.step]):=by
   rw[jo yA];have:=ql (p:=List.replicate c.length (0:Int)) (x:=0) (y:=r.step);rw[hl]at this;rw[this]
  simp only[gm,f,aj,qE (show(c++[(x:Int)]).length<=1000 by simp;omega),d,Qc,e,ak,n,q,lj,j,k,l,m];rw[fI yA];rfl
theorem Lg{r:Qq}(h:xF r){o:Nat}(d:o<=600):Jl (gm r,(o:Int),[])=some (M5 (if r.fill=true then⟨1,0,0,[],0,0,0⟩else⟨2,r.buffer,r.offset+o*r.step,[],0,0,0⟩)):=by
 obtain⟨e,f,g,j⟩:=ED h d;unfold Jl;have hn:¬(W (((([]:fj).length:Nat):Int) - 1)>=0):=by rw[gh yA yA];simp
 by_cases c:r.fill=true
 .simp[gm,c,M5]
 .have hm:jb 8 (((([]:fj).length:Nat):Int)) (0:Int)=some []:=qE (n:=0) y8;simp only[gm,c,aj,hm,Qc,hn,e,f];rfl
theorem Bv{l:fj}(h:l.length<=1000):Qu l=some l:=by
 unfold Qu;rw[gj y9 y8];rfl
theorem EG(c:fj)(q0:List Qs)(q1 d e:Int)(q4:Nat)(f:List Qa)(g:Int)(j:Qs)(v:Nat)(q5 q6 k l:fj):
  ∀(s p:fj),c.length=p.length+s.length->p.length+s.length<=1000->(∀x∈s,0<=x/\x<=65536)->Zu (c,q0,q1,d,e,q4,f,g,j,v,q5,q6,k,l,p++s,(p.length:Int))=some (p++s.map (·+1))
 |[],p,m,q,r=>by
  rw[Zu]
  have:¬((p.length:Int)<(c.length:Int)):=by simp at m;omega
  simp[this]
 |x::s,p,m,q,r=>by
  rw[Zu];have t:((p.length:Int)<(c.length:Int)):=by simp at m;omega
  have B:=r x yA;have w:W (x+1)=x+1:=gh y8 y8;have z:(p++x::s).length=c.length:=by simp at m |-;omega
  have n:iL (p++x::s) (p.length:Int) (x+1)=some ((p++[x+1])++s):=by rw[jo yA,qH]
  have u:W ((p.length:Int)+1)=((p++[x+1]).length:Int):=by rw[gh y8 (by simp at q;omega)];simp
  simp only[t,ak,fI z,Qc,Qy,w,n,u];rw[EG c q0 q1 d e q4 f g j v q5 q6 k l s (p++[x+1]) (by simp at m |-;omega) (by simp at q |-;omega) (λy A=>r y (jG _ A))];simp
theorem KY{l:List Qi}(hl:l.length<=600){R:List Qq}(hR:gn l 0 R)(hn:1<=l.length)(n:Nat)(q5 q6 c:fj)(K:c.length<=500)(d:∀x∈c,0<=x/\x<=65536):
  ∀(k f x w:Nat) (out:List Qa),w<=k->x+w<=65536->f+w<=1000000->out.length+w<=1000000->
  Zd ((l.length:Int),R.map gm,c.length+1,n,q5,q6,c++[(x:Int)],(f:Int),(w:Int),out)=some (c++[((x+w:Nat):Int)],out++(p9 R l.length k f x w).map λq=>km (DH c q))
 |0,f,x,w,out,L,M,N,O=>by
  obtain rfl:w=0:=by omega
  rw[Zd];simp[p9]
 |k+1,f,x,w,out,L,M,N,O=>by
  rw[Zd,p9];by_cases hw:w=0
  .subst hw;simp
  .have p:((w:Nat):Int)>0:=by omega
   have e:((f:Int)% (l.length:Int))=((f%l.length:Nat):Int):=by omega
   have D:f%l.length<l.length:=bd _ y8;obtain⟨E,F,G,H,I,P⟩:=jm hR D;obtain⟨r,b1,b2⟩:=Cg hl hR D;rw[E]at b1;cases b1;generalize Z:(pos R (f%l.length)).2=o at F G H b2 |-;generalize hr:fS R (f%l.length)=r at E F G H I P b2 |-;have s:o<=600:=by omega
   have t:W ((gm r).len - (o:Int))=((r.len.toNat - o:Nat):Int):=by
    rw[gh (by simp only[gm];omega) (by simp only[gm];omega)];simp only[gm];omega
   have g:(if((r.len.toNat - o:Nat):Int)<(w:Int)then((r.len.toNat - o:Nat):Int)else(w:Int))=((min w (r.len.toNat - o):Nat):Int):=by
    split <;>omega
   generalize hz:min w (r.len.toNat - o)=z at g |-;have hz1:1<=z/\z<=w:=by omega
   have j:(c++[(x:Int)]).length=c.length+1:=by simp
   have Q:∀y∈c++[(x:Int)],0<=y/\y<=65536:=λy S=>by
    rcases aV.1 S with h|h
    .exact d y h
    .simp at h;omega
   have J:=EG (c++[(x:Int)]) (R.map gm) (l.length:Int) (f:Int) (w:Int) (c.length+1) out (o:Int) (gm r) n q5 q6 (c++[(x:Int)]) (c++[(x:Int)]) (c++[(x:Int)]) [] yA y9 Q;simp only[jQ,jL,jJ]at J;have u:W (((c.length+1:Nat):Int) - 1)=(c.length:Int):=by rw[gh y8 y8];omega
   have v:((c.length:Nat):Int)>=0:=by omega
   have hmap:(c++[(x:Int)]).map (·+1)=c.map (·+1)++[(x:Int)+1]:=by simp
   have m:(c.map (·+1)).length=c.length:=by simp
   have T:idx (c.map (·+1)++[(x:Int)+1]) (c.length:Int)=some ((x:Int)+1):=by rw[<-m];exact lj
   have A:W ((x:Int)+(z:Int))=((x+z:Nat):Int):=by rw[gh y8 y8];omega
   have U:∀y,iL (c.map (·+1)++[(x:Int)+1]) (c.length:Int) y=some (c.map (·+1)++[y]):=λy=>by
    rw[jo yA,<-m,ql]
   have V:∀y,iL (c++[(x:Int)]) (c.length:Int) y=some (c++[y]):=λy=>by
    rw[jo yA,ql]
   have X:(c.map (·+1)++[(x:Int)+1]).length=(c++[(x:Int)]).length:=by simp
   have Y:∀y:Int,(c.map (·+1)++[y]).length=(c++[(x:Int)]).length:=λy=>by simp
   have B:W ((f:Int)+(z:Int))=((f+z:Nat):Int):=by rw[gh y8 y8];omega
   have C:W ((w:Int) - (z:Int))=((w - z:Nat):Int):=by rw[gh y8 y8];omega
   simp only[p,ak,oY (show(0:Int)<=(f:Int) by omega) (show(1:Int)<=(l.length:Int) by omega),e,Qc,b2,fI j,Bv (show(c++[(x:Int)]).length<=1000 by simp;omega),J,uL I s (show x<=65536 by omega) (show c.length<=900 by omega),u,v,hmap,lj,fI X,T,t,g,A,U,V,fI (Y _)];rw[gj y9 y8,Qc,B,C,KY hl hR hn n q5 q6 c K d k (f+z) (x+z) (w - z) _ y8 y8 y8 y9];rw[af hw]
   have:x+z+(w - z)=x+w:=by omega
   rw[this];simp only[zU,aB,aM,j9,jI,true_and];rfl
theorem OA{l:List Qi}(hl:l.length<=600){R:List Qq}(hR:gn l 0 R)(hn:1<=l.length)(g:Nat)(q5 q6 c:fj)(j:c.length<=500)(d:∀x∈c,0<=x/\x<=65536){f w:Nat}(hw:w<=65536)(k:f<=65536):
  YO (R.map gm,(l.length:Int),(f:Int),(w:Int),c.length+1,q5,q6,c++[0],g)=some (c++[(w:Int)],(p9 R l.length w f 0 w).map λq=>km (DH c q)):=by
 have e:=KY hl hR hn g q5 q6 c j d w f 0 w [] (j7 _) y8 y8 y9;simp only[jJ,zY,jQ]at e;simp only[YO,e,Qc]
def nM(R:List Qq)(n:Nat)(a:fj)(w:Nat)(b m:Nat):List Qk:=(List.range' b m).flatMap λ(b:Nat)=>(p9 R n w (b*w) 0 w).map (DH (iT a (b:Int)))
theorem Dq(R:List Qq)(n:Nat):∀k f x w,(p9 R n k f x w).length<=k
 |0,f,x,w=>by simp[p9]
 |k+1,f,x,w=>by
  rw[p9];split
  .simp
  .have:=Dq R n k (f+min w ((fS R (f%n)).len.toNat - (pos R (f%n)).2)) (x+min w ((fS R (f%n)).len.toNat - (pos R (f%n)).2)) (w - min w ((fS R (f%n)).len.toNat - (pos R (f%n)).2));simp only[zG];omega
theorem NL{a:fj}(hc:fH a=0)(hpos:∀n∈a,1<=n){o:Int}(e:0<=o)(f:o<fw a):∀x∈iT a o,0<=x/\x<=65536:=λx c=>by
 have d:=qq hpos e f;obtain⟨c1,c2,g⟩:=fE hc
 have key:∀{s i:fj},iB s i=true->(∀n∈s,n<=65536)->∀x∈i,0<=x/\x<=65536:=λ{s}=>by
  induction s with
  |nil=>
   intro i d _ x c;cases i with
   |nil=>simp at c
   |cons=>simp[iB]at d
  |cons n s j=>
   intro i d hn x c;cases i with
   |nil=>simp[iB]at d
   |cons y i=>
    simp only[iB,jE,zD]at d;rcases aq.1 c with rfl|c
    .have:=hn n yA;omega
    .exact j d.2 (λn h=>hn n (jG _ h)) x c
 exact key d (λn h=>(g n h).2) x c
theorem wV{l:List Qi}(hl:l.length<=600){R:List Qq}(hR:gn l 0 R)(hn:1<=l.length){a:fj}{w B:Nat}(hw:1<=w)(hc:fH (a++[(w:Int)])=0)(hca:fH a=0)(hpos:∀n∈a,1<=n)(hB:fw a=(B:Int))(hBw:B*w<=65536)(p d:Qs)(u:W (p.at0_+d.len)=(l.length:Int)):∀(m b:Nat) (out:List Qa),b+m=B->out.length<=b*w->
  Zf (((B*w:Nat):Int),a++[(w:Int)],R.map gm,p,d,(w:Int),out,((b*w:Nat):Int))=some (out++(nM R l.length a w b m).map km)
 |0,b,out,v,y=>by
  rw[Zf]
  have:¬(((b*w:Nat):Int)<((B*w:Nat):Int)):=by rw[<-v];simp
  simp only[this,aj,nM,List.range'_zero,dc,aN,jU]
 |m+1,b,out,v,y=>by
  rw[Zf];have q:(b+1)*w<=B*w:=au _ y8;rw[av,bA]at q;have g:((b*w:Nat):Int)<((B*w:Nat):Int):=by omega
  have e:∀n∈a++[(w:Int)],1<=n:=λn h=>by
   rcases aV.1 h with h|h
   .exact hpos n h
   .simp at h;omega
  have x:fw (a++[(w:Int)])=((B*w:Nat):Int):=by rw[jv,hB,fV,ib,bO];simp
  have j:iT (a++[(w:Int)]) ((b*w:Nat):Int)=iT a (b:Int)++[0]:=by
   rw[wj a (w:Int) _ hpos y8 y8 (by rw[x];omega)];have z:((b*w:Nat):Int)/(w:Int)=(b:Int):=by rw[bR];exact Int.mul_ediv_cancel _ y8
   have A:((b*w:Nat):Int)% (w:Int)=0:=by rw[bR];exact Int.mul_emod_left _ _
   rw[z,A]
  obtain⟨c1,c2,D⟩:=fE hca;have r:(iT a (b:Int)).length=a.length:=kD _ _;have s:=NL hca hpos (show(0:Int)<=(b:Int) by omega) (by rw[hB];omega);have c:=OA hl hR hn out.length (gF (a++[(w:Int)])) (a++[(w:Int)]) (iT a (b:Int)) y8 s (f:=b*w) (w:=w) (by have:=Nat.le_mul_of_pos_left w (show 0<B by omega);omega) y8;rw[r]at c;have k:(a++[(w:Int)]).length=a.length+1:=by simp
  have t:W (((b*w:Nat):Int)+(w:Int))=(((b+1)*w:Nat):Int):=by
   rw[gh y8 y8,av,bA];omega
  have C:=Dq R l.length w (b*w) 0 w;simp only[g,ak,yP hc e (show(0:Int)<=((b*w:Nat):Int) by omega) (by rw[x];exact g),Qc,u,j,k,c];rw[gj y9 y8,Qc,t,wV hl hR hn hw hc hca hpos hB hBw p d u m (b+1) _ y8 (by simp[av];omega)];simp only[nM,cA,aS,zL,zF,aB];rfl
theorem vr{l:List Qi}:∀{R:List Qq} {a:Nat},gn l a R->1<=R.length->∃r,R[R.length - 1]?=some r/\r.at0_+r.len=(l.length:Int)
 |[],a,h,c=>by simp at c
 |[r],a,h,c=>by
  obtain⟨m,⟨e,f⟩,⟨c,g⟩,_,_,d⟩:=h;simp only[gn]at d;exact⟨r,rfl,by omega⟩
 |r::j::R,a,h,c=>by
  obtain⟨m,_,_,_,_,d⟩:=h;obtain⟨q,k1,k2⟩:=vr d yA;exact⟨q,by simpa using k1,k2⟩
theorem BP{l:List Qi}(hl:l.length<=600){R:List Qq}(hR:gn l 0 R)(m:2<=R.length){a:fj}{w B:Nat}(hw:1<=w)(hc:fH (a++[(w:Int)])=0)(hca:fH a=0)(hpos:∀n∈a,1<=n)(hB:fw a=(B:Int))(hBw:B*w<=65536):
  ZX (R.map gm,a++[(w:Int)])=some ((nM R l.length a w 0 B).map km):=by
 have j:=qg hR;obtain⟨r,k1,k2⟩:=vr hR y8;have p:fw (a++[(w:Int)])=((B*w:Nat):Int):=by rw[jv,hB,fV,ib,bO];simp
 have c:1<=B:=by have:=fM hpos;omega
 have k:1<=B*w:=Nat.mul_pos c hw;obtain⟨c1,c2,v⟩:=fE hc;have q:¬(((B*w:Nat):Int)=0):=by omega
 have s:((((R.map gm).length:Nat):Int)==0)=false:=by rw[jY];exact beq_false_of_ne y8
 have t:¬((((R.map gm).length:Nat):Int)=1):=by simp;omega
 have u:(((a++[(w:Int)]).length:Nat):Int)>0:=by simp <;>omega
 have d:W ((((R.map gm).length:Nat):Int) - 1)=((R.length - 1:Nat):Int):=by rw[jY,gh y8 y8];omega
 have hsum:W ((gm r).at0_+(gm r).len)=(l.length:Int):=by
  have:(gm r).at0_+(gm r).len=(l.length:Int):=k2
  rw[this];exact gh y8 y8
 have e:=wV hl hR y8 hw hc hca hpos hB hBw (gm r) (gm r) hsum B 0 [] y8 yA;have e':Zf (((B*w:Nat):Int),a++[(w:Int)],R.map gm,gm r,gm r,(w:Int),[],0)=some ((nM R l.length a w 0 B).map km):=by simpa using e
 have f:((a++[(w:Int)]).length:Nat)<=1000:=by omega
 have g:W (((a++[(w:Int)]).length:Int) - 1)=(a.length:Int):=Ab (by simp at c1;omega);simp only[ZX,ke _ (jf f),iS,hc,ak,p,Qc,q,aj,s,j6,t,u,g,lj,d,oc k1,e']
def oX(r:Qq):Qk:=⟨⟨[],[]⟩,if r.fill=true then⟨1,0,0,[],0,0,0⟩else⟨2,r.buffer,r.offset,[],0,0,0⟩⟩
theorem Bn{l:List Qi}(hl:l.length<=600){R:List Qq}(hR:gn l 0 R)(P:2<=R.length):ZX (R.map gm,[])=some [km (oX (fS R 0))]:=by
 have M:=qg hR;obtain⟨r,k1,k2⟩:=vr hR y8;have hc:fH []=0:=by decide
 have N:((((R.map gm).length:Nat):Int)==0)=false:=by rw[jY];exact beq_false_of_ne y8
 have Q:¬((((R.map gm).length:Nat):Int)=1):=by simp;omega
 have B:W ((((R.map gm).length:Nat):Int) - 1)=((R.length - 1:Nat):Int):=by rw[jY,gh y8 y8];omega
 have hsum:W ((gm r).at0_+(gm r).len)=(l.length:Int):=by
  have:(gm r).at0_+(gm r).len=(l.length:Int):=k2
  rw[this];exact gh y8 y8
 have O:0<l.length:=by omega
 obtain⟨S,X,Y,Z,T,a6⟩:=jm hR O;obtain⟨q,b1,b2⟩:=Cg hl hR O;rw[S]at b1;cases b1
 have C:(pos R 0).2=0:=by
  have:∀{R:List Qq} {a:Nat},gn l a R->(pos R 0).2=0:=λ{R}=>by
   intro a h;cases R with
   |nil=>rfl
   |cons r R=>
    obtain⟨m,⟨_,N⟩,⟨h1,_⟩,_⟩:=h;rw[pos,ai y8]
  exact this hR
 rw[C]at b2;have w:=yP (s:=[]) (o:=0) hc (λn h=>by simp at h) (aC _) yC 0;have U:(0:Int)% (l.length:Int)=0:=eW _;have D:¬(W ((gm (fS R 0)).len - (0:Nat))<1):=by rw[gh (by simp only[gm];omega) (by simp only[gm];omega)];simp only[gm];omega
 have t:∀out:List Qa,Zd ((l.length:Int),R.map gm,0,0,gF [],[],[],W ((0:Int)+1),W ((1:Int) - 1),out)=some ([],out):=λout=>by
  rw[Zd]
  have:¬(W ((1:Int) - 1)>0):=by decide
  simp only[this,aj]
 have c:=Lg T (o:=0) y8;simp only[jJ,fb,fc]at c
 have E:∀(d e:Int) (q4:Nat) (f:List Qa) (g:Int) (j:Qs) (F:Nat) (q5 q6 k p:fj),Zu ([],R.map gm,(l.length:Int),d,e,q4,f,g,j,F,q5,q6,k,p,[],0)=some []:=λd e q4 f g j F q5 q6 k p=>
  EG [] (R.map gm) (l.length:Int) d e q4 f g j F q5 q6 k p [] [] rfl yA (λx h=>by simp at h)
 have G:¬(W (((0:Nat):Int) - 1)>=0):=by decide
 have y:YO (R.map gm,(l.length:Int),0,1,0,gF [],[],[],0)=some ([],[km (oX (fS R 0))]):=by
  unfold YO;dsimp only;rw[Zd];have H:(1:Int)>0:=by decide
  have I:mX 0 (l.length:Int)=some 0:=by rw[oY (aC _) y8,U]
  have J:J5 (R.map gm,0)=some (gm (fS R 0),0,true):=b2;have z:¬(W ((gm (fS R 0)).len - 0)<1):=D;simp only[H,ak,I,Qc,J,fI (rfl:([]:fj).length=0),Bv (show([]:fj).length<=1000 by simp),E,c,G,aj,fI (rfl:([]:fj).length=([]:fj).length),z];rw[gj yA y8,Qc,t];rfl
 have A:Zf (1,[],R.map gm,gm r,gm r,1,[],0)=some [km (oX (fS R 0))]:=by
  rw[Zf];have K:(0:Int)<1:=by decide
  have u:Y0 ([],0,([]:List Qa).length)=some (.inr (iT [] 0,gF [],[],([]:fj).length)):=w;simp only[K,ak,u,Qc,hsum];have v:YO (R.map gm,(l.length:Int),0,1,([]:fj).length,gF [],[],iT [] 0,([]:List Qa).length)=some ([],[km (oX (fS R 0))]):=y;rw[v,Qc];simp only;rw[gj yA y8,Qc,Zf]
  have:¬(W ((0:Int)+1)<1):=by decide
  simp only[this,aj];rfl
 have L:¬((1:Int)=0):=by decide
 have V:¬(((([]:fj).length:Nat):Int)>0):=by simp
 simp only[ZX,ke [] (jf (show([]:fj).length<=1000 by simp)),iS,hc,ak,ib,Qc,L,aj,N,j6,Q,V,B,oc k1,A]
-- Plain laws: the pieces of a reshape, in the reference.
theorem pO{l:List Qi}:∀{R:List Qq} {a:Nat},gn l a R->pos R 0=(0,0)
 |[],a,h=>rfl
 |r::R,a,h=>by
  obtain⟨m,⟨_,c⟩,⟨d,_⟩,_⟩:=h;rw[pos,ai y8]
theorem vj{l:List Qi}:∀{R:List Qq} {a g:Nat},gn l a R->a+g+1<l.length->
  if((pos R g).2:Int)+1<(fS R g).len then pos R (g+1)=((pos R g).1,(pos R g).2+1)else pos R (g+1)=((pos R g).1+1,0)
 |[],a,g,h,n=>by simp only[gn]at h;omega
 |r::R,a,g,h,n=>by
  obtain⟨m,⟨p,q⟩,⟨s,t⟩,u,v,k⟩:=h;have hm:r.len.toNat=m:=by omega
  by_cases c:g<m
  .have p1:pos (r::R) g=(0,g):=by rw[pos,hm,ai c]
   have e:fS (r::R) g=r:=by simp[fS,p1]
   rw[e,p1];by_cases c2:g+1<m
   .have d:pos (r::R) (g+1)=(0,g+1):=by rw[pos,hm,ai c2]
    rw[ai (by simp only;omega),d]
   .have d:pos (r::R) (g+1)=(1,0):=by
     rw[pos,hm,af c2,show g+1 - m=0 by omega,pO k]
    rw[af (by simp only;omega),d]
  .have p1:pos (r::R) g=((pos R (g - m)).1+1,(pos R (g - m)).2):=by rw[pos,hm,af c]
   have d:pos (r::R) (g+1)=((pos R (g - m+1)).1+1,(pos R (g - m+1)).2):=by rw[pos,hm,af y8,show g+1 - m=g - m+1 by omega]
   have e:fS (r::R) g=fS R (g - m):=by simp[fS,p1]
   have f:=vj (g:=g - m) k y8;rw[e,p1,d];split at f
   .rename_i j;rw[ai j,f]
   .rename_i j;rw[af j,f]
theorem FN{l:List Qi}:∀{R:List Qq} {a:Nat},gn l a R->∀r∈R,0<=r.at0_/\r.at0_+r.len<=l.length
 |[],a,h,r,c=>by simp at c
 |e::R,a,h,r,c=>by
  obtain⟨m,⟨f,g⟩,⟨j,k⟩,_,_,d⟩:=h;rcases aq.1 c with rfl|c
  .omega
  .exact FN d r c
theorem CN{l:List Qi}{R:List Qq}(hR:gn l 0 R)(hn:1<=l.length)(f:Nat):
  if((pos R (f%l.length)).2:Int)+1<(fS R (f%l.length)).len then pos R ((f+1)%l.length)=((pos R (f%l.length)).1,(pos R (f%l.length)).2+1)else(pos R ((f+1)%l.length)).2=0:=by
 have d:f%l.length<l.length:=bd _ hn;obtain⟨n,p,q,r,s,t⟩:=jm hR d;have k:=FN hR _ (jF n);by_cases c:f%l.length+1<l.length
 .have e:(f+1)%l.length=f%l.length+1:=by
   rw[Nat.add_mod];by_cases m:l.length=1
   .omega
   .rw[bX (show 1<l.length by omega),bX c]
  have:=vj (g:=f%l.length) hR y8;rw[e];split at this
  .rename_i c2;rw[ai c2,this]
  .rename_i c2;rw[af c2,this]
 .have e:(f+1)%l.length=0:=by
   have m:f%l.length+1=l.length:=by omega
   rw[Nat.add_mod];by_cases j:l.length=1
   .rw[j];omega
   .rw[bX (show 1<l.length by omega),m,Nat.mod_self]
  rw[af y8,e,pO hR]
theorem OU{l:List Qi}{R:List Qq}(hR:gn l 0 R)(hn:1<=l.length)(f:Nat):∀i:Nat,((pos R (f%l.length)).2:Int)+i<(fS R (f%l.length)).len->pos R ((f+i)%l.length)=((pos R (f%l.length)).1,(pos R (f%l.length)).2+i)
 |0,h=>rfl
 |i+1,h=>by
  have c:=OU hR hn f i y8;have:=CN hR hn (f+i);have d:fS R ((f+i)%l.length)=fS R (f%l.length):=by simp only[fS,c]
  rw[d,c,ai (by simp only;omega)]at this;exact this
theorem TM{p1:fj}{v20:List (fj)}{v226:Int}{p0:List Qq}{v2:Int}{v223:Nat}{v225:List Qk}{v626 v627:Int}{v222 v641:fj}{i:fj}(hi:idx v20 v226=some i)(f:∀x∈i,0<=x/\x<=65536)(c:p1.length=i.length)(hl:i.length<=900):
  ∀(t p:fj) (g:Nat),i=p++t->∃g',YX (p1,v20,v226,p0,v2,v223,v225,v626,v627,v222,v641,g,p.map (·+1),(p.length:Int))=some (g',i.map (·+1))
 |[],p,g,e=>by
  rw[YX]
  have:¬((p.length:Int)<(p1.length:Int)):=by rw[c,e];simp
  simp only[this,aj];rw[e,jU];exact⟨g,rfl⟩
 |x::t,p,g,e=>by
  rw[YX];have j:((p.length:Int)<(p1.length:Int)):=by rw[c,e];simp;omega
  have k:idx i (p.length:Int)=some x:=by rw[e];exact Qy
  have q:=f x (by rw[e];simp);have l:W (x+1)=x+1:=gh y8 y8
  have d:W ((p.length:Int)+1)=((p++[x]).length:Int):=by
   have:p.length<=900:=by rw[e]at hl;simp at hl;omega
   rw[gh y8 y8];simp
  have m:app 8 (p.map (·+1)) [x+1]=some ((p++[x]).map (·+1)):=by
   have n:p.length<=900:=by rw[e]at hl;simp at hl;omega
   rw[gj y9 y8];simp
  obtain⟨g',h⟩:=TM (p1:=p1) (v20:=v20) (v226:=v226) (p0:=p0) (v2:=v2) (v223:=v223) (v225:=v225) (v626:=v626) (v627:=v627) (v222:=v222) (v641:=v641) hi f c hl t (p++[x]) (gb g ([x+1]:fj).isEmpty) (by rw[e];simp);exact⟨g',by simp only[j,ak,hi,Qc,k,l,m,d];exact h⟩
structure Ctx (l:List Qi) (R:List Qq) (a:fj) (w B:Nat):Prop where
 hl:l.length<=600
 hR:gn l 0 R
 hn:1<=l.length
 hw:1<=w
 hc:fH (a++[(w:Int)])=0
 hca:fH a=0
 hpos:∀n∈a,1<=n
 hB:fw a=(B:Int)
 hBw:B*w<=65536
section
variable{l:List Qi}{R:List Qq}{a:fj}{w B:Nat}
theorem Ctx.bw(C:Ctx l R a w B){b x:Nat}(d:b<B)(e:x<w):b*w+x<B*w:=by
 have c:(b+1)*w<=B*w:=au _ y8;rw[av,bA]at c;omega
theorem Ctx.posw(C:Ctx l R a w B):∀n∈a++[(w:Int)],1<=n:=λn h=>by
 rcases aV.1 h with h|h
 .exact C.hpos n h
 .have:=C.hw;simp at h;omega
theorem Ctx.P(C:Ctx l R a w B):fw (a++[(w:Int)])=((B*w:Nat):Int):=by rw[jv,C.hB,fV,ib,bO];simp
theorem Ctx.ix(C:Ctx l R a w B){b x:Nat}(d:b<B)(c:x<w):(ig (a++[(w:Int)]))[b*w+x]?=some (iT a (b:Int)++[(x:Int)]):=by
 have h:=C.bw d c;have hw:=C.hw;rw[kK C.posw _ (by rw[C.P];omega)];rw[wj a (w:Int) _ C.hpos y8 y8 (by rw[C.P];omega)]
 have e:((b*w+x:Nat):Int)/(w:Int)=(b:Int):=by
  have:(b*w+x)/w=b:=by rw[bB,Nat.mul_add_div y8,Nat.div_eq_of_lt c];omega
  rw[<-Int.natCast_ediv,this]
 have f:((b*w+x:Nat):Int)% (w:Int)=(x:Int):=by
  have:(b*w+x)%w=x:=by rw[bB,eu,bX c]
  rw[<-cy,this]
 rw[e,f]
theorem Ctx.len(C:Ctx l R a w B):(ig (a++[(w:Int)])).length=B*w:=by
 have:=ko (s:=a++[(w:Int)]) (λn h=>by have:=C.posw n h;omega);rw[C.P]at this;omega
theorem NG(C:Ctx l R a w B)(f x:Nat):((if((x:Int)==0)=true then some true else some (((f%l.length:Nat):Int)==0))>>=λ(c:Bool)=>if c=true then some true else Po (R,W (((f%l.length:Nat):Int) - 1))>>=λd=>some (d !=(((pos R (f%l.length)).1:Nat):Int)))=some (decide (x=0\/(pos R (f%l.length)).2=0)):=by
 have j:f%l.length<l.length:=bd _ C.hn;have hl:=C.hl;by_cases h0:x=0
 .subst h0;simp
 .have k:((x:Int)==0)=false:=by simpa using h0
  simp only[k,j6,aj,Qc];generalize p:f%l.length=g at *;cases g with
  |zero=>simp[pO C.hR]
  |succ g=>
   have m:(((g+1:Nat):Int)==0)=false:=beq_false_of_ne y8;have n:W (((g+1:Nat):Int) - 1)=(g:Int):=by rw[gh y8 y8];omega
   simp only[m,j6,aj,n,rZ C.hl C.hR (show g<l.length by omega),Qc];have e:=vj (g:=g) C.hR y8;split at e
   .rw[e];simp[h0]
   .rw[e];simp;omega
def LG(p:Qk)(h:fj):Qk:=⟨⟨p.box.lo,h⟩,p.access⟩
theorem zj{out:List Qk}{hi:fj}{p:Qk}(h:out.length<=70000):I8 120 (λ(c:Qk) (d:fj)=>(⟨⟨c.box.lo,d⟩,c.access⟩:Qk)) out hi p=some (Bh LG out hi++[p]):=by
 have e:100000*120<=gO:=by decide +kernel
 unfold I8;rw[ai y8];rfl
theorem IM(C:Ctx l R a w B){b x:Nat}(z:b<B)(A:x<w)(m:x≠0)(D:(pos R ((b*w+x)%l.length)).2≠0){out:List Qk}(h0:out≠[])(K:out.length<=70000){c:fj}(n:c.length=a.length){y:Int}(L:0<=y/\y<=70000)(g t:Nat):
  QI (ig (a++[(w:Int)]),(l.length:Int),R,a++[(w:Int)],g,c++[y],t,a.length+1,out,((b*w+x:Nat):Int))=QI (ig (a++[(w:Int)]),(l.length:Int),R,a++[(w:Int)],g,c++[y+1],t,a.length+1,out,((b*w+x+1:Nat):Int)):=by
 rw[QI];have E:=C.bw z A;have hBw:=C.hBw;have hn:=C.hn;obtain⟨c1,c2,M⟩:=fE C.hca;have p:(((b*w+x:Nat):Int)<((ig (a++[(w:Int)])).length:Int)):=by rw[C.len];omega
 have e:(((b*w+x:Nat):Int)% (l.length:Int))=(((b*w+x)%l.length:Nat):Int):=by rw[cy]
 have f:mX ((b*w+x:Nat):Int) (l.length:Int)=some (((b*w+x)%l.length:Nat):Int):=by rw[oY y8 y8,e]
 have d:=rZ C.hl C.hR (bd (b*w+x) hn);have q:W (((a++[(w:Int)]).length:Int) - 1)=(a.length:Int):=Ab y8;have j:¬((a.length:Int)<0):=by omega
 have r:=mB (C.ix z A);have s:(iT a (b:Int)).length=a.length:=kD _ _;have F:idx (iT a (b:Int)++[(x:Int)]) (a.length:Int)=some (x:Int):=by rw[<-s];exact lj
 have k:=NG C (b*w+x) x;rw[show decide (x=0\/(pos R ((b*w+x)%l.length)).2=0)=false by simp[m,D]]at k;have hpos:0<out.length:=by cases out with|nil=>exact absurd rfl h0|cons=>simp
 have G:QR (0<out.length/\out.length<=4611686018427387904)=some ():=fI ⟨hpos,by omega⟩;have H:QR ((c++[y]).length=a.length+1)=some ():=fI (by simp[n]);have I:idx (c++[y]) (a.length:Int)=some y:=by rw[<-n];exact lj
 have u:W (y+1)=y+1:=gh y8 y8;have J:iL (c++[y]) (a.length:Int) (y+1)=some (c++[y+1]):=by rw[jo y9,<-n,ql]
 have v:W (((b*w+x:Nat):Int)+1)=((b*w+x+1:Nat):Int):=p5 y8;simp only[p,ak,f,Qc,d,q,j,aj,r,F,k,G,H,I,u,J,v]
theorem EX(C:Ctx l R a w B){b x:Nat}(d:b<B){out:List Qk}(h0:out≠[])(e:out.length<=70000){c:fj}(f:c.length=a.length)(g t:Nat):
  ∀j,x+1+j<=w->(∀i,i<j->(pos R ((b*w+(x+1+i))%l.length)).2≠0)->
  QI (ig (a++[(w:Int)]),(l.length:Int),R,a++[(w:Int)],g,c++[(x:Int)+1],t,a.length+1,out,((b*w+x+1:Nat):Int))=QI (ig (a++[(w:Int)]),(l.length:Int),R,a++[(w:Int)],g,c++[((x+1+j:Nat):Int)],t,a.length+1,out,((b*w+(x+1+j):Nat):Int))
 |0,_,_=>rfl
 |j+1,n,k=>by
  have m:=C.bw (b:=b) (x:=x+1+j) d y8;have hBw:=C.hBw;rw[EX C d h0 e f g t j y8 λi hi=>k i y8];rw[IM C d (x:=x+1+j) y8 y8 (k j y8) h0 e f y8 g t];rfl
theorem EB(C:Ctx l R a w B){b x:Nat}(S:b<B)(T:x<w)(V:x=0\/(pos R ((b*w+x)%l.length)).2=0){out:List Qk}(U:out.length<=70000)(hi:fj)(g t:Nat):
  ∃g',QI (ig (a++[(w:Int)]),(l.length:Int),R,a++[(w:Int)],g,hi,t,hi.length,out,((b*w+x:Nat):Int))=QI (ig (a++[(w:Int)]),(l.length:Int),R,a++[(w:Int)],g',(iT a (b:Int)).map (·+1)++[(x:Int)+1],t+1,a.length+1,
   Bh LG out hi++[⟨⟨iT a (b:Int)++[(x:Int)],(iT a (b:Int)).map (·+1)++[(x:Int)+1]⟩,sd (fS R ((b*w+x)%l.length)) (pos R ((b*w+x)%l.length)).2 a.length x⟩],((b*w+x+1:Nat):Int)):=by
 rw[QI];have X:=C.bw S T;have hBw:=C.hBw;have hn:=C.hn;have hl:=C.hl;obtain⟨c1,c2,c3⟩:=fE C.hca;obtain⟨d1,d2,d3⟩:=fE C.hc;have I:(((b*w+x:Nat):Int)<((ig (a++[(w:Int)])).length:Int)):=by rw[C.len];omega
 have f:(((b*w+x:Nat):Int)% (l.length:Int))=(((b*w+x)%l.length:Nat):Int):=by rw[cy]
 have j:mX ((b*w+x:Nat):Int) (l.length:Int)=some (((b*w+x)%l.length:Nat):Int):=by rw[oY y8 y8,f]
 have k:=bd (b*w+x) hn;have e:=rZ C.hl C.hR k;have J:W (((a++[(w:Int)]).length:Int) - 1)=(a.length:Int):=Ab y8;have m:¬((a.length:Int)<0):=by omega
 have K:((a.length:Int)>=0):=by omega
 have n:=mB (C.ix S T);have d:(iT a (b:Int)).length=a.length:=kD _ _;have Y:idx (iT a (b:Int)++[(x:Int)]) (a.length:Int)=some (x:Int):=by rw[<-d];exact lj
 have q:=NG C (b*w+x) x;rw[show decide (x=0\/(pos R ((b*w+x)%l.length)).2=0)=true by simp[V]]at q;have Z:QR (hi.length=hi.length)=some ():=fI rfl;have hxw:x<=65536:=by have:=eA x (b*w);omega
 have L:=NL C.hca C.hpos (show(0:Int)<=(b:Int) by omega) (by rw[C.hB];omega)
 have M:∀y∈iT a (b:Int)++[(x:Int)],0<=y/\y<=65536:=λy u=>by
  rcases aV.1 u with u|u
  .exact L y u
  .simp at u;omega
 obtain⟨g',v⟩:=TM (p1:=a++[(w:Int)]) (p0:=R) (v2:=(l.length:Int)) (v223:=t) (v225:=out) (v626:=(((b*w+x)%l.length:Nat):Int)) (v627:=(((pos R ((b*w+x)%l.length)).1:Nat):Int)) (v222:=hi) (v641:=iT a (b:Int)++[(x:Int)]) n M (by simp[d]) (by simp[d];omega) (iT a (b:Int)++[(x:Int)]) [] (T2 g out+1) rfl;simp only[aN,jL,jJ]at v;refine⟨g',?_⟩;obtain⟨a1,a2,a3,a4,H,a6⟩:=jm C.hR k;have z:=mB a1;have hmap:(iT a (b:Int)++[(x:Int)]).map (·+1)=(iT a (b:Int)).map (·+1)++[(x:Int)+1]:=by simp
 have c:((iT a (b:Int)).map (·+1)++[(x:Int)+1]).length=a.length+1:=by simp[d]
 have D:W (((b*w+x:Nat):Int)+1)=((b*w+x+1:Nat):Int):=p5 y8;have N:¬(true=false):=by simp
 have gT:QR True=some ():=fI trivial;simp only[I,ak,j,Qc,e,J,m,aj,n,Y,q,N,reduceCtorEq,Z,gT,v,z,hmap,K];generalize hr:fS R ((b*w+x)%l.length)=r at *;generalize hoo:(pos R ((b*w+x)%l.length)).2=o at *;by_cases O:r.fill=true
 .simp only[O,reduceCtorEq,aj,zj U,Qc,D,c];simp only[sd,O,ak]
 .have E:r.fill=false:=by simpa using O
  have P:o<=600:=by omega
  obtain⟨w1,w2,w3,w4⟩:=ED H P;have hbb:=pz (a:=r.step) (b:=(x:Int)) (A:=200) (B:=65536) H.s.1 H.s.2 y8 y8;have w5:W (r.step*(x:Int))=r.step*x:=gh y8 y8;have w6:W (r.offset+(o:Int)*r.step - r.step*x)=r.offset+o*r.step - r.step*x:=by have:=H.o;exact gh y8 y8
  have w7:W ((((b*w+x)%l.length:Nat):Int) - r.at0_)=(o:Int):=by rw[gh y8 y8];omega
  have F:List.replicate (a++[(w:Int)]).length (0:Int)=List.replicate a.length 0++[0]:=by simp[dq]
  have G:(List.replicate a.length (0:Int)).length=a.length:=by simp
  have i1:idx (List.replicate a.length (0:Int)++[0]) (a.length:Int)=some 0:=by
   have:=lj (p:=List.replicate a.length (0:Int)) (x:=0)
   rwa [G]at this
  have s1:iL (List.replicate a.length (0:Int)++[0]) (a.length:Int) r.step=some (List.replicate a.length 0++[r.step]):=by
   rw[jo yA];have:=ql (p:=List.replicate a.length (0:Int)) (x:=0) (y:=r.step);rw[G]at this;rw[this]
  have Q:QR ((List.replicate a.length 0++[r.step]).length=(List.replicate a.length (0:Int)++[0]).length)=some ():=fI yA;simp only[E,ak,qE (show(a++[(w:Int)]).length<=1000 by omega),F,Qc,i1,s1,w7,w1,w2,w5,w6,Q,zj U,D,c];simp only[sd,E,j6,aj]
theorem EP(C:Ctx l R a w B){b:Nat}(p:b<B):∀(k x d:Nat) (hi:fj) (out:List Qk) (g t:Nat),x+d=w->d<=k->(d=0\/x=0\/(pos R ((b*w+x)%l.length)).2=0)->out.length<=b*w+x->
  ∃g' e q c,QI (ig (a++[(w:Int)]),(l.length:Int),R,a++[(w:Int)],g,hi,t,hi.length,out,((b*w+x:Nat):Int))=QI (ig (a++[(w:Int)]),(l.length:Int),R,a++[(w:Int)],g',e,q,e.length,c,((b*w+w:Nat):Int))/\
   Bh LG c e=Bh LG out hi++(p9 R l.length k (b*w+x) x d).map (DH (iT a (b:Int)))/\c.length<=b*w+w
 |0,x,d,hi,out,g,t,E,F,G,H=>by
  have:x=w:=by omega
  subst this;exact⟨g,hi,t,out,rfl,by simp[p9],by omega⟩
 |k+1,x,d,hi,out,g,t,E,F,G,H=>by
  by_cases h0:d=0
  .have:x=w:=by omega
   subst this;exact⟨g,hi,t,out,rfl,by simp[p9,h0],by omega⟩
  .have hBw:=C.hBw;have v:x<w:=by omega
   have I:=C.bw (b:=b) (x:=x) p v;have hn:=C.hn;have j:(iT a (b:Int)).length=a.length:=kD _ _;have r:=bd (b*w+x) hn;obtain⟨T,U,V,W,X,Y⟩:=jm C.hR r;obtain⟨y,s⟩:=EB C p v y8 (out:=out) y8 hi g t;generalize J:min d ((fS R ((b*w+x)%l.length)).len.toNat - (pos R ((b*w+x)%l.length)).2)=z;have hz1:1<=z:=by omega
   have K:z<=d:=by omega
   have f:=OU C.hR hn (b*w+x);have n:((iT a (b:Int)).map (·+1)).length=a.length:=by simp[j]
   have L:=EX C p (x:=x) (out:=Bh LG out hi++[⟨⟨iT a (b:Int)++[(x:Int)],(iT a (b:Int)).map (·+1)++[(x:Int)+1]⟩,sd (fS R ((b*w+x)%l.length)) (pos R ((b*w+x)%l.length)).2 a.length x⟩]) yA (by simp[zi];omega) n y (t+1) (z - 1) y8 λi hi=>by
    have:=f (1+i) y8;rw[show b*w+(x+1+i)=b*w+x+(1+i) by omega,this];simp only;omega
   rw[L,show x+1+(z - 1)=x+z by omega]at s;have m:a.length+1=((iT a (b:Int)).map (·+1)++[((x+z:Nat):Int)]).length:=by simp[j]
   rw[m]at s
   have u:d - z=0\/x+z=0\/(pos R ((b*w+(x+z))%l.length)).2=0:=by
    by_cases M:d - z=0
    .exact .inl M
    .refine .inr (.inr ?_);have N:z=(fS R ((b*w+x)%l.length)).len.toNat - (pos R ((b*w+x)%l.length)).2:=by omega
     have A:=f (z - 1) y8;have D:=CN C.hR hn (b*w+x+(z - 1));have O:fS R ((b*w+x+(z - 1))%l.length)=fS R ((b*w+x)%l.length):=by simp only[fS,A]
     rw[O,A,af (by simp only;omega)]at D;rw[show b*w+(x+z)=b*w+x+(z - 1)+1 by omega];exact D
   obtain⟨g',e,q,c,P,Q,S⟩:=EP C p k (x+z) (d - z) ((iT a (b:Int)).map (·+1)++[((x+z:Nat):Int)]) (Bh LG out hi++[⟨⟨iT a (b:Int)++[(x:Int)],(iT a (b:Int)).map (·+1)++[(x:Int)+1]⟩,sd (fS R ((b*w+x)%l.length)) (pos R ((b*w+x)%l.length)).2 a.length x⟩]) y (t+1) y8 y8 u (by simp[zi];omega);refine⟨g',e,q,c,s.trans P,?_,S⟩;rw[Q,CZ,p9,af h0,J];rw[show b*w+(x+z)=b*w+x+z by omega];simp only[zU,aB,aM];congr 2;simp only[DH,LG,j]
theorem Bm(C:Ctx l R a w B):∀(m b:Nat) (hi:fj) (out:List Qk) (g t:Nat),b+m=B->out.length<=b*w->
  ∃g' d q c,QI (ig (a++[(w:Int)]),(l.length:Int),R,a++[(w:Int)],g,hi,t,hi.length,out,((b*w:Nat):Int))=QI (ig (a++[(w:Int)]),(l.length:Int),R,a++[(w:Int)],g',d,q,d.length,c,((B*w:Nat):Int))/\
   Bh LG c d=Bh LG out hi++nM R l.length a w b m
 |0,b,hi,out,g,t,r,s=>by
  have:b=B:=by omega
  subst this;exact⟨g,hi,t,out,rfl,by simp[nM]⟩
 |m+1,b,hi,out,g,t,r,s=>by
  obtain⟨u,j,v,e,n,x,p⟩:=EP C (b:=b) y8 w 0 w hi out g t y8 (j7 _) y8 y8;rw[show b*w+w=(b+1)*w by rw[av,bA]]at n p;obtain⟨y,k,z,f,A,D⟩:=Bm C m (b+1) j e u v y8 p;refine⟨y,k,z,f,n.trans A,?_⟩;rw[D,x];simp only[nM,cA,aS,aB,zX]
theorem vP(l:List Qi)(hl:l.length<=600):∀(s p:List Qq) (b:Nat),p.length<=b->b<=l.length->gn l b s->Xc (p++s,(b:Int),(p.length:Int))=some (l.length:Int)
 |[],p,b,d,e,h=>by
  rw[Xc];simp only[gn]at h;simp only[Za,aj,h]
 |r::s,p,b,d,e,h=>by
  obtain⟨m,⟨k,n⟩,⟨q,f⟩,_,_,g⟩:=h;rw[Xc];have j:W ((b:Int)+r.len)=((b+m:Nat):Int):=by rw[gh y8 y8];omega
  have c:W ((p.length:Int)+1)=((p++[r]).length:Int):=by rw[gh y8 y8];simp
  simp only[Q4,ak,Qy,Qc,j,c];rw[Qv];exact vP l hl s (p++[r]) (b+m) y9 f g
theorem vi(hl:l.length<=600)(hR:gn l 0 R):P9 R=some (l.length:Int):=by
 have e:=vP l hl R [] 0 (j7 _) (zP _) hR;have e':Xc (R,0,0)=some (l.length:Int):=e;simp only[P9,e',Qc]
theorem CS(C:Ctx l R a w B)(m:2<=R.length)(c:Yc (a++[(w:Int)])=some (ig (a++[(w:Int)]))):Yd (R,a++[(w:Int)])=some (nM R l.length a w 0 B):=by
 have e:1<=B:=by have:=fM C.hpos;have:=C.hB;omega
 have k:1<=B*w:=Nat.mul_pos e C.hw;have hn:=C.hn;obtain⟨c1,c2,r⟩:=fE C.hc;obtain⟨g,hi,t,out,d,n⟩:=Bm C B 0 [] [] 0 0 y8 yA;have f:¬(((B*w:Nat):Int)<((ig (a++[(w:Int)])).length:Int)):=by rw[C.len];omega
 conv at d=>rhs;rw[QI]
 simp only[f,aj]at d
 have j:QI (ig (a++[(w:Int)]),(l.length:Int),R,a++[(w:Int)],0,[],0,0,[],0)=some (g,hi,t,hi.length,out):=by
  have:(((0*w:Nat)):Int)=0:=by simp
  rw[this]at d;exact d
 have p:Sm (a++[(w:Int)]).length:=jf (show(a++[(w:Int)]).length<=1000 by omega);have k1:¬(((B*w:Nat):Int)=0):=by omega
 have k2:¬((l.length:Int)=0):=by omega
 have k3:¬((R.length:Int)=1):=by omega
 have q:QR (hi.length=hi.length)=some ():=fI rfl;simp only[Yd,lZ _ p,iS,C.hc,ak,C.P,Qc,k1,aj,vi C.hl C.hR,k2,k3,j6,c,j,q]
 have:Bh LG out hi=nM R l.length a w 0 B:=by rw[n];rfl
 rw[<-this];rfl
end
-- Plain laws: pieces that tile a shape, one behind the other: they cover, and each index has its origin.
theorem Kk:∀(i lo hi c d e:fj),lo.length=i.length->hi.length=i.length->d.length=c.length->e.length=c.length->c.length+i.length<=600->Xn (c++i,⟨d++lo,e++hi⟩,(c.length:Int))=some (if jk lo hi i=true then .inr ()else .inl ())
 |[],[],[],c,d,e,_,_,f,g,hl=>by
  rw[Xn];simp only[Za,aj];rfl
 |x::i,l::lo,h::hi,c,d,e,p,q,f,g,hl=>by
  rw[Xn];have r:idx (d++l::lo) (c.length:Int)=some l:=by rw[<-f];exact Qy
  have s:idx (e++h::hi) (c.length:Int)=some h:=by rw[<-g];exact Qy
  have m:=Kk i lo hi (c++[x]) (d++[l]) (e++[h]) (by simpa using p) (by simpa using q) (by simp[f]) (by simp[g]) (by simp at hl |-;omega);rw[<-Qv,<-Qv,<-Qv]at m;simp only[Q4,ak,Qy,Qc,r,s,Tz (x:=x) (show c.length<=100000 by omega),m,jk];by_cases j:x<l
  .have:¬l<=x:=by omega
   simp[j,this]
  .have k:l<=x:=by omega
   by_cases n:x>=h
   .have:¬x<h:=by omega
    simp[j,n,this]
   .have:x<h:=by omega
    simp[j,k,n,this]
 |[],_::_,_,_,_,_,h,_,_,_,_=>by simp at h
 |[],[],_::_,_,_,_,_,h,_,_,_=>by simp at h
 |_::_,[],_,_,_,_,h,_,_,_,_=>by simp at h
 |_::_,_::_,[],_,_,_,_,h,_,_,_=>by simp at h
theorem KD{b:Qx}{i:fj}(c:b.lo.length=i.length)(d:b.hi.length=i.length)(hl:i.length<=600):Jk (b,i)=some (jk b.lo b.hi i):=by
 obtain⟨lo,hi⟩:=b;simp only at c d |-;have e:=Kk i lo hi [] [] [] c d rfl rfl y9;simp only[jQ,jL,jJ]at e;have g:¬((i.length:Int)≠(lo.length:Int)):=by simp;omega
 simp only[Jk,g,aj,e,Qc];cases jk lo hi i<;>rfl
theorem rR:∀{s:fj} {f g:Int},(∀n∈s,1<=n)->0<=f->f<g->g<fw s->sj (iT s f) (iT s g)=true
 |[],f,g,_,h0,j,c=>by rw[ib]at c;omega
 |n::s,f,g,d,h0,j,c=>by
  have m:=fM (λn hn=>d n (jG _ hn));have k:=cL f (fw s);have p:=cL g (fw s);have m1:=bz f (show fw s≠0 by omega);have m2:=bz g (show fw s≠0 by omega);have n1:=aX f (show 0<fw s by omega);have n2:=aX g (show 0<fw s by omega);simp only[iT,sj];have l:f/fw s<=g/fw s:=Int.ediv_le_ediv y8 y8;by_cases e:f/fw s=g/fw s
  .rw[af (by simp[e])];rw[e]at k;exact rR (λn hn=>d n (jG _ hn)) m1 y8 n2
  .rw[ai e];exact decide_eq_true y8
def G9(p:Qk)(i:fj)(c:Qi):Prop:=∃v ok,Xb (p.access,i)=some (v,ok)/\(if ok=false then c=⟨true,0,0⟩else c=⟨false,p.access.buffer,v⟩)
structure RY (acc:QD):Prop where
 b:0<=acc.buffer/\acc.buffer<=100000
 o:-1000000000<=acc.base/\acc.base<=1000000000
 t:acc.start=0
 s:-1000000<=acc.step/\acc.step<=1000000
 m:-1000000<=acc.mod/\acc.mod<=1000000
 l:acc.strides.length<=1000
 x:∀x∈acc.strides,-65536<=x/\x<=65536
structure xE (a:QD) (n:Nat):Prop where
 k:a.kind=1\/((a.kind=2\/a.kind=3)/\a.strides.length=n)
 s:RY a
 m:a.kind=3->1<=a.mod
 k1:a.kind=1->a=⟨1,0,0,[],0,0,0⟩
 k2:a.kind=2->a.step=0/\a.mod=0
theorem oH{n:Nat}(hn:n<=16):xE ⟨1,0,0,[],0,0,0⟩ n:=⟨.inl rfl,⟨by simp,by simp,by simp,by simp,by simp,by simp,by simp⟩,λh=>absurd h yC,λ_=>rfl,λh=>absurd h yC⟩
theorem Aj{n:Nat}(hn:n<=16){b o:Int}{st:fj}(c:RY ⟨2,b,o,st,0,0,0⟩)(hl:st.length=n):xE ⟨2,b,o,st,0,0,0⟩ n:=⟨.inr ⟨.inl rfl,hl⟩,c,λh=>absurd (show(2:Int)=3 from h) yC,λh=>absurd (show(2:Int)=1 from h) yC,λ_=>⟨rfl,rfl⟩⟩
theorem Mi{n:Nat}(hn:n<=16){b o t m:Int}{st:fj}(c:RY ⟨3,b,o,st,0,t,m⟩)(hl:st.length=n)(hm:1<=m):xE ⟨3,b,o,st,0,t,m⟩ n:=⟨.inr ⟨.inr rfl,hl⟩,c,λ_=>hm,λh=>absurd (show(3:Int)=1 from h) yC,λh=>absurd (show(3:Int)=2 from h) yC⟩
structure Rv (s:fj) (cf:Nat->Qi) (p:Qk) (F z:Nat):Prop where
 hz1:1<=z
 box:okB s p.box.lo p.box.hi
 lo:p.box.lo=iT s (F:Int)
 inb:∀f:Nat,(f:Int)<fw s->jk p.box.lo p.box.hi (iT s (f:Int))=decide (F<=f/\f<F+z)
 acc:xE p.access s.length
 str:p.access.strides.length<=1000
 hit:∀f:Nat,F<=f->f<F+z->G9 p (iT s (f:Int)) (cf f)
def DV(s:fj)(cf:Nat->Qi)(N:Nat):Nat->List Qk->Prop
 |F,[]=>F=N
 |F,p::P=>∃z,Rv s cf p F z/\F+z<=N/\DV s cf N (F+z) P
section
variable{s:fj}{cf:Nat->Qi}{N:Nat}
theorem Fs:∀{P:List Qk} {F:Nat},DV s cf N F P->∀p∈P,∃F z,Rv s cf p F z
 |p::P,F,⟨z,hc,d,h⟩,q,c=>by
  rcases aq.1 c with rfl|c
  .exact⟨F,z,hc⟩
  .exact Fs h q c
end
-- Plain laws: the pieces of a reshape tile its shape.
theorem K2{n m:Int}(h:n%18446744073709551616=m%18446744073709551616):W n=W m:=by
 simp only[W,IntKind.wrap,IntKind.bits,IntKind.signed];simp;rw[h]
theorem Ky(n:Int):W n%18446744073709551616=n%18446744073709551616:=by
 simp only[W,IntKind.wrap,IntKind.bits,IntKind.signed];simp;split <;>omega
theorem wH:∀(s t:fj) (x:Int),l4 s t x%18446744073709551616=(x+gL s t)%18446744073709551616
 |a::s,b::t,x=>by
  rw[l4,gL,wH s t];have c:=Ky (x+W (a*b));have d:=Ky (a*b);generalize a*b=y at *;generalize W y=z at *;generalize W (x+z)=u at *;generalize gL s t=e at *;omega
 |[],_,x=>by simp[l4,gL]
 |_::_,[],x=>by simp[l4,gL]
theorem Nj{b:Int}{s t:fj}{v:Int}(h:b+gL s t=v)(c:-1000000000000<=v)(d:v<=1000000000000):W (b+l4 s t 0)=v:=by
 have e:=wH s t 0;rw[K2 (m:=v) y8,gh c d]
theorem B2:∀{s:fj},(∀n∈s,1<=n)->∀j:Int,0<=j->j<fw s->gL (gF s) (iT s j)=j
 |[],_,j,h0,c=>by rw[ib]at c;simp only[iT,gF,gL];omega
 |n::s,d,j,h0,c=>by
  have e:=fM (λn hn=>d n (jG _ hn));have hm:=bz j (show fw s≠0 by omega);have hl:=aX j (show 0<fw s by omega);have f:=cL j (fw s);rw[iT,gF,gL,B2 (λn hn=>d n (jG _ hn)) _ hm hl];omega
theorem vQ(k:Int):∀(s t:fj),gL (s.map (· *k)) t=k*gL s t
 |a::s,b::t=>by
  simp only[zU,gL];rw[vQ k s t,dD,bj a k,bF]
 |[],_=>by simp[gL]
 |_::_,[]=>by simp[gL]
theorem yc:∀(c:Nat) (q:fj) (st x:Int),q.length=c->gL (List.replicate c 0++[st]) (q++[x])=st*x
 |0,q,st,x,h=>by
  rw[aw h];simp[gL]
 |c+1,[],st,x,h=>by simp at h
 |c+1,y::q,st,x,h=>by
  rw[aJ,aW,aW,gL,yc c q st x (by simpa using h)];omega
theorem vR:∀{s:fj},(∀n∈s,1<=n)->fw s<=65536->∀x∈gF s,1<=x/\x<=65536
 |[],_,_,x,c=>by simp[gF]at c
 |n::s,e,f,x,c=>by
  have d:=λm hm=>e m (jG n hm)
  have g:=fM d
  have j:fw s<=fw (n::s):=by
   have:=Bd (a:=[n]) (b:=s) (λm hm=>by simp at hm;subst hm;exact e _ (jM ..)) d
   simpa using this
  rw[gF]at c;rcases aq.1 c with rfl|c
  .omega
  .exact vR d y8 x c
theorem qK(c:Qx)(i:fj)(hi:i.length<=1000):G9 ⟨c,⟨1,0,0,[],0,0,0⟩⟩ i ⟨true,0,0⟩:=by
 refine⟨0,false,?_,rfl⟩;simp only[Xb,uV (a:=[]) (b:=i) yA hi,Qc,ak]
theorem Ej(c:Qx){b o v:Int}{st i:fj}(d:st.length<=1000)(hi:i.length<=1000)(h:o+gL st i=v)(e:-1000000000000<=v)(f:v<=1000000000000):G9 ⟨c,⟨2,b,o,st,0,0,0⟩⟩ i ⟨false,b,v⟩:=by
 refine⟨v,true,?_,by simp⟩;have g:¬((2:Int)=1):=by omega
 simp only[Xb,uV d hi,Qc,g,aj,ak,Nj h e f]
theorem O5(d:Qx){b o t v:Int}{n f:Nat}{st i:fj}(e:st.length<=1000)(hi:i.length<=1000)(h:gL st i=(f:Int))(u:f<=65536)(hn:1<=n/\n<=600)(w:0<=o/\o<=200)(c:-200<=t/\t<=200)(g:o+((f%n:Nat):Int)*t=v):G9 ⟨d,⟨3,b,o,st,0,t,(n:Int)⟩⟩ i ⟨false,b,v⟩:=by
 refine⟨v,true,?_,by simp⟩;have j:¬((3:Int)=1):=by omega
 have k:¬((3:Int)=2):=by omega
 have l:W (0+l4 st i 0)=(f:Int):=Nj (b:=0) y8 y8 y8;have m:mX (f:Int) (n:Int)=some ((f%n:Nat):Int):=by rw[oY y8 y8,cy]
 have p:=bd f (show n>0 by omega);have q:¬(((f%n:Nat):Int)<0):=by omega
 have hm:=pz (a:=((f%n:Nat):Int)) (b:=t) (A:=600) (B:=200) y8 y8 c.1 c.2;have r:W (t*((f%n:Nat):Int))=((f%n:Nat):Int)*t:=by rw[bj];exact gh y8 y8
 have s:W (o+((f%n:Nat):Int)*t)=v:=by rw[g];exact gh y8 y8
 simp only[Xb,uV e hi,Qc,j,k,aj,l,m,q,r,s]
theorem Fy:∀{s lo hi:fj} {n l h:Int},okB s lo hi->0<=l/\l<h/\h<=n->okB (s++[n]) (lo++[l]) (hi++[h])
 |[],[],[],n,l,h,_,H=>⟨H,trivial⟩
 |_::s,_::lo,_::hi,n,l,h,H1,H=>⟨H1.1,Fy H1.2 H⟩
 |[],_::_,_,_,_,_,h,_=>by simp[okB]at h
 |[],[],_::_,_,_,_,h,_=>by simp[okB]at h
 |_::_,[],_,_,_,_,h,_=>by simp[okB]at h
 |_::_,_::_,[],_,_,_,h,_=>by simp[okB]at h
theorem Gg:∀{s i:fj},iB s i=true->okB s i (i.map (·+1))
 |[],[],_=>trivial
 |n::s,x::i,h=>by
  simp only[iB,jE,zD]at h;simp only[zU,okB];exact⟨by omega,Gg h.2⟩
 |[],_::_,h=>by cases h
 |_::_,[],h=>by cases h
theorem yn:∀{s:fj},(∀n∈s,1<=n)->okB s (List.replicate s.length 0) s
 |[],_=>trivial
 |n::s,h=>by
  rw[zG,aJ];exact⟨by have:=h n yA;omega,yn λm hm=>h m (jG _ hm)⟩
theorem ym:∀{s i:fj},iB s i=true->jk (List.replicate s.length 0) s i=true
 |[],[],_=>rfl
 |n::s,x::i,h=>by
  simp only[iB,jE,zD]at h;rw[zG,aJ,jk,ym h.2];simp[h.1]
 |[],_::_,h=>by cases h
 |_::_,[],h=>by cases h
theorem F8:∀{lo hi i:fj} {l h x:Int},lo.length=i.length->hi.length=i.length->jk (lo++[l]) (hi++[h]) (i++[x])=(jk lo hi i &&(decide (l<=x) &&decide (x<h)))
 |[],[],[],l,h,x,_,_=>by simp[jk]
 |a::lo,b::hi,c::i,l,h,x,d,e=>by
  simp only[aW,jk];rw[F8 (by simpa using d) (by simpa using e)];simp only[Bool.and_assoc]
 |[],_::_,[],_,_,_,_,h=>by simp at h
 |[],_,_::_,_,_,_,h,_=>by simp at h
 |_::_,_,[],_,_,_,h,_=>by simp at h
 |_::_,[],_::_,_,_,_,_,h=>by simp at h
theorem F4:∀{i j:fj},i.length=j.length->(jk i (i.map (·+1)) j=true↔i=j)
 |[],[],_=>by simp[jk]
 |a::i,b::j,h=>by
  have:=F4 (i:=i) (j:=j) (by simpa using h);simp only[zU,jk,jE,zD,this,List.cons.injEq];constructor
  .rintro⟨d,c⟩;exact⟨by omega,c⟩
  .rintro⟨d,c⟩;exact⟨by omega,c⟩
 |[],_::_,h=>by simp at h
 |_::_,[],h=>by simp at h
theorem xj:∀a:fj,sj a a=false
 |[]=>rfl
 |x::a=>by rw[sj,af yA,xj a]
theorem Gi{s:fj}(d:∀n∈s,1<=n){f g:Int}(e:0<=f/\f<fw s)(j:0<=g/\g<fw s)(h:iT s f=iT s g):f=g:=by
 rcases Int.lt_trichotomy f g with c|c|c
 .have:=rR d e.1 c j.2;rw[h,xj]at this;cases this
 .exact c
 .have:=rR d j.1 c e.2;rw[h,xj]at this;cases this
theorem Dm:∀s:fj,iT s 0=List.replicate s.length 0
 |[]=>rfl
 |n::s=>by rw[iT,zG,aJ,Int.zero_ediv,eW,Dm s]
section
variable{l:List Qi}{R:List Qq}{a:fj}{w B:Nat}
def oa(l:List Qi)(f:Nat):Qi:=ce l (f%l.length)
theorem Ctx.digs(C:Ctx l R a w B){b x:Nat}(c:b<B)(d:x<w):iT (a++[(w:Int)]) ((b*w+x:Nat):Int)=iT a (b:Int)++[(x:Int)]:=by
 have h:=C.bw c d;have e:=C.ix c d;rw[kK C.posw _ (by rw[C.P];omega)]at e;exact jS e
theorem GD{r:Qq}(h:xF r){o x c:Nat}(f:o<=600)(g:x<=65536)(e:c<=100)(j:r.fill=false):RY ⟨2,r.buffer,r.offset+o*r.step - r.step*x,List.replicate c 0++[r.step],0,0,0⟩:=by
 have k:=pz (a:=(o:Int)) (b:=r.step) (A:=600) (B:=200) y8 y8 h.s.1 h.s.2;have l:=pz (a:=r.step) (b:=(x:Int)) (A:=200) (B:=65536) h.s.1 h.s.2 y8 y8;have m:=h.o;have n:=h.b;have p:=h.s;refine⟨by simp only;omega,by simp only;omega,by simp,by simp,by simp,by simp;omega,λy d=>?_⟩;simp only[aV,dG,jX]at d;rcases d with⟨_,rfl⟩|rfl<;>omega
theorem L6(C:Ctx l R a w B){b x z:Nat}(q:b<B)(L:1<=z)(T:x+z<=w)(U:((pos R ((b*w+x)%l.length)).2:Int)+z<=(fS R ((b*w+x)%l.length)).len):
  Rv (a++[(w:Int)]) (oa l) (DH (iT a (b:Int)) (x,z,fS R ((b*w+x)%l.length),(pos R ((b*w+x)%l.length)).2)) (b*w+x) z:=by
 have hn:=C.hn;have hl:=C.hl;have hBw:=C.hBw;have M:=C.bw (b:=b) (x:=x) q y8;have t:=bd (b*w+x) hn;have d:(iT a (b:Int)).length=a.length:=kD _ _;obtain⟨V,W,X,Y,n,Z⟩:=jm C.hR t;obtain⟨c1,c2,c3⟩:=fE C.hc;have u:x<=65536:=by have:=eA x (b*w);omega
 have N:(a++[(w:Int)]).length=a.length+1:=by simp
 have v:((pos R ((b*w+x)%l.length)).2)<=600:=by omega
 refine⟨L,?_,?_,λf m=>?_,?_,?_,λf y G=>?_⟩
 .show okB (a++[(w:Int)]) (iT a (b:Int)++[(x:Int)]) ((iT a (b:Int)).map (·+1)++[((x+z:Nat):Int)])
  exact Fy (Gg (qq C.hpos y8 (by rw[C.hB];omega))) ⟨by omega,by omega,by omega⟩
 .exact(C.digs q y8).symm
 .rw[C.P]at m;have hw:=C.hw;obtain⟨e,p,D,E,rfl⟩:∃e p,e<B/\p<w/\f=e*w+p:=⟨f/w,f%w,by rw[eM y8];omega,bd _ y8,by rw[bB];exact(cj f w).symm⟩;rw[C.digs D E];show jk (iT a (b:Int)++[(x:Int)]) ((iT a (b:Int)).map (·+1)++[((x+z:Nat):Int)]) (iT a (e:Int)++[(p:Int)])=_
  rw[F8 (by rw[d,kD]) (by rw[jY,d,kD])]
  have y:jk (iT a (b:Int)) ((iT a (b:Int)).map (·+1)) (iT a (e:Int))=decide (b=e):=by
   rw[Bool.eq_iff_iff,F4 (by rw[d,kD]),zD];constructor
   .intro h;have:=Gi C.hpos (f:=(b:Int)) (g:=(e:Int)) (by rw[C.hB];omega) (by rw[C.hB];omega) h;omega
   .rintro h;rw[<-h]
  rw[y,<-aZ,<-aZ];refine decide_eq_decide.2 ?_;constructor
  .rintro⟨rfl,G,H⟩;omega
  .rintro⟨G,H⟩
   have F:b=e:=by
    rcases cn b e with c|c|c
    .have:(b+1)*w<=e*w:=au _ y8
     rw[av,bA]at this;omega
    .exact c
    .have:(e+1)*w<=b*w:=au _ y8
     rw[av,bA]at this;omega
   subst F;omega
 .show xE (sd (fS R ((b*w+x)%l.length)) (pos R ((b*w+x)%l.length)).2 (iT a (b:Int)).length x) (a++[(w:Int)]).length
  unfold sd;split
  .exact oH c1
  .rename_i m;rw[d];exact Aj c1 (GD n v u y8 (by simpa using m)) yA
 .show(sd _ _ _ _).strides.length<=1000
  unfold sd;split
  .simp
  .simp[d];omega
 .obtain⟨j,rfl⟩:∃j,f=b*w+x+j:=⟨f - (b*w+x),by omega⟩;have hj:j<z:=by omega
  have k:=OU C.hR hn (b*w+x) j y8;have I:fS R ((b*w+x+j)%l.length)=fS R ((b*w+x)%l.length):=by simp only[fS,k]
  obtain⟨d1,d2,J,O,d5,d6⟩:=jm C.hR (bd (b*w+x+j) hn);have K:=C.digs (b:=b) (x:=x+j) q y8;rw[<-bP]at K;unfold oa;rw[O,I,k,K];show G9 ⟨_,sd (fS R ((b*w+x)%l.length)) (pos R ((b*w+x)%l.length)).2 (iT a (b:Int)).length x⟩ _ _
  rw[I,k]at J;simp only at J;unfold sd oI;by_cases m:(fS R ((b*w+x)%l.length)).fill=true
  .simp only[m,ak];exact qK _ _ (by simp[d];omega)
  .simp only[m,aj,j6];generalize fS R ((b*w+x)%l.length)=r at *;generalize (pos R ((b*w+x)%l.length)).2=o at *;have y:=pz (a:=((o+j:Nat):Int)) (b:=r.step) (A:=600) (B:=200) y8 y8 n.s.1 n.s.2;have H:=n.o;refine Ej _ (by simp[d];omega) (by simp[d];omega) ?_ y8 y8;rw[d,yc a.length _ _ _ d]
   have Q:r.step*((x+j:Nat):Int)=r.step*x+j*r.step:=by
    rw[eB,dD,bj r.step (j:Int)]
   have S:((o+j:Nat):Int)*r.step=o*r.step+j*r.step:=by rw[eB,cH]
   rw[Q,S];omega
theorem BR(C:Ctx l R a w B){b:Nat}(e:b<B):∀(k x c:Nat) (Q:List Qk),x+c=w->c<=k->DV (a++[(w:Int)]) (oa l) (B*w) (b*w+w) Q->DV (a++[(w:Int)]) (oa l) (B*w) (b*w+x) ((p9 R l.length k (b*w+x) x c).map (DH (iT a (b:Int)))++Q)
 |0,x,c,Q,j,m,d=>by
  have:x=w:=by omega
  subst this
  simpa[p9]using d
 |k+1,x,c,Q,j,m,d=>by
  by_cases h0:c=0
  .have:x=w:=by omega
   subst this
   simpa[p9,h0]using d
  .rw[p9,af h0];have f:=bd (b*w+x) C.hn;obtain⟨p,q,r,s,t,u⟩:=jm C.hR f;have n:=C.bw (b:=b) (x:=w - 1) e (by have:=C.hw;omega);generalize v:min c ((fS R ((b*w+x)%l.length)).len.toNat - (pos R ((b*w+x)%l.length)).2)=z;have g:=BR C e k (x+z) (c - z) Q y8 y8 d;rw[<-bP]at g;rw[zU,aW];exact⟨z,L6 C e y8 y8 y8,by omega,g⟩
theorem BG(C:Ctx l R a w B):∀(m b:Nat),b+m=B->DV (a++[(w:Int)]) (oa l) (B*w) (b*w) (nM R l.length a w b m)
 |0,b,h=>by
  have:b=B:=by omega
  subst this;simp only[nM,List.range'_zero,dc,DV]
 |m+1,b,h=>by
  have c:=BG C m (b+1) y8;rw[av,bA]at c;have:=BR C (b:=b) y8 w 0 w _ y8 (j7 _) c;simp only[nM,cA,aS];exact this
end
theorem tq{s:fj}{cf:Nat->Qi}{N:Nat}(e:∀n∈s,1<=n)(j:(N:Int)=fw s)(acc:QD)(c:xE acc s.length)(d:acc.strides.length<=1000)(hit:∀f:Nat,f<N->G9 ⟨⟨List.replicate s.length 0,s⟩,acc⟩ (iT s (f:Int)) (cf f)):
  DV s cf N 0 [⟨⟨List.replicate s.length 0,s⟩,acc⟩]:=by
 have k:=fM e;refine⟨N,⟨by omega,yn e,(Dm s).symm,λf g=>?_,c,d,λf _ l=>hit f y8⟩,by omega,by simp only[DV];omega⟩;rw[ym (qq e y8 g)];exact(decide_eq_true y8).symm
-- Plain law: RunsReshape.
def Nv(s:fj):Qk:=⟨⟨List.replicate s.length 0,s⟩,⟨1,0,0,[],0,0,0⟩⟩
theorem yq:∀{s:fj},fW (List.replicate s.length 0) s=true->∀n∈s,1<=n
 |[],_,n,h=>by simp at h
 |x::s,f,n,h=>by
  rw[zG,aJ,fW,jE,zD]at f;rcases aq.1 h with rfl|h
  .omega
  .exact yq f.2 n h
theorem vK{s:fj}(hc:fH s=0):J0 s=some (if fw s=0 then[]else[km (Nv s)]):=by
 obtain⟨l,d,j⟩:=fE hc;have hn:∀n∈s,0<=n:=λn hn=>(j n hn).1
 obtain⟨g,k⟩:=rQ s y8;have e:=rb (s:=s) d y8 ⟨⟨List.replicate s.length 0,s⟩,⟨1,0,0,[],0,0,0⟩⟩ (ky hn);unfold J0;simp only[k,Qc];rw[e,Qc];by_cases z:fw s=0
 .have c:¬fT ⟨⟨List.replicate s.length 0,s⟩,⟨1,0,0,[],0,0,0⟩⟩=true:=λf=>by
   have:=fM (yq (s:=s) f);omega
  rw[af c,ai z]
 .have c:fT ⟨⟨List.replicate s.length 0,s⟩,⟨1,0,0,[],0,0,0⟩⟩=true:=oZ (gu hn z);rw[ai c,af z];rfl
theorem nW(s:fj)(a:QD)(h:s.length<=600):Rm (s,a)=some [⟨⟨List.replicate s.length 0,s⟩,a⟩]:=by
 simp only[Rm,qE (show s.length<=1000 by omega),Qc]
theorem Nz(o:fj)(k:Int)(c:Nat):∀(s p:fj) (v:Int),p.length+s.length<=600->(∀n∈s,1<=n)->1<=v->v*fw s<=65536->YD (p++s,c,o,k,v,(p.length:Int))=some (v*fw s)
 |[],p,v,h,d,g,f=>by
  rw[YD];simp only[Za,aj,Qc,j6,ib,bO]
 |x::s,p,v,h,d,g,f=>by
  rw[YD];have j:=d x (jM ..);have l:=fM (λn hn=>d n (jG _ hn));rw[fV,<-bF]at f;have b1:1<=v*x:=by have:=bg g j y8 y8;omega
  have b2:(v*x)*1<=v*x*fw s:=bn l y8;have m:W (v*x)=v*x:=lg y8 y8;have e:=Nz o k c s (p++[x]) (v*x) (by simp at h |-;omega) (λn hn=>d n (jG _ hn)) b1 f;rw[<-Qv]at e;simp only[Q4,ak,show v>0 by omega,decide_true,Qc,Qy,Ed h,m,e,fV,bF]
theorem Ny:∀(s p out:fj) (c:Nat),p.length+s.length<=600->fH (p++s)=0->(∀n∈p++s,1<=n)->out.length<=p.length->∃g,ZR (p++s,c,out,(p.length:Int))=some (g,out++gF s)
 |[],p,out,c,h,hc,f,l=>by
  rw[ZR];simp only[Za,aj];simp only[gF,jU];exact⟨_,rfl⟩
 |x::s,p,out,c,h,hc,f,l=>by
  rw[ZR];have m:Sm (p++x::s).length:=jf (show(p++x::s).length<=1000 by simp at h |-;omega);have r:=fM f;have j:∀n∈s,1<=n:=λn hn=>f n (by simp[hn])
  have q:fw s<=65536:=by
   have:=Bd (a:=p++[x]) (b:=s) (λn hn=>f n (by simp at hn |-;rcases hn with h|h<;>simp[h])) j;rw[<-Qv]at this;have:=(fE hc).2.1;omega
  have d:YC (p++x::s)=some (fw (p++x::s)):=by rw[lZ _ m,iS,ai hc]
  have k:=Nz out (p.length:Int) c s (p++[x]) 1 (by simp at h |-;omega) j y8 y8;rw[<-Qv,cq]at k;obtain⟨g,e⟩:=Ny s (p++[x]) (out++[fw s]) (gb c ([fw s]:fj).isEmpty) (by simp at h |-;omega) (by rw[<-Qv];exact hc) (by rw[<-Qv];exact f) y9;rw[<-Qv]at e;simp only[Q4,ak,d,Qc,show¬fw (p++x::s)=0 by omega,aj,Ed h,k];rw[gj (by simp at h |-;omega) y8,Qc,e,gF];exact⟨g,by simp⟩
theorem Mb{s:fj}(hc:fH s=0)(c:∀n∈s,1<=n):∃g,JO s=some (g,gF s):=by
 obtain⟨f,j,k⟩:=fE hc;obtain⟨g,e⟩:=Ny s [] [] 0 y9 hc c yA;have e':ZR (s,0,[],0)=some (g,gF s):=e;have d:Sm s.length:=jf (show s.length<=1000 by omega);exact⟨g,by simp only[JO,qa s d,Qc,hc,ne_eq,not_true,aj,e']⟩
theorem Gc(k:Int)(v:fj):∀(t p:fj),(p++t).length=v.length->(p++t).length<=600->(∀x∈t,-1000000000000<=x*k/\x*k<=1000000000000)->Xr (v,k,p.map (· *k)++t,(p.length:Int))=some ((p++t).map (· *k))
 |[],p,c,d,e=>by
  rw[Xr]
  have:¬((p.length:Int)<(v.length:Int)):=by rw[<-c];simp
  simp only[this,aj];simp only[jU]
 |x::t,p,c,d,e=>by
  rw[Xr];have f:((p.length:Int)<(v.length:Int)):=by rw[<-c];simp;omega
  have m:QR ((p.map (· *k)++x::t).length=v.length)=some ():=fI (by rw[<-c];simp);have n:idx (p.map (· *k)++x::t) (p.length:Int)=some x:=mB yA;have j:=e x yA;have q:W (x*k)=x*k:=gh j.1 j.2
  have r:iL (p.map (· *k)++x::t) (p.length:Int) (x*k)=some ((p++[x]).map (· *k)++t):=by
   rw[jo yA];have:=qH (p:=p.map (· *k)) (s:=t) (x:=x) (y:=x*k);rw[jY]at this;rw[this];simp
  have g:W ((p.length:Int)+1)=((p++[x]).length:Int):=by simp at d;rw[gh y8 y8];simp
  have l:=Gc k v t (p++[x]) (by simpa using c) (by simpa using d) (λy u=>e y (jG _ u));rw[<-Qv]at l;simp only[f,ak,m,Qc,n,q,r,g];exact l
theorem Gk{s:fj}(hc:fH s=0)(d:∀n∈s,1<=n){k:Int}(c:-200<=k/\k<=200):∀x∈gF s,-1000000000000<=x*k/\x*k<=1000000000000:=λx e=>by
 obtain⟨g,f,j⟩:=fE hc;have hm:=vR d f x e;have:=pz (a:=x) (b:=k) (A:=65536) (B:=200) y8 y8 c.1 c.2;omega
theorem A7:∀{s:fj},(∀n∈s,1<=n)->∀x∈gF s,1<=x/\x<=fw s
 |[],_,x,h=>by simp[gF]at h
 |n::s,c,x,h=>by
  have d:=fM (λm hm=>c m (jG _ hm));have hn:=c n (jM ..);have hm:1*fw s<=n*fw s:=aI hn y8;rw[fV];rw[gF]at h;rcases aq.1 h with rfl|h
  .omega
  .have:=A7 (λm hm=>c m (jG _ hm)) x h;omega
theorem LK{s:fj}(f:fw s<=300)(d:∀n∈s,1<=n){k:Int}(c:-200<=k/\k<=200):∀x∈gF s,-65536<=x*k/\x*k<=65536:=λx e=>by
 have hm:=A7 d x e;have:=pz (a:=x) (b:=k) (A:=300) (B:=200) y8 y8 c.1 c.2;omega
theorem yT{s:fj}(hc:fH s=0)(c:∀n∈s,1<=n){k:Int}(d:-200<=k/\k<=200):RF (s,k)=some ((gF s).map (· *k)):=by
 obtain⟨j,l,m⟩:=fE hc;obtain⟨g,f⟩:=Mb hc c;have hl:=kJ s;have e:=Gc k (gF s) (gF s) [] rfl y9 (Gk hc c d);have e':Xr (gF s,k,gF s,0)=some ((gF s).map (· *k)):=e;simp only[RF,f,Qc,e'];rw[fI yA];rfl
theorem Ij(k:Int):∀(t p:fj),(p++t).length<=600->(∀x∈t,-1000000000000<=x*k/\x*k<=1000000000000)->YJ (p++t,k,p.map (· *k),(p.length:Int))=some ((p++t).map (· *k))
 |[],p,c,d=>by
  rw[YJ];simp only[Za,aj];simp only[jU]
 |x::t,p,c,d=>by
  rw[YJ];have f:=d x yA;have j:W (x*k)=x*k:=gh f.1 f.2;have e:W ((p.length:Int)+1)=((p++[x]).length:Int):=by simp at c;rw[gh y8 y8];simp
  have g:=Ij k t (p++[x]) (by simpa using c) (λy l=>d y (jG _ l));rw[<-Qv,zL]at g;simp only[Q4,ak,Qy,Qc,j,e];rw[gj (by simp at c |-;omega) y8,Qc];exact g
theorem C5{s:fj}(hc:fH s=0)(c:∀n∈s,1<=n){k:Int}(d:-200<=k/\k<=200):PJ (gF s,k)=some ((gF s).map (· *k)):=by
 obtain⟨f,g,j⟩:=fE hc;have hl:=kJ s;have e:=Ij k (gF s) [] y9 (Gk hc c d);have e':YJ (gF s,k,[],0)=some ((gF s).map (· *k)):=e;simp only[PJ,e',Qc]
def Eu(r:Qq)(s:fj):QD:=if r.fill=true then⟨1,0,0,[],0,0,0⟩else if r.step=0\/fw s<=r.len then⟨2,r.buffer,r.offset,(gF s).map (· *r.step),0,0,0⟩else⟨3,r.buffer,r.offset,gF s,0,r.step,r.len⟩
def GY(r:Qq)(s:fj):Qk:=⟨⟨List.replicate s.length 0,s⟩,Eu r s⟩
theorem GF{r:Qq}{s:fj}(hc:fH s=0)(d:∀n∈s,1<=n)(f:xF r):PM (gm r,s)=some (M5 (Eu r s)):=by
 obtain⟨e,j,l⟩:=fE hc;have g:Sm s.length:=jf (show s.length<=1000 by omega);simp only[PM,oK hc d,Qc,gm,ke s g,iS,hc,ak];unfold Eu;by_cases c:r.fill=true
 .simp only[c,ak];rfl
 .by_cases h0:r.step=0
  .simp only[c,aj,h0,ak,Qc,true_or,C5 hc d (k:=0) y8];rfl
  .by_cases e:fw s<=r.len
   .simp only[c,aj,h0,e,decide_true,ak,Qc,or_true,C5 hc d f.s];rfl
   .simp only[c,aj,h0,e,y3,Qc,j6,or_self];rfl
theorem US{r:Qq}{s:fj}{n:Nat}(hc:fH s=0)(c:∀n∈s,1<=n)(g:xF r)(hn:1<=n)(hl:r.len=(n:Int))(j:P9 [r]=some (n:Int)):Yd ([r],s)=some [GY r s]:=by
 obtain⟨e,m,p⟩:=fE hc;have k:Sm s.length:=jf (show s.length<=1000 by omega);have q:=fM c;have k1:¬(fw s=0):=by omega
 have k2:¬((n:Int)=0):=by omega
 have k3:((([r]:List Qq).length:Nat):Int)=1:=rfl;have l:idx [r] 0=some r:=rfl;simp only[Yd,lZ s k,iS,hc,ak,Qc,k1,aj,j,k2,k3,l];unfold GY Eu;by_cases f:r.fill=true
 .simp only[f,ak,nW s _ (show s.length<=600 by omega),Qc]
 .simp only[f,aj,yT hc c g.s,yT hc c (show -200<=(1:Int)/\(1:Int)<=200 by omega),Qc];by_cases h0:r.step=0
  .simp only[h0,ne_eq,not_true,aj,Qc,j6,true_or,ak,nW s _ (show s.length<=600 by omega)]
  .by_cases e:fw s<=r.len
   .have:¬(fw s>(n:Int)):=by omega
    simp only[h0,ne_eq,not_false_eq_true,ak,this,y3,Qc,j6,aj,e,or_true,nW s _ (show s.length<=600 by omega)]
   .have:fw s>(n:Int):=by omega
    have hm:(gF s).map (· *(1:Int))=gF s:=by simp
    have d:¬(fw s<=(n:Int)):=by omega
    simp only[h0,ne_eq,not_false_eq_true,ak,this,decide_true,Qc,d,or_self,aj,j6,nW s _ (show s.length<=600 by omega),hm,hl]
theorem Rg{r:Qq}{s:fj}(hc:fH s=0)(c:∀n∈s,1<=n)(d:xF r):ZX ([gm r],s)=some [km (GY r s)]:=by
 obtain⟨l,m,p⟩:=fE hc;have e:Sm s.length:=jf (show s.length<=1000 by omega);have q:=fM c;have k1:¬(fw s=0):=by omega
 have k3:((([gm r]:List Qs).length:Nat):Int)=1:=rfl;have f:((1:Int)==0)=false:=by decide
 have j:idx [gm r] 0=some (gm r):=rfl;obtain⟨g,k⟩:=rQ s y8;simp only[ZX,ke s e,iS,hc,ak,Qc,k1,aj,k3,f,j,j6,k,GF hc c d];rfl
theorem L8{l:List Qi}{r:Qq}{s:fj}{N:Nat}(hl:l.length<=600)(g:fw s<=300)(hR:gn l 0 [r])(hc:fH s=0)(q:∀n∈s,1<=n)(D:(N:Int)=fw s):DV s (oa l) N 0 [GY r s]:=by
 obtain⟨u,E,L⟩:=fE hc;obtain⟨m,⟨M,F⟩,⟨k1,k2⟩,v,d,j⟩:=hR;simp only[gn]at j;have hm:m=l.length:=by omega
 subst hm;have c:=kJ s
 have w:∀f:Nat,oa l f=oI r (f%l.length):=λf=>by
  have:=v (f%l.length) (bd _ k1);rw[zY]at this;exact this
 unfold GY;refine tq q D _ ?_ ?_ (λf O=>?_)
 .unfold Eu;split
  .exact oH u
  .split
   .refine Aj u ⟨by have:=d.b;simp only;omega,by have:=d.o;simp only;omega,by simp,by simp,by simp,by simp[c];omega,λx t=>?_⟩ (by simp[c]);simp only[ar]at t;obtain⟨y,G,rfl⟩:=t;exact LK g q d.s y G
   .refine Mi u ⟨by have:=d.b;simp only;omega,by have:=d.o;simp only;omega,by simp,by have:=d.s;simp only;omega,by simp only;omega,by simp only[c];omega,λx t=>?_⟩ c y8;have:=vR q E x t;omega
 .unfold Eu;split
  .simp
  .split
   .simp[c];omega
   .simp only[c];omega
 .rw[w];have e:(iT s (f:Int)).length=s.length:=kD _ _;have k:=B2 q (f:Int) y8 y8;have H:=bd f k1;unfold Eu oI;by_cases p:r.fill=true
  .simp only[p,ak];exact qK _ _ (by rw[e];omega)
  .simp only[p,aj,j6];have I:=d.o;have z:=d.s;by_cases C:r.step=0\/fw s<=r.len
   .rw[ai C]
    have J:r.step*(f:Int)=((f%l.length:Nat):Int)*r.step:=by
     rcases C with h0|h0
     .rw[h0];simp
     .rw[bX y8,bj]
    have K:=pz (a:=((f%l.length:Nat):Int)) (b:=r.step) (A:=600) (B:=200) y8 y8 z.1 z.2;refine Ej _ (by simp[c];omega) (by rw[e];omega) ?_ y8 y8;rw[vQ,k,J]
   .rw[af C,F];exact O5 _ (by rw[c];omega) (by rw[e];omega) k y8 ⟨k1,hl⟩ I z rfl
theorem LL{l:List Qi}{R:List Qq}(hl:l.length<=600)(hn:1<=l.length)(hR:gn l 0 R):DV [] (oa l) 1 0 [oX (fS R 0)]:=by
 obtain⟨g,j,k,e,c,m⟩:=jm hR (show 0<l.length by omega);rw[pO hR]at e;refine tq (s:=[]) (λn h=>by simp at h) (by simp[ib]) _ ?_ ?_ (λf d=>?_)
 .split
  .exact oH (n:=0) y8
  .refine Aj (n:=0) y8 ⟨by have:=c.b;simp only;omega,by have:=c.o;simp only;omega,by simp,by simp,by simp,by simp,by simp⟩ rfl
 .split <;>simp
 .have:f=0:=by omega
  subst this
  have hc:oa l 0=oI (fS R 0) 0:=by
   unfold oa;rw[Nat.zero_mod];exact e
  rw[hc];unfold oI;by_cases d:(fS R 0).fill=true
  .simp only[d,ak];exact qK _ _ (by simp[iT])
  .simp only[d,aj,j6];have:=c.o;exact Ej _ yA (by simp[iT]) (by simp[gL]) y8 y8
theorem Cz{l:List Qi}{R:List Qq}(hl:l.length<=600)(hR:gn l 0 R)(J:2<=R.length):Yd (R,[])=some [oX (fS R 0)]:=by
 have D:=qg hR;have hn:1<=l.length:=by omega
 obtain⟨E,F,Q,S,K,T⟩:=jm hR (show 0<l.length by omega);have hc:fH []=0:=by decide
 have L:Sm ([]:fj).length:=jf (show([]:fj).length<=1000 by simp);have k1:¬((1:Int)=0):=by decide
 have k2:¬((l.length:Int)=0):=by omega
 have k3:¬((R.length:Int)=1):=by omega
 have q:Yc []=some [[]]:=KR (s:=[]) yA yC;have k:=pO hR;have c:mX 0 (l.length:Int)=some 0:=by rw[oY (aC _) y8,eW]
 have r:=rZ hl hR (show 0<l.length by omega);rw[k]at r;have d:Po (R,0)=some 0:=r;rw[k]at E;have e:idx R 0=some (fS R 0):=mB E
 have u:∀(g t:Nat),YX ([],[[]],0,R,(l.length:Int),t,[],0,0,[],[],g,[],0)=some (g,[]):=λg t=>by
  rw[YX]
  have:¬((0:Int)<(([]:fj).length:Int)):=by simp
  simp only[this,aj]
 have f:∀(g:Nat) (hi:fj) (t n:Nat) (out:List Qk),QI ([[]],(l.length:Int),R,[],g,hi,t,n,out,W (0+1))=some (g,hi,t,n,out):=λg hi t n out=>by
  rw[QI]
  have:¬(W ((0:Int)+1)<(([[]]:List fj).length:Int)):=by decide
  simp only[this,aj]
 have v:((0:Int)<(([[]]:List fj).length:Int)):=by decide
 have j:W ((([]:fj).length:Int) - 1)<0:=by decide
 have y:¬(W ((([]:fj).length:Int) - 1)>=0):=by decide
 have w:idx ([[]]:List fj) 0=some []:=rfl;have z:QR (([]:fj).length=0)=some ():=fI rfl;have G:QR True=some ():=fI trivial;have A:jb 8 (([]:fj).length:Int) (0:Int)=some []:=qE (n:=0) y8;have B:(fS R 0).at0_=0:=by rw[k]at F;simpa using F
 have M:W (0 - (fS R 0).at0_)=0:=by rw[B];decide
 have N:W (0*(fS R 0).step)=0:=by rw[fb];decide
 have O:W ((fS R 0).offset+0)=(fS R 0).offset:=by have:=K.o;rw[fc];exact gh y8 y8
 have x:∀p:Qk,I8 120 (λ(H:Qk) (P:fj)=>(⟨⟨H.box.lo,P⟩,H.access⟩:Qk)) [] [] p=some [p]:=λp=>zj yA
 have m:∃g t,QI ([[]],(l.length:Int),R,[],0,[],0,0,[],0)=some (g,[],t,0,[oX (fS R 0)]):=by
  rw[QI];unfold oX;by_cases I:(fS R 0).fill=true
  .simp only[v,ak,c,Qc,d,j,w,z,G,u,e,I,reduceCtorEq,aj,x,f];exact⟨_,_,rfl⟩
  .have C:(fS R 0).fill=false:=by simpa using I
   simp only[v,ak,c,Qc,d,j,w,z,G,u,e,C,reduceCtorEq,aj,x,f,A,y,M,N,O,j6];exact⟨_,_,rfl⟩
 obtain⟨g,t,m⟩:=m;simp only[Yd,lZ _ L,iS,hc,ak,ib,Qc,k1,aj,vi hl hR,k2,k3,j6,q,m,z];rfl
-- Plain law: RunsReshape, joined.
def Pg(l:List Qi)(f:Nat):Qi:=if l.length=0 then⟨true,0,0⟩else oa l f
theorem GN{l:List Qi}{s:fj}{N:Nat}(hl:l.length<=600)(t:fw s<=300)(hc:∀c∈l,ng c)(g:fH s=0)(p:∀n∈s,1<=n)(x:(N:Int)=fw s)(u:Yc s=some (ig s)):
  ∃P,ZX ((Hk l).map gm,s)=some (P.map km)/\Yd (Hk l,s)=some P/\DV s (Pg l) N 0 P:=by
 obtain⟨H,X,K⟩:=fE g;have I:Sm s.length:=jf (show s.length<=1000 by omega);have Y:=fM p;have k1:¬(fw s=0):=by omega
 by_cases h0:l.length=0
 .have L:=aw h0;subst L;have y:Hk []=[]:=rfl;rw[y];refine⟨[Nv s],?_,?_,?_⟩
  .have k2:(((([]:List Qq).map gm).length:Int)==0)=true:=rfl;simp only[ZX,ke s I,iS,g,ak,Qc,k1,aj,k2,vK g];rfl
  .have e:=vP [] yA [] [] 0 (j7 _) (zP _) rfl;have e':Xc ([],0,0)=some 0:=e;simp only[Yd,lZ s I,iS,g,ak,Qc,k1,aj,P9,e',nW s _ (show s.length<=600 by omega)];rfl
  .refine tq p x _ (oH H) yA (λf Z=>?_);exact qK _ _ (by rw[kD];omega)
 .have hn:1<=l.length:=by omega
  have hR:gn l 0 (Hk l):=CJ hc l.length 0 (zP _) y8;have z:Pg l=oa l:=funext λf=>by unfold Pg;rw[af h0]
  rw[z];generalize M:Hk l=R at hR |-
  match R,hR with
  |[],hR=>simp only[gn]at hR;omega
  |[r],hR=>
   have O:=vi hl hR;have A:=hR;obtain⟨m,⟨e1,Q⟩,⟨q1,q2⟩,S,J,v⟩:=A;simp only[gn]at v;have hm:m=l.length:=by omega
   subst hm;exact⟨[GY r s],Rg g p J,US g p J hn Q O,L8 hl t hR g p x⟩
  |r::D::R,hR=>
   have j:2<=(r::D::R).length:=by simp
   rcases de s with rfl|⟨a,w,rfl⟩
   .have:N=1:=by rw[ib]at x;omega
    subst this;exact⟨[oX (fS (r::D::R) 0)],Bn hl hR j,Cz hl hR j,LL hl hn hR⟩
   .simp only[df]at *;have hw:=p w yA;have k:∀n∈a,1<=n:=λn hn=>p n (by simp[hn])
    have T:=fM k;obtain⟨w',rfl⟩:∃w':Nat,w=(w':Int):=⟨w.toNat,by omega⟩;obtain⟨B,hB⟩:∃B:Nat,fw a=(B:Int):=⟨(fw a).toNat,by omega⟩;have U:fw (a++[(w':Int)])=((B*w':Nat):Int):=by rw[jv,hB,fV,ib,bO];simp
    have E:N=B*w':=by omega
    subst E
    have hca:fH a=0:=by
     have V:fw a<=65536:=by
      have W:B*1<=B*w':=e7 _ y8;omega
     unfold fH
     have n1:lI a=false:=by
      cases F:lI a with
      |false=>rfl
      |true=>
       obtain⟨d,G,q⟩:=db.1 F;have:=k d G;simp at q;omega
     have n2:lH a=false:=by
      cases F:lH a with
      |false=>rfl
      |true=>
       obtain⟨d,G,q⟩:=db.1 F;have:=(K d (by simp[G])).2;simp at q;omega
     rw[n1,af yA,af];rw[n2];simp at H
     rintro(c|c|c)
     .omega
     .cases c
     .omega
    have C:Ctx l (r::D::R) a w' B:=⟨hl,hR,hn,by omega,g,hca,k,hB,by omega⟩;refine⟨_,BP hl hR j y8 g hca k hB y8,CS C j u,?_⟩;have:=BG C B 0 y8
    rwa [fe]at this
theorem TL(x:Int):W (W x)=W x:=by simpa using sG x 0
structure yN (a:Qh):Prop where
 b:W a.base=a.base
 s:W a.start=a.start
 m:a.kind=3->1<=a.mod/\a.mod<=1000000000000
 l:a.strides.length<=1000
theorem yN.n{a:Qh}(h:yN a):Sq a:=And.intro h.b h.s
theorem IU{a:Qh}{n:Int}{st:fj}(h:yN a)(c:st.length<=1000):yN (oR a n st):=by
 unfold oR;split
 .exact h
 .split
  .exact⟨h.b,TL _,h.m,c⟩
  .exact⟨TL _,h.s,h.m,c⟩
theorem xh{a:Qh}{k:Nat}{n:Int}(h:yN a):yN (oM a k n):=IU h h.l
theorem Of{a:Qh}{k:Nat}{n:Int}(h:yN a):yN (AM a k n):=IU h (by simpa using h.l)
theorem E6:∀(st:fj) (a:Qh) (k:Nat),yN a->yN (nR a k st)
 |[],_,_,h=>h
 |n::st,a,k,h=>by rw[nR];exact E6 st _ _ (xh h)
theorem Oc{a:Qh}{p:fj}{r:Nat}(h:yN a)(c:r<=600):yN (rC a p r):=by
 unfold rC;split
 .exact h
 .exact⟨h.b,h.s,h.m,by simp only[mF,zJ];omega⟩
theorem Ml(b:Ql):yN (l6 b).access:=⟨by show W 0=0;decide,by show W 0=0;decide,λh=>absurd (show(1:Int)=3 from h) yC,by simp[l6,kW]⟩
theorem KE{b:Int}{s:fj}(h:s.length<=600):yN (mc b s).access:=⟨by show W 0=0;decide,by show W 0=0;decide,λh=>absurd (show(2:Int)=3 from h) yC,by show(gF s).length<=1000;rw[kJ];omega⟩
theorem yx(x:Int)(s t:fj):W (x+l4 s t 0)=W (x+gL s t):=by
 have:=wH s t 0;exact K2 y8
theorem Cl{a b:Int}(d:1<=b):(if a.tmod b<0 then a.tmod b+b else a.tmod b)=a%b:=by
 have c:=Int.mul_tdiv_add_tmod a b;have e:=Int.tmod_lt_of_pos a (show 0<b by omega);have f:=dH a (show 0<b by omega);generalize a.tmod b=t at *;generalize a.tdiv b=q at *;subst c;by_cases g:t<0
 .rw[ai g,show b*q+t=(t+b)+b*(q - 1) by rw[eF,bO];omega,dL,bJ y8 y8]
 .rw[af g,show b*q+t=t+b*q by omega,dL,bJ y8 y8]
theorem Nn{a:Qh}{i:fj}(g:kQ i.length a)(hi:i.length<=600)(hn:yN a):∃v ok,Xb (qT a,i)=some (v,ok)/\uB a i=(if ok=false then(true,0,0)else(false,a.buffer,v)):=by
 have hm:=hn.m;have d:=hn.l;obtain⟨k,n,ba,s,c,sp,md⟩:=a;simp only at d;have e:Pc (s,i)=some (l4 s i 0):=uV y8 y8;rcases g with h|⟨h|h,p⟩<;>simp only at h<;>subst h
 .refine⟨0,false,?_,rfl⟩;simp only[Xb,e,Qc,qT,ak]
 .refine⟨W (ba+l4 s i 0),true,?_,?_⟩
  .simp only[Xb,e,Qc,qT,show¬(2:Int)=1 by decide,aj,ak]
  .simp only[uB,show¬(2:Int)=1 by decide,show¬(2:Int)=3 by decide,aj,yx,jO]
 .obtain⟨m1,m2⟩:=hm rfl;simp only at m1 m2;have f:mX (W (c+l4 s i 0)) md=some ((W (c+l4 s i 0)).tmod md):=af y8;have t:=Cl (a:=W (c+gL s i)) m1;have q:=dH (W (c+gL s i)) (show 0<md by omega);rw[yx]at f
  have j:(if(W (c+gL s i)).tmod md<0 then some (W ((W (c+gL s i)).tmod md+md))else some ((W (c+gL s i)).tmod md))=some (W (c+gL s i)%md):=by
   rw[<-t];split
   .rw[lg y8 y8]
   .rfl
  refine⟨W (ba+W (sp*(W (c+gL s i)%md))),true,?_,?_⟩
  .simp only[Xb,e,Qc,qT,show¬(3:Int)=1 by decide,show¬(3:Int)=2 by decide,aj,yx,f,j]
  .simp only[uB,show¬(3:Int)=1 by decide,ak,aj,jO]
def Mh(x:Bool×Int×Int):Qi:=⟨x.1,x.2.1,x.2.2⟩
theorem IA{i:fj}(hi:i.length<=600){v:Bool×Int×Int}:∀(l p:List Qa),p.length+l.length<=50000->(∀x∈l,x.box.lo.length=i.length/\x.box.hi.length=i.length/\kQ i.length x.access/\yN x.access)->(∀x∈l,gZ i x=true->uB x.access i=v)->(∃x∈l,gZ i x=true)->
  Yx ((p++l).map pn,i,(p.length:Int))=some (.inl v)
 |[],p,h,g,j,k=>by obtain⟨x,q,_⟩:=k;simp at q
 |x::l,p,h,g,j,k=>by
  rw[Yx];have r:((p.length:Int)<(((p++x::l).map pn).length:Int)):=by simp;omega
  have s:idx ((p++x::l).map pn) (p.length:Int)=some (pn x):=mB yA;obtain⟨k1,k2,k3,t⟩:=g x (jM ..);have e:Jk ((pn x).box,i)=some (gZ i x):=KD (b:=(pn x).box) k1 k2 hi;have u:p.length<=50000:=by simp at h;omega
  have z:W ((p.length:Int)+1)=((p++[x]).length:Int):=l9 y8;simp only[r,ak,s,Qc,e];by_cases c:gZ i x=true
  .obtain⟨w,ok,A,B⟩:=Nn k3 hi t;have m:Xb ((pn x).access,i)=some (w,ok):=A;have f:=j x (jM ..) c;rw[B]at f;simp only[c,ak,m,Qc];cases ok with
   |false=>rw[ai rfl]at f |-;rw[<-f]
   |true=>rw[af yC]at f |-;rw[<-f];rfl
  .have n:=IA hi l (p++[x]) (by simp at h |-;omega) (λy d=>g y (jG _ d)) (λy d=>j y (jG _ d)) (by
    obtain⟨y,d,hc⟩:=k;rcases aq.1 d with rfl|d
    .exact absurd hc c
    .exact⟨y,d,hc⟩)
   rw[<-Qv]at n;simp only[c,j6,aj,z,n]
def xy(c:Qb)(x:Qa):Prop:=rn c x/\yN x.access
theorem Oe{c:Qb}{l:List Qa}(h:Inv (xy c) c.shape l)(hc:fH c.shape=0)(j:fw c.shape<=20000){i:fj}(hi:iB c.shape i=true):Je (l.map pn,i)=some (Mh (mE c i),true):=by
 obtain⟨c1,c2,n⟩:=fE hc;have k:=h.len4 hc j;have f:=il hi;have g:∃x∈l,gZ i x=true:=dy.1 (by rw[h.cnt i hi];omega)
 have e:=IA (i:=i) (v:=mE c i) y8 l [] (by simpa using by omega) (λx d=>by
  obtain⟨l1,l2⟩:=lx (h.box x d);have:=h.acc x d;rw[f]at this;exact⟨by omega,by omega,this,(h.prp x d).2⟩) (λx d m=>(h.prp x d).1 i hi m) g
 have e':Yx (l.map pn,i,0)=some (.inl (mE c i)):=e;simp only[Je,e',Qc];rfl
theorem Gn{s:fj}{L:List Qk}{f:fj->Bool×Int×Int}(d:∀i,iB s i=true->Je (L,i)=some (Mh (f i),true)):∀(A p:List fj) (out:List Qi),(∀i∈A,iB s i=true)->p.length+A.length<=50000->out.length=p.length->
  ZF (p++A,L,out,(p.length:Int))=some (out++A.map λi=>Mh (f i))
 |[],p,out,h,c,e=>by
  rw[ZF];simp only[Za,aj];simp
 |i::A,p,out,h,c,e=>by
  rw[ZF];have k:p.length<=50000:=by simp at c;omega
  have g:=Gn d A (p++[i]) (out++[Mh (f i)]) (λj l=>h j (jG _ l)) (by simp at c |-;omega) (by simp[e]);rw[<-Qv]at g;have m:W ((p.length:Int)+1)=((p++[i]).length:Int):=l9 y8;simp only[Q4,ak,Qy,Qc,d i (h i (jM ..))];rw[gj y9 y8,Qc,m,g];simp
theorem pP{s:fj}(h:∀n∈s,0<=n):∀i∈ig s,iB s i=true:=λi hi=>by
 obtain⟨j,d,rfl⟩:=bM hi;have hl:=ko h;have c:=gu h y8;have:=kK c j y8;rw[jC d]at this;rw[jS this];exact qq c y8 y8
def iQ(c:Qb):List Qi:=(ig c.shape).map λi=>Mh (mE c i)
theorem wN{c:Qb}{l:List Qa}(h:Inv (xy c) c.shape l)(hc:fH c.shape=0)(g:fw c.shape<=20000)(d:Yc c.shape=some (ig c.shape)):Xu (c.shape,l.map pn)=some (iQ c):=by
 obtain⟨c1,c2,j⟩:=fE hc;have hn:∀n∈c.shape,0<=n:=λn hn=>(j n hn).1
 have hl:=ko hn;have e:=Gn (s:=c.shape) (L:=l.map pn) (f:=mE c) (λi hi=>Oe h hc g hi) (ig c.shape) [] [] (pP hn) y9 rfl;have e':ZF (ig c.shape,l.map pn,[],0)=some (iQ c):=e;simp only[Xu,d,Qc,e']
theorem l7:∀{s i:fj},iB s i=true->iT s (iA s i)=i
 |[],[],_=>rfl
 |n::s,x::i,h=>by
  have c:iB s i=true:=by simp only[iB,jE]at h;exact h.2
  obtain⟨q0,q1⟩:=gG c;rw[iA,iT,dr,Int.add_mul_ediv_right _ _ y8,Int.ediv_eq_zero_of_lt q0 q1,Int.add_mul_emod_self_right,bJ q0 q1,l7 c,ff]
 |[],_::_,h=>by simp[iB]at h
 |_::_,[],h=>by simp[iB]at h
def SY(B:Int)(x:Bool×Int×Int):Prop:=(0<=x.2.1/\x.2.1<=100000)/\(0<=x.2.2/\x.2.2<=200)/\(x.1=true->x.2.1=0/\x.2.2=0)/\(x.1=false->x.2.1<B)
theorem Fu{B:Int}:SY B (true,0,0):=⟨⟨by decide,by decide⟩,⟨by decide,by decide⟩,λ_=>⟨rfl,rfl⟩,λh=>by cases h⟩
section
variable{bs:List (fj)}{m:Int}{G:Qb->Prop}
theorem Gm(p:GK bs m G)(J:bs.length<=1000)(hm:m<=200):∀(n:Nat) (c:Qb),rv c<=n->G c->∀i,iB c.shape i=true->SY (bs.length:Int) (mE c i)
 |0,c,h,_,_,_=>by have:=so c;omega
 |n+1,c,h,u,i,hi=>by
  obtain⟨v,K,_⟩:=p.chk u;obtain⟨c1,c2,W⟩:=fE v
  have sub:∀k∈c.kids,∀j,iB k.shape j=true->SY (bs.length:Int) (mE k j):=λk f j w=>by
   have:=AK f;exact Gm p J hm n k y8 ((p c u).2.2 k f) j w
  have chk:∀k∈c.kids,fH k.shape=0:=λk f=>(p.chk ((p c u).2.2 k f)).1
  have L:=il hi;cases p.nod u with
  |one E f=>
   rw[FI E];have x:=(pZ (p c u).1).2.1 E;have:=mG x;have M:=gG hi;refine⟨⟨?_,?_⟩,⟨M.1,?_⟩,(λh=>by cases h),λ_=>?_⟩
   .exact this.1
   .have:=(ae.1 this.2).1;show c.buffer<=100000
    omega
   .show iA c.shape i<=200
    omega
   .have:=(ae.1 this.2).1;show c.buffer<(bs.length:Int)
    omega
  |win k F f g t l=>
   rw[ki y8];have d:js c=k.shape:=by unfold js;rw[f]
   by_cases A:iB k.shape (D3 i c.starts)=true
   .have es:gW c i=(0,D3 i c.starts,true):=by unfold gW;rw[ai F,d,A];rfl
    rw[es];simp only[ak,f,br,l5];exact sub k (by rw[f];simp) _ A
   .have es:(gW c i).2.2=false:=by unfold gW;rw[ai F,d];exact(bb _).mp A
    rw[es];exact Fu
  |rev k N f g t l=>
   have d:js c=c.shape:=by unfold js;rw[f];exact g
   have es:gW c i=(0,i.set c.axis.toNat (c.shape.getD c.axis.toNat 0 - 1 - i.getD c.axis.toNat 0),true):=by
    unfold gW;rw[af y8,ai N,d]
   rw[ki y8,es];simp only[ak,f,br,l5];have r:=mo hi c.axis.toNat l;refine sub k (by rw[f];simp) _ ?_;have:=lG (k:=c.axis.toNat) (n:=c.shape.getD c.axis.toNat 0) (y:=c.shape.getD c.axis.toNat 0 - 1 - i.getD c.axis.toNat 0) hi y8 y8;rw[iz (gy l)]at this;rw[g];exact this
  |rot k O f g t l P X Y=>
   have d:js c=c.shape:=by unfold js;rw[f];exact g
   have es:gW c i=(0,i.set c.axis.toNat ((i.getD c.axis.toNat 0+c.amount)%c.shape.getD c.axis.toNat 0),true):=by
    unfold gW;rw[af y8,af y8,ai O,d]
   rw[ki y8,es];simp only[ak,f,br,l5];have r:=mo hi c.axis.toNat l;refine sub k (by rw[f];simp) _ ?_;have:=lG (k:=c.axis.toNat) (n:=c.shape.getD c.axis.toNat 0) (y:=(i.getD c.axis.toNat 0+c.amount)%c.shape.getD c.axis.toNat 0) hi (bz _ y8) (aX _ y8);rw[iz (gy l)]at this;rw[g];exact this
  |tra k Q f g t l=>
   have es:gW c i=(0,mA c.perm i,true):=by
    unfold gW;rw[af y8,af y8,af y8,ai Q];rfl
   rw[ki y8,es];simp only[ak,f,br,l5];refine sub k (by rw[f];simp) _ (D2 (by simp[mA,g]) λj w=>?_);have s:j<c.perm.length:=by omega
   have e:(mA c.perm i).getD j 0=i.getD (c.perm.getD j 0).toNat 0:=by
    rw[iy (by simpa[mA]using s),iy s];simp[mA]
   have B:=t (c.perm.getD j 0) (by rw[iy s];exact zC _);have r:=mo hi (c.perm.getD j 0).toNat B.2;have:=l j w;rw[e];omega
  |rsh k H f=>
   have d:js c=k.shape:=by unfold js;rw[f]
   have C:=chk k (by rw[f];simp);obtain⟨Z,d2,R⟩:=fE C;rw[ki y8];by_cases z:fw k.shape=0
   .have es:(gW c i).2.2=false:=by
     unfold gW;rw[af y8,af y8,af y8,af y8,ai H,d,ai z]
    rw[es];exact Fu
   .have es:gW c i=(0,iT k.shape (iA c.shape i%fw k.shape),true):=by
     unfold gW;rw[af y8,af y8,af y8,af y8,ai H,d,af z]
    rw[es];simp only[ak,f,br,l5];have I:=gu (λn hn=>(R n hn).1) z;have hP:=fM I;exact sub k (by rw[f];simp) _ (qq I (bz _ y8) (aX _ y8))
  |cat k k2 h7 f g t l P S T U=>
   have d:js c=k.shape:=by unfold js;rw[f]
   have r:=mo hi c.axis.toNat t;have V:c.shape.getD c.axis.toNat 0=k.shape.getD c.axis.toNat 0+k2.shape.getD c.axis.toNat 0:=by rw[jB,U];rfl
   rw[ki y8];by_cases q:i.getD c.axis.toNat 0<k.shape.getD c.axis.toNat 0
   .have es:gW c i=(0,i,true):=by
     unfold gW;rw[af y8,af y8,af y8,af y8,af y8,d,ai q]
    rw[es];simp only[ak,f,br,l5];have:=lG (k:=c.axis.toNat) (n:=k.shape.getD c.axis.toNat 0) (y:=i.getD c.axis.toNat 0) hi y8 q;rw[S,iz (gy y8)]at this;exact sub k (by rw[f];simp) _ this
   .have es:gW c i=(1,i.set c.axis.toNat (i.getD c.axis.toNat 0 - k.shape.getD c.axis.toNat 0),true):=by
     unfold gW;rw[af y8,af y8,af y8,af y8,af y8,d,af q]
    have D:Int.toNat 1=1:=rfl;rw[es];simp only[ak,f,D,l5];have:=lG (k:=c.axis.toNat) (n:=k2.shape.getD c.axis.toNat 0) (y:=i.getD c.axis.toNat 0 - k.shape.getD c.axis.toNat 0) hi y8 y8;rw[T]at this;exact sub k2 (by rw[f];simp) _ this
end
theorem CA:∀{a b:fj},a.length=b.length->sj a b=true->iG a b<0
 |x::a,y::b,hl,h=>by
  simp only[sj]at h;simp only[iG];by_cases c:x<y
  .rw[ai c];decide
  .by_cases e:x=y
   .rw[af (by simpa using e)]at h;rw[af c,af y8];exact CA (by simpa using hl) h
   .rw[ai e]at h;exact absurd (of_decide_eq_true h) c
 |[],_,_,h=>by simp[sj]at h
 |_::_,[],_,h=>by simp[sj]at h
section
variable{s:fj}{cf:Nat->Qi}{N:Nat}
theorem Bx(c:(N:Int)=fw s):∀{P:List Qk} {F:Nat},DV s cf N F P->∀f:Nat,f<F->f<N->(P.map km).countP (gZ (iT s (f:Int)))=0
 |[],F,_,f,_,_=>rfl
 |p::P,F,⟨z,hc,j,d⟩,f,h,g=>by
  have:=hc.inb f y8
  have e:gZ (iT s (f:Int)) (km p)=false:=by
   show jk p.box.lo p.box.hi _=false
   rw[this];exact zZ y8
  rw[zU,cD (by rw[e];decide)];exact Bx c d f y8 g
theorem FT(d:(N:Int)=fw s):∀{P:List Qk} {F:Nat},DV s cf N F P->∀f:Nat,F<=f->f<N->(P.map km).countP (gZ (iT s (f:Int)))=1
 |[],F,h,f,k,c=>by simp only[DV]at h;omega
 |p::P,F,⟨z,hc,l,j⟩,f,h,c=>by
  have:=hc.inb f y8;by_cases g:f<F+z
  .have e:gZ (iT s (f:Int)) (km p)=true:=by
    show jk p.box.lo p.box.hi _=true
    rw[this];exact decide_eq_true ⟨h,g⟩
   rw[zU,cC e,Bx d j f g c]
  .have e:gZ (iT s (f:Int)) (km p)=false:=by
    show jk p.box.lo p.box.hi _=false
    rw[this];exact zZ y8
   rw[zU,cD (by rw[e];decide)];exact FT d j f y8 c
theorem F9(d:∀n∈s,1<=n)(g:(N:Int)=fw s):∀{P:List Qk} {F:Nat},DV s cf N F P->ja (P.map km)=true
 |[],_,_=>rfl
 |[p],_,_=>rfl
 |p::q::P,F,⟨z,hc,m,e⟩=>by
  have f:=F9 d g e;obtain⟨r,c,j,k⟩:=e;have hz1:=hc.hz1;have l:=c.hz1;simp only[zU,ja,jE,zD]at f |-;refine⟨?_,f⟩;show iG p.box.lo q.box.lo<0
  rw[hc.lo,c.lo];refine CA (by rw[kD,kD]) ?_;exact rR d y8 y8 y8
end
theorem MD(x:Qa):km (pn x)=x:=rfl
def lO(l:List Qa)(s0 s:fj):List Qa:=
 if s0=s then l else(((Xu (s0,l.map pn)).bind λo=>(Rk o).bind λr=>Yd (r,s)).getD []).map km
theorem IV{a:QD}{n:Nat}(h:xE a n):kQ n (M5 a):=h.k
theorem OJ{a:QD}{n:Nat}(h:xE a n):yN (M5 a):=by
 have c:=h.s;refine⟨?_,?_,λd=>⟨h.m d,?_⟩,?_⟩
 .show W a.base=a.base;have:=c.o;exact gh y8 y8
 .show W a.start=a.start;rw[c.t];decide
 .show a.mod<=1000000000000;have:=c.m.2;omega
 .show a.strides.length<=1000;exact c.l
section
variable{bs:List (fj)}{m:Int}{G:Qb->Prop}
theorem BI{c k:Qb}(e:c.kind=6)(f:c.kids=[k])(i:fj):mE c i=if fw k.shape=0 then(true,0,0)else mE k (iT k.shape (iA c.shape i%fw k.shape)):=by
 have d:js c=k.shape:=by unfold js;rw[f]
 rw[ki y8];by_cases z:fw k.shape=0
 .have es:(gW c i).2.2=false:=by
   unfold gW;rw[af y8,af y8,af y8,af y8,ai e,d,ai z]
  rw[es,ai z];rfl
 .have es:gW c i=(0,iT k.shape (iA c.shape i%fw k.shape),true):=by
   unfold gW;rw[af y8,af y8,af y8,af y8,ai e,d,af z]
  rw[es,af z];simp only[ak,f,br,l5]
theorem Ku{c k:Qb}(g:c.kind=6)(j:c.kids=[k])(d:k.shape=c.shape){l:List Qa}(h:Inv (xy k) k.shape l):Inv (xy c) c.shape l:=by
 rw[d]at h;refine⟨h.box,h.acc,λx e=>⟨λi hi m=>?_,(h.prp x e).2⟩,h.cnt,h.srt⟩;have f:=gG hi;rw[BI g j i,d,af y8,bJ f.1 f.2,l7 hi];exact(h.prp x e).1 i (by rw[d];exact hi) m
theorem Mz(c:Qb)(hn:∀n∈c.shape,1<=n){f:Nat}(d:(f:Int)<fw c.shape):ce (iQ c) f=Mh (mE c (iT c.shape (f:Int))):=by
 have:=kK hn f d;unfold ce iQ;rw[jB,jD,this];rfl
theorem wx(M:GK bs m G)(hb:bs.length<=1000)(hm:m<=200)(t:∀c,G c->Yc c.shape=some (ig c.shape)){c k:Qb}(Q:G c)(h6:c.kind=6)(V:c.kids=[k]){l:List Qa}(h:Inv (xy k) k.shape l):
  ∃P,Xu (k.shape,l.map pn)=some (iQ k)/\Rk (iQ k)=some (Hk (iQ k))/\Yd (Hk (iQ k),c.shape)=some P/\Inv (xy c) c.shape (P.map km)/\(∀p∈P,xE p.access c.shape.length)/\Pf ((iQ k).map nr)=some ((Hk (iQ k)).map gm)/\ZX ((Hk (iQ k)).map gm,c.shape)=some (P.map km)/\(∀x∈iQ k,ng x)/\(iQ k).length=(fw k.shape).toNat:=by
 have y:=(M c Q).2.2 k (by rw[V];simp);obtain⟨hc,hpc,hlc⟩:=M.chk Q;obtain⟨H,hpk,hlk⟩:=M.chk y;obtain⟨c1,c2,c3⟩:=fE hc;obtain⟨d1,d2,d3⟩:=fE H;have A:∀n∈k.shape,0<=n:=λn hn=>(d3 n hn).1
 have W:=wN h H y8 (t k y)
 have I:(iQ k).length=(fw k.shape).toNat:=by
  unfold iQ;rw[jY];have:=ko A;omega
 have hl:(iQ k).length<=600:=by omega
 have e:∀x∈iQ k,ng x:=λx d=>by
  obtain⟨i,hi,rfl⟩:=ar.1 d;have q:=Gm M hb y8 _ k (j7 _) y i (pP A i hi);exact⟨q.1,q.2.1,q.2.2.1⟩
 have X:=NV hl e;have Y:=Oo hl e;by_cases z:fw c.shape=0
 .have Z:Sm c.shape.length:=jf (show c.shape.length<=1000 by omega);refine⟨[],W,X,?_,?_,λp B=>by simp at B,Y,?_,e,I⟩
  ·     simp only[Yd,lZ _ Z,iS,hc,z,ak,Qc]
  .exact⟨λx d=>by simp at d,λx d=>by simp at d,λx d=>by simp at d,λi hi=>by have:=gG hi;omega,rfl⟩
  .simp only[ZX,ke _ Z,iS,hc,z,ak,Qc,vK hc];rfl
 .have B:=gu (λn hn=>(c3 n hn).1) z;have hP:=fM B;obtain⟨N,R⟩:∃N:Nat,(N:Int)=fw c.shape:=⟨(fw c.shape).toNat,by omega⟩;obtain⟨P,e5,e3,C⟩:=GN hl y8 e hc B R (t c Q);refine⟨P,W,X,e3,?_,λp B=>by obtain⟨F,z,hc⟩:=Fs C p B;exact hc.acc,Y,e5,e,I⟩
  have g:∀x∈P.map km,∃p F z,x=km p/\Rv c.shape (Pg (iQ k)) p F z/\F+z<=N:=λx d=>by
   obtain⟨p,r,rfl⟩:=ar.1 d;clear e3 e5 d;generalize 0=F0 at C;induction P generalizing F0 with
   |nil=>simp at r
   |cons q P ih=>
    obtain⟨z,hc,hz,C⟩:=C;rcases aq.1 r with rfl|r
    .exact⟨_,F0,z,rfl,hc,hz⟩
    .exact ih r _ C
  refine⟨λx d=>?_,λx d=>?_,λx d=>?_,λi hi=>?_,F9 B R C⟩
  .obtain⟨p,F,z,rfl,hc,_⟩:=g x d;exact hc.box
  .obtain⟨p,F,z,rfl,hc,_⟩:=g x d;exact IV hc.acc
  .obtain⟨p,F,z,rfl,hc,hz⟩:=g x d;have J:yN (km p).access:=OJ hc.acc;refine⟨λi hi hh=>?_,J⟩;have hd:=gG hi;obtain⟨f,O⟩:∃f:Nat,(f:Int)=iA c.shape i:=⟨(iA c.shape i).toNat,by omega⟩;have s:iT c.shape (f:Int)=i:=by rw[O];exact l7 hi
   have D:=hc.inb f y8;rw[s]at D;have S:jk p.box.lo p.box.hi i=true:=hh;rw[S]at D;have K:=of_decide_eq_true D.symm;obtain⟨v,ok,g1,j⟩:=hc.hit f K.1 K.2;rw[s]at g1;obtain⟨v',T,g3,g4⟩:=Nn (a:=(km p).access) (i:=i) (by have:=IV hc.acc;rw[il hi]at this;exact this) (by have:=il hi;omega) J;have L:Xb (p.access,i)=some (v',T):=g3;rw[g1]at L;obtain⟨rfl,rfl⟩:=Prod.mk.inj (jS L);rw[g4,BI h6 V i]
   have U:Pg (iQ k) f=if fw k.shape=0 then⟨true,0,0⟩else Mh (mE k (iT k.shape (iA c.shape i%fw k.shape))):=by
    unfold Pg;by_cases E:fw k.shape=0
    .rw[ai E,ai y8]
    .have u:=gu A E;have hPk:=fM u;rw[af E,af y8];unfold oa;have hml:=bd f (show 0<(iQ k).length by omega);rw[Mz k u y8]
     have:((f% (iQ k).length:Nat):Int)=iA c.shape i%fw k.shape:=by
      rw[cy,O];congr 1;omega
     rw[this]
   rw[U]at j;by_cases E:fw k.shape=0
   .rw[ai E]at j |-;cases ok with
    |false=>rfl
    |true=>
     rw[af yC]at j;have:=bI Qi.fill j;simp at this
   .rw[af E]at j |-;generalize mE k (iT k.shape (iA c.shape i%fw k.shape))=w at j |-;obtain⟨w1,w2,w3⟩:=w;simp only[Mh]at j;cases ok with
    |false=>
     rw[ai rfl]at j |-;injection j with q1 q2 q3
     rw[q1,q2,q3]
    |true=>
     rw[af yC]at j |-;injection j with q1 q2 q3
     rw[q1,q2,q3];rfl
  .have hd:=gG hi;obtain⟨f,O⟩:∃f:Nat,(f:Int)=iA c.shape i:=⟨(iA c.shape i).toNat,by omega⟩;have s:iT c.shape (f:Int)=i:=by rw[O];exact l7 hi
   have:=FT R C f (zP _) y8
   rwa [s]at this
end
section
variable{bs:List (fj)}{m:Int}
def GS(bs:List fj)(m:Int)(c:Qb):Prop:=nL bs c/\nD m c
theorem kb:GK bs m (GS bs m):=λc h=>⟨h.1,h.2,λk d=>⟨(pZ h.1).2.2 k d,(lB h.2).2 k d⟩⟩
theorem zn(d:1<=m)(e:m<=200)(c:Qb)(h:GS bs m c):Yc c.shape=some (ig c.shape):=Gv (lB h.2).1 ⟨d,by omega⟩
theorem PU(g:bs.length<=1000)(v:1<=m)(s:m<=200):RM (GS bs m) xy lO where
 whole:=λc e k1 z=>by
  obtain⟨hc,_,hl⟩:=kb.chk e;exact⟨GL k1 hc,KE y8⟩
 win:=λc k e k2 d x g j f t=>by
  obtain⟨hc,_,hl⟩:=kb.chk e;obtain⟨n,_,_⟩:=kb.chk ((kb c e).2.2 k (by rw[d];simp));cases kb.nod e
  case win k' h hk' t1 t2 t3=>
   rw[d]at hk';cases hk';exact⟨LI k2 d hc n t1 t2 t3 g j f.1,E6 _ _ _ f.2⟩
  all_goals omega
 fil:=λc k e k2 d b g w=>by
  obtain⟨hc,_,hl⟩:=kb.chk e;cases kb.nod e
  case win k' h hk' t1 t2 t3=>
   rw[d]at hk';cases hk';exact⟨Na k2 d hc t3 w,Ml b⟩
  all_goals omega
 rev:=λc k e k3 d x g j f=>by
  cases kb.nod e
  case rev k' h hk' t1 t2 t3=>
   rw[d]at hk';cases hk';exact⟨Mm k3 d t1 y8 y8 g j f.1,Of f.2⟩
  all_goals omega
 rot:=λc k e A d x g j f y p t=>by
  obtain⟨hc,_,hl⟩:=kb.chk e;cases kb.nod e
  case rot k' h hk' t1 t2 t3 t4 t5 t6=>
   rw[d]at hk';cases hk';refine⟨ML A d t1 hc y8 y8 ⟨t4,t6⟩ g j f.1 p,?_⟩;simp only[kE,aq,bV,or_false]at p;rcases p with rfl|rfl
   .exact xh f.2
   .exact xh f.2
  all_goals omega
 per:=λc k e B d x g j f t=>by
  obtain⟨hc,_,hl⟩:=kb.chk e;cases kb.nod e
  case tra k' h hk' t1 t2 t3=>
   rw[d]at hk';cases hk';exact⟨MG B d t1 t2 g j f.1,Oc f.2 y8⟩
  all_goals omega
 rsh:=λc k e u d l h=>by
  unfold lO;by_cases q:k.shape=c.shape
  .rw[ai q];exact Ku u d q h
  .rw[af q];obtain⟨P,C,D,E,hi,_⟩:=wx kb g s (zn v s) e u d h;rw[C,zW,D,zW,E];exact hi
 ct1:=λc k k2 e r d x g j f=>by
  obtain⟨n,_,_⟩:=kb.chk ((kb c e).2.2 k (by rw[d];simp));cases kb.nod e
  case cat k' k2' h hk' t1 t2 t3 t4 f1 f2 f3=>
   rw[d]at hk';cases hk';exact⟨M9 r d n t3 y8 y8 g j f.1,xh f.2⟩
  all_goals omega
 ct2:=λc k k2 e r d x g j f=>by
  obtain⟨n,_,_⟩:=kb.chk ((kb c e).2.2 k (by rw[d];simp));cases kb.nod e
  case cat k' k2' h hk' t1 t2 t3 t4 f1 f2 f3=>
   rw[d]at hk';cases hk';exact⟨Mn r d n t4 t3 y8 y8 g j f.1,xh f.2⟩
  all_goals omega
end
theorem NA:∀(s lo hi c d:fj),okB s lo hi->(∀n∈s,n<=65536)->c.length=d.length->c.length+lo.length<=600->YM (⟨c++lo,d++hi⟩,(c.length:Int))=some (.inr ())
 |[],[],[],c,d,H,e,f,hl=>by
  rw[YM];simp only[Za,aj]
 |n::s,l::lo,h::hi,c,d,H,e,f,hl=>by
  rw[YM];have j:idx (d++h::hi) (c.length:Int)=some h:=by rw[f];exact Qy
  have hn:=e n yA;obtain⟨⟨k1,k2,k3⟩,k⟩:=H;have g:=NA s lo hi (c++[l]) (d++[h]) k (λn hn=>e n (jG _ hn)) (by simp[f]) (by simp at hl |-;omega);rw[<-Qv,<-Qv]at g;have m:¬l<0:=by omega
  have p:¬l>h:=by omega
  have q:¬h>65536:=by omega
  simp only[Q4,ak,Qy,Qc,j,m,p,q,aj,y3,j6,Tz (x:=l) (show c.length<=100000 by omega),g]
 |[],_::_,_,_,_,h,_,_,_=>by simp[okB]at h
 |[],[],_::_,_,_,h,_,_,_=>by simp[okB]at h
 |_::_,[],_,_,_,h,_,_,_=>by simp[okB]at h
 |_::_,_::_,[],_,_,h,_,_,_=>by simp[okB]at h
theorem NF{s:fj}{b:Qx}(H:okB s b.lo b.hi)(c:∀n∈s,n<=65536)(hl:s.length<=16):X1 b=some true:=by
 obtain⟨lo,hi⟩:=b;obtain⟨l1,l2⟩:=lx H;simp only at H l1 l2;have e:=NA s lo hi [] [] H c rfl y9;simp only[jQ,jL,jJ]at e;have d:¬((lo.length:Int)≠(hi.length:Int)):=by simp;omega
 have f:¬((lo.length:Int)>16):=by omega
 simp only[X1,d,f,aj,y3,Qc,j6,e]
theorem Np{B:List Qx}{v:Int}{b:Qx}(g:idx B v=some b):∀(s lo hi c d:fj),okB s lo hi->b.hi=d++hi->c.length=d.length->c.length+s.length<=600->YL (c++s,B,v,(c.length:Int))=some (.inr ())
 |[],[],[],c,d,H,e,f,hl=>by
  rw[YL];simp only[Za,aj]
 |n::s,l::lo,h::hi,c,d,H,e,f,hl=>by
  rw[YL];have k:idx b.hi (c.length:Int)=some h:=by rw[e,f];exact Qy
  obtain⟨⟨k1,k2,k3⟩,m⟩:=H;have j:=Np g s lo hi (c++[n]) (d++[h]) m (by rw[e,Qv]) (by simp[f]) (by simp at hl |-;omega);rw[<-Qv]at j;have p:¬h>n:=by omega
  simp only[Q4,ak,Qy,g,Qc,k,p,aj,Tz (x:=n) (show c.length<=100000 by omega),j]
 |[],_::_,_,_,_,h,_,_,_=>by simp[okB]at h
 |[],[],_::_,_,_,h,_,_,_=>by simp[okB]at h
 |_::_,[],_,_,_,h,_,_,_=>by simp[okB]at h
 |_::_,_::_,[],_,_,h,_,_,_=>by simp[okB]at h
theorem E7:∀(P p:List Qk),p.length+P.length<=100000->YH ((p++P).map km,p,(p.length:Int))=some (p++P)
 |[],p,h=>by
  rw[YH]
  have:¬((p.length:Int)<(((p++[]).map km).length:Int)):=by simp
  simp only[this,aj];simp only[jU]
 |x::P,p,h=>by
  rw[YH];have d:((p.length:Int)<(((p++x::P).map km).length:Int)):=by simp;omega
  have e:idx ((p++x::P).map km) (p.length:Int)=some (km x):=mB yA;have f:W ((p.length:Int)+1)=((p++[x]).length:Int):=by simp at h;rw[gh y8 y8];simp
  have c:=E7 P (p++[x]) (by simp at h |-;omega);rw[<-Qv]at c;simp only[d,ak,e,Qc,f];rw[gj (by simp at h |-;omega) y8,Qc];exact c
theorem L2{P:List Qk}(h:P.length<=100000):Ps (P.map km)=some P:=by
 have e:=E7 P [] y9;have e':YH (P.map km,[],0)=some P:=e;simp only[Ps,e',Qc]
theorem P8{s:fj}(e:∀n∈s,1<=n/\n<=65536)(hl:s.length<=16):∀(P p:List Qx),p.length+P.length<=100000->(∀b∈P,okB s b.lo b.hi)->ZS (p++P,s,(p.length:Int))=some (.inr ())
 |[],p,h,c=>by
  rw[ZS];simp only[Za,aj]
 |b::P,p,h,c=>by
  rw[ZS];have hB:=c b yA;obtain⟨l1,l2⟩:=lx hB;have j:W ((p.length:Int)+1)=((p++[b]).length:Int):=by simp at h;rw[gh y8 y8];simp
  have f:=P8 e hl P (p++[b]) (by simp at h |-;omega) (λy k=>c y (jG _ k));rw[<-Qv]at f;have g:=Np (B:=p++b::P) (v:=(p.length:Int)) Qy s b.lo b.hi [] [] hB rfl rfl y9;simp only[jQ,jL,jJ]at g;have d:((b.lo.length:Int) !=(s.length:Int))=false:=by rw[l1];simp
  simp only[Q4,ak,Qy,Qc,NF hB (λn hn=>(e n hn).2) hl,jO,aj,d,j6,g,j,f]
def kz:fj->Int
 |[]=>0
 |x::l=>(x.natAbs:Int)+kz l
theorem mj:∀l:fj,0<=kz l
 |[]=>aC _
 |x::l=>by rw[kz];have:=mj l;omega
theorem pJ:∀(l:fj) (k:Nat),((l.getD k 0).natAbs:Int)<=kz l
 |[],k=>by simp[kz]
 |x::l,0=>by rw[kz];have:=mj l;simp;omega
 |x::l,k+1=>by rw[kz];have:=pJ l k;simp at this |-;omega
theorem yJ:∀(l:fj) (k:Nat),k<l.length->kz (l.drop k)=((l.getD k 0).natAbs:Int)+kz (l.drop (k+1))
 |x::l,0,_=>by simp[kz]
 |x::l,k+1,h=>by
  have:=yJ l k (by simpa using h)
  simpa using this
 |[],_,h=>by simp at h
theorem vk:∀(l:fj) (k:Nat) (v:Int),k<l.length->kz (l.set k v)=kz l - ((l.getD k 0).natAbs:Int)+(v.natAbs:Int)
 |x::l,0,v,_=>by simp[kz];omega
 |x::l,k+1,v,h=>by
  have:=vk l k v (by simpa using h);simp only[bZ,kz,this,cT];omega
 |[],_,_,h=>by simp at h
structure xw (d:Int) (a:Qh):Prop where
 k1:a.kind=1->a=kW
 k2:a.kind=2->a.start=0/\a.step=0/\a.mod=0
 k3:a.kind=3->1<=a.mod
 bf:0<=a.buffer/\a.buffer<=100000
 sm:kz a.strides<=600000
 ba:-d<=a.base/\a.base<=d
 st:-d<=a.start/\a.start<=d
 sp:-1000000<=a.step/\a.step<=1000000
 md:-1000000<=a.mod/\a.mod<=1000000
theorem xw.mono{d e:Int}{a:Qh}(h:xw d a)(n:d<=e):xw e a:=by
 obtain⟨c,f,g,j,k,p,q,l,m⟩:=h;exact⟨c,f,g,j,k,by omega,by omega,l,m⟩
theorem HQ{d D:Int}{r:Nat}{a:Qh}{n:Int}{st:fj}(hw:kQ r a)(h:xw d a)(hn:a.kind≠1->-D<=n/\n<=D)(h0:0<=D)(p:d+D<=1000000000000)(j:kz st<=600000):xw (d+D) (oR a n st):=by
 obtain⟨l,k,c,e,m,q,s,f,g⟩:=h;unfold oR;split
 .exact⟨l,k,c,e,m,by omega,by omega,f,g⟩
 .rename_i k1;have hn:=hn k1;split
  .rename_i k3;have w:W (a.start+n)=a.start+n:=gh y8 y8;exact⟨λh=>absurd h k1,λh=>absurd (k3.symm.trans h) yC,c,e,j,by simp only;omega,by simp only[w];omega,f,g⟩
  .rename_i k3;have w:W (a.base+n)=a.base+n:=gh y8 y8;exact⟨λh=>absurd h k1,k,c,e,j,by simp only[w];omega,by simp only;omega,f,g⟩
theorem FA{a b A:Int}{B:Int}(c:-A<=a/\a<=A)(d:(b.natAbs:Int)<=B)(hB:0<=B):-(A*B)<=a*b/\a*b<=A*B:=pz c.1 c.2 y8 y8
theorem Kv{d:Int}{r:Nat}{a:Qh}{k:Nat}{n:Int}(hw:kQ r a)(h:xw d a)(hn:-20000<=n/\n<=20000)(e:d<=900000000000):xw (d+20000*((a.strides.getD k 0).natAbs:Int)) (oM a k n):=by
 have f:=pJ a.strides k;have c:=h.sm;have hm:=FA (a:=n) (b:=a.strides.getD k 0) (A:=20000) hn (aC _) y8;have w:W (n*a.strides.getD k 0)=n*a.strides.getD k 0:=gh y8 y8;unfold oM;rw[w];exact HQ hw h (λ_=>hm) y8 y8 c
theorem uM{d:Int}{r:Nat}{a:Qh}{k:Nat}{n:Int}(hw:kQ r a)(h:xw d a)(hn:-20000<=n/\n<=20000)(c:d<=900000000000):xw (d+12000000000) (oM a k n):=by
 have e:=pJ a.strides k;have f:=h.sm;exact(Kv hw h hn c).mono y8
theorem OG{d:Int}{r:Nat}{a:Qh}{k:Nat}{n:Int}(hw:kQ r a)(f:k<r)(h:xw d a)(hn:0<=n/\n<=20000)(g:d<=900000000000):xw (d+12000000000) (AM a k n):=by
 have j:=pJ a.strides k;have l:=h.sm;have c:W (n - 1)=n - 1:=gh y8 y8;have hm:=FA (a:=n - 1) (b:=a.strides.getD k 0) (A:=20000) (B:=600000) y8 y8 y8;have w:W ((n - 1)*a.strides.getD k 0)=(n - 1)*a.strides.getD k 0:=gh y8 y8;have e:W (0 - a.strides.getD k 0)=0 - a.strides.getD k 0:=gh y8 y8;unfold AM;rw[c,w,e];by_cases k1:a.kind=1
 .have:oR a ((n - 1)*a.strides.getD k 0) (a.strides.set k (0 - a.strides.getD k 0))=a:=ai k1
  rw[this];exact h.mono y8
 .have hl:a.strides.length=r:=by rcases hw with h|h;exact absurd h k1;exact h.2
  refine HQ hw h (λ_=>by omega) y8 y8 ?_;rw[vk _ _ _ y8];omega
theorem FC{r:Nat}:∀(st:fj) (a:Qh) (k:Nat) (d:Int),kQ r a->xw d a->k+st.length<=r->(∀n∈st,-20000<=n/\n<=20000)->d+20000*kz (a.strides.drop k)<=900000000000->xw (d+20000*kz (a.strides.drop k)) (nR a k st)
 |[],a,k,d,_,h,_,_,_=>by rw[nR];exact h.mono (by have:=mj (a.strides.drop k);omega)
 |n::st,a,k,d,hw,h,f,hn,l=>by
  rw[nR];by_cases k1:a.kind=1
  .have e:oM a k n=a:=ai k1
   have:∀(st:fj) (k:Nat),nR a k st=a:=λst=>by
    induction st with
    |nil=>intro k;rfl
    |cons n st g=>intro k;rw[nR,show oM a k n=a from ai k1];exact g _
   rw[e,this];exact h.mono (by have:=mj (a.strides.drop k);omega)
  .have hl:a.strides.length=r:=by rcases hw with h|h;exact absurd h k1;exact h.2
   have c:k<a.strides.length:=by simp at f;omega
   have e:=yJ a.strides k c;have n1:=mj (a.strides.drop (k+1));have j:=Kv (k:=k) hw h (hn n (jM ..)) y8;have es:(oM a k n).strides=a.strides:=by unfold oM oR;split <;>(try split)<;>rfl
   have:=FC st (oM a k n) (k+1) _ (rE hw) j (by simp at f;omega) (λm hm=>hn m (jG _ hm)) (by rw[es];omega);rw[es]at this;exact this.mono y8
theorem xO:∀(d st out:fj),(∀j∈d,0<=j/\j.toNat<out.length)->kz out+kz st<=600000->kz (sX d st out)<=kz out+kz st
 |[],st,out,_,_=>by rw[sX];have:=mj st;omega;simp
 |_::_,[],out,_,_=>by rw[sX];simp[kz];simp
 |j::d,c::st,out,f,g=>by
  obtain⟨m,k⟩:=f j (jM ..);rw[kz]at g |-;have n0:=mj st;have n1:=mj out;have p:=pJ out j.toNat
  have w:W (W (0+out.getD j.toNat 0)+c)=out.getD j.toNat 0+c:=by
   rw[ff,gh (n:=out.getD j.toNat 0) y8 y8,gh y8 y8]
  have e:=vk out j.toNat (out.getD j.toNat 0+c) k;rw[sX,w];have l:=xO d st (out.set j.toNat (out.getD j.toNat 0+c)) (λi hi=>by rw[zT];exact f i (jG _ hi)) (by rw[e];omega);rw[e]at l;omega
theorem wo:∀r:Nat,kz (List.replicate r 0)=0
 |0=>rfl
 |r+1=>by rw[aJ,kz,wo r];rfl
theorem OO{d:Int}{a:Qh}{p:fj}{r:Nat}(h:xw d a)(c:∀j∈p,0<=j/\j.toNat<r):xw d (rC a p r):=by
 unfold rC;split
 .exact h
 .rename_i k1;have e:=h.sm;have:=xO p a.strides (List.replicate r 0) (λj h=>by simpa using c j h) (by rw[wo];omega);rw[wo]at this;exact⟨λh=>absurd h k1,h.k2,h.k3,h.bf,by simp only;omega,h.ba,h.st,h.sp,h.md⟩
theorem IB{d:Int}(c:0<=d):xw d kW:=⟨λ_=>rfl,λh=>absurd (show(1:Int)=2 from h) yC,λh=>absurd (show(1:Int)=3 from h) yC,⟨by decide,by decide⟩,by show kz []<=600000;decide,by show -d<=0/\0<=d;omega,by show -d<=0/\0<=d;omega,⟨by decide,by decide⟩,⟨by decide,by decide⟩⟩
theorem MA(b:Ql){d:Int}(c:0<=d):xw d (l6 b).access:=IB c
theorem AR:∀(l:fj) (B:Int),(∀x∈l,(x.natAbs:Int)<=B)->kz l<=l.length*B
 |[],B,_=>by simp[kz]
 |x::l,B,h=>by
  have d:=h x (jM ..);have e:=AR l B λy c=>h y (jG _ c)
  rw[kz,zG,eB,cH];omega
theorem HW{b:Int}{s:fj}{d:Int}(j:0<=d)(c:0<=b/\b<=100000)(e:∀n∈s,1<=n)(k:fw s<=65536)(hl:s.length<=6):xw d (mc b s).access:=by
 have f:=AR (gF s) 65536 λx g=>by have:=A7 e x g;omega
 rw[kJ]at f;have l:(s.length:Int)*65536<=6*65536:=aI y8 yC;exact⟨λh=>absurd (show(2:Int)=1 from h) yC,λ_=>⟨rfl,rfl,rfl⟩,λh=>absurd (show(2:Int)=3 from h) yC,c,by show kz (gF s)<=600000;omega,by show -d<=0/\0<=d;omega,by show -d<=0/\0<=d;omega,⟨by show -1000000<=(0:Int);decide,by show(0:Int)<=1000000;decide⟩,⟨by show -1000000<=(0:Int);decide,by show(0:Int)<=1000000;decide⟩⟩
theorem Oa{a:QD}{n:Nat}{d:Int}(h:xE a n)(hn:n<=6)(f:1000000000<=d):xw d (M5 a):=by
 have c:=h.s
 have hl:a.strides.length<=6:=by
  rcases h.k with k|k
  .rw[h.k1 k];decide
  .omega
 have g:=AR a.strides 65536 λx e=>by have:=c.x x e;omega
 have j:(a.strides.length:Int)*65536<=6*65536:=aI y8 yC;refine⟨λk=>?_,λk=>⟨c.t,h.k2 k⟩,h.m,c.b,by show kz a.strides<=600000;omega,?_,?_,c.s,c.m⟩
 .have:=h.k1 k;subst this;rfl
 .have:=c.o;show -d<=a.base/\a.base<=d;omega
 .have:=c.t;show -d<=a.start/\a.start<=d;omega
theorem qN{x:Int}(h:-1099511627776<=x/\x<=1099511627776):ZE (x,1099511627776)=some true:=by
 have c:W (0 - 1099511627776)=-1099511627776:=by decide
 have g:x>=-1099511627776:=by omega
 have d:x<=1099511627776:=by omega
 simp only[ZE,c,g,ak,d,decide_true]
theorem HG(acc:QD):∀(s p:fj),acc.strides=p++s->acc.strides.length<=1000->(∀x∈s,-1000000000000<=x/\x<=1000000000000)->ZD (acc,1099511627776,(p.length:Int))=some (.inr ())
 |[],p,h,hl,c=>by
  rw[ZD]
  have:¬((p.length:Int)<(acc.strides.length:Int)):=by rw[h];simp
  simp only[this,aj]
 |x::s,p,h,hl,c=>by
  rw[ZD];have d:((p.length:Int)<(acc.strides.length:Int)):=by rw[h];exact Q4
  have e:idx acc.strides (p.length:Int)=some x:=by rw[h];exact Qy
  have f:W ((p.length:Int)+1)=((p++[x]).length:Int):=by rw[h]at hl;simp at hl;rw[gh y8 y8];simp
  have g:=HG acc s (p++[x]) (by rw[h];simp) hl (λy j=>c y (jG _ j));have k:=c x yA;simp only[d,ak,e,Qc,qN (x:=x) y8,jO,aj,f,g]
theorem B6:∀{l:fj} {x:Int},x∈l->(x.natAbs:Int)<=kz l
 |y::l,x,h=>by
  rw[kz];have:=mj l;rcases aq.1 h with rfl|h
  .omega
  .have:=B6 h;omega
theorem Lm{a:Qh}{d:Int}{r:Nat}(hw:kQ r a)(h:xw d a)(B:d<=1000000000000)(C:r<=16):XG (qT a,(r:Int))=some true:=by
 obtain⟨m,n,p,D,E,F,G,H,I⟩:=h
 have hl:a.strides.length<=1000:=by
  rcases hw with k|k
  .rw[m k];decide
  .omega
 have e:=HG (qT a) a.strides [] rfl hl (λx q=>by have:=B6 q;omega);have c:ZD (qT a,1099511627776,0)=some (.inr ()):=e
 have hB:XU (qT a,1099511627776)=some true:=by
  simp only[XU,c,Qc];have q1:ZE ((qT a).buffer,1099511627776)=some true:=qN (by show -1099511627776<=a.buffer/\_;exact⟨by omega,by show a.buffer<=_;omega⟩);have q2:ZE ((qT a).base,1099511627776)=some true:=qN (by show -1099511627776<=a.base/\a.base<=_;omega);have q3:ZE ((qT a).start,1099511627776)=some true:=qN (by show -1099511627776<=a.start/\a.start<=_;omega);have q4:ZE ((qT a).step,1099511627776)=some true:=qN (by show -1099511627776<=a.step/\a.step<=_;omega);have q5:ZE ((qT a).mod,1099511627776)=some true:=qN (by show -1099511627776<=a.mod/\a.mod<=_;omega);simp only[q1,q2,q3,q4,q5,Qc,ak]
 have f:XU (⟨(qT a).kind,(qT a).buffer,(qT a).base,(qT a).strides,(qT a).start,(qT a).step,(qT a).mod⟩,1099511627776)=some true:=hB;have s:¬((r:Int)<0):=by omega
 have t:¬((r:Int)>16):=by omega
 have u:¬((qT a).buffer<0):=by show¬a.buffer<0;omega
 simp only[XG,s,t,aj,y3,Qc,j6,f,bC,u];rcases hw with k|⟨k|k,J⟩
 .have:=m k;subst this;rfl
 .obtain⟨v,w,y⟩:=n k;have g:(qT a).kind=2:=k;have j:((qT a).strides.length:Int)=(r:Int):=by show(a.strides.length:Int)=_;omega
  have l:(qT a).start=0:=v;have z:(qT a).step=0:=w;have A:(qT a).mod=0:=y;simp only[g,j,l,z,A,show¬(2:Int)=1 by decide,aj,ak,Qc,beq_self_eq_true]
 .have g:(qT a).kind=3:=k;have j:((qT a).strides.length:Int)=(r:Int):=by show(a.strides.length:Int)=_;omega
  have l:(qT a).mod>0:=by have:=p k;show a.mod>0;omega
  simp only[g,j,l,show¬(3:Int)=1 by decide,show¬(3:Int)=2 by decide,aj,ak,decide_true]
theorem Fp:∀{s:fj} {n:Int},n∈s->n<=Fe s
 |x::s,n,h=>by
  have c:=Fq s;rw[Fe];rcases aq.1 h with rfl|h
  .by_cases g:n<1
   .rw[ai g];omega
   .rw[af g]
    have:n*1<=n*Fe s:=bn c y8
    omega
  .have e:=Fp h;have d:1<=(if x<1 then 1 else x):=by split <;>omega
   have:1*Fe s<=(if x<1 then 1 else x)*Fe s:=aI d y8
   omega
theorem Hj{m:Int}{s:fj}(h:s9 m s)(hm:m<=200):∀n∈s,n<=20000:=λn hn=>by
 rcases h.2.2.2 with rfl|h
 .simp at hn
 .have:=Fp hn;omega
theorem Fj:∀{lo hi t st s0:fj},jg s0 lo hi->lo.length=st.length->t.length=st.length->(∀n∈t,0<=n/\n<=20000)->(∀n∈s0,n<=20000)->(∀n∈st,-65536<=n/\n<=65536)->fW (Be lo t st) (Bg lo hi t st)=true->∀n∈st,-20000<=n/\n<=20000
 |[],_,_,[],_,_,_,_,_,_,_,_=>λn h=>by simp at h
 |l::lo,h::hi,t::ts,n::st,m::s0,k,p,q,g,h0,j,f=>λx d=>by
  obtain⟨⟨k1,k2,k3⟩,r⟩:=k;have hn:=j n (jM ..);have e:=g t (jM ..);have hm:=h0 m (jM ..);rw[Be,Bg,fW,jE,zD]at f;rcases aq.1 d with rfl|d
  .have:=(On (l:=l) (h:=h) (n:=x) e.1).1.2 f.1;have s:W (l - x)=l - x:=gh y8 y8;have u:W (h - x)=h - x:=gh y8 y8;rw[s,u]at this;split at this<;>split at this<;>omega
  .exact Fj r (by simpa using p) (by simpa using q) (λy c=>g y (jG _ c)) (λy c=>h0 y (jG _ c)) (λy c=>j y (jG _ c)) f.2 x d
 |[],_,_,_::_,_,_,h,_,_,_,_,_=>by simp at h
 |_::_,_,_,[],_,_,h,_,_,_,_,_=>by simp at h
 |_,_,[],_::_,_,_,_,h,_,_,_,_=>by simp at h
 |_::_,[],_,_::_,_::_,h,_,_,_,_,_,_=>by simp[jg]at h
 |_::_,_,_,_::_,[],h,_,_,_,_,_,_=>by simp[jg]at h
section
variable{bs:List (fj)}{m:Int}
def GZ(bs:List fj)(m:Int)(c:Qb):Prop:=GS bs m c/\rv c<=70
def Lf(c:Qb):Int:=12000000000*(rv c:Int)
def Hx(c:Qb)(x:Qa):Prop:=xy c x/\xw (Lf c) x.access
theorem mK:GK bs m (GZ bs m):=λc h=>⟨h.1.1,h.1.2,λk d=>⟨(kb c h.1).2.2 k d,by have:=AK d;have:=h.2;omega⟩⟩
theorem vm{c k:Qb}(d:k∈c.kids)(e:rv c<=70):Lf k+12000000000<=Lf c/\Lf k<=840000000000/\0<=Lf k:=by
 have:=AK d;unfold Lf;omega
theorem NP(H:bs.length<=1000)(I:1<=m)(C:m<=200):RM (GZ bs m) Hx lO:=by
 have S:=PU (bs:=bs) (m:=m) H I C
 have s:∀c,GZ bs m c->∀n∈c.shape,0<=n/\n<=20000:=λc d n hn=>by
  obtain⟨hc,_,_⟩:=mK.chk d;exact⟨((fE hc).2.2 n hn).1,Hj (lB d.1.2).1 C n hn⟩
 have q:∀c,GZ bs m c->∀k,k<c.shape.length->0<=c.shape.getD k 0/\c.shape.getD k 0<=20000:=λc d k e=>s c d _ (by rw[iy e];exact zC _)
 have D:∀c:Qb,0<=Lf c/\12000000000<=Lf c:=λc=>by have:=so c;unfold Lf;omega
 constructor
 .intro c d k1 z;obtain⟨hc,g,hl⟩:=mK.chk d;have A:=mG ((pZ d.1.1).2.1 k1);have L:=(ae.1 A.2).1;exact⟨S.whole c d.1 k1 z,HW (D c).1 ⟨A.1,by omega⟩ (gu (λn hn=>(s c d n hn).1) z) y8 hl⟩
 .intro c k d k2 e x f j g u;have t:=(mK c d).2.2 k (by rw[e];simp);have v:=vm (c:=c) (k:=k) (by rw[e];simp) d.2;refine⟨S.win c k d.1 k2 e x f j g.1 u,?_⟩;cases mK.nod d
  case win k' h hk' t1 t2 t3=>
   rw[e]at hk';cases hk';obtain⟨l1,l2⟩:=lx f;have hst:=Fj (sq f) y8 y8 (s c d) (λn hn=>(s k t n hn).2) t3 u;have M:=g.2.sm;have:=FC (r:=k.shape.length) c.starts x.access 0 _ j g.2 y8 hst (by rw[cw];omega);rw[cw]at this;exact this.mono y8
  all_goals omega
 .intro c k d k2 e b f N;exact⟨S.fil c k d.1 k2 e b f N,MA b (D c).1⟩
 .intro c k d k3 e x f j g;have v:=vm (c:=c) (k:=k) (by rw[e];simp) d.2;refine⟨S.rev c k d.1 k3 e x f j g.1,?_⟩;cases mK.nod d
  case rev k' h hk' t1 t2 t3=>
   rw[e]at hk';cases hk';exact(OG j (by rw[t1];exact t3) g.2 (q c d _ t3) y8).mono y8
  all_goals omega
 .intro c k d O e x f j g y E u;have v:=vm (c:=c) (k:=k) (by rw[e];simp) d.2;refine⟨S.rot c k d.1 O e x f j g.1 y E u,?_⟩;cases mK.nod d
  case rot k' h hk' t1 t2 t3 t4 t5 t6=>
   rw[e]at hk';cases hk';have hn:=q c d _ t3;simp only[kE,aq,bV,or_false]at E;rcases E with rfl|rfl
   .have w:W (0 - (0 - c.amount))=c.amount:=by rw[gh y8 y8];omega
    exact(uM j g.2 (by rw[w];omega) y8).mono y8
   .have w:W (0 - (c.shape.getD c.axis.toNat 0 - c.amount))=c.amount - c.shape.getD c.axis.toNat 0:=by rw[gh y8 y8];omega
    exact(uM j g.2 (by rw[w];omega) y8).mono y8
  all_goals omega
 .intro c k d Q e x f j g u;have v:=vm (c:=c) (k:=k) (by rw[e];simp) d.2;refine⟨S.per c k d.1 Q e x f j g.1 u,?_⟩;cases mK.nod d
  case tra k' h hk' t1 t2 t3=>
   rw[e]at hk';cases hk';exact(OO g.2 t2).mono y8
  all_goals omega
 .intro c k d J e l h;have v:=vm (c:=c) (k:=k) (by rw[e];simp) d.2;have hR:=S.rsh c k d.1 J e l (h.mono λx _ g=>g.1);by_cases K:k.shape=c.shape
  .have F:lO l k.shape c.shape=l:=ai K;rw[F]at hR |-;exact⟨hR.box,hR.acc,λx B=>⟨hR.prp x B,(h.prp x B).2.mono y8⟩,hR.cnt,hR.srt⟩
  .obtain⟨P,R,T,U,hi,V,_⟩:=wx kb H C (zn I y8) d.1 J e (h.mono λx _ g=>g.1)
   have F:lO l k.shape c.shape=P.map km:=by
    refine(af K).trans ?_;rw[R,zW,T,zW,U];rfl
   rw[F];obtain⟨_,_,hl⟩:=mK.chk d;refine⟨hi.box,hi.acc,λx B=>⟨hi.prp x B,?_⟩,hi.cnt,hi.srt⟩;obtain⟨p,g,rfl⟩:=ar.1 B;exact Oa (V p g) hl (by have:=D c;omega)
 .intro c k k2 d G e x f j g;have v:=vm (c:=c) (k:=k) (by rw[e];simp) d.2;refine⟨S.ct1 c k k2 d.1 G e x f j g.1,?_⟩;have w:W (0 - 0)=0:=by decide
  exact(uM j g.2 (by rw[w];decide) y8).mono y8
 .intro c k k2 d G e x f j g;have v:=vm (c:=c) (k:=k2) (by rw[e];simp) d.2;refine⟨S.ct2 c k k2 d.1 G e x f j g.1,?_⟩;cases mK.nod d
  case cat k' k2' h hk' t1 t2 t3 t4 f1 f2 f3=>
   rw[e]at hk';cases hk';have t:=(mK c d).2.2 k (by rw[e];simp);have hn:=q k t c.axis.toNat y8;have w:W (0 - k.shape.getD c.axis.toNat 0)=0 - k.shape.getD c.axis.toNat 0:=gh y8 y8;exact(uM j g.2 (by rw[w];omega) y8).mono y8
  all_goals omega
end
theorem uK:∀{s lo hi:fj},okB s lo hi->fW lo hi=true
 |[],[],[],_=>rfl
 |n::s,l::lo,h::hi,H=>by
  obtain⟨⟨k1,k2,k3⟩,c⟩:=H;rw[fW,uK c,decide_eq_true k2];rfl
 |[],_::_,_,h=>by simp[okB]at h
 |[],[],_::_,h=>by simp[okB]at h
 |_::_,[],_,h=>by simp[okB]at h
 |_::_,_::_,[],h=>by simp[okB]at h
def pD(x:Qa):Qx:=(pn x).box
section
variable{s:fj}
theorem Le(u:∀n∈s,n<=65536)(hl:s.length<=16):∀(l p:List Qa),p.length+l.length<=50000->((p++l).Pairwise λa b=>iG a.box.lo b.box.lo<0)->(∀x∈p++l,okB s x.box.lo x.box.hi)->(∀x∈l,XG (qT x.access,(s.length:Int))=some true)->
  Z8 ((p++l).map pn,s,p.map pD,(p.length:Int))=some (.inr ((p++l).map pD))
 |[],p,h,m,k,r=>by
  rw[Z8]
  have:¬((p.length:Int)<(((p++[]).map pn).length:Int)):=by simp
  rw[af this,jU]
 |x::l,p,h,m,k,r=>by
  rw[Z8];have z:((p.length:Int)<(((p++x::l).map pn).length:Int)):=by simp;omega
  have A:idx ((p++x::l).map pn) (p.length:Int)=some (pn x):=mB yA;have t:p.length<=50000:=by simp at h;omega
  have v:=Le u hl l (p++[x]) (by simp at h |-;omega) (by rw[<-Qv];exact m) (λy d=>k y (by rw[Qv];exact d)) (λy d=>r y (jG _ d));rw[<-Qv]at v;have B:W ((p.length:Int)+1)=((p++[x]).length:Int):=l9 y8;have c:=k x yA;obtain⟨l1,l2⟩:=lx c;have C:X1 (pn x).box=some true:=NF (s:=s) c u hl
  have D:X5 (pn x).box=some false:=by
   have:X5 (pn x).box=some (!fW x.box.lo x.box.hi):=I5 y8 y8
   rw[this,uK c];rfl
  have E:XG ((pn x).access,(s.length:Int))=some true:=r x (jM ..)
  have F:app 48 (p.map pD) [(pn x).box]=some ((p++[x]).map pD):=by
   have:=gj (b:=48) (l:=p.map pD) (es:=[(pn x).box]) y9 y8;rw[this,zL];rfl
  have G:(if(p.length:Int)>0 then idx ((p++x::l).map pn) (W ((p.length:Int) - 1))>>=λf=>Jz (f.box.lo,(pn x).box.lo)>>=λ(j:Bool)=>some (!j)else some false)=some false:=by
   rcases de p with rfl|⟨q,y,rfl⟩
   .rfl
   .simp only[df]at *;have g:(((q++[y]).length:Nat):Int)>0:=by rw[jV,cg];omega
    have w:W ((((q++[y]).length:Nat):Int) - 1)=(q.length:Int):=by
     rw[jV,cg]at t |-;rw[gh y8 y8];omega
    have i:idx ((q++[y]++x::l).map pn) (q.length:Int)=some (pn y):=mB yA;have d:=k y yA;obtain⟨m1,m2⟩:=lx d;have hc:iG y.box.lo x.box.lo<0:=(List.pairwise_append.1 m).2.2 y yA x (jM ..);have e:Jz ((pn y).box.lo,(pn x).box.lo)=some (decide (iG y.box.lo x.box.lo<0)):=Kw (by show y.box.lo.length=x.box.lo.length;omega) (by show y.box.lo.length<=600;omega);rw[decide_eq_true hc]at e;rw[ai g,w,i,Qc,e];rfl
  simp only[z,ak,A,Qc,C,D,E,jO,aj,bC,j6,G,F,B,v]
theorem Nf{A:List (fj)}{k:Nat}{i:fj}(g:idx A (k:Int)=some i)(hi:i.length<=600):∀(l p:List Qa) (m:Nat),p.length+l.length<=50000->m<=p.length->(∀x∈l,x.box.lo.length=i.length/\x.box.hi.length=i.length)->
  ZT ((p++l).map pD,A,(k:Int),(m:Int),(p.length:Int))=some ((m+l.countP (gZ i):Nat):Int)
 |[],p,m,h,hm,d=>by
  rw[ZT]
  have:¬((p.length:Int)<(((p++[]).map pD).length:Int)):=by simp
  rw[af this];simp
 |x::l,p,m,h,hm,d=>by
  rw[ZT];have j:((p.length:Int)<(((p++x::l).map pD).length:Int)):=by simp;omega
  have n:idx ((p++x::l).map pD) (p.length:Int)=some (pD x):=mB yA;have q:p.length<=50000:=by simp at h;omega
  obtain⟨l1,l2⟩:=d x (jM ..);have r:Jk (pD x,i)=some (gZ i x):=KD (b:=pD x) l1 l2 hi;have e:=λm hm=>Nf g hi l (p++[x]) m (by simp at h |-;omega) hm (λy s=>d y (jG _ s))
  simp only[<-Qv]at e;have t:W ((p.length:Int)+1)=((p++[x]).length:Int):=l9 y8;have f:W ((m:Int)+1)=((m+1:Nat):Int):=p5 y8;simp only[j,ak,n,g,Qc,r,t,f];by_cases c:gZ i x=true
  .simp only[c,ak];rw[e (m+1) y9,cC c];congr 2;omega
  .simp only[c,j6,aj];rw[e m y9,cD c]
theorem Nh{P:Qa->Prop}{l:List Qa}(h:Inv P s l)(hl:l.length<=50000)(g:s.length<=600):∀(A p:List fj),p.length+A.length<=100000->(∀i∈A,iB s i=true)->Yo (p++A,l.map pD,(p.length:Int))=some (.inr ())
 |[],p,c,d=>by
  rw[Yo];simp only[Za,aj]
 |i::A,p,c,d=>by
  rw[Yo];have hi:=d i (jM ..);have m:=il hi
  have e:=Nf (A:=p++i::A) (k:=p.length) (i:=i) Qy y8 l [] 0 (by simpa using hl) (j7 _) (λx n=>by
   obtain⟨l1,l2⟩:=lx (h.box x n);exact⟨by omega,by omega⟩)
  rw[h.cnt i hi]at e;have e':ZT (l.map pD,p++i::A,(p.length:Int),0,0)=some 1:=e;have f:=Nh h hl g A (p++[i]) (by simp at c |-;omega) (λj q=>d j (jG _ q));rw[<-Qv]at f;have r:W ((p.length:Int)+1)=((p++[i]).length:Int):=l9 (by simp at c;omega);simp only[Q4,ak,e',Qc,ne_eq,not_true,aj,r,f]
theorem DG{P:Qa->Prop}{l:List Qa}(h:Inv P s l)(hc:fH s=0)(m:fw s<=20000)(p:∀x∈l,XG (qT x.access,(s.length:Int))=some true)(c:Yc s=some (ig s)):J4 (s,l.map pn)=some true:=by
 obtain⟨k,A,e⟩:=fE hc;have f:=h.len4 hc m;have hn:∀n∈s,0<=n:=λn hn=>(e n hn).1
 have B:=ko hn;have q:=Le (s:=s) (λn hn=>(e n hn).2) k l [] y9 (rW h.srt) h.box p;have g:Z8 (l.map pn,s,[],0)=some (.inr (l.map pD)):=q
 have r:ZS (l.map pD,s,0)=some (.inr ()):=by
  cases l with
  |nil=>
   rw[aN,ZS]
   have:¬((0:Int)<(([]:List Qx).length:Int)):=by simp
   simp only[this,aj]
  |cons x l=>
   have t:=(wa (h.box x (jM ..))).1;have u:∀n∈s,1<=n/\n<=65536:=λn d=>⟨gu hn (by have:=gG t;omega) n d,(e n d).2⟩
   exact P8 u k ((x::l).map pD) [] (by simp at f |-;omega) λb v=>by
    obtain⟨y,w,rfl⟩:=ar.1 v;exact h.box y w
 have z:=Nh h y8 y8 (ig s) [] y9 (pP hn);have j:Yo (ig s,l.map pD,0)=some (.inr ()):=z;simp only[J4,g,Qc,R0,r,c,j]
end
theorem om{s:fj}(hn:∀n∈s,0<=n){i:fj}:i∈ig s↔iB s i=true:=by
 refine⟨pP hn i,λh=>?_⟩;have d:=gG h;have c:=gu hn y8;have:=kK c (iA s i).toNat y8;rw[show(((iA s i).toNat:Nat):Int)=iA s i by omega,l7 h]at this;exact jF this
theorem xk{s:fj}(hn:∀n∈s,0<=n):(ig s).Nodup:=by
 have hl:=ko hn;by_cases z:fw s=0
 .have:ig s=[]:=aw y8
  rw[this];exact .nil
 .have c:=gu hn z;rw[List.Nodup,cV];intro i j hi l m e;have d:=kK c i y8;have k:=kK c j y8;rw[jC hi]at d;rw[jC l]at k;have:=Gi c (f:=(i:Int)) (g:=(j:Int)) y8 y8 (by rw[<-jS d,<-jS k];exact e);omega
theorem vg{s:fj}(hn:∀n∈s,0<=n)(σ c:fj->fj)(d:∀i,iB s i=true->iB s (σ i)=true/\c (σ i)=i)(k:∀i,iB s i=true->iB s (c i)=true/\σ (c i)=i)(f:fj->Bool):
  (ig s).countP (λi=>f (σ i))=(ig s).countP f:=by
 have l:((ig s).map σ).Perm (ig s):=by
  rw[List.perm_ext_iff_of_nodup ?_ (xk hn)]
  .intro i;rw[ar];constructor
   .rintro⟨j,m,rfl⟩
    exact(om hn).2 (d j ((om hn).1 m)).1
   .intro hi;have:=k i ((om hn).1 hi);exact⟨c i,(om hn).2 this.1,this.2⟩
  .rw[List.Nodup,dN];refine(xk hn).imp_of_mem λ{a b} p q g e=>g ?_
   rw[<-(d a ((om hn).1 p)).2,e,(d b ((om hn).1 q)).2]
 have:=l.countP_eq f;rw[cW]at this;exact this
def uG(c:Qb):Nat:=(ig c.shape).countP λi=>(mE c i).1
section
variable{bs:List (fj)}{m:Int}
def Cp(c:Qb)(a:Nat):Qb:=⟨3,c.shape,0,[],(a:Int),0,[],[c]⟩
def vu(c:Qb)(a:Nat)(n:Int):Qb:=⟨4,c.shape,0,[],(a:Int),n,[],[c]⟩
theorem N0{c:Qb}{a:Nat}(d:GS bs m c)(f:rv c<=60)(g:a<c.shape.length):GZ bs m (Cp c a):=by
 obtain⟨hc,_,_⟩:=kb.chk d;refine⟨⟨?_,?_⟩,?_⟩
 .refine⟨⟨by show(1:Int)<=3/\(3:Int)<=7;decide,by rfl,hc,λh=>absurd (show(3:Int)=2 from h) yC,λ_ k r e=>?_,λh=>absurd (show(3:Int)=4 from h) yC,λh=>absurd (show(3:Int)=5 from h) yC,λh=>absurd (show(3:Int)=5 from h) yC,λh=>absurd (show(3:Int)=7 from h) yC⟩,λh=>absurd (show(3:Int)=1 from h) yC,?_⟩
  .cases e;exact⟨rfl,by show(0:Int)<=(a:Int);omega,by show(a:Int)<(c.shape.length:Int);omega⟩
  .exact⟨d.1,trivial⟩
 .exact⟨(lB d.2).1,d.2,trivial⟩
 .show rv (Cp c a)<=70
  unfold Cp;rw[rv,qj,qj];omega
theorem O3{c:Qb}{a:Nat}{n:Int}(d:GS bs m c)(f:rv c<=60)(g:a<c.shape.length)(h0:0<=n)(hn:n<c.shape.getD a 0):GZ bs m (vu c a n):=by
 obtain⟨hc,_,_⟩:=kb.chk d;refine⟨⟨?_,?_⟩,?_⟩
 .refine⟨⟨by show(1:Int)<=4/\(4:Int)<=7;decide,by rfl,hc,λh=>absurd (show(4:Int)=2 from h) yC,λ_ k r e=>?_,λ_=>⟨h0,.inr (by show n<c.shape.getD ((a:Int)).toNat 0;simpa using hn)⟩,λh=>absurd (show(4:Int)=5 from h) yC,λh=>absurd (show(4:Int)=5 from h) yC,λh=>absurd (show(4:Int)=7 from h) yC⟩,λh=>absurd (show(4:Int)=1 from h) yC,?_⟩
  .cases e;exact⟨rfl,by show(0:Int)<=(a:Int);omega,by show(a:Int)<(c.shape.length:Int);omega⟩
  .exact⟨d.1,trivial⟩
 .exact⟨(lB d.2).1,d.2,trivial⟩
 .show rv (vu c a n)<=70
  unfold vu;rw[rv,qj,qj];omega
theorem E0{s i:fj}{a:Nat}{y:Int}(c:a<s.length)(h:iB s i=true)(h0:0<=y)(d:y<s.getD a 0):iB s (i.set a y)=true:=by
 have:=lG (k:=a) (n:=s.getD a 0) h h0 d
 rwa [iz (gy c)]at this
theorem C8{i:fj}{a:Nat}(c:a<i.length)(y z:Int)(d:z=i.getD a 0):(i.set a y).set a z=i:=by
 rw[List.set_set,d,iz (gy c)]
theorem uq{i:fj}{a:Nat}(c:a<i.length)(y:Int):(i.set a y).getD a 0=y:=by rw[HC c,ai rfl]
theorem LH{c:Qb}{a:Nat}(hc:fH c.shape=0)(d:a<c.shape.length):uG (Cp c a)=uG c:=by
 have hn:∀n∈c.shape,0<=n:=λn hn=>((fE hc).2.2 n hn).1
 have h:∀i,iB c.shape i=true->iB c.shape (i.set a (c.shape.getD a 0 - 1 - i.getD a 0))=true/\(λi:fj=>i.set a (c.shape.getD a 0 - 1 - i.getD a 0)) (i.set a (c.shape.getD a 0 - 1 - i.getD a 0))=i:=λi hi=>by
  have f:=mo hi a d;have e:=il hi;refine⟨E0 d hi y8 y8,?_⟩;show(i.set a _).set a (c.shape.getD a 0 - 1 - (i.set a _).getD a 0)=i
  rw[uq y8];exact C8 y8 _ _ y8
 have:=vg hn (λi=>i.set a (c.shape.getD a 0 - 1 - i.getD a 0)) (λi=>i.set a (c.shape.getD a 0 - 1 - i.getD a 0)) h h λi=>(mE c i).1
 refine Eq.trans ?_ this;unfold uG;congr 1
theorem Mk{c:Qb}{a:Nat}{n:Int}(hc:fH c.shape=0)(f:a<c.shape.length)(h0:0<=n)(e:n<c.shape.getD a 0):uG (vu c a n)=uG c:=by
 have hn:∀n∈c.shape,0<=n:=λn hn=>((fE hc).2.2 n hn).1
 have key:∀n k:Int,0<=n->n<c.shape.getD a 0->0<=k->k<c.shape.getD a 0->(n+k)%c.shape.getD a 0=0->∀i,iB c.shape i=true->iB c.shape (i.set a ((i.getD a 0+n)%c.shape.getD a 0))=true/\(λi:fj=>i.set a ((i.getD a 0+k)%c.shape.getD a 0)) (i.set a ((i.getD a 0+n)%c.shape.getD a 0))=i:=λn k n0 n1 l k1 d i hi=>by
  have g:=mo hi a f;have j:=il hi;refine⟨E0 f hi (bz _ y8) (aX _ y8),?_⟩;show(i.set a _).set a (((i.set a _).getD a 0+k)%c.shape.getD a 0)=i
  rw[uq y8];refine C8 y8 _ _ ?_;rw[Int.emod_add_emod,Int.add_assoc,<-Int.add_emod_emod,d,fc,bJ g.1 g.2]
 by_cases z:n=0
 .have d:(n+0)%c.shape.getD a 0=0:=by rw[z];rfl
  have:=vg hn (λi=>i.set a ((i.getD a 0+n)%c.shape.getD a 0)) (λi=>i.set a ((i.getD a 0+0)%c.shape.getD a 0)) (key n 0 h0 e (aC _) y8 d) (key 0 n (aC _) y8 h0 e (by rw[dr];exact d)) λi=>(mE c i).1
  refine Eq.trans ?_ this;unfold uG;congr 1
 .have d:(n+(c.shape.getD a 0 - n))%c.shape.getD a 0=0:=by rw[show n+(c.shape.getD a 0 - n)=c.shape.getD a 0 by omega,Int.emod_self]
  have:=vg hn (λi=>i.set a ((i.getD a 0+n)%c.shape.getD a 0)) (λi=>i.set a ((i.getD a 0+(c.shape.getD a 0 - n))%c.shape.getD a 0)) (key n _ h0 e y8 y8 d) (key _ n y8 y8 h0 e (by rw[dr];exact d)) λi=>(mE c i).1
  refine Eq.trans ?_ this;unfold uG;congr 1
theorem yY(l:List Qa):(iC l).length=l.length:=(lR l).length_eq
theorem D6:∀{s lo hi:fj} {k:Nat} {a b:Int},okB s lo hi->lo[k]?=some a->hi[k]?=some b->a<b
 |n::s,l::lo,h::hi,0,a,b,H,c,d=>by
  simp at c d;subst c;subst d;exact H.1.2.1
 |n::s,l::lo,h::hi,k+1,a,b,H,c,d=>D6 (k:=k) H.2 (by simpa using c) (by simpa using d)
 |[],[],[],_,_,_,_,e,_=>by simp at e
 |[],_::_,_,_,_,_,h,_,_=>by simp[okB]at h
 |[],[],_::_,_,_,_,h,_,_=>by simp[okB]at h
 |_::_,[],_,_,_,_,h,_,_=>by simp[okB]at h
 |_::_,_::_,[],_,_,_,h,_,_=>by simp[okB]at h
theorem LR{P:Qa->Prop}{s:fj}{l:List Qa}{a:Nat}{n:Int}(h:Inv P s l)(g:s[a]?=some n):(iC ((l.map (mW a n)).filter fT)).length=l.length:=by
 rw[yY]
 have:(l.map (mW a n)).filter fT=l.map (mW a n):=eZ.2 λy j=>by
  obtain⟨x,k,rfl⟩:=ar.1 j;have f:=h.box x k;have m:=uK f;obtain⟨lo,hi,c,d,q,k1,k2⟩:=rX (sq f) g
  have p:lo<hi:=by
   have:=D6 f c d;omega
  show fW (x.box.lo.set a _) (x.box.hi.set a _)=true
  rw[og _ _ _ _ _ (l8 c) (l8 d),iZ c,iZ d,jE];refine⟨decide_eq_true y8,?_⟩;have e:=og x.box.lo x.box.hi a lo hi (l8 c) (l8 d);rw[iz c,iz d,m]at e;have:=e.symm;rw[jE]at this;exact this.2
 rw[this,jY]
theorem MJ{P:Qa->Prop}{s:fj}{l:List Qa}{a:Nat}{n m:Int}(h:Inv P s l)(w:s[a]?=some n)(h0:0<=m)(hm:m<=n):l.length<=(iC ((l.flatMap (kE a m n)).filter fT)).length/\(iC ((l.flatMap (kE a m n)).filter fT)).length<=2*l.length:=by
 rw[yY]
 have key:∀l:List Qa,(∀x∈l,okB s x.box.lo x.box.hi)->l.length<=((l.flatMap (kE a m n)).filter fT).length/\((l.flatMap (kE a m n)).filter fT).length<=2*l.length:=λl=>by
  induction l with
  |nil=>intro _;simp
  |cons x l z=>
   intro v;obtain⟨D,E⟩:=z λy q=>v y (jG _ q)
   have g:=v x (jM ..);have A:=uK g;obtain⟨lo,hi,j,k,F,k1,k2⟩:=rX (sq g) w
   have B:lo<hi:=by
    have:=D6 g j k;omega
   have C:fW (x.box.lo.eraseIdx a) (x.box.hi.eraseIdx a)=true:=by
    have e:=og x.box.lo x.box.hi a lo hi (l8 j) (l8 k);rw[iz j,iz k,A]at e;have:=e.symm;rw[jE]at this;exact this.2
   have p:∀f t d,fT (iM a f t d x)=decide (mV lo f t+d<pE lo hi f t+d):=λf t d=>by
    show fW (x.box.lo.set a _) (x.box.hi.set a _)=_
    rw[og _ _ _ _ _ (l8 j) (l8 k),iZ j,iZ k,C,cY]
   have G:((kE a m n x).filter fT).length<=2:=by
    have:=dh fT (kE a m n x);simp only[kE,zG,jL]at this |-;omega
   have H:1<=((kE a m n x).filter fT).length:=by
    have r:∃y∈kE a m n x,fT y=true:=by
     by_cases c:m<hi
     .refine⟨iM a m n (0 - m) x,by simp[kE],?_⟩;rw[p];refine decide_eq_true ?_;unfold pE mV;split <;>split <;>(try split)<;>(try split)<;>omega
     .refine⟨iM a 0 m (n - m) x,by simp[kE],?_⟩;rw[p];refine decide_eq_true ?_;unfold pE mV;split <;>split <;>(try split)<;>(try split)<;>omega
    obtain⟨y,q,u⟩:=r;exact eE (bk.2 ⟨q,u⟩)
   rw[aS,List.filter_append,jV,zG];omega
 exact key l h.box
end
theorem KW:∀(l p:List Qi) (v:Nat),p.length+l.length<=50000->v<=p.length->ZQ (p++l,(v:Int),(p.length:Int))=some ((v+l.countP Qi.fill:Nat):Int)
 |[],p,v,h,d=>by
  rw[ZQ];simp only[Za,aj];simp
 |x::l,p,v,h,d=>by
  rw[ZQ];have g:p.length<=50000:=by simp at h;omega
  have e:=λv d=>KW l (p++[x]) v (by simp at h |-;omega) d
  simp only[<-Qv]at e;have j:W ((p.length:Int)+1)=((p++[x]).length:Int):=l9 y8;have f:W ((v:Int)+1)=((v+1:Nat):Int):=p5 y8;simp only[Q4,ak,Qy,Qc,j,f];by_cases c:x.fill=true
  .simp only[c,ak];rw[e (v+1) y9,cC c];congr 2;omega
  .simp only[c,j6,aj];rw[e v y9,cD c]
theorem Rc{l:List Qa}(h:l.length<=50000):Ps l=some (l.map pn):=by
 have:=L2 (P:=l.map pn) y9;rw[zF]at this;have e:(km∘ pn)=id:=funext MD
 rwa [e,cR]at this
theorem wI{bs:List (fj)}{m:Int}(z:bs.length<=1000)(q:1<=m)(A:m<=200){c:Qb}(f:GZ bs m c){l:List Qa}(h:Inv (Hx c) c.shape l):YQ (c.shape,l)=some (uG c:Int):=by
 obtain⟨hc,j,hl⟩:=mK.chk f;obtain⟨c1,c2,r⟩:=fE hc;have hn:∀n∈c.shape,0<=n:=λn hn=>(r n hn).1
 have s:=h.len4 hc y8;have d:=zn q y8 c f.1;have hR:Inv (xy c) c.shape l:=h.mono λx _ j=>j.1
 have t:=Rc (l:=l) y8;have u:Lf c<=1000000000000:=by have:=f.2;unfold Lf;omega
 have v:=DG h hc y8 (λx k=>Lm (h.acc x k) (h.prp x k).2 u c1) d;have w:=wN hR hc y8 d;have B:=ko hn;have g:(iQ c).length<=50000:=by unfold iQ;rw[jY];omega
 have p:=KW (iQ c) [] 0 (by simpa using g) (j7 _);rw[zY]at p;have e:ZQ (iQ c,0,0)=some (((iQ c).countP Qi.fill:Nat):Int):=p
 have y:(iQ c).countP Qi.fill=uG c:=by
  unfold iQ uG;rw[cW];rfl
 rw[y]at e;simp only[YQ,t,Qc,v,jO,aj,w,e]
theorem FV:∀(a b p q:fj),a.length=b.length->p.length=q.length->p.length+a.length<=600->QN (p++a,q++b,(p.length:Int))=some (if a=b then .inr ()else .inl ())
 |[],[],p,q,_,_,h=>by
  rw[QN];simp only[Za,aj];rfl
 |x::a,y::b,p,q,f,c,h=>by
  rw[QN];have j:idx (q++y::b) (p.length:Int)=some y:=by rw[c];exact Qy
  simp only[Q4,ak,Qy,j,Qc];by_cases g:x=y
  .have d:=FV a b (p++[x]) (q++[y]) (by simpa using f) (by simp[c]) (by simp at h |-;omega);rw[<-Qv,<-Qv]at d;subst g;rw[af yA,Ed h,d];simp
  .have:¬(x::a=y::b):=λe=>g (List.cons.inj e).1
   rw[af this,ai g]
 |[],_::_,_,_,h,_,_=>by simp at h
 |_::_,[],_,_,h,_,_=>by simp at h
theorem Mx(a b:fj)(h:b.length<=600):XH (a,b)=some (decide (a=b)):=by
 by_cases hl:a.length=b.length
 .have e:=FV a b [] [] hl rfl y9;have e':QN (a,b,0)=some (if a=b then .inr ()else .inl ()):=e;have g:¬((a.length:Int)≠(b.length:Int)):=by omega
  simp only[XH,Yr,g,aj,e',Qc];by_cases c:a=b
  .simp only[c,ak,Qc,decide_true]
  .simp only[c,aj,Qc,y3]
 .have g:(a.length:Int)≠(b.length:Int):=by omega
  have:a≠b:=λe=>hl (by rw[e])
  simp only[XH,Yr,g,ak,Qc,this,y3,ne_eq,not_false_eq_true]
theorem LU{bs:List (fj)}{m:Int}(g:bs.length<=1000)(j:1<=m)(n:m<=200){c k:Qb}(f:GS bs m c)(p:c.kind=6)(q:c.kids=[k]){l:List Qa}(h:Inv (xy k) k.shape l)(r:k.shape≠c.shape->Pn (l,k.shape)=some ((iQ k).map nr)):Xl (l,k.shape,c.shape)=some (lO l k.shape c.shape):=by
 obtain⟨_,_,hl⟩:=kb.chk f;by_cases d:k.shape=c.shape
 .have e:lO l k.shape c.shape=l:=ai d;rw[e,d];simp only[Xl,O9 (show c.shape.length<=600 by omega),Qc,ak]
 .obtain⟨P,s,t,u,hi,x,v,w,_,_⟩:=wx kb g n (zn j y8) f p q h
  have e:lO l k.shape c.shape=P.map km:=by
   refine(af d).trans ?_;rw[s,zW,t,zW,u];rfl
  rw[e];have eq:=Mx k.shape c.shape (show c.shape.length<=600 by omega);simp only[Xl,eq,d,y3,Qc,j6,aj,r d,v,w]
def yE:fj->fj->fj->Option fj
 |l::lo,h::hi,a::az=>match yE lo hi az with
  |some b=>some (a::b)
  |none=>if a+1<h then some ((a+1)::lo)else none
 |_,_,_=>none
theorem Ci:∀{lo hi az:fj} {l h a:Int},lo.length=az.length->hi.length=az.length->yE (lo++[l]) (hi++[h]) (az++[a])=if a+1<h then some (az++[a+1])else(yE lo hi az).map (·++[l])
 |[],[],[],l,h,a,_,_=>by
  simp only[yE,jQ];split <;>rfl
 |j::lo,k::hi,m::az,l,h,a,c,d=>by
  have f:=Ci (lo:=lo) (hi:=hi) (az:=az) (l:=l) (h:=h) (a:=a) (by simpa using c) (by simpa using d);simp only[aW,yE,f];by_cases g:a+1<h
  .simp only[g,ak]
  .simp only[g,aj];cases yE lo hi az with
   |some b=>rfl
   |none=>
    simp only[du];split <;>rfl
 |[],_,_::_,_,_,_,e,_=>by simp at e
 |_::_,_,[],_,_,_,e,_=>by simp at e
 |_,[],_::_,_,_,_,_,e=>by simp at e
 |_,_::_,[],_,_,_,_,e=>by simp at e
theorem zx{n:Nat}{l:fj}(h:l.length=n+1):∃(p:fj) (x:Int),l=p++[x]/\p.length=n:=by
 have hn:l≠[]:=by intro e;rw[e]at h;simp at h
 exact⟨l.dropLast,l.getLast hn,(List.dropLast_concat_getLast hn).symm,by simp[h]⟩
theorem C0(q2:fj):∀(n:Nat) (lo hi az c d xs:fj),lo.length=n->hi.length=n->az.length=n->c.length=xs.length->d.length=xs.length->q2.length=n+xs.length->n<=600->(∀x∈az,-100000<=x/\x<=100000)->
  Ze (q2,hi++d,lo++c,az++xs,(n:Int) - 1)=some (match yE lo hi az with|some b=>.inl (b++xs)|none=>.inr (lo++xs))
 |0,lo,hi,az,c,d,xs,e,f,j,_,_,_,_,_=>by
  rw[Ze];have m:=bS.1 e;have p:=bS.1 f;have q:=bS.1 j;subst m p q;rfl
 |n+1,lo,hi,az,c,d,xs,e,f,j,r,s,G,H,k=>by
  obtain⟨lo,l,rfl,k1⟩:=zx e;obtain⟨hi,h,rfl,k2⟩:=zx f;obtain⟨az,a,rfl,k3⟩:=zx j;have t:=k a yA;have u:=C0 q2 n lo hi az (l::c) (h::d) (l::xs) k1 k2 k3 (by simp[r]) (by simp[s]) y9 y8 (λx v=>k x (by simp[v]));rw[Ze,Ci y8 y8];have c0:((n+1:Nat):Int) - 1=(az.length:Int):=by omega
  have w:∀(y:Int) (ys:fj),idx (az++y::ys) (az.length:Int)=some y:=λy ys=>Qy
  have A:idx (hi++h::d) (az.length:Int)=some h:=by rw[show az.length=hi.length by omega];exact Qy
  have B:idx (lo++l::c) (az.length:Int)=some l:=by rw[show az.length=lo.length by omega];exact Qy
  have C:∀(y z:Int) (ys:fj),iL (az++y::ys) (az.length:Int) z=some (az++z::ys):=λy z ys=>by
   simp[iL]
  have D:((az.length:Int)>=0):=by omega
  have gl:∀y:Int,(az++y::xs).length=q2.length:=λy=>by simp;omega
  have E:W (a+1)=a+1:=lg y8 y8;have F:W ((az.length:Int) - 1)=(n:Int) - 1:=by rw[lg y8 y8];omega
  simp only[aB,aM,c0,D,ak,gl,fI,w,A,B,C,Qc,E];by_cases g:a+1<h
  .simp only[g,ak,aB,aM]
  .simp only[g,aj,F,u];cases yE lo hi az with
   |some b=>simp only[jN,aB,aM]
   |none=>simp only[du]
theorem KH{lo hi az:fj}(c:lo.length=az.length)(d:hi.length=az.length)(f:az.length<=600)(g:∀x∈az,-100000<=x/\x<=100000):
  Y5 (lo,hi,az)=some (match yE lo hi az with|some b=>(b,true)|none=>(lo,false)):=by
 have e:=C0 az az.length lo hi az [] [] [] c d rfl rfl rfl rfl f g;simp only[jU]at e;have j:W ((az.length:Int) - 1)=(az.length:Int) - 1:=lg y8 y8;simp only[Y5,j,e];cases yE lo hi az<;>rfl
def Af(a h:Int):fj:=(List.range (h - a).toNat).map λ(k:Nat)=>a+(k:Int)
theorem Cv{a h:Int}(g:a<h):Af a h=a::Af (a+1) h:=by
 unfold Af;rw[show(h - a).toNat=(h - (a+1)).toNat+1 by omega,List.range_succ_eq_map];simp only[zU,zF];rw[show a+((0:Nat):Int)=a by omega];refine bI (List.cons a) (aQ λk _=>?_);simp only[Function.comp_apply];omega
theorem K1{a h:Int}(g:¬a<h):Af a h=[]:=by
 unfold Af;rw[show(h - a).toNat=0 by omega];rfl
theorem Mc{a h x:Int}:x∈Af a h↔a<=x/\x<h:=by
 unfold Af;simp only[ar,ct];constructor
 .rintro⟨k,c,rfl⟩;omega
 .rintro⟨c,d⟩;exact⟨(x - a).toNat,by omega,by omega⟩
def nK:fj->fj->fj->List fj
 |l::lo,h::hi,a::az=>(nK lo hi az).map (a::·)++(Af (a+1) h).flatMap λb=>(nK lo hi lo).map (b::·)
 |_,_,_=>[[]]
theorem Bw:∀{lo hi az:fj},lo.length=az.length->hi.length=az.length->nK lo hi az=az::(match yE lo hi az with|some b=>nK lo hi b|none=>[])
 |[],[],[],_,_=>rfl
 |l::lo,h::hi,a::az,c,d=>by
  have f:=Bw (lo:=lo) (hi:=hi) (az:=az) (by simpa using c) (by simpa using d);rw[nK,f,yE];cases yE lo hi az with
  |some b=>simp only[zU,aW,nK]
  |none=>
   simp only[zU,aN,aW,jQ];by_cases g:a+1<h
   .rw[Cv g];simp only[g,ak,aS,nK]
   .rw[K1 g];simp only[g,aj,dc]
 |[],_,_::_,e,_=>by simp at e
 |_::_,_,[],e,_=>by simp at e
 |_,[],_::_,_,e=>by simp at e
 |_,_::_,[],_,e=>by simp at e
def FW(l:fj):Prop:=∀x∈l,-100000<=x/\x<=100000
theorem sE{a:Int}{l:fj}:FW (a::l)↔(-100000<=a/\a<=100000)/\FW l:=by
 unfold FW;simp
theorem NC:∀{lo hi az b:fj},yE lo hi az=some b->FW lo->FW hi->FW az->lo.length=az.length->b.length=az.length/\FW b
 |l::lo,h::hi,a::az,b,e,k1,k2,k3,d=>by
  rw[sE]at k1 k2 k3;rw[yE]at e;cases g:yE lo hi az with
  |some c=>
   rw[g]at e;cases e;have f:=NC g k1.2 k2.2 k3.2 (by simpa using d);exact⟨by simp[f.1],sE.2 ⟨k3.1,f.2⟩⟩
  |none=>
   rw[g]at e;simp only at e;split at e
   .cases e;exact⟨by simpa using d,sE.2 ⟨by omega,k1.2⟩⟩
   .cases e
 |[],_,_,_,e,_,_,_,_=>by simp[yE]at e
 |_::_,[],_,_,e,_,_,_,_=>by simp[yE]at e
 |_::_,_::_,[],_,e,_,_,_,_=>by simp[yE]at e
theorem AI{l:fj}(h:l.length<=600):Qu l=some l:=lv h
theorem F3:∀(n:Nat) {lo hi az:fj},(nK lo hi az).length=n->lo.length=az.length->hi.length=az.length->az.length<=600->FW lo->FW hi->FW az->D4 (lo,hi,az)=some (nK lo hi az)
 |n,lo,hi,az,hn,c,d,e,k1,k2,k3=>by
  have es:=Bw c d;rw[D4];simp only[AI e,Qc,KH c d e k3];cases g:yE lo hi az with
  |none=>
   rw[g]at es;simp only[c,fI,Qc,es];rfl
  |some b=>
   rw[g]at es;have f:=NC g k1 k2 k3 c;have j:(nK lo hi b).length<n:=by rw[<-hn,es];simp
   have k:=F3 (nK lo hi b).length (lo:=lo) (hi:=hi) (az:=b) rfl y8 y8 y8 k1 k2 f.2;simp only[f.1,fI,Qc,ak,k,es]
termination_by n=>n
theorem Gb:∀{lo hi i:fj},lo.length=hi.length->(fW lo hi=true)->(i∈nK lo hi lo↔jk lo hi i=true)
 |[],[],[],_,_=>by simp[nK,jk]
 |[],[],_::_,_,_=>by simp[nK,jk]
 |l::lo,h::hi,i,e,f=>by
  simp only[fW,jE,zD]at f;have d:=λj=>Gb (lo:=lo) (hi:=hi) (i:=j) (by simpa using e) f.2
  have g:nK (l::lo) (h::hi) (l::lo)=(Af l h).flatMap λb=>(nK lo hi lo).map (b::·):=by
   rw[Cv f.1,aS,nK]
  rw[g];simp only[bE,ar,Mc];constructor
  .rintro⟨b,⟨k,m⟩,j,n,rfl⟩
   simp only[jk,k,m,decide_true,cY,aY];exact(d j).1 n
  .intro c;cases i with
   |nil=>simp[jk]at c
   |cons b j=>
    simp only[jk,jE,zD]at c;exact⟨b,c.1,j,(d j).2 c.2,rfl⟩
 |[],_::_,_,e,_=>by simp at e
 |_::_,[],_,e,_=>by simp at e
theorem My{s lo hi:fj}(g:fw s<=65536)(d:lo.length=hi.length)(hl:lo.length<=600)(H:okB s lo hi)(f:fW lo hi=true)(k1:FW lo)(k2:FW hi):Is lo hi=some (nK lo hi lo):=by
 have hc:=zl (lo:=lo) (hi:=hi) g d hl (λ_=>H);have e:=Dp (lo:=lo) (hi:=hi) (λ_=>H);rw[f]at e;have c:=of_decide_eq_true e;unfold Is;simp only[AI hl,Qc,hc,c,ak];exact F3 _ rfl rfl d.symm hl k1 k2 k1
theorem E2:∀(s t p q:fj) (x:Int),p.length=q.length->(p++s).length<=1000->(q++t).length<=1000->Zo (q++t,p++s,x,(p.length:Int))=some (l4 s t x)
 |[],t,p,q,x,h,c,d=>by
  rw[Zo]
  have:¬((p.length:Int)<(if((q++t).length:Int)<((p++([]:fj)).length:Int)then((q++t).length:Int)else((p++([]:fj)).length:Int))):=by
   simp only[jV,jL];split <;>omega
  simp only[this,aj,l4]
 |a::s,[],p,q,x,h,c,d=>by
  rw[Zo]
  have:¬((p.length:Int)<(if((q++([]:fj)).length:Int)<((p++a::s).length:Int)then((q++([]:fj)).length:Int)else((p++a::s).length:Int))):=by
   simp only[jV,jL,zG];split <;>omega
  simp only[this,aj,l4]
 |a::s,b::t,p,q,x,h,c,d=>by
  rw[Zo]
  have f:((p.length:Int)<(if((q++b::t).length:Int)<((p++a::s).length:Int)then((q++b::t).length:Int)else((p++a::s).length:Int))):=by
   simp only[jV,zG];split <;>omega
  have g:idx (q++b::t) (p.length:Int)=some b:=by rw[h];exact Qy
  have e:=E2 s t (p++[a]) (q++[b]) (W (x+W (a*b))) (by simp[h]) (by simpa using c) (by simpa using d);rw[<-Qv,<-Qv]at e;have w:W ((p.length:Int)+1)=((p++[a]).length:Int):=lk (jf c);simp only[f,ak,Qc,Qy,g,w,e,l4]
theorem Md{a b:fj}(c:a.length<=1000)(d:b.length<=1000):Jj (a,b)=some (l4 a b 0):=by
 have e:=E2 a b [] [] 0 rfl (by simpa using c) (by simpa using d);simp only[jQ,jL,jJ]at e;unfold Jj;simp only[e,Qc]
theorem xR:∀(s t p q:fj),s.length=t.length->p.length=q.length->Sm (p++s).length->Yj (p++s,q++t,(p.length:Int))=some (if iB t s=true then .inr ()else .inl ())
 |[],[],p,q,_,_,c=>by
  rw[Yj];simp only[Za,aj,iB,ak]
 |x::s,n::t,p,q,j,e,c=>by
  rw[Yj];have f:=xR s t (p++[x]) (q++[n]) (by simpa using j) (by simp[e]) (by rw[<-Qv];exact c);rw[<-Qv,<-Qv]at f;simp only[Q4,ak,Qy,Qc,lk c,f,iB];rw[e,Qy];by_cases d:x<0
  .simp[d,Qc,show¬0<=x by omega]
  .by_cases g:x>=n
   .simp[d,g,Qc,show¬x<n by omega]
   .simp[d,g,Qc,show 0<=x by omega,show x<n by omega]
 |[],_::_,_,_,h,_,_=>by cases h
 |_::_,[],_,_,h,_,_=>by cases h
theorem HB(s i:fj)(c:Sm i.length):Rf (s,i)=some (iB s i):=by
 simp only[Rf];by_cases h:i.length=s.length
 .have e:Yj (i,s,0)=_:=xR i s [] [] h rfl c;rw[af y8,e];cases iB s i<;>rfl
 .rw[ai y8,IT (λe=>h e.symm)]
theorem GH{s:fj}(hc:fH s=0)(hpos:∀n∈s,1<=n):Y8 s=some ⟨gF s,s⟩:=by
 simp only[Y8,oK hc hpos,Qc]
theorem BW:∀(s t p q:fj) (a:Int),iB s t=true->p.length=q.length->Sm (p++s).length->0<=a->a+iA s t<=65536->fw s<=65536->
  Zo (q++t,p++gF s,a,(p.length:Int))=some (a+iA s t)
 |[],[],p,q,a,_,d,e,l,j,_=>by
  rw[Zo]
  have:¬((p.length:Int)<(if((q++[]).length:Int)<((p++gF []).length:Int)then((q++[]).length:Int)else((p++gF []).length:Int))):=by
   simp[gF,d]
  simp only[this,aj];simp[iA]
 |n::s,x::t,p,q,a,c,d,e,l,j,m=>by
  rw[Zo];simp only[iB,jE,zD]at c;have hl:=il c.2;have w:=fM (qI c.2);obtain⟨y,z⟩:=gG c.2;rw[iA]at j;rw[fV]at m;have c1:0<=x*fw s:=cr c.1.1 y8;have c2:1*fw s<=n*fw s:=aI y8 y8
  have this:((p.length:Int)<(if((q++x::t).length:Int)<((p++gF (n::s)).length:Int)then((q++x::t).length:Int)else((p++gF (n::s)).length:Int))):=by
   simp only[jV,zG,kJ,d];split <;>omega
  have hi:idx (q++x::t) (p.length:Int)=some x:=by rw[d];exact Qy
  have f:idx (p++gF (n::s)) (p.length:Int)=some (fw s):=Qy;have r:W (fw s*x)=x*fw s:=by rw[bj,lg y8 y8]
  have u:W (a+x*fw s)=a+x*fw s:=lg y8 y8;have k:=BW s t (p++[fw s]) (q++[x]) (a+x*fw s) c.2 (by simp[d]) (by have:=e;simp at this |-;unfold Sm at *;omega) y8 y8 y8;rw[<-Qv,<-Qv]at k
  have v:W ((p.length:Int)+1)=((p++[fw s]).length:Int):=by
   unfold Sm at e;simp at e;rw[lg y8 y8];simp
  simp only[this,ak,hi,f,Qc,r,u,v];have g:Zo (q++x::t,p++gF (n::s),a+x*fw s,((p++[fw s]).length:Int))=_:=k;rw[g,iA,Int.add_assoc]
 |[],_::_,_,_,_,h,_,_,_,_,_=>by cases h
 |_::_,[],_,_,_,h,_,_,_,_,_=>by cases h
theorem DB{s i:fj}(h:iB s i=true)(hc:fH s=0):Jc (s,i)=some (iA s i,true):=by
 obtain⟨d,c,f⟩:=fE hc;obtain⟨g,j⟩:=gG h;have hl:=il h;have e:=BW s i [] [] 0 h rfl (jf (show s.length<=1000 by omega)) y8 y8 c;have e':Zo (i,gF s,0,0)=some (0+iA s i):=e;simp only[Jc,HB s i (jf (show i.length<=1000 by omega)),h,Qc,jO,aj,GH hc (qI h),Ja,Jj,e',ff]
theorem O6{a:Qh}{i:fj}(g:kQ i.length a)(hi:i.length<=600)(hn:yN a):∃v ok,Pd (a,i)=some (v,ok)/\uB a i=(if ok=false then(true,0,0)else(false,a.buffer,v))/\(ok=false->v=0/\a.kind=1):=by
 have hm:=hn.m;have d:=hn.l;obtain⟨n,p,ba,s,c,sp,md⟩:=a;simp only at d;have e:Jj (s,i)=some (l4 s i 0):=Md y8 y8;have j:Qu s=some s:=gj y9 y8;unfold Pd X8 Jm RT;simp only[j,Qc];rcases g with h|⟨h|h,q⟩<;>simp only at h<;>subst h
 .refine⟨0,false,?_,rfl,λ_=>⟨rfl,rfl⟩⟩;simp only[show¬(1:Int)=3 by decide,show¬(1:Int)=2 by decide,aj,Qc,e]
 .refine⟨W (ba+l4 s i 0),true,?_,?_,λh=>absurd h yC⟩
  .simp only[show¬(2:Int)=3 by decide,aj,ak,Qc,e]
  .simp only[uB,show¬(2:Int)=1 by decide,show¬(2:Int)=3 by decide,aj,yx,jO]
 .obtain⟨m1,m2⟩:=hm rfl;simp only at m1 m2;have f:mX (W (c+l4 s i 0)) md=some ((W (c+l4 s i 0)).tmod md):=af y8;have t:=Cl (a:=W (c+gL s i)) m1;have r:=dH (W (c+gL s i)) (show 0<md by omega);rw[yx]at f
  have k:(if(W (c+gL s i)).tmod md<0 then some (W ((W (c+gL s i)).tmod md+md))else some ((W (c+gL s i)).tmod md))=some (W (c+gL s i)%md):=by
   rw[<-t];split
   .rw[lg y8 y8]
   .rfl
  have m3:¬md<=0:=by omega
  refine⟨W (ba+W (sp*(W (c+gL s i)%md))),true,?_,?_,λh=>absurd h yC⟩
  .simp only[show¬(3:Int)=2 by decide,aj,ak,Qc,e,yx,m3,f,k]
  .simp only[uB,show¬(3:Int)=1 by decide,ak,aj,jO]
theorem Cw:∀{s lo hi:fj},okB s lo hi->fW lo hi=true
 |[],[],[],_=>rfl
 |n::s,l::lo,h::hi,H=>by
  simp only[fW,jE,zD];exact⟨H.1.2.1,Cw H.2⟩
 |[],_::_,_,h=>by simp[okB]at h
 |[],[],_::_,h=>by simp[okB]at h
 |_::_,[],_,h=>by simp[okB]at h
 |_::_,_::_,[],h=>by simp[okB]at h
theorem I7:∀{s lo hi:fj},okB s lo hi->(∀n∈s,n<=65536)->FW lo/\FW hi
 |[],[],[],_,_=>⟨λx c=>by simp at c,λx c=>by simp at c⟩
 |n::s,l::lo,h::hi,H,d=>by
  have e:=I7 H.2 λn hn=>d n (jG _ hn)
  have hn:=d n (jM ..);obtain⟨⟨k1,k2,k3⟩,_⟩:=H;exact⟨sE.2 ⟨by omega,e.1⟩,sE.2 ⟨by omega,e.2⟩⟩
 |[],_::_,_,h,_=>by simp[okB]at h
 |[],[],_::_,h,_=>by simp[okB]at h
 |_::_,[],_,h,_=>by simp[okB]at h
 |_::_,_::_,[],h,_=>by simp[okB]at h
theorem It{s i j:fj}(hi:iB s i=true)(c:iB s j=true)(h:(iA s i).toNat=(iA s j).toNat):i=j:=by
 have d:=gG hi;have f:=gG c;have e:iA s i=iA s j:=by omega
 rw[<-l7 hi,<-l7 c,e]
theorem wz{f:Type}{s:fj}{F:fj->f}{N:Nat}{step:fj->List f->Option (List f)}(p:(N:Int)=fw s):
  ∀(l:List fj),(∀i∈l,iB s i=true)->(∀i∈l,∀v:List f,v.length=N->step i v=some (v.set (iA s i).toNat (F i)))->∀v:List f,v.length=N->
  ∃v',yk step l v=some v'/\v'.length=N/\∀j,iB s j=true->(j∈l\/v[(iA s j).toNat]?=some (F j))->v'[(iA s j).toNat]?=some (F j)
 |[],_,_,v,k=>⟨v,rfl,k,λj _ h=>by
  rcases h with h|h
  .simp at h
  .exact h⟩
 |i::l,m,n,v,k=>by
  have e:=n i (jM ..) v k;obtain⟨v',k1,k2,k3⟩:=wz p l (λj d=>m j (jG _ d)) (λj d=>n j (jG _ d)) (v.set (iA s i).toNat (F i)) (by simpa using k);refine⟨v',by rw[yk,e,Qc,k1],k2,λj d h=>k3 j d ?_⟩;have hi:=m i (jM ..);have r:=gG hi;by_cases c:i=j
  .subst c;refine .inr ?_;rw[List.getElem?_set_self y8]
  .rcases h with h|h
   .rcases aq.1 h with g|g
    .exact absurd g.symm c
    .exact .inl g
   .refine .inr ?_;rw[dv (λe=>c (It hi d e))];exact h
def xU(k:Qb)(i:fj):Qw:=nr (Mh (mE k i))
theorem Dh{k:Qb}{v2:List Qw}(hc:fH k.shape=0)(m:(v2.length:Int)=fw k.shape):∀(l p:List Qa) (v:List Qw),p.length+l.length<=100000->(∀x∈l,okB k.shape x.box.lo x.box.hi/\kQ k.shape.length x.access/\Hx k x)->v.length=v2.length->
  ∃v',Yi (p++l,k.shape,v2,v,(p.length:Int))=some v'/\v'.length=v2.length/\∀j,iB k.shape j=true->((∃x∈l,gZ j x=true)\/v[(iA k.shape j).toNat]?=some (xU k j))->v'[(iA k.shape j).toNat]?=some (xU k j)
 |[],p,v,_,_,D=>by
  rw[Yi];simp only[Za,aj];refine⟨v,rfl,D,λj _ h=>?_⟩;rcases h with⟨x,C,_⟩|h
  .simp at C
  .exact h
 |x::l,p,v,hl,C,D=>by
  obtain⟨c1,c2,P⟩:=fE hc;obtain⟨q,Q,E⟩:=C x (jM ..);obtain⟨l1,l2⟩:=lx q;have J:=Cw q;obtain⟨b1,b2⟩:=I7 q λn hn=>(P n hn).2
  have R:=My c2 (show x.box.lo.length=x.box.hi.length by omega) y8 q J b1 b2;have hm:∀i,i∈nK x.box.lo x.box.hi x.box.lo↔gZ i x=true:=λi=>Gb y8 J
  rw[Yi];have f:∀i∈nK x.box.lo x.box.hi x.box.lo,iB k.shape i=true:=λi hi=>ni q ((hm i).1 hi)
  obtain⟨v',k1,k2,k3⟩:=wz (F:=xU k) (N:=v2.length) (step:=λ(g:fj) (c:(List Qw))=>
   Jc (k.shape,g)>>=λ(d,K)=>
   Pd (x.access,g)>>=λ(s,t)=>
   QR (0<=d/\(d).toNat<v2.length)>>=λ_=>
   idx c d>>=λL=>
   iL c d (⟨(!t),x.access.buffer,s⟩:Qw)>>=λA=>
   some A) m (nK x.box.lo x.box.hi x.box.lo) f (λi hi w hw=>by
    have e:=f i hi;have r:=gG e;have G:=il e;obtain⟨a,ok,S,T,U⟩:=O6 (a:=x.access) (i:=i) (by rw[<-G];exact Q) y8 E.1.2;have V:=E.1.1 i e ((hm i).1 hi)
    have X:(⟨(!ok),x.access.buffer,a⟩:Qw)=xU k i:=by
     unfold xU;rw[<-V,T];cases ok with
     |true=>rfl
     |false=>
      obtain⟨q1,q2⟩:=U rfl;have q3:x.access.buffer=0:=by rw[E.2.k1 q2];rfl
      rw[q1,q3];rfl
    have Y:idx w (iA k.shape i)=some (w[(iA k.shape i).toNat]'y8):=by
     simp[idx,r.1,show(iA k.shape i).toNat<w.length by omega]
    have es:∀y:Qw,iL w (iA k.shape i) y=some (w.set (iA k.shape i).toNat y):=λy=>by
     simp[iL,r.1,show(iA k.shape i).toNat<w.length by omega]
    simp only[DB e hc,Qc,S,fI (show 0<=iA k.shape i/\(iA k.shape i).toNat<v2.length by omega),Y,X,es]) v D
  have M:=Dh hc m l (p++[x]) v' (by simp at hl |-;omega) (λy B=>C y (jG _ B)) k2;rw[<-Qv]at M;obtain⟨u,Z,u2,u3⟩:=M;have hpl:p.length<=100000:=by omega
  have H:XL (x.box.lo,x.box.hi)=some (x.box.lo,x.box.hi):=by
   simp only[XL,AI (show x.box.lo.length<=600 by omega),AI (show x.box.hi.length<=600 by omega),Qc]
  refine⟨u,?_,u2,λj I h=>u3 j I ?_⟩
  .simp only[Q4,ak,Qy,Qc,H,R];refine(bI (λz=>z>>=λc=>Yi (p++x::l,k.shape,v2,c,W ((p.length:Int)+1))) k1).trans ?_;have hW:W ((p.length:Int)+1)=((p++[x]).length:Int):=l9 y8;simp only[Qc,hW,Z]
  .rcases h with⟨y,B,O⟩|h
   .rcases aq.1 B with rfl|B
    .exact .inr (k3 j I (.inl ((hm j).2 O)))
    .exact .inl ⟨y,B,O⟩
   .exact .inr (k3 j I (.inr h))
theorem Gr{k:Qb}(hc:fH k.shape=0){l:List Qa}(h:Inv (Hx k) k.shape l):Pn (l,k.shape)=some ((iQ k).map nr):=by
 obtain⟨c1,c2,w⟩:=fE hc;have hn:∀n∈k.shape,0<=n:=λn hn=>(w n hn).1
 have H:=ko hn;have y:=h.len hn
 have hm:jb 24 (fw k.shape) (⟨false,0,0⟩:Qw)=some (List.replicate (fw k.shape).toNat ⟨false,0,0⟩):=by
  have:((65536:Nat)*24:Nat)<=gO:=by decide +kernel
  unfold jb;rw[ai ⟨by omega,by omega,by omega⟩]
 have z:(List.replicate (fw k.shape).toNat (⟨false,0,0⟩:Qw)).length=(fw k.shape).toNat:=zJ;obtain⟨v,A,B,C⟩:=Dh hc (v2:=List.replicate (fw k.shape).toNat ⟨false,0,0⟩) (by rw[z];omega) l [] (List.replicate (fw k.shape).toNat ⟨false,0,0⟩) y9 (λx m=>⟨h.box x m,h.acc x m,h.prp x m⟩) rfl;have p:Yi (l,k.shape,List.replicate (fw k.shape).toNat ⟨false,0,0⟩,List.replicate (fw k.shape).toNat ⟨false,0,0⟩,0)=some v:=A
 have D:v=(iQ k).map nr:=by
  apply bD;intro j;by_cases g:j<(fw k.shape).toNat
  .have r:j<(ig k.shape).length:=by omega
   have c:=pP hn _ (zC r);have hpos:=qI c;have s:=kK hpos j y8;obtain⟨_,d⟩:=ae.1 s;rw[d]at c;have E:=gG c;have t:=kK hpos (iA k.shape (iT k.shape (j:Int))).toNat y8;rw[show(((iA k.shape (iT k.shape (j:Int))).toNat:Nat):Int)=iA k.shape (iT k.shape (j:Int)) by omega,l7 c]at t
   have F:iA k.shape (iT k.shape (j:Int))=(j:Int):=by
    obtain⟨l2,u⟩:=ae.1 t;have f:=cV.1 (xk hn);rcases cn j (iA k.shape (iT k.shape (j:Int))).toNat with q|q|q
    .exact absurd (d.trans u.symm) (f _ _ r l2 q)
    .omega
    .exact absurd (u.trans d.symm) (f _ _ l2 r q)
   have e:=C _ c (.inl (dy.1 (by rw[h.cnt _ c];omega)));rw[F]at e;have e':v[j]?=some (xU k (iT k.shape (j:Int))):=e;rw[e'];simp only[iQ,zF,jD,s,jN];rfl
  .rw[aF y8,aF (by simp[iQ];omega)]
 have gc:=ke k.shape (jf (show k.shape.length<=1000 by omega));have G:iS k.shape=fw k.shape:=ai hc;simp only[Pn,gc,G,Qc,hm,p,B,fI];rw[D]
section
variable{bs:List (fj)}{m:Int}{G:Qb->Prop}{R:Qb->Qa->Prop}{rsh:List Qa->fj->fj->List Qa}
theorem Ih(S:RM G R rsh)(hR:∀c k,G c->c.kind=6->c.kids=[k]->∀l,Inv (R k) k.shape l->Xl (l,k.shape,c.shape)=some (rsh l k.shape c.shape))(hm:m<=20000)(T:GK bs m G):∀(n:Nat) (c:Qb),rv c<=n->G c->mR (conv c)=some (mf rsh c)
 |0,c,h,_=>by have:=so c;omega
 |n+1,c,h,D=>by
  obtain⟨hn,Y,hk⟩:=T c D;obtain⟨A,_,_⟩:=pZ hn;obtain⟨⟨_,w,hpr,_⟩,Z⟩:=lB Y;obtain⟨c1,c2,c3⟩:=fE w
  have sub:∀k∈c.kids,∃l,l=mf rsh k/\mR (conv k)=some l/\Inv (R k) k.shape l/\fH k.shape=0/\fw k.shape<=20000:=λk E=>by
   have hsz:rv k<rv c:=by
    obtain⟨a1,a2,a3,a4,a5,a6,a7,ks⟩:=c;rw[rv]
    have:∀{l:List Qb},k∈l->rv k<=qj l:=λ{l}=>by
     induction l with
     |nil=>intro h;simp at h
     |cons a l ih=>
      intro h;rw[qj];rcases aq.1 h with rfl|h
      .omega
      .have:=ih h;omega
    have:rv k<=qj ks:=this E
    omega
   have O:=Ih S hR hm T n k y8 (hk k E);have e2:=Bb S T n k y8 (hk k E);obtain⟨⟨_,q1,q2,_⟩,_⟩:=lB (Z k E);exact⟨_,rfl,O,e2,q1,by omega⟩
  clear T;obtain⟨F,g,J,st,d,K,L,ks⟩:=c;simp only at *
  have one:F≠1->F≠7->∃k,ks=[k]:=λn1 n7=>by
   have:=A.kids;simp only at this;rw[af n7,af n1]at this
   match ks,this with
   |[k],_=>exact⟨k,rfl⟩
   |[],h=>simp at h
   |_::_::_,h=>simp at h;omega
  have hkd:=A.kind;simp only at hkd;rw[E5,conv];unfold mR;dsimp only;rw[Zx];by_cases k1:F=1
  .subst k1
   have hks:ks=[]:=by
    have:=A.kids;simp only[show¬(1:Int)=7 by decide,aj,ak]at this;exact aw y8
   subst hks;simp only[uu,N9,Qc,ak,Jo,Hf J w];rfl
  by_cases k7:F=7
  .subst k7
   obtain⟨k,k2,rfl⟩:∃k k2,ks=[k,k2]:=by
    have:=A.kids;simp only[ak]at this
    match ks,this with
    |[a,b],_=>exact⟨a,b,rfl⟩
    |[],h=>simp at h
    |[_],h=>simp at h
    |_::_::_::_,h=>simp at h;omega
   obtain⟨l,v,O,H,B,I⟩:=sub k yA;obtain⟨l2,y,e2,i2,j3,j4⟩:=sub k2 yA;obtain⟨p,r,C,U,M⟩:=A.cat rfl k k2 [] rfl;simp only at p r C U M;have f:d=(d.toNat:Int):=by omega
   have b1:=(fE B).2.2;have b2:=(fE j3).2.2;have V:g.set d.toNat (k.shape.getD d.toNat 0)=k.shape:=uW r λj hj hne=>((M j y8).2 y8).2
   have W:g.set d.toNat (k2.shape.getD d.toNat 0)=k2.shape:=uW y8 λj hj hne=>by have:=(M j y8).2 y8;omega
   have hn1:=b1 (k.shape.getD d.toNat 0) (by rw[iy y8];exact zC _);have hn2:=b2 (k2.shape.getD d.toNat 0) (by rw[iy y8];exact zC _)
   have f3:g[d.toNat]?=some (k.shape.getD d.toNat 0+k2.shape.getD d.toNat 0):=by
    rw[gy y8,(M d.toNat y8).1 f.symm,gh y8 y8]
   have:=Me (Q:=R ⟨7,g,J,st,d,K,L,[k,k2]⟩) (s:=g) (k:=d.toNat) (n1:=k.shape.getD d.toNat 0) (n2:=k2.shape.getD d.toNat 0) (l1:=l) (l2:=l2) (P1:=R k) (P2:=R k2) (by rw[V];exact H) (by rw[W];exact i2) w y8 (by rw[V];exact B) (by rw[W];exact j3) (by rw[V];exact I) (by rw[W];exact j4) f3
    (λx _ t z u=>S.ct1 _ k k2 D rfl rfl x (by rwa [V]at t) (by rw[r];exact z) u) (λx _ t z u=>S.ct2 _ k k2 D rfl rfl x (by rwa [W]at t) (by rw[<-p,r];exact z) u)
   rw[<-f]at this;have g7:∀j:Int,j≠7->¬(7:Int)=j:=λj h e=>h e.symm
   have P:idx k.shape d=some (k.shape.getD d.toNat 0):=by have q:=qb (gy (l:=k.shape) (k:=d.toNat) y8);rwa [<-f]at q
   have p0:idx [l,l2] 0=some l:=rfl;have p1:idx [l,l2] 1=some l2:=rfl;have X:idx [conv k,conv k2] 0=some (conv k):=rfl;simp only[uu,N4 _ _ _ _ _ _ _ O e2,Qc,show¬(7:Int)=1 by decide,show¬(7:Int)=2 by decide,show¬(7:Int)=3 by decide,show¬(7:Int)=4 by decide,show¬(7:Int)=5 by decide,show¬(7:Int)=6 by decide,aj,ak,Ju,p0,p1,X,ra,P,this.1]
   first|rfl|(subst v;rfl)|(subst v;subst y;rfl)
  obtain⟨k,rfl⟩:=one k1 k7;obtain⟨l,v,O,H,B,I⟩:=sub k yA;have p0:idx [l] 0=some l:=rfl;have X:idx [conv k] 0=some (conv k):=rfl;simp only[uu,OH _ _ _ _ _ _ _ O,Qc,k1,aj];by_cases k2:F=2
  .subst k2;obtain⟨p,r,C⟩:=A.win rfl;have C:=C k [] rfl;simp only at p r C;have:=Mt (Q:=R ⟨2,g,J,st,d,K,L,[k]⟩) (st:=st) H B I w C p r (λx _ t z u hf=>S.win _ k D rfl rfl x t z u hf) (λb t hv=>S.fil _ k D rfl rfl b t hv);simp only[ak,Jp,p0,X,Qc,ra,this.1]
   first|rfl|(subst v;rfl)|(subst v;subst y;rfl)
  simp only[k2,aj];by_cases k3:F=3
  .subst k3;obtain⟨p,r,C⟩:=A.rev (.inl rfl) k [] rfl;simp only at p r C;have f:d=(d.toNat:Int):=by omega
   have N:g[d.toNat]?=some (g.getD d.toNat 0):=gy y8;rw[p]at H B I;have:=LV (Q:=R ⟨3,g,J,st,d,K,L,[k]⟩) H B I N (λx _ t z u=>S.rev _ k D rfl rfl x (by rw[p];exact t) (by rw[p];exact z) u);rw[<-f]at this;have P:idx g d=some (g.getD d.toNat 0):=by have q:=qb N;rwa [<-f]at q
   simp only[ak,Jq,p0,Qc,P,this.1]
   first|rfl|(subst v;rfl)|(subst v;subst y;rfl)
  simp only[k3,aj];by_cases k4:F=4
  .subst k4;obtain⟨p,r,C⟩:=A.rev (.inr rfl) k [] rfl;obtain⟨U,M⟩:=A.rot rfl;simp only at p r C U M;have f:d=(d.toNat:Int):=by omega
   have N:g[d.toNat]?=some (g.getD d.toNat 0):=gy y8;have hnn:=c3 _ (jF N);rw[p]at H B I;have:=MI (Q:=R ⟨4,g,J,st,d,K,L,[k]⟩) (m:=K) H B I N U y8 (λx _ t z u=>S.rot _ k D rfl rfl x (by rw[p];exact t) (by rw[p];exact z) u);rw[<-f]at this;have P:idx g d=some (g.getD d.toNat 0):=by have q:=qb N;rwa [<-f]at q
   simp only[ak,Jr,p0,Qc,P,this.1]
   first|rfl|(subst v;rfl)|(subst v;subst y;rfl)
  simp only[k4,aj];by_cases k5:F=5
  .subst k5;obtain⟨p,r⟩:=A.tra rfl k [] rfl;simp only at p r;have b1:=(fE B).2.2;have r:=r λn hn=>(b1 n hn).1
   have u:∀j∈L,0<=j/\j.toNat<g.length:=λj hj=>by
    obtain⟨i,hi,rfl⟩:=bM hj;have:=r i y8;rw[iy hi]at this;omega
   have:=MW (Q:=R ⟨5,g,J,st,d,K,L,[k]⟩) H B I w p u (λi hi=>(r i hi).2.2) (λx _ t z u hf=>S.per _ k D rfl rfl x t z u hf);simp only[ak,Js,p0,Qc,this.1]
   first|rfl|(subst v;rfl)|(subst v;subst y;rfl)
  simp only[k5,aj];have k6:F=6:=by omega
  subst k6;have q1:=hR _ k D rfl rfl l H;simp only at q1;simp only[ak,Jt,p0,X,Qc,ra,q1];subst v;rfl
end
end Go.Proofs.Tryz
