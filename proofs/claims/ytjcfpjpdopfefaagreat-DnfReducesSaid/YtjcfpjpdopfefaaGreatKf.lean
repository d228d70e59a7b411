/-
 The machine, models, walks, plain laws.
-/
import Derived.Test.YtjcfpjpdopfefaaGreatKe
import Derived.Test.YtjcfpjpdopfefaaGreatMc
namespace Go.Proofs.Tryz
open Go Go.Pm
open Option renaming some->O,none->Z
open Bool renaming true->J,false->U
open List renaming length->I,replicate->Nab,range->Nad,map->Naa,zipWith->Nac
open Sum renaming inl->Naf,inr->Nag
set_option linter.all false
set_option maxRecDepth 2000
def qq(r:Qq)(k:Nat):Qi:=if r.fill=J then⟨J,0,0⟩else⟨U,r.bc,r.offset+k*r.dk⟩
structure ze (r:Qq):Prop where
 b:0<=r.bc/\r.bc<=100000
 o:0<=r.offset/\r.offset<=200
 s:-200<=r.dk/\r.dk<=200
def gV(l:List Qi):Nat->List Qq->Prop
 |a,[]=>a=I l
 |a,r::R=>∃m:Nat,(r.er=(a:Int)/\r.len=(m:Int))/\(1<=m/\a+m<=I l)/\(∀k,k<m->ce l (a+k)=qq r k)/\ze r/\gV l (a+m) R
def Ep{l:List Qi}(hc:∀c∈l,oY c):∀(f a:Nat),a<=I l->I l - a<=f->gV l a (H7 l f a)
 |0,a,m,n=>by simp only[H7,gV];omega
 |f+1,a,m,n=>by
  rw[H7];split
  .rename_i h;have hn:=Cq h;have vb:=hc _ (nc h);refine⟨ou l a,⟨rfl,rfl⟩,hn,λk p=>?_,⟨vb.1,vb.2.1,RO hc a h⟩,Ep hc f _ hn.2 y9⟩;have e:qq (Ny l a) k=rL (ce l a) (uv l a) k:=rfl;rw[e];by_cases h0:k=0
   .subst h0;unfold rL;by_cases d:(ce l a).fill=J
    .have j:=vb.2.2 d
     have:ce l (a+0)=ce l a:=rfl
     rw[this,aj d];generalize ce l a=x at d j;obtain⟨g,b,o⟩:=x;simp at d j;simp[d,j]
    .have:ce l (a+0)=ce l a:=rfl
     rw[this,ae d];generalize ce l a=x at d;obtain⟨g,b,o⟩:=x;simp at d;simp[d]
   .exact sc.1<|Ca l a _ 1 k y9 p
  .simp only[gV];omega
def pos:List Qq->Nat->Nat×Nat
 |[],_=>(0,0)
 |r::R,g=>if g<r.len.toNat then(0,g)else((pos R<|g - r.len.toNat).1+1,(pos R<|g - r.len.toNat).2)
def xn{l:List Qi}:∀{R:List Qq} {a g:Nat},gV l a R->a+g<I l->∃r,R[(pos R g).1]?=O r/\r.er+((pos R g).2:Int)=((a+g:Nat):Int)/\((pos R g).2:Int)<r.len/\ce l (a+g)=qq r (pos R g).2/\ze r
 |[],a,g,h,d=>by simp only[gV]at h;omega
 |r::R,a,g,h,d=>by
  obtain⟨m,⟨q,s⟩,⟨t,u⟩,e,f,j⟩:=h;rw[pos];have V:r.len.toNat=m:=by omega
  rw[V];split
  .rename_i c;exact⟨r,rfl,by simp;omega,by simp;omega,e g c,f⟩
  .rename_i c;obtain⟨k,k1,k2,k3,n,p⟩:=xn (g:=g - m) j y9;refine⟨k,by simpa using k1,by simp only;omega,k3,?_,p⟩;rw[show a+g=a+m+(g - m) by omega];exact n
def rm{l:List Qi}:∀{R:List Qq} {a:Nat},gV l a R->I R+a<=I l
 |[],a,h=>by simp only[gV]at h;simp;omega
 |r::R,a,h=>by obtain⟨m,_,⟨d,e⟩,_,_,c⟩:=h;have:=rm c;simp;omega
def ER{l:List Qi}(hl:I l<=600){g:Nat}(f:g<I l):∀(s p:List Qq) (a:Nat),I p<=a->a<=g->gV l a s->XY (p++s,(g:Int),(I p:Int))=O (.inl ((I p+(pos s<|g - a).1:Nat):Int))
 |[],p,a,j,k,h=>by simp only[gV]at h;omega
 |r::s,p,a,j,k,h=>by
  obtain⟨m,⟨t,u⟩,⟨v,w⟩,_,_,n⟩:=h;rw[XY,pos];have V:r.len.toNat=m:=by omega
  have d:(g:Int)>=r.er:=by omega
  have q:W (r.er+r.len)=r.er+r.len:=gE y9 y9;simp only[QX,ak,Qv,Qf,d,q,V];by_cases c:g - a<m
  .have:(g:Int)<r.er+r.len:=by omega
   simp[this,c]
  .have hn:¬((g:Int)<r.er+r.len):=by omega
   have e:W ((I p:Int)+1)=(I (p++[r]):Int):=by rw[gE y9 y9];simp
   simp only[hn,y5,j6,ai,c,e];rw[Qs,ER hl f s (p++[r]) (a+m) yA y9 n];simp only[jW,bz];rw[show g - (a+m)=g - a - m by omega];congr 2;omega
def tP{l:List Qi}(hl:I l<=600){R:List Qq}(hR:gV l 0 R){g:Nat}(c:g<I l):Ri (R,(g:Int))=O (((pos R g).1:Nat):Int):=by
 have e:=ER hl c R [] 0 (j7 _) (zQ _) hR
 have e':XY (R,(g:Int),0)=O (.inl (((pos R g).1:Nat):Int)):=by have:=e;simp only[jQ,jL,zZ,Nat.sub_zero]at this;exact this
 simp only[Ri,e',Qf]
def atR(R:List Qq)(i:Nat):Int:=(R.map (·.er)).getD i 0
def Mo{l:List Qi}:∀{R:List Qq} {a:Nat},gV l a R->∀i,i<I R->(a:Int)<=atR R i
 |[],a,h,i,hi=>by simp at hi
 |r::R,a,h,i,hi=>by
  obtain⟨m,⟨c,e⟩,⟨f,g⟩,_,_,d⟩:=h;cases i with
  |zero=>simp[atR,c]
  |succ i=>
   have:=Mo d i (by simpa using hi);simp only[atR,zV,cI]at this |-;omega
def BF{l:List Qi}:∀{R:List Qq} {a:Nat},gV l a R->∀i j r,i<j->j<I R->R[i]?=O r->atR R i+r.len<=atR R j
 |[],a,h,i,j,r,_,c,_=>by simp at c
 |f::R,a,h,i,j,r,e,c,hi=>by
  obtain⟨m,⟨g,k⟩,⟨n,p⟩,_,_,d⟩:=h;cases j with
  |zero=>omega
  |succ j=>
   cases i with
   |zero=>
    simp at hi;subst hi;have:=Mo d j (by simpa using c);simp only[atR,zV,bR,cI]at this |-;omega
   |succ i=>
    have:=BF d i j r y9 (by simpa using c) (by simpa using hi)
    simpa[atR]using this
def LM{R:List Qq}{i:Nat}{r:Qq}(h:R[i]?=O r):atR R i=r.er:=by simp[atR,h]
def wD{l:List Qi}:∀{R:List Qq} {a:Nat},gV l a R->∀r∈R,1<=r.len/\r.len<=1000000000\/I l>600
 |[],a,h,r,c=>by simp at c
 |f::R,a,h,r,c=>by
  obtain⟨m,⟨g,j⟩,⟨k,n⟩,_,_,d⟩:=h;rcases ar.1 c with rfl|c
  .by_cases e:I l>600
   .exact .inr e
   .exact .inl ⟨by omega,by omega⟩
  .exact wD d r c
def Ph{i j:Nat}(h:i+j<=1000000):W (Int.fdiv (IntKind.u64.wrap<|W<|(i:Int)+j) 2)=(((i+j)/2:Nat):Int):=by
 have c:W ((i:Int)+j)=((i+j:Nat):Int):=by rw[gE y9 y9];omega
 have d:IntKind.u64.wrap ((i+j:Nat):Int)=((i+j:Nat):Int):=by simp only[IntKind.wrap,IntKind.bits,IntKind.signed];simp;omega
 rw[c,d]
 have e:Int.fdiv ((i+j:Nat):Int) 2=(((i+j)/2:Nat):Int):=by rw[Int.fdiv_eq_ediv_of_nonneg _ yD];omega
 rw[e];exact gE y9 y9
def Fi(a b:Int):Xb (a,b)=O (if a<b then -1 else if a>b then 1 else 0):=by
 unfold Xb Jv;simp only[bne_self_eq_false,Qf,j6,ai];split
 .rfl
 .split <;>rfl
def pO{R:List Qq}{i:Nat}{r:Qq}(h:R[i]?=O r):idx (R.map gQ) (i:Int)=O (gQ r):=by obtain⟨c,d⟩:=af.1 h;rw[ky (by simpa using c)];simp[d]
def Fy{R:List Qq}(hl:I R<=600)(g:Int):∀(n i j:Nat),j - i<=n->i<=j->j<=I R->(∀k,k<i->atR R k<g)->(∀k,j<=k->k<I R->g<=atR R k)->(∀i j,i<j->j<I R->atR R i<atR R j)->
  ∃c:Nat,Qx (R.map gQ,g,(i:Int),(j:Int))=O (c:Int)/\c<=I R/\(∀k,k<c->atR R k<g)/\(∀k,c<=k->k<I R->g<=atR R k)
 |0,i,j,hn,q,t,m,p,V=>by
  rw[Qx]
  have:¬((i:Int)<(j:Int)):=by omega
  simp only[this,ai];exact⟨i,rfl,by omega,m,λk a b=>p k y9 b⟩
 |n+1,i,j,hn,q,t,m,p,V=>by
  rw[Qx];by_cases h:(i:Int)<(j:Int)
  .have d:(i+j)/2<I R:=by omega
   have u:R[(i+j)/2]?=O R[(i+j)/2]:=jC d;have v:=LM u;have r:W ((((i+j)/2:Nat):Int)+1)=(((i+j)/2+1:Nat):Int):=by rw[gE y9 y9];omega
   simp only[h,ak,Ph (show i+j<=1000000 by omega),pO u,Qf,Tp,Fi,r];have s:(gQ R[(i+j)/2]).er=R[(i+j)/2].er:=rfl;rw[s,<-v];by_cases f:atR R ((i+j)/2)<g
   .simp only[f,ak]
    exact Fy hl g n ((i+j)/2+1) j y9 y9 t (λk w=>by
     by_cases e:k=(i+j)/2
     .subst e;exact f
     .have:=V k ((i+j)/2) y9 d;omega) p V
   .have l:¬((if atR R ((i+j)/2)>g then(1:Int)else 0)<0):=by split <;>omega
    simp only[f,ai,l]
    exact Fy hl g n i ((i+j)/2) y9 y9 y9 m (λk a b=>by
     by_cases e:k=(i+j)/2
     .subst e;omega
     .have:=V ((i+j)/2) k y9 b;omega) V
  .simp only[h,ai];exact⟨i,rfl,by omega,m,λk a b=>p k y9 b⟩
def C1{l:List Qi}(hl:I l<=600){R:List Qq}(hR:gV l 0 R){g:Nat}(hg:g<I l):∃r,R[(pos R g).1]?=O r/\R2 (R.map gQ,(g:Int))=O (gQ r,((pos R g).2:Int),J):=by
 have E:=rm hR;obtain⟨r,n,G,H,h4,h5⟩:=xn (g:=g) hR y9;refine⟨r,n,?_⟩;generalize K:(pos R g).1=k at n;generalize ho:(pos R g).2=o at G H;have f:k<I R:=(af.1 n).1
 have d:∀i j,i<j->j<I R->atR R i<atR R j:=λi j y L=>by have hi:R[i]?=O R[i]:=jC y9;have:=BF hR i j _ y L hi;have n:=wD hR R[i] (zD y9);omega
 obtain⟨c,e,c1,c2,x⟩:=Fy y9 (g:Int) (I R) 0 (I R) y9 (zQ _) (j7 _) (λk K=>by omega) (λk a b=>by omega) d;have M:=LM n;have N:=Mo hR k f
 have q:∀j,k<j->j<I R->(g:Int)<atR R j:=λj a b=>by have:=BF hR k j r a b n;omega
 have e':Qx (R.map gQ,(g:Int),0,(I R:Int))=O (c:Int):=e
 have t:∀b:Bool,(if b=U then O (W<|(c:Int) - 1)else O (c:Int))=O ((k:Nat):Int)->
   ((if b=U then O (W<|(c:Int) - 1)else O (c:Int))>>=λu=>
    (if u<0 then O J else idx (R.map gQ) u>>=λP=>idx (R.map gQ) u>>=λQ=>O<|decide<|(g:Int)>=(W<|P.er+Q.len))>>=λ(S:Bool)=>
    if S=J then O ((⟨0,0,U,0,0,0⟩:Qw),0,U)else idx (R.map gQ) u>>=λT=>idx (R.map gQ) u>>=λX=>O (T,(W<|(g:Int) - X.er),J))=O (gQ r,(o:Int),J):=λb Y=>by
  rw[Y,Qf];have hn:¬(((k:Nat):Int)<0):=by omega
  have z:W ((gQ r).er+(gQ r).len)=r.er+r.len:=gE (by have:=wD hR r (jF n);simp only[gQ];omega) (by have:=wD hR r (jF n);simp only[gQ];omega);have v:¬((g:Int)>=r.er+r.len):=by omega
  have A:W ((g:Int) - (gQ r).er)=(o:Int):=by rw[gE (by simp only[gQ];omega) (by simp only[gQ];omega)];simp only[gQ];omega
  simp only[hn,ai,pO n,Qf,z,v,y5,j6,A]
 have hs:QU (R.map gQ,(g:Int))=O ((c:Int),decide<|o=0):=by
  simp only[QU,jZ,e',Qf];by_cases o0:o=0
  .have m:c=k:=by
    rcases cC c k with h|h|h
    .have:=x c (j7 _) y9;have:=d c k h f;omega
    .exact h
    .have:=c2 k h;omega
   subst m;have p:((c:Nat):Int)<(I R:Int):=by omega
   have B:r.er=(g:Int):=by omega
   have s:(gQ r).er=r.er:=rfl;simp[p,pO n,Qf,Tp,Fi,s,B,o0]
  .have m:c=k+1:=by
    rcases cC c (k+1)with h|h|h
    .have:=x k y9 f;omega
    .exact h
    .have:=c2 (k+1) h;have:=q (k+1) y9 y9;omega
   by_cases p:((c:Nat):Int)<(I R:Int)
   .have w:c<I R:=by omega
    have F:R[c]?=O R[c]:=jC w;have ha:=LM F;have:=q c y9 w;have s:(gQ R[c]).er=R[c].er:=rfl;have C:¬(R[c].er<(g:Int)):=by omega
    have D:R[c].er>(g:Int):=by omega
    simp only[p,ak,pO F,Qf,Tp,Fi,s,C,D,ai];simp[o0]
   .simp[p,o0]
 simp only[R2,hs,Qf];refine t _ ?_;by_cases o0:o=0
 .have m:c=k:=by
   rcases cC c k with h|h|h
   .have:=x c (j7 _) y9;have:=d c k h f;omega
   .exact h
   .have:=c2 k h;omega
  simp[o0,m]
 .have m:c=k+1:=by
   rcases cC c (k+1)with h|h|h
   .have:=x k y9 f;omega
   .exact h
   .have:=c2 (k+1) h;have:=q (k+1) y9 y9;omega
  have z:W ((c:Int) - 1)=(k:Int):=by rw[gE y9 y9];omega
  simp[o0,z]
def Hh(S D j:fJ)(g:Nat):∀(t p P q:fJ) (o:Int),S=P++ig t->I P=I p->I q=I p->I (q++Nab (I t) 0)=I j->I (p++t)<=1000->(∀n∈t,1<=n)->0<=o->o<=65536->
  Ze (S,j,g,D,q++Nab (I t) 0,o,(I p:Int))=O (q++jy t o)
 |[],p,P,q,o,e,c,l,m,r,s,f,x=>by
  rw[Ze]
  have:¬((I p:Int)<(I S:Int)):=by rw[e];simp[ig,c]
  simp only[this,ai];rfl
 |n::t,p,P,q,o,e,c,l,m,r,s,f,x=>by
  rw[Ze];have e7:∀k∈t,1<=k:=λk y=>s k<|jG _ y
  have u:=gu e7;have z:((I p:Int)<(I S:Int)):=by rw[e];simp[ig,c];omega
  have hi:idx S (I p:Int)=O (fQ t):=by rw[e,<-c];exact Qv
  have A:q++Nab (I (n::t)) (0:Int)=q++0::Nab (I t) 0:=by rw[zH,aB]
  have v:I p<I (q++Nab (I (n::t)) (0:Int)):=by simp;omega
  have d:(q++Nab (I (n::t)) (0:Int)).set (I p) (o/fQ t)=(q++[o/fQ t])++Nab (I t) 0:=by rw[A,<-l,oX]
  have w:W ((I p:Int)+1)=(I (p++[n]):Int):=by simp at r;rw[kP y9 y9];simp
  have B:=bM o (show fQ t≠0 by omega)
  have E:o%fQ t<=o:=by
   have:=cU o (fQ t)
   have:0<=fQ t*(o/fQ t):=cj y9 (di f y9)
   omega
  have C:=Hh S D j g t (p++[n]) (P++[fQ t]) (q++[o/fQ t]) (o%fQ t) (by rw[e];simp[ig]) (by simp[c]) (by simp[l]) (by simp at m |-;omega) (by rw[<-Qs];exact r) e7 B y9;simp only[z,ak,hi,Qf,Hg f u y9,fX m,ky v,iV v,d,nm f u,w,C,jy];simp
def Ak{s:fJ}{o:Int}(hc:fY s=0)(e7:∀n∈s,1<=n)(c:0<=o)(j:o<fQ s)(g:Nat):XS (s,o,g)=O (.inr (jy s o,ig s,s,I s)):=by
 obtain⟨c1,c2,k⟩:=fT hc;have e:=Hh (ig s) s (Nab (I s) 0) g s [] [] [] o yB rfl rfl yB yA e7 c y9;simp only[jQ,jL,jJ]at e;have d:¬o<0:=by omega
 have f:¬o>=fQ s:=by omega
 simp only[XS,d,ai,kL s<|hZ (show I s<=1000 by omega),Qf,jf,hc,ak,f,y5,j6,X5,qA hc e7,XL,qB (show I s<=1000 by omega),e,zK]
def QjT:Qq:=⟨0,0,U,0,0,0⟩
def gG(R:List Qq)(g:Nat):Qq:=R.getD (pos R g).1 QjT
def rb(R:List Qq)(n:Nat):Nat->Nat->Nat->Nat->List (Nat×Nat×Qq×Nat)
 |0,_,_,_=>[]
 |k+1,f,x,w=>if w=0 then[]else(x,min w<|(gG R<|f%n).len.toNat - (pos R<|f%n).2,gG R<|f%n,(pos R<|f%n).2)::
   rb R n k (f+min w ((gG R<|f%n).len.toNat - (pos R<|f%n).2)) (x+min w ((gG R<|f%n).len.toNat - (pos R<|f%n).2)) (w - min w ((gG R<|f%n).len.toNat - (pos R<|f%n).2))
def tF(r:Qq)(o c x:Nat):Qt:=if r.fill=J then⟨1,0,0,[],0,0,0⟩else⟨2,r.bc,r.offset+o*r.dk - r.dk*x,Nab c 0++[r.dk],0,0,0⟩
def E5(c:fJ)(q:Nat×Nat×Qq×Nat):Qc:=⟨⟨c++[(q.1:Int)],c.map (·+1)++[((q.1+q.2.1:Nat):Int)]⟩,tF q.2.2.1 q.2.2.2 (I c) q.1⟩
def Pr(a:Qt):Qj:=⟨a.bx,a.bc,a.ek,a.bm,a.ed,a.dk,a.ep⟩
def kO(p:Qc):Qa:=⟨⟨p.box.lo,p.box.hi⟩,Pr p.be⟩
def kF{l:List Qi}{R:List Qq}(hR:gV l 0 R){g:Nat}(p:g<I l):R[(pos R g).1]?=O (gG R g)/\(gG R g).er+((pos R g).2:Int)=(g:Int)/\((pos R g).2:Int)<(gG R g).len/\ce l g=qq (gG R g) (pos R g).2/\ze (gG R g)/\(gG R g).len<=I l:=by
 obtain⟨r,d,f,j,k,e⟩:=xn (g:=g) hR y9
 have:gG R g=r:=by simp[gG,d]
 rw[this];refine⟨d,by omega,j,by simpa using k,e,?_⟩
 have key:∀{R:List Qq} {a:Nat},gV l a R->∀r∈R,r.len<=I l:=λ{R}=>by
  induction R with
  |nil=>intro a _ r c;simp at c
  |cons q R n=>
   intro a h r c;obtain⟨m,⟨s,t⟩,⟨d,f⟩,_,_,e⟩:=h;rcases ar.1 c with rfl|c
   .omega
   .exact n e r c
 exact key hR r<|jF d
def rj{p:fJ}{x y:Int}:(p++[x]).set (I p) y=p++[y]:=by simp
def mB{p:fJ}{x:Int}:idx (p++[x]) (I p:Int)=O x:=by simp[idx]
def CF{p:fJ}{x:Int}(h:I p<=1000):W ((I (p++[x]):Int) - 1)=(I p:Int):=by rw[gE (by simp <;>omega) (by simp <;>omega)];simp
def Fj{r:Qq}(h:ze r){o:Nat}(c:o<=600):W ((o:Int)*r.dk)=o*r.dk/\W (r.offset+o*r.dk)=r.offset+o*r.dk/\-60000000<=(o:Int)*r.dk/\(o:Int)*r.dk<=60000000:=by have:=qR (a:=(o:Int)) (b:=r.dk) (A:=600) (B:=200) y9 y9 h.s.1 h.s.2;have:=h.o;exact⟨gE y9 y9,gE y9 y9,by omega,by omega⟩
def wB{r:Qq}(h:ze r){o x:Nat}(g:o<=600)(t:x<=65536){c:fJ}(u:I c<=900):Ry (gQ r,(o:Int),c++[(x:Int)])=O (Pr<|tF r o (I c) x):=by
 obtain⟨j,k,v,w⟩:=Fj h g;have z:=qR (a:=r.dk) (b:=(x:Int)) (A:=200) (B:=65536) h.s.1 h.s.2 y9 y9;have l:W (r.dk*(x:Int))=r.dk*x:=gE y9 y9;have m:W (r.offset+(o:Int)*r.dk - r.dk*x)=r.offset+o*r.dk - r.dk*x:=by have:=h.o;exact gE y9 y9
 have e:((I c:Nat):Int)>=0:=by omega
 unfold Ry tF;simp only[CF (x:=(x:Int)) (show I c<=1000 by omega)];by_cases f:r.fill=J
 .simp[gQ,f,Pr]
 .have d:Nab (I<|c++[(x:Int)]) (0:Int)=Nab (I c) 0++[0]:=by simp[cY]
  have hl:I (Nab (I c) (0:Int))=I c:=by simp
  have n:idx (Nab (I c) (0:Int)++[0]) (I c:Int)=O 0:=by
   have:=mB (p:=Nab (I c) (0:Int)) (x:=0)
   rwa [hl]at this
  have q:iM (Nab (I c) (0:Int)++[0]) (I c:Int) r.dk=O (Nab (I c) 0++[r.dk]):=by rw[iV yB];have:=rj (p:=Nab (I c) (0:Int)) (x:=0) (y:=r.dk);rw[hl]at this;rw[this]
  simp only[gQ,f,ai,qB (show(c++[(x:Int)]).length<=1000 by simp;omega),d,Qf,e,ak,n,q,mB,j,k,l,m];rw[fX yB];rfl
def L5{r:Qq}(h:ze r){o:Nat}(d:o<=600):Ry (gQ r,(o:Int),[])=O (Pr (if r.fill=J then⟨1,0,0,[],0,0,0⟩else⟨2,r.bc,r.offset+o*r.dk,[],0,0,0⟩)):=by
 obtain⟨e,f,g,j⟩:=Fj h d;unfold Ry;have hn:¬(W (((I ([]:fJ):Nat):Int) - 1)>=0):=by rw[gE yB yB];simp
 by_cases c:r.fill=J
 .simp[gQ,c,Pr]
 .have V:kj 8 (((I ([]:fJ):Nat):Int)) (0:Int)=O []:=qB (n:=0) y9;simp only[gQ,c,ai,V,Qf,hn,e,f];rfl
def EV{l:fJ}(h:I l<=1000):Qy l=O l:=by unfold Qy;rw[gn yA y9];rfl
def Fc(c:fJ)(q0:List Qw)(q1 d e:Int)(q4:Nat)(f:List Qa)(g:Int)(j:Qw)(v:Nat)(q5 q6 k l:fJ):
  ∀(s p:fJ),I c=I p+I s->I p+I s<=1000->(∀x∈s,0<=x/\x<=65536)->ZT (c,q0,q1,d,e,q4,f,g,j,v,q5,q6,k,l,p++s,(I p:Int))=O (p++s.map (·+1))
 |[],p,m,q,r=>by
  rw[ZT]
  have:¬((I p:Int)<(I c:Int)):=by simp at m;omega
  simp[this]
 |x::s,p,m,q,r=>by
  rw[ZT];have t:((I p:Int)<(I c:Int)):=by simp at m;omega
  have B:=r x yB;have w:W (x+1)=x+1:=gE y9 y9;have z:I (p++x::s)=I c:=by simp at m |-;omega
  have n:iM (p++x::s) (I p:Int) (x+1)=O ((p++[x+1])++s):=by rw[iV yB,oX]
  have u:W ((I p:Int)+1)=(I (p++[x+1]):Int):=by rw[gE y9 (by simp at q;omega)];simp
  simp only[t,ak,fX z,Qf,Qv,w,n,u];rw[Fc c q0 q1 d e q4 f g j v q5 q6 k l s (p++[x+1]) (by simp at m |-;omega) (by simp at q |-;omega) (λy A=>r y<|jG _ A)];simp
def Lo{l:List Qi}(hl:I l<=600){R:List Qq}(hR:gV l 0 R)(hn:1<=I l)(n:Nat)(q5 q6 c:fJ)(M:I c<=500)(d:∀x∈c,0<=x/\x<=65536):
  ∀(k f x w:Nat) (out:List Qa),w<=k->x+w<=65536->f+w<=1000000->I out+w<=1000000->
  Zr ((I l:Int),R.map gQ,I c+1,n,q5,q6,c++[(x:Int)],(f:Int),(w:Int),out)=O (c++[((x+w:Nat):Int)],out++(rb R (I l) k f x w).map λq=>kO<|E5 c q)
 |0,f,x,w,out,N,P,Q,S=>by
  obtain rfl:w=0:=by omega
  rw[Zr];simp[rb]
 |k+1,f,x,w,out,N,P,Q,S=>by
  rw[Zr,rb];by_cases hw:w=0
  .subst hw;simp
  .have p:((w:Nat):Int)>0:=by omega
   have e:((f:Int)% (I l:Int))=((f%I l:Nat):Int):=by omega
   have D:f%I l<I l:=br _ y9;obtain⟨E,F,G,H,K,T⟩:=kF hR D;obtain⟨r,b1,b2⟩:=C1 hl hR D;rw[E]at b1;cases b1;generalize ho:(pos R<|f%I l).2=o at F G H b2 |-;generalize hr:gG R (f%I l)=r at E F G H K T b2 |-;have s:o<=600:=by omega
   have t:W ((gQ r).len - (o:Int))=((r.len.toNat - o:Nat):Int):=by rw[gE (by simp only[gQ];omega) (by simp only[gQ];omega)];simp only[gQ];omega
   have g:(if((r.len.toNat - o:Nat):Int)<(w:Int)then((r.len.toNat - o:Nat):Int)else(w:Int))=((min w (r.len.toNat - o):Nat):Int):=by split <;>omega
   generalize hz:min w (r.len.toNat - o)=z at g |-;have Hb:1<=z/\z<=w:=by omega
   have j:I (c++[(x:Int)])=I c+1:=by simp
   have X:∀y∈c++[(x:Int)],0<=y/\y<=65536:=λy Y=>by
    rcases aU.1 Y with h|h
    .exact d y h
    .simp at h;omega
   have L:=Fc (c++[(x:Int)]) (R.map gQ) (I l:Int) (f:Int) (w:Int) (I c+1) out (o:Int) (gQ r) n q5 q6 (c++[(x:Int)]) (c++[(x:Int)]) (c++[(x:Int)]) [] yB yA X;simp only[jQ,jL,jJ]at L;have u:W (((I c+1:Nat):Int) - 1)=(I c:Int):=by rw[gE y9 y9];omega
   have v:((I c:Nat):Int)>=0:=by omega
   have hmap:(c++[(x:Int)]).map (·+1)=c.map (·+1)++[(x:Int)+1]:=by simp
   have m:I (c.map (·+1))=I c:=by simp
   have i1:idx (c.map (·+1)++[(x:Int)+1]) (I c:Int)=O ((x:Int)+1):=by rw[<-m];exact mB
   have A:W ((x:Int)+(z:Int))=((x+z:Nat):Int):=by rw[gE y9 y9];omega
   have s1:∀y,iM (c.map (·+1)++[(x:Int)+1]) (I c:Int) y=O (c.map (·+1)++[y]):=λy=>by rw[iV yB,<-m,rj]
   have s2:∀y,iM (c++[(x:Int)]) (I c:Int) y=O (c++[y]):=λy=>by rw[iV yB,rj]
   have g1:I (c.map (·+1)++[(x:Int)+1])=I (c++[(x:Int)]):=by simp
   have g2:∀y:Int,I (c.map (·+1)++[y])=I (c++[(x:Int)]):=λy=>by simp
   have B:W ((f:Int)+(z:Int))=((f+z:Nat):Int):=by rw[gE y9 y9];omega
   have C:W ((w:Int) - (z:Int))=((w - z:Nat):Int):=by rw[gE y9 y9];omega
   simp only[p,ak,nm (show(0:Int)<=(f:Int) by omega) (show(1:Int)<=(I l:Int) by omega),e,Qf,b2,fX j,EV (show(c++[(x:Int)]).length<=1000 by simp;omega),L,wB K s (show x<=65536 by omega) (show I c<=900 by omega),u,v,hmap,mB,fX g1,i1,t,g,A,s1,s2,fX<|g2 _];rw[gn yA y9,Qf,B,C,Lo hl hR hn n q5 q6 c M d k (f+z) (x+z) (w - z) _ y9 y9 y9 yA];rw[ae hw]
   have:x+z+(w - z)=x+w:=by omega
   rw[this];simp only[zV,ay,aR,j9,jI,true_and];rfl
def SV{l:List Qi}(hl:I l<=600){R:List Qq}(hR:gV l 0 R)(hn:1<=I l)(g:Nat)(q5 q6 c:fJ)(j:I c<=500)(d:∀x∈c,0<=x/\x<=65536){f w:Nat}(hw:w<=65536)(k:f<=65536):
  XD (R.map gQ,(I l:Int),(f:Int),(w:Int),I c+1,q5,q6,c++[0],g)=O (c++[(w:Int)],(rb R (I l) w f 0 w).map λq=>kO<|E5 c q):=by
 have e:=Lo hl hR hn g q5 q6 c j d w f 0 w [] (j7 _) y9 y9 yA;simp only[jJ,zZ,jQ]at e;simp only[XD,e,Qf]
def pW(R:List Qq)(n:Nat)(a:fJ)(w:Nat)(b m:Nat):List Qc:=(List.range' b m).flatMap λ(b:Nat)=>(rb R n w (b*w) 0 w).map<|E5<|jy a (b:Int)
def Ey(R:List Qq)(n:Nat):∀k f x w,I (rb R n k f x w)<=k
 |0,f,x,w=>by simp[rb]
 |k+1,f,x,w=>by
  rw[rb];split
  .simp
  .have:=Ey R n k (f+min w ((gG R<|f%n).len.toNat - (pos R<|f%n).2)) (x+min w ((gG R<|f%n).len.toNat - (pos R<|f%n).2)) (w - min w ((gG R<|f%n).len.toNat - (pos R<|f%n).2));simp only[zH];omega
def R0{a:fJ}(hc:fY a=0)(e7:∀n∈a,1<=n){o:Int}(e:0<=o)(f:o<fQ a):∀x∈jy a o,0<=x/\x<=65536:=λx c=>by
 have d:=qp e7 e f;obtain⟨c1,c2,g⟩:=fT hc
 have key:∀{s i:fJ},iz s i=J->(∀n∈s,n<=65536)->∀x∈i,0<=x/\x<=65536:=λ{s}=>by
  induction s with
  |nil=>
   intro i d _ x c;cases i with
   |nil=>simp at c
   |cons=>simp[iz]at d
  |cons n s j=>
   intro i d hn x c;cases i with
   |nil=>simp[iz]at d
   |cons y i=>
    simp only[iz,jE,zE]at d;rcases ar.1 c with rfl|c
    .have:=hn n yB;omega
    .exact j d.2 (λn h=>hn n<|jG _ h) x c
 exact key d (λn h=>(g n h).2) x c
def xG{l:List Qi}(hl:I l<=600){R:List Qq}(hR:gV l 0 R)(hn:1<=I l){a:fJ}{w B:Nat}(hw:1<=w)(hc:fY (a++[(w:Int)])=0)(vb:fY a=0)(e7:∀n∈a,1<=n)(hB:fQ a=(B:Int))(wt:B*w<=65536)(p d:Qw)(u:W (p.er+d.len)=(I l:Int)):∀(m b:Nat) (out:List Qa),b+m=B->I out<=b*w->
  Zx (((B*w:Nat):Int),a++[(w:Int)],R.map gQ,p,d,(w:Int),out,((b*w:Nat):Int))=O (out++(pW R (I l) a w b m).map kO)
 |0,b,out,v,y=>by
  rw[Zx]
  have:¬(((b*w:Nat):Int)<((B*w:Nat):Int)):=by rw[<-v];simp
  simp only[this,ai,pW,List.range'_zero,dw,aH,jV]
 |m+1,b,out,v,y=>by
  rw[Zx];have q:(b+1)*w<=B*w:=au _ y9;rw[av,bA]at q;have g:((b*w:Nat):Int)<((B*w:Nat):Int):=by omega
  have e:∀n∈a++[(w:Int)],1<=n:=λn h=>by
   rcases aU.1 h with h|h
   .exact e7 n h
   .simp at h;omega
  have x:fQ (a++[(w:Int)])=((B*w:Nat):Int):=by rw[kB,hB,gx,iC,bL];simp
  have j:jy (a++[(w:Int)]) ((b*w:Nat):Int)=jy a (b:Int)++[0]:=by
   rw[tS a (w:Int) _ e7 y9 y9 (by rw[x];omega)];have z:((b*w:Nat):Int)/(w:Int)=(b:Int):=by rw[cy];exact Int.mul_ediv_cancel _ y9
   have A:((b*w:Nat):Int)% (w:Int)=0:=by rw[cy];exact Int.mul_emod_left _ _
   rw[z,A]
  obtain⟨c1,c2,D⟩:=fT vb;have r:I (jy a (b:Int))=I a:=lg _ _;have s:=R0 vb e7 (show(0:Int)<=(b:Int) by omega) (by rw[hB];omega);have c:=SV hl hR hn (I out) (ig<|a++[(w:Int)]) (a++[(w:Int)]) (jy a (b:Int)) y9 s (f:=b*w) (w:=w) (by have:=Nat.le_mul_of_pos_left w (show 0<B by omega);omega) y9;rw[r]at c;have k:I (a++[(w:Int)])=I a+1:=by simp
  have t:W (((b*w:Nat):Int)+(w:Int))=(((b+1)*w:Nat):Int):=by rw[gE y9 y9,av,bA];omega
  have C:=Ey R (I l) w (b*w) 0 w;simp only[g,ak,Ak hc e (show(0:Int)<=((b*w:Nat):Int) by omega) (by rw[x];exact g),Qf,u,j,k,c];rw[gn yA y9,Qf,t,xG hl hR hn hw hc vb e7 hB wt p d u m (b+1) _ y9 (by simp[av];omega)];simp only[pW,cn,aI,zM,zG,ay];rfl
def wR{l:List Qi}:∀{R:List Qq} {a:Nat},gV l a R->1<=I R->∃r,R[I R - 1]?=O r/\r.er+r.len=(I l:Int)
 |[],a,h,c=>by simp at c
 |[r],a,h,c=>by obtain⟨m,⟨e,f⟩,⟨c,g⟩,_,_,d⟩:=h;simp only[gV]at d;exact⟨r,rfl,by omega⟩
 |r::j::R,a,h,c=>by obtain⟨m,_,_,_,_,d⟩:=h;obtain⟨q,k1,k2⟩:=wR d yB;exact⟨q,by simpa using k1,k2⟩
def Ev{l:List Qi}(hl:I l<=600){R:List Qq}(hR:gV l 0 R)(m:2<=I R){a:fJ}{w B:Nat}(hw:1<=w)(hc:fY (a++[(w:Int)])=0)(vb:fY a=0)(e7:∀n∈a,1<=n)(hB:fQ a=(B:Int))(wt:B*w<=65536):
  Yu (R.map gQ,a++[(w:Int)])=O ((pW R (I l) a w 0 B).map kO):=by
 have j:=rm hR;obtain⟨r,k1,k2⟩:=wR hR y9;have p:fQ (a++[(w:Int)])=((B*w:Nat):Int):=by rw[kB,hB,gx,iC,bL];simp
 have c:1<=B:=by have:=gu e7;omega
 have k:1<=B*w:=Nat.mul_pos c hw;obtain⟨c1,c2,v⟩:=fT hc;have q:¬(((B*w:Nat):Int)=0):=by omega
 have s:(((I (R.map gQ):Nat):Int)==0)=U:=by rw[jZ];exact beq_false_of_ne y9
 have t:¬(((I (R.map gQ):Nat):Int)=1):=by simp;omega
 have u:((I (a++[(w:Int)]):Nat):Int)>0:=by simp <;>omega
 have d:W (((I (R.map gQ):Nat):Int) - 1)=((I R - 1:Nat):Int):=by rw[jZ,gE y9 y9];omega
 have nf:W ((gQ r).er+(gQ r).len)=(I l:Int):=by
  have:(gQ r).er+(gQ r).len=(I l:Int):=k2
  rw[this];exact gE y9 y9
 have e:=xG hl hR y9 hw hc vb e7 hB wt (gQ r) (gQ r) nf B 0 [] y9 yB;have e':Zx (((B*w:Nat):Int),a++[(w:Int)],R.map gQ,gQ r,gQ r,(w:Int),[],0)=O ((pW R (I l) a w 0 B).map kO):=by simpa using e
 have f:(I (a++[(w:Int)]):Nat)<=1000:=by omega
 have g:W ((I (a++[(w:Int)]):Int) - 1)=(I a:Int):=CF (by simp at c1;omega);simp only[Yu,kL _<|hZ f,jf,hc,ak,p,Qf,q,ai,s,j6,t,u,g,mB,d,pO k1,e']
def qE(r:Qq):Qc:=⟨⟨[],[]⟩,if r.fill=J then⟨1,0,0,[],0,0,0⟩else⟨2,r.bc,r.offset,[],0,0,0⟩⟩
def CW{l:List Qi}(hl:I l<=600){R:List Qq}(hR:gV l 0 R)(T:2<=I R):Yu (R.map gQ,[])=O [kO (qE<|gG R 0)]:=by
 have P:=rm hR;obtain⟨r,k1,k2⟩:=wR hR y9;have hc:fY []=0:=by decide
 have Q:(((I (R.map gQ):Nat):Int)==0)=U:=by rw[jZ];exact beq_false_of_ne y9
 have X:¬(((I (R.map gQ):Nat):Int)=1):=by simp;omega
 have B:W (((I (R.map gQ):Nat):Int) - 1)=((I R - 1:Nat):Int):=by rw[jZ,gE y9 y9];omega
 have nf:W ((gQ r).er+(gQ r).len)=(I l:Int):=by
  have:(gQ r).er+(gQ r).len=(I l:Int):=k2
  rw[this];exact gE y9 y9
 have S:0<I l:=by omega
 obtain⟨Y,a2,a3,a4,a5,a6⟩:=kF hR S;obtain⟨q,b1,b2⟩:=C1 hl hR S;rw[Y]at b1;cases b1
 have C:(pos R 0).2=0:=by
  have:∀{R:List Qq} {a:Nat},gV l a R->(pos R 0).2=0:=λ{R}=>by
   intro a h;cases R with
   |nil=>rfl
   |cons r R=>
    obtain⟨m,⟨_,Q⟩,⟨h1,_⟩,_⟩:=h;rw[pos,aj y9]
  exact this hR
 rw[C]at b2;have w:=Ak (s:=[]) (o:=0) hc (λn h=>by simp at h) (aG _) yD 0;have hz:(0:Int)% (I l:Int)=0:=fw _;have D:¬(W ((gQ<|gG R 0).len - (0:Nat))<1):=by rw[gE (by simp only[gQ];omega) (by simp only[gQ];omega)];simp only[gQ];omega
 have t:∀out:List Qa,Zr ((I l:Int),R.map gQ,0,0,ig [],[],[],W<|(0:Int)+1,W<|(1:Int) - 1,out)=O ([],out):=λout=>by
  rw[Zr]
  have:¬(W ((1:Int) - 1)>0):=by decide
  simp only[this,ai]
 have c:=L5 a5 (o:=0) y9;simp only[jJ,dE,eJ]at c
 have E:∀(d e:Int) (q4:Nat) (f:List Qa) (g:Int) (j:Qw) (F:Nat) (q5 q6 k p:fJ),ZT ([],R.map gQ,(I l:Int),d,e,q4,f,g,j,F,q5,q6,k,p,[],0)=O []:=λd e q4 f g j F q5 q6 k p=>
  Fc [] (R.map gQ) (I l:Int) d e q4 f g j F q5 q6 k p [] [] rfl yB (λx h=>by simp at h)
 have G:¬(W (((0:Nat):Int) - 1)>=0):=by decide
 have y:XD (R.map gQ,(I l:Int),0,1,0,ig [],[],[],0)=O ([],[kO (qE<|gG R 0)]):=by
  unfold XD;dsimp only;rw[Zr];have H:(1:Int)>0:=by decide
  have K:pz 0 (I l:Int)=O 0:=by rw[nm (aG _) y9,hz]
  have L:R2 (R.map gQ,0)=O (gQ<|gG R 0,0,J):=b2;have z:¬(W ((gQ<|gG R 0).len - 0)<1):=D;simp only[H,ak,K,Qf,L,fX (rfl:I ([]:fJ)=0),EV (show([]:fJ).length<=1000 by simp),E,c,G,ai,fX (rfl:I ([]:fJ)=I ([]:fJ)),z];rw[gn yB y9,Qf,t];rfl
 have A:Zx (1,[],R.map gQ,gQ r,gQ r,1,[],0)=O [kO (qE<|gG R 0)]:=by
  rw[Zx];have M:(0:Int)<1:=by decide
  have u:XS ([],0,I ([]:List Qa))=O (.inr (jy [] 0,ig [],[],I ([]:fJ))):=w;simp only[M,ak,u,Qf,nf];have v:XD (R.map gQ,(I l:Int),0,1,I ([]:fJ),ig [],[],jy [] 0,I ([]:List Qa))=O ([],[kO (qE<|gG R 0)]):=y;rw[v,Qf];simp only;rw[gn yB y9,Qf,Zx]
  have:¬(W ((0:Int)+1)<1):=by decide
  simp only[this,ai];rfl
 have N:¬((1:Int)=0):=by decide
 have e4:¬(((I ([]:fJ):Nat):Int)>0):=by simp
 simp only[Yu,kL []<|hZ (show([]:fJ).length<=1000 by simp),jf,hc,ak,iC,Qf,N,ai,Q,j6,X,e4,B,pO k1,A]
def rE{l:List Qi}:∀{R:List Qq} {a:Nat},gV l a R->pos R 0=(0,0)
 |[],a,h=>rfl
 |r::R,a,h=>by obtain⟨m,⟨_,c⟩,⟨d,_⟩,_⟩:=h;rw[pos,aj y9]
def xm{l:List Qi}:∀{R:List Qq} {a g:Nat},gV l a R->a+g+1<I l->
  if((pos R g).2:Int)+1<(gG R g).len then pos R (g+1)=((pos R g).1,(pos R g).2+1)else pos R (g+1)=((pos R g).1+1,0)
 |[],a,g,h,n=>by simp only[gV]at h;omega
 |r::R,a,g,h,n=>by
  obtain⟨m,⟨p,q⟩,⟨s,t⟩,u,v,k⟩:=h;have V:r.len.toNat=m:=by omega
  by_cases c:g<m
  .have p1:pos (r::R) g=(0,g):=by rw[pos,V,aj c]
   have e:gG (r::R) g=r:=by simp[gG,p1]
   rw[e,p1];by_cases c2:g+1<m
   .have d:pos (r::R) (g+1)=(0,g+1):=by rw[pos,V,aj c2]
    rw[aj (by simp only;omega),d]
   .have d:pos (r::R) (g+1)=(1,0):=by rw[pos,V,ae c2,show g+1 - m=0 by omega,rE k]
    rw[ae (by simp only;omega),d]
  .have p1:pos (r::R) g=((pos R<|g - m).1+1,(pos R<|g - m).2):=by rw[pos,V,ae c]
   have d:pos (r::R) (g+1)=((pos R<|g - m+1).1+1,(pos R<|g - m+1).2):=by rw[pos,V,ae y9,show g+1 - m=g - m+1 by omega]
   have e:gG (r::R) g=gG R (g - m):=by simp[gG,p1]
   have f:=xm (g:=g - m) k y9;rw[e,p1,d];split at f
   .rename_i j;rw[aj j,f]
   .rename_i j;rw[ae j,f]
def HR{l:List Qi}:∀{R:List Qq} {a:Nat},gV l a R->∀r∈R,0<=r.er/\r.er+r.len<=I l
 |[],a,h,r,c=>by simp at c
 |e::R,a,h,r,c=>by
  obtain⟨m,⟨f,g⟩,⟨j,k⟩,_,_,d⟩:=h;rcases ar.1 c with rfl|c
  .omega
  .exact HR d r c
def DN{l:List Qi}{R:List Qq}(hR:gV l 0 R)(hn:1<=I l)(f:Nat):
  if((pos R<|f%I l).2:Int)+1<(gG R<|f%I l).len then pos R ((f+1)%I l)=((pos R<|f%I l).1,(pos R<|f%I l).2+1)else(pos R<|(f+1)%I l).2=0:=by
 have d:f%I l<I l:=br _ hn;obtain⟨n,p,q,r,s,t⟩:=kF hR d;have k:=HR hR _ (jF n);by_cases c:f%I l+1<I l
 .have e:(f+1)%I l=f%I l+1:=by
   rw[Nat.add_mod];by_cases m:I l=1
   .omega
   .rw[cq (show 1<I l by omega),cq c]
  have:=xm (g:=f%I l) hR y9;rw[e];split at this
  .rename_i c2;rw[aj c2,this]
  .rename_i c2;rw[ae c2,this]
 .have e:(f+1)%I l=0:=by
   have m:f%I l+1=I l:=by omega
   rw[Nat.add_mod];by_cases j:I l=1
   .rw[j];omega
   .rw[cq (show 1<I l by omega),m,Nat.mod_self]
  rw[ae y9,e,rE hR]
def Tz{l:List Qi}{R:List Qq}(hR:gV l 0 R)(hn:1<=I l)(f:Nat):∀i:Nat,((pos R<|f%I l).2:Int)+i<(gG R<|f%I l).len->pos R ((f+i)%I l)=((pos R<|f%I l).1,(pos R<|f%I l).2+i)
 |0,h=>rfl
 |i+1,h=>by
  have c:=Tz hR hn f i y9;have:=DN hR hn (f+i);have d:gG R ((f+i)%I l)=gG R (f%I l):=by simp only[gG,c]
  rw[d,c,aj (by simp only;omega)]at this;exact this
def rL2{p1:fJ}{v20:List fJ}{v226:Int}{p0:List Qq}{v2:Int}{v223:Nat}{v225:List Qc}{v626 v627:Int}{v222 v641:fJ}{i:fJ}(hi:idx v20 v226=O i)(f:∀x∈i,0<=x/\x<=65536)(c:I p1=I i)(hl:I i<=900):
  ∀(t p:fJ) (g:Nat),i=p++t->∃g',ZV (p1,v20,v226,p0,v2,v223,v225,v626,v627,v222,v641,g,p.map (·+1),(I p:Int))=O (g',i.map (·+1))
 |[],p,g,e=>by
  rw[ZV]
  have:¬((I p:Int)<(I p1:Int)):=by rw[c,e];simp
  simp only[this,ai];rw[e,jV];exact⟨g,rfl⟩
 |x::t,p,g,e=>by
  rw[ZV];have j:((I p:Int)<(I p1:Int)):=by rw[c,e];simp;omega
  have k:idx i (I p:Int)=O x:=by rw[e];exact Qv
  have q:=f x (by rw[e];simp);have l:W (x+1)=x+1:=gE y9 y9
  have d:W ((I p:Int)+1)=(I (p++[x]):Int):=by
   have:I p<=900:=by rw[e]at hl;simp at hl;omega
   rw[gE y9 y9];simp
  have m:app 8 (p.map (·+1)) [x+1]=O ((p++[x]).map (·+1)):=by
   have n:I p<=900:=by rw[e]at hl;simp at hl;omega
   rw[gn yA y9];simp
  obtain⟨g',h⟩:=rL2 (p1:=p1) (v20:=v20) (v226:=v226) (p0:=p0) (v2:=v2) (v223:=v223) (v225:=v225) (v626:=v626) (v627:=v627) (v222:=v222) (v641:=v641) hi f c hl t (p++[x]) (gb g ([x+1]:fJ).isEmpty) (by rw[e];simp);exact⟨g',by simp only[j,ak,hi,Qf,k,l,m,d];exact h⟩
structure Ctx (l:List Qi) (R:List Qq) (a:fJ) (w B:Nat):Prop where
 hl:I l<=600
 hR:gV l 0 R
 hn:1<=I l
 hw:1<=w
 hc:fY (a++[(w:Int)])=0
 vb:fY a=0
 e7:∀n∈a,1<=n
 hB:fQ a=(B:Int)
 wt:B*w<=65536
section
variable{l:List Qi}{R:List Qq}{a:fJ}{w B:Nat}
theorem Ctx.bw(C:Ctx l R a w B){b x:Nat}(d:b<B)(e:x<w):b*w+x<B*w:=by have c:(b+1)*w<=B*w:=au _ y9;rw[av,bA]at c;omega
theorem Ctx.HL(C:Ctx l R a w B):∀n∈a++[(w:Int)],1<=n:=λn h=>by
 rcases aU.1 h with h|h
 .exact C.e7 n h
 .have:=C.hw;simp at h;omega
theorem Ctx.P(C:Ctx l R a w B):fQ (a++[(w:Int)])=((B*w:Nat):Int):=by rw[kB,C.hB,gx,iC,bL];simp
theorem Ctx.ix(C:Ctx l R a w B){b x:Nat}(d:b<B)(c:x<w):(iF<|a++[(w:Int)])[b*w+x]?=O (jy a (b:Int)++[(x:Int)]):=by
 have h:=C.bw d c;have hw:=C.hw;rw[mf C.HL _ (by rw[C.P];omega)];rw[tS a (w:Int) _ C.e7 y9 y9 (by rw[C.P];omega)]
 have e:((b*w+x:Nat):Int)/(w:Int)=(b:Int):=by
  have:(b*w+x)/w=b:=by rw[bK,Nat.mul_add_div y9,Nat.div_eq_of_lt c];omega
  rw[<-Int.natCast_ediv,this]
 have f:((b*w+x:Nat):Int)% (w:Int)=(x:Int):=by
  have:(b*w+x)%w=x:=by rw[bK,eT,cq c]
  rw[<-cF,this]
 rw[e,f]
theorem Ctx.len(C:Ctx l R a w B):I (iF<|a++[(w:Int)])=B*w:=by have:=kK (s:=a++[(w:Int)]) (λn h=>by have:=C.HL n h;omega);rw[C.P]at this;omega
theorem RJ(C:Ctx l R a w B)(f x:Nat):((if((x:Int)==0)=J then O J else O (((f%I l:Nat):Int)==0))>>=λ(c:Bool)=>if c=J then O J else Ri (R,W<|((f%I l:Nat):Int) - 1)>>=λd=>O<|d !=(((pos R<|f%I l).1:Nat):Int))=O (decide<|x=0\/(pos R<|f%I l).2=0):=by
 have j:f%I l<I l:=br _ C.hn;have hl:=C.hl;by_cases h0:x=0
 .subst h0;simp
 .have k:((x:Int)==0)=U:=by simpa using h0
  simp only[k,j6,ai,Qf];generalize p:f%I l=g at *;cases g with
  |zero=>simp[rE C.hR]
  |succ g=>
   have m:(((g+1:Nat):Int)==0)=U:=beq_false_of_ne y9;have n:W (((g+1:Nat):Int) - 1)=(g:Int):=by rw[gE y9 y9];omega
   simp only[m,j6,ai,n,tP C.hl C.hR (show g<I l by omega),Qf];have e:=xm (g:=g) C.hR y9;split at e
   .rw[e];simp[h0]
   .rw[e];simp;omega
def Og(p:Qc)(h:fJ):Qc:=⟨⟨p.box.lo,h⟩,p.be⟩
theorem Co{out:List Qc}{hi:fJ}{p:Qc}(h:I out<=70000):Gn 120 (λ(c:Qc) (d:fJ)=>(⟨⟨c.box.lo,d⟩,c.be⟩:Qc)) out hi p=O (th Og out hi++[p]):=by
 have e:100000*120<=jd:=by decide +kernel
 unfold Gn;rw[aj y9];rfl
theorem LR(C:Ctx l R a w B){b x:Nat}(z:b<B)(A:x<w)(m:x≠0)(D:(pos R<|(b*w+x)%I l).2≠0){out:List Qc}(h0:out≠[])(L:I out<=70000){c:fJ}(n:I c=I a){y:Int}(M:0<=y/\y<=70000)(g t:Nat):
  QJ (iF<|a++[(w:Int)],(I l:Int),R,a++[(w:Int)],g,c++[y],t,I a+1,out,((b*w+x:Nat):Int))=QJ (iF<|a++[(w:Int)],(I l:Int),R,a++[(w:Int)],g,c++[y+1],t,I a+1,out,((b*w+x+1:Nat):Int)):=by
 rw[QJ];have E:=C.bw z A;have wt:=C.wt;have hn:=C.hn;obtain⟨c1,c2,N⟩:=fT C.vb;have p:(((b*w+x:Nat):Int)<(I (iF<|a++[(w:Int)]):Int)):=by rw[C.len];omega
 have e:(((b*w+x:Nat):Int)% (I l:Int))=(((b*w+x)%I l:Nat):Int):=by rw[cF]
 have f:pz ((b*w+x:Nat):Int) (I l:Int)=O (((b*w+x)%I l:Nat):Int):=by rw[nm y9 y9,e]
 have d:=tP C.hl C.hR (br (b*w+x) hn);have q:W ((I (a++[(w:Int)]):Int) - 1)=(I a:Int):=CF y9;have j:¬((I a:Int)<0):=by omega
 have r:=kH (C.ix z A);have s:I (jy a (b:Int))=I a:=lg _ _;have F:idx (jy a (b:Int)++[(x:Int)]) (I a:Int)=O (x:Int):=by rw[<-s];exact mB
 have k:=RJ C (b*w+x) x;rw[show decide (x=0\/(pos R<|(b*w+x)%I l).2=0)=U by simp[m,D]]at k;have e7:0<I out:=by cases out with|nil=>exact absurd rfl h0|cons=>simp
 have g1:QN (0<I out/\(I out)<=4611686018427387904)=O ():=fX ⟨e7,by omega⟩;have G:QN (I (c++[y])=I a+1)=O ():=fX (by simp[n]);have H:idx (c++[y]) (I a:Int)=O y:=by rw[<-n];exact mB
 have u:W (y+1)=y+1:=gE y9 y9;have K:iM (c++[y]) (I a:Int) (y+1)=O (c++[y+1]):=by rw[iV yA,<-n,rj]
 have v:W (((b*w+x:Nat):Int)+1)=((b*w+x+1:Nat):Int):=pY y9;simp only[p,ak,f,Qf,d,q,j,ai,r,F,k,g1,G,H,u,K,v]
theorem H9(C:Ctx l R a w B){b x:Nat}(d:b<B){out:List Qc}(h0:out≠[])(e:I out<=70000){c:fJ}(f:I c=I a)(g t:Nat):
  ∀j,x+1+j<=w->(∀i,i<j->(pos R<|(b*w+(x+1+i))%I l).2≠0)->
  QJ (iF<|a++[(w:Int)],(I l:Int),R,a++[(w:Int)],g,c++[(x:Int)+1],t,I a+1,out,((b*w+x+1:Nat):Int))=QJ (iF<|a++[(w:Int)],(I l:Int),R,a++[(w:Int)],g,c++[((x+1+j:Nat):Int)],t,I a+1,out,((b*w+(x+1+j):Nat):Int))
 |0,_,_=>rfl
 |j+1,n,k=>by have m:=C.bw (b:=b) (x:=x+1+j) d y9;have wt:=C.wt;rw[H9 C d h0 e f g t j y9 λi hi=>k i y9];rw[LR C d (x:=x+1+j) y9 y9 (k j y9) h0 e f y9 g t];rfl
theorem Fx(C:Ctx l R a w B){b x:Nat}(Y:b<B)(hx:x<w)(ho:x=0\/(pos R<|(b*w+x)%I l).2=0){out:List Qc}(h1:I out<=70000)(hi:fJ)(g t:Nat):
  ∃g',QJ (iF<|a++[(w:Int)],(I l:Int),R,a++[(w:Int)],g,hi,t,I hi,out,((b*w+x:Nat):Int))=QJ (iF<|a++[(w:Int)],(I l:Int),R,a++[(w:Int)],g',(jy a (b:Int)).map (·+1)++[(x:Int)+1],t+1,I a+1,
   th Og out hi++[⟨⟨jy a (b:Int)++[(x:Int)],(jy a (b:Int)).map (·+1)++[(x:Int)+1]⟩,tF (gG R<|(b*w+x)%I l) (pos R<|(b*w+x)%I l).2 (I a) x⟩],((b*w+x+1:Nat):Int)):=by
 rw[QJ];have hbw:=C.bw Y hx;have wt:=C.wt;have hn:=C.hn;have hl:=C.hl;obtain⟨c1,c2,c3⟩:=fT C.vb;obtain⟨d1,d2,d3⟩:=fT C.hc;have K:(((b*w+x:Nat):Int)<(I (iF<|a++[(w:Int)]):Int)):=by rw[C.len];omega
 have f:(((b*w+x:Nat):Int)% (I l:Int))=(((b*w+x)%I l:Nat):Int):=by rw[cF]
 have j:pz ((b*w+x:Nat):Int) (I l:Int)=O (((b*w+x)%I l:Nat):Int):=by rw[nm y9 y9,f]
 have k:=br (b*w+x) hn;have e:=tP C.hl C.hR k;have L:W ((I (a++[(w:Int)]):Int) - 1)=(I a:Int):=CF y9;have m:¬((I a:Int)<0):=by omega
 have M:((I a:Int)>=0):=by omega
 have n:=kH (C.ix Y hx);have d:I (jy a (b:Int))=I a:=lg _ _;have ix:idx (jy a (b:Int)++[(x:Int)]) (I a:Int)=O (x:Int):=by rw[<-d];exact mB
 have q:=RJ C (b*w+x) x;rw[show decide (x=0\/(pos R<|(b*w+x)%I l).2=0)=J by simp[ho]]at q;have g2:QN (I hi=I hi)=O ():=fX rfl;have hxw:x<=65536:=by have:=eU x (b*w);omega
 have N:=R0 C.vb C.e7 (show(0:Int)<=(b:Int) by omega) (by rw[C.hB];omega)
 have P:∀y∈jy a (b:Int)++[(x:Int)],0<=y/\y<=65536:=λy u=>by
  rcases aU.1 u with u|u
  .exact N y u
  .simp at u;omega
 obtain⟨g',v⟩:=rL2 (p1:=a++[(w:Int)]) (p0:=R) (v2:=(I l:Int)) (v223:=t) (v225:=out) (v626:=(((b*w+x)%I l:Nat):Int)) (v627:=(((pos R<|(b*w+x)%I l).1:Nat):Int)) (v222:=hi) (v641:=jy a (b:Int)++[(x:Int)]) n P (by simp[d]) (by simp[d];omega) (jy a (b:Int)++[(x:Int)]) [] (Od g out+1) rfl;simp only[aH,jL,jJ]at v;refine⟨g',?_⟩;obtain⟨a1,a2,a3,a4,H,a6⟩:=kF C.hR k;have z:=kH a1;have hmap:(jy a (b:Int)++[(x:Int)]).map (·+1)=(jy a (b:Int)).map (·+1)++[(x:Int)+1]:=by simp
 have c:I ((jy a (b:Int)).map (·+1)++[(x:Int)+1])=I a+1:=by simp[d]
 have D:W (((b*w+x:Nat):Int)+1)=((b*w+x+1:Nat):Int):=pY y9;have Q:¬(J=U):=by simp
 have gT:QN True=O ():=fX trivial;simp only[K,ak,j,Qf,e,L,m,ai,n,ix,q,Q,reduceCtorEq,g2,gT,v,z,hmap,M];generalize hr:gG R ((b*w+x)%I l)=r at *;generalize hoo:(pos R<|(b*w+x)%I l).2=o at *;by_cases S:r.fill=J
 .simp only[S,reduceCtorEq,ai,Co h1,Qf,D,c];simp only[tF,S,ak]
 .have E:r.fill=U:=by simpa using S
  have T:o<=600:=by omega
  obtain⟨w1,w2,w3,w4⟩:=Fj H T;have hbb:=qR (a:=r.dk) (b:=(x:Int)) (A:=200) (B:=65536) H.s.1 H.s.2 y9 y9;have w5:W (r.dk*(x:Int))=r.dk*x:=gE y9 y9;have w6:W (r.offset+(o:Int)*r.dk - r.dk*x)=r.offset+o*r.dk - r.dk*x:=by have:=H.o;exact gE y9 y9
  have w7:W ((((b*w+x)%I l:Nat):Int) - r.er)=(o:Int):=by rw[gE y9 y9];omega
  have F:Nab (I<|a++[(w:Int)]) (0:Int)=Nab (I a) 0++[0]:=by simp[cY]
  have G:I (Nab (I a) (0:Int))=I a:=by simp
  have i1:idx (Nab (I a) (0:Int)++[0]) (I a:Int)=O 0:=by
   have:=mB (p:=Nab (I a) (0:Int)) (x:=0)
   rwa [G]at this
  have s1:iM (Nab (I a) (0:Int)++[0]) (I a:Int) r.dk=O (Nab (I a) 0++[r.dk]):=by rw[iV yB];have:=rj (p:=Nab (I a) (0:Int)) (x:=0) (y:=r.dk);rw[G]at this;rw[this]
  have X:QN (I (Nab (I a) 0++[r.dk])=I (Nab (I a) (0:Int)++[0]))=O ():=fX yB;simp only[E,ak,qB (show(a++[(w:Int)]).length<=1000 by omega),F,Qf,i1,s1,w7,w1,w2,w5,w6,X,Co h1,D,c];simp only[tF,E,j6,ai]
theorem GB(C:Ctx l R a w B){b:Nat}(p:b<B):∀(k x d:Nat) (hi:fJ) (out:List Qc) (g t:Nat),x+d=w->d<=k->(d=0\/x=0\/(pos R<|(b*w+x)%I l).2=0)->I out<=b*w+x->
  ∃g' e q c,QJ (iF<|a++[(w:Int)],(I l:Int),R,a++[(w:Int)],g,hi,t,I hi,out,((b*w+x:Nat):Int))=QJ (iF<|a++[(w:Int)],(I l:Int),R,a++[(w:Int)],g',e,q,I e,c,((b*w+w:Nat):Int))/\
   th Og c e=th Og out hi++(rb R (I l) k (b*w+x) x d).map (E5<|jy a (b:Int))/\(I c)<=b*w+w
 |0,x,d,hi,out,g,t,D,E,F,G=>by
  have:x=w:=by omega
  subst this;exact⟨g,hi,t,out,rfl,by simp[rb],by omega⟩
 |k+1,x,d,hi,out,g,t,D,E,F,G=>by
  by_cases h0:d=0
  .have:x=w:=by omega
   subst this;exact⟨g,hi,t,out,rfl,by simp[rb,h0],by omega⟩
  .have wt:=C.wt;have v:x<w:=by omega
   have H:=C.bw (b:=b) (x:=x) p v;have hn:=C.hn;have j:I (jy a (b:Int))=I a:=lg _ _;have r:=br (b*w+x) hn;obtain⟨X,Y,a3,a4,a5,a6⟩:=kF C.hR r;obtain⟨g1,s⟩:=Fx C p v y9 (out:=out) y9 hi g t;generalize K:min d ((gG R<|(b*w+x)%I l).len.toNat - (pos R<|(b*w+x)%I l).2)=z;have Hb:1<=z:=by omega
   have L:z<=d:=by omega
   have f:=Tz C.hR hn (b*w+x);have n:I ((jy a (b:Int)).map (·+1))=I a:=by simp[j]
   have M:=H9 C p (x:=x) (out:=th Og out hi++[⟨⟨jy a (b:Int)++[(x:Int)],(jy a (b:Int)).map (·+1)++[(x:Int)+1]⟩,tF (gG R<|(b*w+x)%I l) (pos R<|(b*w+x)%I l).2 (I a) x⟩]) yB (by simp[qF];omega) n g1 (t+1) (z - 1) y9 λi hi=>by have:=f (1+i) y9;rw[show b*w+(x+1+i)=b*w+x+(1+i) by omega,this];simp only;omega
   rw[M,show x+1+(z - 1)=x+z by omega]at s;have m:I a+1=I ((jy a (b:Int)).map (·+1)++[((x+z:Nat):Int)]):=by simp[j]
   rw[m]at s
   have u:d - z=0\/x+z=0\/(pos R<|(b*w+(x+z))%I l).2=0:=by
    by_cases N:d - z=0
    .exact .inl N
    .refine .inr<|.inr ?_;have P:z=(gG R<|(b*w+x)%I l).len.toNat - (pos R<|(b*w+x)%I l).2:=by omega
     have y:=f (z - 1) y9;have A:=DN C.hR hn (b*w+x+(z - 1));have Q:gG R ((b*w+x+(z - 1))%I l)=gG R ((b*w+x)%I l):=by simp only[gG,y]
     rw[Q,y,ae (by simp only;omega)]at A;rw[show b*w+(x+z)=b*w+x+(z - 1)+1 by omega];exact A
   obtain⟨g',e,q,c,S,T,W⟩:=GB C p k (x+z) (d - z) ((jy a (b:Int)).map (·+1)++[((x+z:Nat):Int)]) (th Og out hi++[⟨⟨jy a (b:Int)++[(x:Int)],(jy a (b:Int)).map (·+1)++[(x:Int)+1]⟩,tF (gG R<|(b*w+x)%I l) (pos R<|(b*w+x)%I l).2 (I a) x⟩]) g1 (t+1) y9 y9 u (by simp[qF];omega);refine⟨g',e,q,c,s.trans S,?_,W⟩;rw[T,xX,rb,ae h0,K];rw[show b*w+(x+z)=b*w+x+z by omega];simp only[zV,ay,aR];congr 2;simp only[E5,Og,j]
theorem CP(C:Ctx l R a w B):∀(m b:Nat) (hi:fJ) (out:List Qc) (g t:Nat),b+m=B->I out<=b*w->
  ∃g' d q c,QJ (iF<|a++[(w:Int)],(I l:Int),R,a++[(w:Int)],g,hi,t,I hi,out,((b*w:Nat):Int))=QJ (iF<|a++[(w:Int)],(I l:Int),R,a++[(w:Int)],g',d,q,I d,c,((B*w:Nat):Int))/\
   th Og c d=th Og out hi++pW R (I l) a w b m
 |0,b,hi,out,g,t,r,s=>by
  have:b=B:=by omega
  subst this;exact⟨g,hi,t,out,rfl,by simp[pW]⟩
 |m+1,b,hi,out,g,t,r,s=>by obtain⟨g1,j,u,e,n,v,p⟩:=GB C (b:=b) y9 w 0 w hi out g t y9 (j7 _) y9 y9;rw[show b*w+w=(b+1)*w by rw[av,bA]]at n p;obtain⟨x,k,y,f,z,A⟩:=CP C m (b+1) j e g1 u y9 p;refine⟨x,k,y,f,n.trans z,?_⟩;rw[A,v];simp only[pW,cn,aI,ay,zY]
theorem wO(l:List Qi)(hl:I l<=600):∀(s p:List Qq) (b:Nat),I p<=b->b<=I l->gV l b s->Yt (p++s,(b:Int),(I p:Int))=O (I l:Int)
 |[],p,b,d,e,h=>by rw[Yt];simp only[gV]at h;simp only[Q1,ai,h]
 |r::s,p,b,d,e,h=>by
  obtain⟨m,⟨k,n⟩,⟨q,f⟩,_,_,g⟩:=h;rw[Yt];have j:W ((b:Int)+r.len)=((b+m:Nat):Int):=by rw[gE y9 y9];omega
  have c:W ((I p:Int)+1)=(I (p++[r]):Int):=by rw[gE y9 y9];simp
  simp only[QX,ak,Qv,Qf,j,c];rw[Qs];exact wO l hl s (p++[r]) (b+m) yA f g
theorem xh(hl:I l<=600)(hR:gV l 0 R):S4 R=O (I l:Int):=by have e:=wO l hl R [] 0 (j7 _) (zQ _) hR;have e':Yt (R,0,0)=O (I l:Int):=e;simp only[S4,e',Qf]
theorem D6(C:Ctx l R a w B)(m:2<=I R)(c:ZZ (a++[(w:Int)])=O (iF<|a++[(w:Int)])):ZK (R,a++[(w:Int)])=O (pW R (I l) a w 0 B):=by
 have e:1<=B:=by have:=gu C.e7;have:=C.hB;omega
 have k:1<=B*w:=Nat.mul_pos e C.hw;have hn:=C.hn;obtain⟨c1,c2,r⟩:=fT C.hc;obtain⟨g,hi,t,out,d,n⟩:=CP C B 0 [] [] 0 0 y9 yB;have f:¬(((B*w:Nat):Int)<(I (iF<|a++[(w:Int)]):Int)):=by rw[C.len];omega
 conv at d=>rhs;rw[QJ]
 simp only[f,ai]at d
 have j:QJ (iF<|a++[(w:Int)],(I l:Int),R,a++[(w:Int)],0,[],0,0,[],0)=O (g,hi,t,I hi,out):=by
  have:(((0*w:Nat)):Int)=0:=by simp
  rw[this]at d;exact d
 have p:Sm (I<|a++[(w:Int)]):=hZ (show(a++[(w:Int)]).length<=1000 by omega);have k1:¬(((B*w:Nat):Int)=0):=by omega
 have k2:¬((I l:Int)=0):=by omega
 have k3:¬((I R:Int)=1):=by omega
 have q:QN (I hi=I hi)=O ():=fX rfl;simp only[ZK,lu _ p,jf,C.hc,ak,C.P,Qf,k1,ai,xh C.hl C.hR,k2,k3,j6,c,j,q]
 have:th Og out hi=pW R (I l) a w 0 B:=by rw[n];rfl
 rw[<-this];rfl
end
def Mi:∀(i lo hi c d e:fJ),I lo=I i->I hi=I i->I d=I c->I e=I c->I c+I i<=600->Jm (c++i,⟨d++lo,e++hi⟩,(I c:Int))=O (if kh lo hi i=J then .inr ()else .inl ())
 |[],[],[],c,d,e,_,_,f,g,hl=>by rw[Jm];simp only[Q1,ai];rfl
 |x::i,l::lo,h::hi,c,d,e,n,p,f,g,hl=>by
  rw[Jm];have q:idx (d++l::lo) (I c:Int)=O l:=by rw[<-f];exact Qv
  have r:idx (e++h::hi) (I c:Int)=O h:=by rw[<-g];exact Qv
  have k:=Mi i lo hi (c++[x]) (d++[l]) (e++[h]) (by simpa using n) (by simpa using p) (by simp[f]) (by simp[g]) (by simp at hl |-;omega);rw[<-Qs,<-Qs,<-Qs]at k;simp only[QX,ak,Qv,Qf,q,r,W_l (x:=x) (show I c<=100000 by omega),k,kh];by_cases g1:x<l
  .have:¬l<=x:=by omega
   simp[g1,this]
  .have j:l<=x:=by omega
   by_cases m:x>=h
   .have:¬x<h:=by omega
    simp[g1,m,this]
   .have:x<h:=by omega
    simp[g1,j,m,this]
 |[],_::_,_,_,_,_,h,_,_,_,_=>by simp at h
 |[],[],_::_,_,_,_,_,h,_,_,_=>by simp at h
 |_::_,[],_,_,_,_,h,_,_,_,_=>by simp at h
 |_::_,_::_,[],_,_,_,_,h,_,_,_=>by simp at h
def Md{b:Qk}{i:fJ}(c:I b.lo=I i)(d:I b.hi=I i)(hl:I i<=600):Rm (b,i)=O (kh b.lo b.hi i):=by
 obtain⟨lo,hi⟩:=b;simp only at c d |-;have e:=Mi i lo hi [] [] [] c d rfl rfl yA;simp only[jQ,jL,jJ]at e;have g:¬((I i:Int)≠(I lo:Int)):=by simp;omega
 simp only[Rm,g,ai,e,Qf];cases kh lo hi i<;>rfl
def tq:∀{s:fJ} {f g:Int},(∀n∈s,1<=n)->0<=f->f<g->g<fQ s->tp (jy s f) (jy s g)=J
 |[],f,g,_,h0,j,c=>by rw[iC]at c;omega
 |n::s,f,g,d,h0,j,c=>by
  have m:=gu (λn hn=>d n<|jG _ hn);have k:=cU f (fQ s);have p:=cU g (fQ s);have m1:=bM f (show fQ s≠0 by omega);have m2:=bM g (show fQ s≠0 by omega);have n1:=bC f (show 0<fQ s by omega);have n2:=bC g (show 0<fQ s by omega);simp only[jy,tp];have l:f/fQ s<=g/fQ s:=Int.ediv_le_ediv y9 y9;by_cases e:f/fQ s=g/fQ s
  .rw[ae (by simp[e])];rw[e]at k;exact tq (λn hn=>d n<|jG _ hn) m1 y9 n2
  .rw[aj e];exact decide_eq_true y9
def IL(p:Qc)(i:fJ)(c:Qi):Prop:=∃v ok,X7 (p.be,i)=O (v,ok)/\(if ok=U then c=⟨J,0,0⟩else c=⟨U,p.be.bc,v⟩)
structure Wz (acc:Qt):Prop where
 b:0<=acc.bc/\acc.bc<=100000
 o:-1000000000<=acc.ek/\acc.ek<=1000000000
 t:acc.ed=0
 s:-1000000<=acc.dk/\acc.dk<=1000000
 m:-1000000<=acc.ep/\acc.ep<=1000000
 l:I acc.bm<=1000
 x:∀x∈acc.bm,-65536<=x/\x<=65536
structure zn (a:Qt) (n:Nat):Prop where
 k:a.bx=1\/((a.bx=2\/a.bx=3)/\(I a.bm)=n)
 s:Wz a
 m:a.bx=3->1<=a.ep
 k1:a.bx=1->a=⟨1,0,0,[],0,0,0⟩
 k2:a.bx=2->a.dk=0/\a.ep=0
def qi{n:Nat}(hn:n<=16):zn ⟨1,0,0,[],0,0,0⟩ n:=⟨.inl rfl,⟨by simp,by simp,by simp,by simp,by simp,by simp,by simp⟩,λh=>absurd h yD,λ_=>rfl,λh=>absurd h yD⟩
def B4{n:Nat}(hn:n<=16){b o:Int}{st:fJ}(c:Wz ⟨2,b,o,st,0,0,0⟩)(hl:I st=n):zn ⟨2,b,o,st,0,0,0⟩ n:=⟨.inr ⟨.inl rfl,hl⟩,c,λh=>absurd (show(2:Int)=3 from h) yD,λh=>absurd (show(2:Int)=1 from h) yD,λ_=>⟨rfl,rfl⟩⟩
def Pl{n:Nat}(hn:n<=16){b o t m:Int}{st:fJ}(c:Wz ⟨3,b,o,st,0,t,m⟩)(hl:I st=n)(V:1<=m):zn ⟨3,b,o,st,0,t,m⟩ n:=⟨.inr ⟨.inr rfl,hl⟩,c,λ_=>V,λh=>absurd (show(3:Int)=1 from h) yD,λh=>absurd (show(3:Int)=2 from h) yD⟩
structure VK (s:fJ) (cf:Nat->Qi) (p:Qc) (F z:Nat):Prop where
 Hb:1<=z
 box:okB s p.box.lo p.box.hi
 lo:p.box.lo=jy s (F:Int)
 inb:∀f:Nat,(f:Int)<fQ s->kh p.box.lo p.box.hi (jy s (f:Int))=decide (F<=f/\f<F+z)
 acc:zn p.be (I s)
 str:I p.be.bm<=1000
 y0:∀f:Nat,F<=f->f<F+z->IL p (jy s (f:Int)) (cf f)
def Fo(s:fJ)(cf:Nat->Qi)(N:Nat):Nat->List Qc->Prop
 |F,[]=>F=N
 |F,p::P=>∃z,VK s cf p F z/\F+z<=N/\Fo s cf N (F+z) P
section
variable{s:fJ}{cf:Nat->Qi}{N:Nat}
theorem H5:∀{P:List Qc} {F:Nat},Fo s cf N F P->∀p∈P,∃F z,VK s cf p F z
 |p::P,F,⟨z,hc,d,h⟩,q,c=>by
  rcases ar.1 c with rfl|c
  .exact⟨F,z,hc⟩
  .exact H5 h q c
end
def L3{n m:Int}(h:n%18446744073709551616=m%18446744073709551616):W n=W m:=by simp only[W,IntKind.wrap,IntKind.bits,IntKind.signed];simp;rw[h]
def NH(n:Int):W n%18446744073709551616=n%18446744073709551616:=by simp only[W,IntKind.wrap,IntKind.bits,IntKind.signed];simp;split <;>omega
def wS:∀(s t:fJ) (x:Int),nD s t x%18446744073709551616=(x+iB s t)%18446744073709551616
 |a::s,b::t,x=>by rw[nD,iB,wS s t];have c:=NH (x+W (a*b));have d:=NH (a*b);generalize a*b=y at *;generalize W y=z at *;generalize W (x+z)=u at *;generalize iB s t=e at *;omega
 |[],_,x=>by simp[nD,iB]
 |_::_,[],x=>by simp[nD,iB]
def Rh{b:Int}{s t:fJ}{v:Int}(h:b+iB s t=v)(c:-1000000000000<=v)(d:v<=1000000000000):W (b+nD s t 0)=v:=by have e:=wS s t 0;rw[L3 (m:=v) y9,gE c d]
def Ek:∀{s:fJ},(∀n∈s,1<=n)->∀j:Int,0<=j->j<fQ s->iB (ig s) (jy s j)=j
 |[],_,j,h0,c=>by rw[iC]at c;simp only[jy,ig,iB];omega
 |n::s,d,j,h0,c=>by have e:=gu (λn hn=>d n<|jG _ hn);have V:=bM j (show fQ s≠0 by omega);have hl:=bC j (show 0<fQ s by omega);have f:=cU j (fQ s);rw[jy,ig,iB,Ek (λn hn=>d n<|jG _ hn) _ V hl];omega
def wT(k:Int):∀(s t:fJ),iB (s.map (· *k)) t=k*iB s t
 |a::s,b::t=>by simp only[zV,iB];rw[wT k s t,dP,bI a k,bo]
 |[],_=>by simp[iB]
 |_::_,[]=>by simp[iB]
def Ar:∀(c:Nat) (q:fJ) (st x:Int),I q=c->iB (Nab c 0++[st]) (q++[x])=st*x
 |0,q,st,x,h=>by rw[aw h];simp[iB]
 |c+1,[],st,x,h=>by simp at h
 |c+1,y::q,st,x,h=>by rw[aB,aN,aN,iB,Ar c q st x (by simpa using h)];omega
def ya:∀{s:fJ},(∀n∈s,1<=n)->fQ s<=65536->∀x∈ig s,1<=x/\x<=65536
 |[],_,_,x,c=>by simp[ig]at c
 |n::s,e,f,x,c=>by
  have d:=λm V=>e m<|jG n V
  have g:=gu d
  have j:fQ s<=fQ (n::s):=by
   have:=wH (a:=[n]) (b:=s) (λm V=>by simp at V;subst V;exact e _<|jM ..) d
   simpa using this
  rw[ig]at c;rcases ar.1 c with rfl|c
  .omega
  .exact ya d y9 x c
def r7(c:Qk)(i:fJ)(hi:I i<=1000):IL ⟨c,⟨1,0,0,[],0,0,0⟩⟩ i ⟨J,0,0⟩:=by refine⟨0,U,?_,rfl⟩;simp only[X7,wu (a:=[]) (b:=i) yB hi,Qf,ak]
def FC(c:Qk){b o v:Int}{st i:fJ}(d:I st<=1000)(hi:I i<=1000)(h:o+iB st i=v)(e:-1000000000000<=v)(f:v<=1000000000000):IL ⟨c,⟨2,b,o,st,0,0,0⟩⟩ i ⟨U,b,v⟩:=by
 refine⟨v,J,?_,by simp⟩;have g:¬((2:Int)=1):=by omega
 simp only[X7,wu d hi,Qf,g,ai,ak,Rh h e f]
def SN(d:Qk){b o t v:Int}{n f:Nat}{st i:fJ}(e:I st<=1000)(hi:I i<=1000)(h:iB st i=(f:Int))(u:f<=65536)(hn:1<=n/\n<=600)(w:0<=o/\o<=200)(c:-200<=t/\t<=200)(g:o+((f%n:Nat):Int)*t=v):IL ⟨d,⟨3,b,o,st,0,t,(n:Int)⟩⟩ i ⟨U,b,v⟩:=by
 refine⟨v,J,?_,by simp⟩;have j:¬((3:Int)=1):=by omega
 have k:¬((3:Int)=2):=by omega
 have l:W (0+nD st i 0)=(f:Int):=Rh (b:=0) y9 y9 y9;have m:pz (f:Int) (n:Int)=O ((f%n:Nat):Int):=by rw[nm y9 y9,cF]
 have p:=br f (show n>0 by omega);have q:¬(((f%n:Nat):Int)<0):=by omega
 have V:=qR (a:=((f%n:Nat):Int)) (b:=t) (A:=600) (B:=200) y9 y9 c.1 c.2;have r:W (t*((f%n:Nat):Int))=((f%n:Nat):Int)*t:=by rw[bI];exact gE y9 y9
 have s:W (o+((f%n:Nat):Int)*t)=v:=by rw[g];exact gE y9 y9
 simp only[X7,wu e hi,Qf,j,k,ai,l,m,q,r,s]
def Gy:∀{s lo hi:fJ} {n l h:Int},okB s lo hi->0<=l/\l<h/\h<=n->okB (s++[n]) (lo++[l]) (hi++[h])
 |[],[],[],n,l,h,_,H=>⟨H,trivial⟩
 |_::s,_::lo,_::hi,n,l,h,H1,H=>⟨H1.1,Gy H1.2 H⟩
 |[],_::_,_,_,_,_,h,_=>by simp[okB]at h
 |[],[],_::_,_,_,_,h,_=>by simp[okB]at h
 |_::_,[],_,_,_,_,h,_=>by simp[okB]at h
 |_::_,_::_,[],_,_,_,h,_=>by simp[okB]at h
def G3:∀{s i:fJ},iz s i=J->okB s i (i.map (·+1))
 |[],[],_=>trivial
 |n::s,x::i,h=>by simp only[iz,jE,zE]at h;simp only[zV,okB];exact⟨by omega,G3 h.2⟩
 |[],_::_,h=>by cases h
 |_::_,[],h=>by cases h
def AU:∀{s:fJ},(∀n∈s,1<=n)->okB s (Nab (I s) 0) s
 |[],_=>trivial
 |n::s,h=>by rw[zH,aB];exact⟨by have:=h n yB;omega,AU λm V=>h m<|jG _ V⟩
def AK:∀{s i:fJ},iz s i=J->kh (Nab (I s) 0) s i=J
 |[],[],_=>rfl
 |n::s,x::i,h=>by simp only[iz,jE,zE]at h;rw[zH,aB,kh,AK h.2];simp[h.1]
 |[],_::_,h=>by cases h
 |_::_,[],h=>by cases h
def HK:∀{lo hi i:fJ} {l h x:Int},I lo=I i->I hi=I i->kh (lo++[l]) (hi++[h]) (i++[x])=(kh lo hi i &&(decide (l<=x) &&decide (x<h)))
 |[],[],[],l,h,x,_,_=>by simp[kh]
 |a::lo,b::hi,c::i,l,h,x,d,e=>by simp only[aN,kh];rw[HK (by simpa using d) (by simpa using e)];simp only[Bool.and_assoc]
 |[],_::_,[],_,_,_,_,h=>by simp at h
 |[],_,_::_,_,_,_,h,_=>by simp at h
 |_::_,_,[],_,_,_,h,_=>by simp at h
 |_::_,[],_::_,_,_,_,_,h=>by simp at h
def Ix:∀{i j:fJ},I i=I j->(kh i (i.map (·+1)) j=J↔i=j)
 |[],[],_=>by simp[kh]
 |a::i,b::j,h=>by
  have:=Ix (i:=i) (j:=j) (by simpa using h);simp only[zV,kh,jE,zE,this,List.cons.injEq];constructor
  .rintro⟨d,c⟩;exact⟨by omega,c⟩
  .rintro⟨d,c⟩;exact⟨by omega,c⟩
 |[],_::_,h=>by simp at h
 |_::_,[],h=>by simp at h
def yV:∀a:fJ,tp a a=U
 |[]=>rfl
 |x::a=>by rw[tp,ae yB,yV a]
def Hk{s:fJ}(d:∀n∈s,1<=n){f g:Int}(e:0<=f/\f<fQ s)(j:0<=g/\g<fQ s)(h:jy s f=jy s g):f=g:=by
 rcases Int.lt_trichotomy f g with c|c|c
 .have:=tq d e.1 c j.2;rw[h,yV]at this;cases this
 .exact c
 .have:=tq d j.1 c e.2;rw[h,yV]at this;cases this
def Di:∀s:fJ,jy s 0=Nab (I s) 0
 |[]=>rfl
 |n::s=>by rw[jy,zH,aB,Int.zero_ediv,fw,Di s]
section
variable{l:List Qi}{R:List Qq}{a:fJ}{w B:Nat}
def pS(l:List Qi)(f:Nat):Qi:=ce l (f%I l)
theorem Ctx.HU(C:Ctx l R a w B){b x:Nat}(c:b<B)(d:x<w):jy (a++[(w:Int)]) ((b*w+x:Nat):Int)=jy a (b:Int)++[(x:Int)]:=by have h:=C.bw c d;have e:=C.ix c d;rw[mf C.HL _ (by rw[C.P];omega)]at e;exact jS e
theorem IH{r:Qq}(h:ze r){o x c:Nat}(f:o<=600)(g:x<=65536)(e:c<=100)(j:r.fill=U):Wz ⟨2,r.bc,r.offset+o*r.dk - r.dk*x,Nab c 0++[r.dk],0,0,0⟩:=by have k:=qR (a:=(o:Int)) (b:=r.dk) (A:=600) (B:=200) y9 y9 h.s.1 h.s.2;have l:=qR (a:=r.dk) (b:=(x:Int)) (A:=200) (B:=65536) h.s.1 h.s.2 y9 y9;have m:=h.o;have n:=h.b;have p:=h.s;refine⟨by simp only;omega,by simp only;omega,by simp,by simp,by simp,by simp;omega,λy d=>?_⟩;simp only[aU,dR,jY]at d;rcases d with⟨_,rfl⟩|rfl<;>omega
theorem Pc(C:Ctx l R a w B){b x z:Nat}(p:b<B)(M:1<=z)(X:x+z<=w)(Y:((pos R<|(b*w+x)%I l).2:Int)+z<=(gG R<|(b*w+x)%I l).len):
  VK (a++[(w:Int)]) (pS l) (E5 (jy a (b:Int)) (x,z,gG R<|(b*w+x)%I l,(pos R<|(b*w+x)%I l).2)) (b*w+x) z:=by
 have hn:=C.hn;have hl:=C.hl;have wt:=C.wt;have N:=C.bw (b:=b) (x:=x) p y9;have q:=br (b*w+x) hn;have d:I (jy a (b:Int))=I a:=lg _ _;obtain⟨a1,a2,a3,a4,m,a6⟩:=kF C.hR q;obtain⟨c1,c2,c3⟩:=fT C.hc;have t:x<=65536:=by have:=eU x (b*w);omega
 have Q:I (a++[(w:Int)])=I a+1:=by simp
 have u:((pos R<|(b*w+x)%I l).2)<=600:=by omega
 refine⟨M,?_,?_,λf k=>?_,?_,?_,λf v F=>?_⟩
 .show okB (a++[(w:Int)]) (jy a (b:Int)++[(x:Int)]) ((jy a (b:Int)).map (·+1)++[((x+z:Nat):Int)])
  exact Gy (G3<|qp C.e7 y9 (by rw[C.hB];omega)) ⟨by omega,by omega,by omega⟩
 .exact(C.HU p y9).symm
 .rw[C.P]at k;have hw:=C.hw;obtain⟨b',n,y,D,rfl⟩:∃b' n,b'<B/\n<w/\f=b'*w+n:=⟨f/w,f%w,by rw[fh y9];omega,br _ y9,by rw[bK];exact(cz f w).symm⟩;rw[C.HU y D];show kh (jy a (b:Int)++[(x:Int)]) ((jy a (b:Int)).map (·+1)++[((x+z:Nat):Int)]) (jy a (b':Int)++[(n:Int)])=_
  rw[HK (by rw[d,lg]) (by rw[jZ,d,lg])]
  have v:kh (jy a (b:Int)) ((jy a (b:Int)).map (·+1)) (jy a (b':Int))=decide (b=b'):=by
   rw[Bool.eq_iff_iff,Ix (by rw[d,lg]),zE];constructor
   .intro h;have:=Hk C.e7 (f:=(b:Int)) (g:=(b':Int)) (by rw[C.hB];omega) (by rw[C.hB];omega) h;omega
   .rintro h;rw[<-h]
  rw[v,<-bq,<-bq];refine decide_eq_decide.2 ?_;constructor
  .rintro⟨rfl,F,G⟩;omega
  .rintro⟨F,G⟩
   have E:b=b':=by
    rcases cC b b' with c|c|c
    .have:(b+1)*w<=b'*w:=au _ y9
     rw[av,bA]at this;omega
    .exact c
    .have:(b'+1)*w<=b*w:=au _ y9
     rw[av,bA]at this;omega
   subst E;omega
 .show zn (tF (gG R<|(b*w+x)%I l) (pos R<|(b*w+x)%I l).2 (I<|jy a (b:Int)) x) (I<|a++[(w:Int)])
  unfold tF;split
  .exact qi c1
  .rename_i k;rw[d];exact B4 c1 (IH m u t y9 (by simpa using k)) yB
 .show(tF _ _ _ _).bm.length<=1000
  unfold tF;split
  .simp
  .simp[d];omega
 .obtain⟨j,rfl⟩:∃j,f=b*w+x+j:=⟨f - (b*w+x),by omega⟩;have hj:j<z:=by omega
  have e:=Tz C.hR hn (b*w+x) j y9;have H:gG R ((b*w+x+j)%I l)=gG R ((b*w+x)%I l):=by simp only[gG,e]
  obtain⟨d1,d2,K,S,d5,d6⟩:=kF C.hR (br (b*w+x+j) hn);have L:=C.HU (b:=b) (x:=x+j) p y9;rw[<-bO]at L;unfold pS;rw[S,H,e,L];show IL ⟨_,tF (gG R<|(b*w+x)%I l) (pos R<|(b*w+x)%I l).2 (I<|jy a (b:Int)) x⟩ _ _
  rw[H,e]at K;simp only at K;unfold tF qq;by_cases k:(gG R<|(b*w+x)%I l).fill=J
  .simp only[k,ak];exact r7 _ _ (by simp[d];omega)
  .simp only[k,ai,j6];generalize gG R ((b*w+x)%I l)=r at *;generalize (pos R<|(b*w+x)%I l).2=o at *;have v:=qR (a:=((o+j:Nat):Int)) (b:=r.dk) (A:=600) (B:=200) y9 y9 m.s.1 m.s.2;have G:=m.o;refine FC _ (by simp[d];omega) (by simp[d];omega) ?_ y9 y9;rw[d,Ar (I a) _ _ _ d]
   have T:r.dk*((x+j:Nat):Int)=r.dk*x+j*r.dk:=by rw[eV,dP,bI r.dk (j:Int)]
   have W:((o+j:Nat):Int)*r.dk=o*r.dk+j*r.dk:=by rw[eV,cr]
   rw[T,W];omega
theorem CM(C:Ctx l R a w B){b:Nat}(e:b<B):∀(k x c:Nat) (Q:List Qc),x+c=w->c<=k->Fo (a++[(w:Int)]) (pS l) (B*w) (b*w+w) Q->Fo (a++[(w:Int)]) (pS l) (B*w) (b*w+x) ((rb R (I l) k (b*w+x) x c).map (E5<|jy a (b:Int))++Q)
 |0,x,c,Q,j,m,d=>by
  have:x=w:=by omega
  subst this
  simpa[rb]using d
 |k+1,x,c,Q,j,m,d=>by
  by_cases h0:c=0
  .have:x=w:=by omega
   subst this
   simpa[rb,h0]using d
  .rw[rb,ae h0];have f:=br (b*w+x) C.hn;obtain⟨p,q,r,s,t,u⟩:=kF C.hR f;have n:=C.bw (b:=b) (x:=w - 1) e (by have:=C.hw;omega);generalize v:min c ((gG R<|(b*w+x)%I l).len.toNat - (pos R<|(b*w+x)%I l).2)=z;have g:=CM C e k (x+z) (c - z) Q y9 y9 d;rw[<-bO]at g;rw[zV,aN];exact⟨z,Pc C e y9 y9 y9,by omega,g⟩
theorem DA(C:Ctx l R a w B):∀(m b:Nat),b+m=B->Fo (a++[(w:Int)]) (pS l) (B*w) (b*w) (pW R (I l) a w b m)
 |0,b,h=>by
  have:b=B:=by omega
  subst this;simp only[pW,List.range'_zero,dw,Fo]
 |m+1,b,h=>by have c:=DA C m (b+1) y9;rw[av,bA]at c;have:=CM C (b:=b) y9 w 0 w _ y9 (j7 _) c;simp only[pW,cn,aI];exact this
end
def uG{s:fJ}{cf:Nat->Qi}{N:Nat}(e:∀n∈s,1<=n)(j:(N:Int)=fQ s)(acc:Qt)(c:zn acc (I s))(d:I acc.bm<=1000)(y0:∀f:Nat,f<N->IL ⟨⟨Nab (I s) 0,s⟩,acc⟩ (jy s (f:Int)) (cf f)):
  Fo s cf N 0 [⟨⟨Nab (I s) 0,s⟩,acc⟩]:=by
 have k:=gu e;refine⟨N,⟨by omega,AU e,(Di s).symm,λf g=>?_,c,d,λf _ l=>y0 f y9⟩,by omega,by simp only[Fo];omega⟩;rw[AK (qp e y9 g)];exact(decide_eq_true y9).symm
def Rr(s:fJ):Qc:=⟨⟨Nab (I s) 0,s⟩,⟨1,0,0,[],0,0,0⟩⟩
def AG:∀{s:fJ},gm (Nab (I s) 0) s=J->∀n∈s,1<=n
 |[],_,n,h=>by simp at h
 |x::s,f,n,h=>by
  rw[zH,aB,gm,jE,zE]at f;rcases ar.1 h with rfl|h
  .omega
  .exact AG f.2 n h
def yi{s:fJ}(hc:fY s=0):U0 s=O (if fQ s=0 then[]else[kO (Rr s)]):=by
 obtain⟨l,d,j⟩:=fT hc;have hn:∀n∈s,0<=n:=λn hn=>(j n hn).1
 obtain⟨g,k⟩:=tO s y9;have e:=sM (s:=s) d y9 ⟨⟨Nab (I s) 0,s⟩,⟨1,0,0,[],0,0,0⟩⟩ (lk hn);unfold U0;simp only[k,Qf];rw[e,Qf];by_cases z:fQ s=0
 .have c:¬gA ⟨⟨Nab (I s) 0,s⟩,⟨1,0,0,[],0,0,0⟩⟩=J:=λf=>by have:=gu (AG (s:=s) f);omega
  rw[ae c,aj z]
 .have c:gA ⟨⟨Nab (I s) 0,s⟩,⟨1,0,0,[],0,0,0⟩⟩=J:=om (gW hn z);rw[aj c,ae z];rfl
def pI(s:fJ)(a:Qt)(h:I s<=600):T8 (s,a)=O [⟨⟨Nab (I s) 0,s⟩,a⟩]:=by simp only[T8,qB (show I s<=1000 by omega),Qf]
def Rw(o:fJ)(k:Int)(c:Nat):∀(s p:fJ) (v:Int),I p+I s<=600->(∀n∈s,1<=n)->1<=v->v*fQ s<=65536->Zv (p++s,c,o,k,v,(I p:Int))=O (v*fQ s)
 |[],p,v,h,d,g,f=>by rw[Zv];simp only[Q1,ai,Qf,j6,iC,bL]
 |x::s,p,v,h,d,g,f=>by
  rw[Zv];have j:=d x (jM ..);have l:=gu (λn hn=>d n<|jG _ hn);rw[gx,<-bo]at f;have b1:1<=v*x:=by have:=bn g j y9 y9;omega
  have b2:(v*x)*1<=v*x*fQ s:=aZ l y9;have m:W (v*x)=v*x:=kP y9 y9;have e:=Rw o k c s (p++[x]) (v*x) (by simp at h |-;omega) (λn hn=>d n<|jG _ hn) b1 f;rw[<-Qs]at e;simp only[QX,ak,show v>0 by omega,decide_true,Qf,Qv,X8 h,m,e,gx,bo]
def RX:∀(s p out:fJ) (c:Nat),I p+I s<=600->fY (p++s)=0->(∀n∈p++s,1<=n)->I out<=I p->∃g,Zl (p++s,c,out,(I p:Int))=O (g,out++ig s)
 |[],p,out,c,h,hc,f,l=>by rw[Zl];simp only[Q1,ai];simp only[ig,jV];exact⟨_,rfl⟩
 |x::s,p,out,c,h,hc,f,l=>by
  rw[Zl];have m:Sm (I (p++x::s)):=hZ (show(p++x::s).length<=1000 by simp at h |-;omega);have r:=gu f;have j:∀n∈s,1<=n:=λn hn=>f n (by simp[hn])
  have q:fQ s<=65536:=by have:=wH (a:=p++[x]) (b:=s) (λn hn=>f n (by simp at hn |-;rcases hn with h|h<;>simp[h])) j;rw[<-Qs]at this;have:=(fT hc).2.1;omega
  have d:Yn (p++x::s)=O (fQ (p++x::s)):=by rw[lu _ m,jf,aj hc]
  have k:=Rw out (I p:Int) c s (p++[x]) 1 (by simp at h |-;omega) j y9 y9;rw[<-Qs,bX]at k;obtain⟨g,e⟩:=RX s (p++[x]) (out++[fQ s]) (gb c ([fQ s]:fJ).isEmpty) (by simp at h |-;omega) (by rw[<-Qs];exact hc) (by rw[<-Qs];exact f) yA;rw[<-Qs]at e;simp only[QX,ak,d,Qf,show¬fQ (p++x::s)=0 by omega,ai,X8 h,k];rw[gn (by simp at h |-;omega) y9,Qf,e,ig];exact⟨g,by simp⟩
def Pb{s:fJ}(hc:fY s=0)(c:∀n∈s,1<=n):∃g,X2 s=O (g,ig s):=by obtain⟨f,j,k⟩:=fT hc;obtain⟨g,e⟩:=RX s [] [] 0 yA hc c yB;have e':Zl (s,0,[],0)=O (g,ig s):=e;have d:Sm (I s):=hZ (show I s<=1000 by omega);exact⟨g,by simp only[X2,nV s d,Qf,hc,ne_eq,not_true,ai,e']⟩
def Ih(k:Int)(v:fJ):∀(t p:fJ),I (p++t)=I v->I (p++t)<=600->(∀x∈t,-1000000000000<=x*k/\x*k<=1000000000000)->YP (v,k,p.map (· *k)++t,(I p:Int))=O ((p++t).map (· *k))
 |[],p,c,d,e=>by
  rw[YP]
  have:¬((I p:Int)<(I v:Int)):=by rw[<-c];simp
  simp only[this,ai];simp only[jV]
 |x::t,p,c,d,e=>by
  rw[YP];have f:((I p:Int)<(I v:Int)):=by rw[<-c];simp;omega
  have g1:QN (I (p.map (· *k)++x::t)=I v)=O ():=fX (by rw[<-c];simp);have m:idx (p.map (· *k)++x::t) (I p:Int)=O x:=kH yB;have j:=e x yB;have n:W (x*k)=x*k:=gE j.1 j.2
  have q:iM (p.map (· *k)++x::t) (I p:Int) (x*k)=O ((p++[x]).map (· *k)++t):=by rw[iV yB];have:=oX (p:=p.map (· *k)) (s:=t) (x:=x) (y:=x*k);rw[jZ]at this;rw[this];simp
  have g:W ((I p:Int)+1)=(I (p++[x]):Int):=by simp at d;rw[gE y9 y9];simp
  have l:=Ih k v t (p++[x]) (by simpa using c) (by simpa using d) (λy r=>e y<|jG _ r);rw[<-Qs]at l;simp only[f,ak,g1,Qf,m,n,q,g];exact l
def HC{s:fJ}(hc:fY s=0)(d:∀n∈s,1<=n){k:Int}(c:-200<=k/\k<=200):∀x∈ig s,-1000000000000<=x*k/\x*k<=1000000000000:=λx e=>by obtain⟨g,f,j⟩:=fT hc;have V:=ya d f x e;have:=qR (a:=x) (b:=k) (A:=65536) (B:=200) y9 y9 c.1 c.2;omega
def CJ:∀{s:fJ},(∀n∈s,1<=n)->∀x∈ig s,1<=x/\x<=fQ s
 |[],_,x,h=>by simp[ig]at h
 |n::s,c,x,h=>by
  have d:=gu (λm V=>c m<|jG _ V);have hn:=c n (jM ..);have V:1*fQ s<=n*fQ s:=aK hn y9;rw[gx];rw[ig]at h;rcases ar.1 h with rfl|h
  .omega
  .have:=CJ (λm V=>c m<|jG _ V) x h;omega
def PO{s:fJ}(f:fQ s<=300)(d:∀n∈s,1<=n){k:Int}(c:-200<=k/\k<=200):∀x∈ig s,-65536<=x*k/\x*k<=65536:=λx e=>by have V:=CJ d x e;have:=qR (a:=x) (b:=k) (A:=300) (B:=200) y9 y9 c.1 c.2;omega
def AQ{s:fJ}(hc:fY s=0)(c:∀n∈s,1<=n){k:Int}(d:-200<=k/\k<=200):TP (s,k)=O ((ig s).map (· *k)):=by obtain⟨j,l,m⟩:=fT hc;obtain⟨g,f⟩:=Pb hc c;have hl:=lK s;have e:=Ih k (ig s) (ig s) [] rfl yA (HC hc c d);have e':YP (ig s,k,ig s,0)=O ((ig s).map (· *k)):=e;simp only[TP,f,Qf,e'];rw[fX yB];rfl
def Lj(k:Int):∀(t p:fJ),I (p++t)<=600->(∀x∈t,-1000000000000<=x*k/\x*k<=1000000000000)->Xs (p++t,k,p.map (· *k),(I p:Int))=O ((p++t).map (· *k))
 |[],p,c,d=>by rw[Xs];simp only[Q1,ai];simp only[jV]
 |x::t,p,c,d=>by
  rw[Xs];have f:=d x yB;have j:W (x*k)=x*k:=gE f.1 f.2;have e:W ((I p:Int)+1)=(I (p++[x]):Int):=by simp at c;rw[gE y9 y9];simp
  have g:=Lj k t (p++[x]) (by simpa using c) (λy l=>d y<|jG _ l);rw[<-Qs,zM]at g;simp only[QX,ak,Qv,Qf,j,e];rw[gn (by simp at c |-;omega) y9,Qf];exact g
def Em{s:fJ}(hc:fY s=0)(c:∀n∈s,1<=n){k:Int}(d:-200<=k/\k<=200):U4 (ig s,k)=O ((ig s).map (· *k)):=by obtain⟨f,g,j⟩:=fT hc;have hl:=lK s;have e:=Lj k (ig s) [] yA (HC hc c d);have e':Xs (ig s,k,[],0)=O ((ig s).map (· *k)):=e;simp only[U4,e',Qf]
def FJ(r:Qq)(s:fJ):Qt:=if r.fill=J then⟨1,0,0,[],0,0,0⟩else if r.dk=0\/fQ s<=r.len then⟨2,r.bc,r.offset,(ig s).map (· *r.dk),0,0,0⟩else⟨3,r.bc,r.offset,ig s,0,r.dk,r.len⟩
def Kr(r:Qq)(s:fJ):Qc:=⟨⟨Nab (I s) 0,s⟩,FJ r s⟩
def IY{r:Qq}{s:fJ}(hc:fY s=0)(d:∀n∈s,1<=n)(f:ze r):Us (gQ r,s)=O (Pr<|FJ r s):=by
 obtain⟨e,j,l⟩:=fT hc;have g:Sm (I s):=hZ (show I s<=1000 by omega);simp only[Us,qA hc d,Qf,gQ,kL s g,jf,hc,ak];unfold FJ;by_cases c:r.fill=J
 .simp only[c,ak];rfl
 .by_cases h0:r.dk=0
  .simp only[c,ai,h0,ak,Qf,true_or,Em hc d (k:=0) y9];rfl
  .by_cases e:fQ s<=r.len
   .simp only[c,ai,h0,e,decide_true,ak,Qf,or_true,Em hc d f.s];rfl
   .simp only[c,ai,h0,e,y5,Qf,j6,or_self];rfl
def Qi0{r:Qq}{s:fJ}{n:Nat}(hc:fY s=0)(c:∀n∈s,1<=n)(g:ze r)(hn:1<=n)(hl:r.len=(n:Int))(j:S4 [r]=O (n:Int)):ZK ([r],s)=O [Kr r s]:=by
 obtain⟨e,m,p⟩:=fT hc;have k:Sm (I s):=hZ (show I s<=1000 by omega);have q:=gu c;have k1:¬(fQ s=0):=by omega
 have k2:¬((n:Int)=0):=by omega
 have k3:((I ([r]:List Qq):Nat):Int)=1:=rfl;have l:idx [r] 0=O r:=rfl;simp only[ZK,lu s k,jf,hc,ak,Qf,k1,ai,j,k2,k3,l];unfold Kr FJ;by_cases f:r.fill=J
 .simp only[f,ak,pI s _ (show I s<=600 by omega),Qf]
 .simp only[f,ai,AQ hc c g.s,AQ hc c (show -200<=(1:Int)/\(1:Int)<=200 by omega),Qf];by_cases h0:r.dk=0
  .simp only[h0,ne_eq,not_true,ai,Qf,j6,true_or,ak,pI s _ (show I s<=600 by omega)]
  .by_cases e:fQ s<=r.len
   .have:¬(fQ s>(n:Int)):=by omega
    simp only[h0,ne_eq,not_false_eq_true,ak,this,y5,Qf,j6,ai,e,or_true,pI s _ (show I s<=600 by omega)]
   .have:fQ s>(n:Int):=by omega
    have V:(ig s).map (· *(1:Int))=ig s:=by simp
    have d:¬(fQ s<=(n:Int)):=by omega
    simp only[h0,ne_eq,not_false_eq_true,ak,this,decide_true,Qf,d,or_self,ai,j6,pI s _ (show I s<=600 by omega),V,hl]
def Ux{r:Qq}{s:fJ}(hc:fY s=0)(c:∀n∈s,1<=n)(d:ze r):Yu ([gQ r],s)=O [kO (Kr r s)]:=by
 obtain⟨l,m,p⟩:=fT hc;have e:Sm (I s):=hZ (show I s<=1000 by omega);have q:=gu c;have k1:¬(fQ s=0):=by omega
 have k3:((I ([gQ r]:List Qw):Nat):Int)=1:=rfl;have f:((1:Int)==0)=U:=by decide
 have j:idx [gQ r] 0=O (gQ r):=rfl;obtain⟨g,k⟩:=tO s y9;simp only[Yu,kL s e,jf,hc,ak,Qf,k1,ai,k3,f,j,j6,k,IY hc c d];rfl
def PI{l:List Qi}{r:Qq}{s:fJ}{N:Nat}(hl:I l<=600)(g:fQ s<=300)(hR:gV l 0 [r])(hc:fY s=0)(q:∀n∈s,1<=n)(D:(N:Int)=fQ s):Fo s (pS l) N 0 [Kr r s]:=by
 obtain⟨u,E,P⟩:=fT hc;obtain⟨m,⟨Q,F⟩,⟨k1,k2⟩,v,d,j⟩:=hR;simp only[gV]at j;have V:m=I l:=by omega
 subst V;have c:=lK s
 have w:∀f:Nat,pS l f=qq r (f%I l):=λf=>by have:=v (f%I l) (br _ k1);rw[zZ]at this;exact this
 unfold Kr;refine uG q D _ ?_ ?_ (λf R=>?_)
 .unfold FJ;split
  .exact qi u
  .split
   .refine B4 u ⟨by have:=d.b;simp only;omega,by have:=d.o;simp only;omega,by simp,by simp,by simp,by simp[c];omega,λx t=>?_⟩ (by simp[c]);simp only[aq]at t;obtain⟨y,G,rfl⟩:=t;exact PO g q d.s y G
   .refine Pl u ⟨by have:=d.b;simp only;omega,by have:=d.o;simp only;omega,by simp,by have:=d.s;simp only;omega,by simp only;omega,by simp only[c];omega,λx t=>?_⟩ c y9;have:=ya q E x t;omega
 .unfold FJ;split
  .simp
  .split
   .simp[c];omega
   .simp only[c];omega
 .rw[w];have e:I (jy s (f:Int))=I s:=lg _ _;have k:=Ek q (f:Int) y9 y9;have H:=br f k1;unfold FJ qq;by_cases p:r.fill=J
  .simp only[p,ak];exact r7 _ _ (by rw[e];omega)
  .simp only[p,ai,j6];have K:=d.o;have z:=d.s;by_cases C:r.dk=0\/fQ s<=r.len
   .rw[aj C]
    have L:r.dk*(f:Int)=((f%I l:Nat):Int)*r.dk:=by
     rcases C with h0|h0
     .rw[h0];simp
     .rw[cq y9,bI]
    have M:=qR (a:=((f%I l:Nat):Int)) (b:=r.dk) (A:=600) (B:=200) y9 y9 z.1 z.2;refine FC _ (by simp[c];omega) (by rw[e];omega) ?_ y9 y9;rw[wT,k,L]
   .rw[ae C,F];exact SN _ (by rw[c];omega) (by rw[e];omega) k y9 ⟨k1,hl⟩ K z rfl
def PX{l:List Qi}{R:List Qq}(hl:I l<=600)(hn:1<=I l)(hR:gV l 0 R):Fo [] (pS l) 1 0 [qE (gG R 0)]:=by
 obtain⟨g,j,k,e,c,m⟩:=kF hR (show 0<I l by omega);rw[rE hR]at e;refine uG (s:=[]) (λn h=>by simp at h) (by simp[iC]) _ ?_ ?_ (λf d=>?_)
 .split
  .exact qi (n:=0) y9
  .refine B4 (n:=0) y9 ⟨by have:=c.b;simp only;omega,by have:=c.o;simp only;omega,by simp,by simp,by simp,by simp,by simp⟩ rfl
 .split <;>simp
 .have:f=0:=by omega
  subst this
  have hc:pS l 0=qq (gG R 0) 0:=by unfold pS;rw[Nat.zero_mod];exact e
  rw[hc];unfold qq;by_cases d:(gG R 0).fill=J
  .simp only[d,ak];exact r7 _ _ (by simp[jy])
  .simp only[d,ai,j6];have:=c.o;exact FC _ yB (by simp[jy]) (by simp[iB]) y9 y9
def EB{l:List Qi}{R:List Qq}(hl:I l<=600)(hR:gV l 0 R)(K:2<=I R):ZK (R,[])=O [qE (gG R 0)]:=by
 have C:=rm hR;have hn:1<=I l:=by omega
 obtain⟨D,E,T,X,L,Y⟩:=kF hR (show 0<I l by omega);have hc:fY []=0:=by decide
 have M:Sm (I ([]:fJ)):=hZ (show([]:fJ).length<=1000 by simp);have k1:¬((1:Int)=0):=by decide
 have k2:¬((I l:Int)=0):=by omega
 have k3:¬((I R:Int)=1):=by omega
 have q:ZZ []=O [[]]:=Nq (s:=[]) yB yD;have k:=rE hR;have c:pz 0 (I l:Int)=O 0:=by rw[nm (aG _) y9,fw]
 have r:=tP hl hR (show 0<I l by omega);rw[k]at r;have d:Ri (R,0)=O 0:=r;rw[k]at D;have e:idx R 0=O (gG R 0):=kH D
 have u:∀(g t:Nat),ZV ([],[[]],0,R,(I l:Int),t,[],0,0,[],[],g,[],0)=O (g,[]):=λg t=>by
  rw[ZV]
  have:¬((0:Int)<(I ([]:fJ):Int)):=by simp
  simp only[this,ai]
 have f:∀(g:Nat) (hi:fJ) (t n:Nat) (out:List Qc),QJ ([[]],(I l:Int),R,[],g,hi,t,n,out,W<|0+1)=O (g,hi,t,n,out):=λg hi t n out=>by
  rw[QJ]
  have:¬(W ((0:Int)+1)<(I ([[]]:List fJ):Int)):=by decide
  simp only[this,ai]
 have v:((0:Int)<(I ([[]]:List fJ):Int)):=by decide
 have j:W ((I ([]:fJ):Int) - 1)<0:=by decide
 have y:¬(W ((I ([]:fJ):Int) - 1)>=0):=by decide
 have w:idx ([[]]:List fJ) 0=O []:=rfl;have g1:QN (I ([]:fJ)=0)=O ():=fX rfl;have F:QN True=O ():=fX trivial;have z:kj 8 (I ([]:fJ):Int) (0:Int)=O []:=qB (n:=0) y9;have A:(gG R 0).er=0:=by rw[k]at E;simpa using E
 have N:W (0 - (gG R 0).er)=0:=by rw[A];decide
 have P:W (0*(gG R 0).dk)=0:=by rw[dE];decide
 have Q:W ((gG R 0).offset+0)=(gG R 0).offset:=by have:=L.o;rw[eJ];exact gE y9 y9
 have x:∀p:Qc,Gn 120 (λ(G:Qc) (S:fJ)=>(⟨⟨G.box.lo,S⟩,G.be⟩:Qc)) [] [] p=O [p]:=λp=>Co yB
 have m:∃g t,QJ ([[]],(I l:Int),R,[],0,[],0,0,[],0)=O (g,[],t,0,[qE (gG R 0)]):=by
  rw[QJ];unfold qE;by_cases H:(gG R 0).fill=J
  .simp only[v,ak,c,Qf,d,j,w,g1,F,u,e,H,reduceCtorEq,ai,x,f];exact⟨_,_,rfl⟩
  .have B:(gG R 0).fill=U:=by simpa using H
   simp only[v,ak,c,Qf,d,j,w,g1,F,u,e,B,reduceCtorEq,ai,x,f,z,y,N,P,Q,j6];exact⟨_,_,rfl⟩
 obtain⟨g,t,m⟩:=m;simp only[ZK,lu _ M,jf,hc,ak,iC,Qf,k1,ai,xh hl hR,k2,k3,j6,q,m,g1];rfl
def TD(l:List Qi)(f:Nat):Qi:=if I l=0 then⟨J,0,0⟩else pS l f
def KD{l:List Qi}{s:fJ}{N:Nat}(hl:I l<=600)(t:fQ s<=300)(hc:∀c∈l,oY c)(g:fY s=0)(p:∀n∈s,1<=n)(x:(N:Int)=fQ s)(u:ZZ s=O (iF s)):
  ∃P,Yu ((Kz l).map gQ,s)=O (P.map kO)/\ZK (Kz l,s)=O P/\Fo s (TD l) N 0 P:=by
 obtain⟨H,h2,M⟩:=fT g;have K:Sm (I s):=hZ (show I s<=1000 by omega);have hP:=gu p;have k1:¬(fQ s=0):=by omega
 by_cases h0:I l=0
 .have Q:=aw h0;subst Q;have y:Kz []=[]:=rfl;rw[y];refine⟨[Rr s],?_,?_,?_⟩
  .have k2:((I (([]:List Qq).map gQ):Int)==0)=J:=rfl;simp only[Yu,kL s K,jf,g,ak,Qf,k1,ai,k2,yi g];rfl
  .have e:=wO [] yB [] [] 0 (j7 _) (zQ _) rfl;have e':Yt ([],0,0)=O 0:=e;simp only[ZK,lu s K,jf,g,ak,Qf,k1,ai,S4,e',pI s _ (show I s<=600 by omega)];rfl
  .refine uG p x _ (qi H) yB (λf hf=>?_);exact r7 _ _ (by rw[lg];omega)
 .have hn:1<=I l:=by omega
  have hR:gV l 0 (Kz l):=Ep hc (I l) 0 (zQ _) y9;have z:TD l=pS l:=funext λf=>by unfold TD;rw[ae h0]
  rw[z];generalize S:Kz l=R at hR |-
  match R,hR with
  |[],hR=>simp only[gV]at hR;omega
  |[r],hR=>
   have T:=xh hl hR;have A:=hR;obtain⟨m,⟨e1,W⟩,⟨q1,q2⟩,X,L,v⟩:=A;simp only[gV]at v;have V:m=I l:=by omega
   subst V;exact⟨[Kr r s],Ux g p L,Qi0 g p L hn W T,PI hl t hR g p x⟩
  |r::D::R,hR=>
   have j:2<=I (r::D::R):=by simp
   rcases bU s with rfl|⟨a,w,rfl⟩
   .have:N=1:=by rw[iC]at x;omega
    subst this;exact⟨[qE (gG (r::D::R) 0)],CW hl hR j,EB hl hR j,PX hl hn hR⟩
   .simp only[cw]at *;have hw:=p w yB;have k:∀n∈a,1<=n:=λn hn=>p n (by simp[hn])
    have Y:=gu k;obtain⟨w',rfl⟩:∃w':Nat,w=(w':Int):=⟨w.toNat,by omega⟩;obtain⟨B,hB⟩:∃B:Nat,fQ a=(B:Int):=⟨(fQ a).toNat,by omega⟩;have hPP:fQ (a++[(w':Int)])=((B*w':Nat):Int):=by rw[kB,hB,gx,iC,bL];simp
    have E:N=B*w':=by omega
    subst E
    have vb:fY a=0:=by
     have hle:fQ a<=65536:=by have hb1:B*1<=B*w':=fB _ y9;omega
     unfold fY
     have n1:mG a=U:=by
      cases F:mG a with
      |false=>rfl
      |true=>
       obtain⟨d,G,q⟩:=dv.1 F;have:=k d G;simp at q;omega
     have n2:mK a=U:=by
      cases F:mK a with
      |false=>rfl
      |true=>
       obtain⟨d,G,q⟩:=dv.1 F;have:=(M d (by simp[G])).2;simp at q;omega
     rw[n1,ae yB,ae];rw[n2];simp at H
     rintro(c|c|c)
     .omega
     .cases c
     .omega
    have C:Ctx l (r::D::R) a w' B:=⟨hl,hR,hn,by omega,g,vb,k,hB,by omega⟩;refine⟨_,Ev hl hR j y9 g vb k hB y9,D6 C j u,?_⟩;have:=DA C B 0 y9
    rwa [eK]at this
def W_W(x:Int):W (W x)=W x:=by simpa using so x 0
structure A3 (a:Qj):Prop where
 b:W a.ek=a.ek
 s:W a.ed=a.ed
 m:a.bx=3->1<=a.ep/\a.ep<=1000000000000
 l:I a.bm<=1000
def A3.n{a:Qj}(h:A3 a):FT a:=And.intro h.b h.s
def K1{a:Qj}{n:Int}{st:fJ}(h:A3 a)(c:I st<=1000):A3 (nt a n st):=by
 unfold nt;split
 .exact h
 .split
  .exact⟨h.b,W_W _,h.m,c⟩
  .exact⟨W_W _,h.s,h.m,c⟩
def yI{a:Qj}{k:Nat}{n:Int}(h:A3 a):A3 (mw a k n):=K1 h h.l
def R5{a:Qj}{k:Nat}{n:Int}(h:A3 a):A3 (tu a k n):=K1 h (by simpa using h.l)
def G4:∀(st:fJ) (a:Qj) (k:Nat),A3 a->A3 (lj a k st)
 |[],_,_,h=>h
 |n::st,a,k,h=>by rw[lj];exact G4 st _ _<|yI h
def Tn{a:Qj}{p:fJ}{r:Nat}(h:A3 a)(c:r<=600):A3 (p7 a p r):=by
 unfold p7;split
 .exact h
 .exact⟨h.b,h.s,h.m,by simp only[ny,zK];omega⟩
def PG(b:Qo):A3 (ll b).be:=⟨by show W 0=0;decide,by show W 0=0;decide,λh=>absurd (show(1:Int)=3 from h) yD,by simp[ll,lN]⟩
def Nw{b:Int}{s:fJ}(h:I s<=600):A3 (lb b s).be:=⟨by show W 0=0;decide,by show W 0=0;decide,λh=>absurd (show(2:Int)=3 from h) yD,by show(ig s).length<=1000;rw[lK];omega⟩
def Bh(x:Int)(s t:fJ):W (x+nD s t 0)=W (x+iB s t):=by have:=wS s t 0;exact L3 y9
def D1{a b:Int}(d:1<=b):(if a.tmod b<0 then a.tmod b+b else a.tmod b)=a%b:=by
 have c:=Int.mul_tdiv_add_tmod a b;have e:=Int.tmod_lt_of_pos a (show 0<b by omega);have f:=dT a (show 0<b by omega);generalize a.tmod b=t at *;generalize a.tdiv b=q at *;subst c;by_cases g:t<0
 .rw[aj g,show b*q+t=(t+b)+b*(q - 1) by rw[eX,bL];omega,ej,b9 y9 y9]
 .rw[ae g,show b*q+t=t+b*q by omega,ej,b9 y9 y9]
def Rg{a:Qj}{i:fJ}(g:la (I i) a)(hi:I i<=600)(hn:A3 a):∃v ok,X7 (kA a,i)=O (v,ok)/\vV a i=(if ok=U then(J,0,0)else(U,a.bc,v)):=by
 have V:=hn.m;have d:=hn.l;obtain⟨k,n,ba,s,c,sp,md⟩:=a;simp only at d;have e:T4 (s,i)=O (nD s i 0):=wu y9 y9;rcases g with h|⟨h|h,p⟩<;>simp only at h<;>subst h
 .refine⟨0,U,?_,rfl⟩;simp only[X7,e,Qf,kA,ak]
 .refine⟨W<|ba+nD s i 0,J,?_,?_⟩
  .simp only[X7,e,Qf,kA,show¬(2:Int)=1 by decide,ai,ak]
  .simp only[vV,show¬(2:Int)=1 by decide,show¬(2:Int)=3 by decide,ai,Bh,jO]
 .obtain⟨m1,m2⟩:=V rfl;simp only at m1 m2;have f:pz (W<|c+nD s i 0) md=O ((W<|c+nD s i 0).tmod md):=ae y9;have t:=D1 (a:=W (c+iB s i)) m1;have q:=dT (W<|c+iB s i) (show 0<md by omega);rw[Bh]at f
  have j:(if(W<|c+iB s i).tmod md<0 then O (W<|(W<|c+iB s i).tmod md+md)else O ((W<|c+iB s i).tmod md))=O (W (c+iB s i)%md):=by
   rw[<-t];split
   .rw[kP y9 y9]
   .rfl
  refine⟨W<|ba+W (sp*(W (c+iB s i)%md)),J,?_,?_⟩
  .simp only[X7,e,Qf,kA,show¬(3:Int)=1 by decide,show¬(3:Int)=2 by decide,ai,Bh,f,j]
  .simp only[vV,show¬(3:Int)=1 by decide,ak,ai,jO]
def MD(x:Bool×Int×Int):Qi:=⟨x.1,x.2.1,x.2.2⟩
def Lh{i:fJ}(hi:I i<=600){v:Bool×Int×Int}:∀(l p:List Qa),I p+I l<=50000->(∀x∈l,I x.box.lo=I i/\(I x.box.hi)=I i/\la (I i) x.be/\A3 x.be)->(∀x∈l,ij i x=J->vV x.be i=v)->(∃x∈l,ij i x=J)->
  Xe ((p++l).map gK,i,(I p:Int))=O (.inl v)
 |[],p,h,g,j,k=>by obtain⟨x,q,_⟩:=k;simp at q
 |x::l,p,h,g,j,k=>by
  rw[Xe];have g1:((I p:Int)<(I ((p++x::l).map gK):Int)):=by simp;omega
  have r:idx ((p++x::l).map gK) (I p:Int)=O (gK x):=kH yB;obtain⟨k1,k2,k3,s⟩:=g x (jM ..);have e:Rm ((gK x).box,i)=O (ij i x):=Md (b:=(gK x).box) k1 k2 hi;have t:I p<=50000:=by simp at h;omega
  have u:W ((I p:Int)+1)=(I (p++[x]):Int):=jq y9;simp only[g1,ak,r,Qf,e];by_cases c:ij i x=J
  .obtain⟨w,ok,z,A⟩:=Rg k3 hi s;have m:X7 ((gK x).be,i)=O (w,ok):=z;have f:=j x (jM ..) c;rw[A]at f;simp only[c,ak,m,Qf];cases ok with
   |false=>rw[aj rfl]at f |-;rw[<-f]
   |true=>rw[ae yD]at f |-;rw[<-f];rfl
  .have n:=Lh hi l (p++[x]) (by simp at h |-;omega) (λy d=>g y<|jG _ d) (λy d=>j y<|jG _ d) (by
    obtain⟨y,d,hc⟩:=k;rcases ar.1 d with rfl|d
    .exact absurd hc c
    .exact⟨y,d,hc⟩)
   rw[<-Qs]at n;simp only[c,j6,ai,u,n]
def qd(c:Qb)(x:Qa):Prop:=td c x/\A3 x.be
def SC{c:Qb}{l:List Qa}(h:Inv (qd c) c.aa l)(hc:fY c.aa=0)(j:fQ c.aa<=20000){i:fJ}(hi:iz c.aa i=J):TX (l.map gK,i)=O (MD<|oG c i,J):=by
 obtain⟨c1,c2,n⟩:=fT hc;have k:=h.pb hc j;have f:=iv hi;have g:∃x∈l,ij i x=J:=dg.1 (by rw[h.s4 i hi];omega)
 have e:=Lh (i:=i) (v:=oG c i) y9 l [] (by simpa using by omega) (λx d=>by obtain⟨l1,l2⟩:=ki (h.box x d);have:=h.acc x d;rw[f]at this;exact⟨by omega,by omega,this,(h.ss x d).2⟩) (λx d m=>(h.ss x d).1 i hi m) g
 have e':Xe (l.map gK,i,0)=O (.inl<|oG c i):=e;simp only[TX,e',Qf];rfl
def Io{s:fJ}{L:List Qc}{f:fJ->Bool×Int×Int}(d:∀i,iz s i=J->TX (L,i)=O (MD<|f i,J)):∀(A p:List fJ) (out:List Qi),(∀i∈A,iz s i=J)->I p+I A<=50000->I out=I p->
  Z9 (p++A,L,out,(I p:Int))=O (out++A.map λi=>MD<|f i)
 |[],p,out,h,c,e=>by rw[Z9];simp only[Q1,ai];simp
 |i::A,p,out,h,c,e=>by
  rw[Z9];have k:I p<=50000:=by simp at c;omega
  have g:=Io d A (p++[i]) (out++[MD (f i)]) (λj l=>h j<|jG _ l) (by simp at c |-;omega) (by simp[e]);rw[<-Qs]at g;have m:W ((I p:Int)+1)=(I (p++[i]):Int):=jq y9;simp only[QX,ak,Qv,Qf,d i<|h i<|jM ..];rw[gn yA y9,Qf,m,g];simp
def pJ{s:fJ}(h:∀n∈s,0<=n):∀i∈iF s,iz s i=J:=λi hi=>by obtain⟨j,d,rfl⟩:=bD hi;have hl:=kK h;have c:=gW h y9;have:=mf c j y9;rw[jC d]at this;rw[jS this];exact qp c y9 y9
def ke(c:Qb):List Qi:=(iF c.aa).map λi=>MD<|oG c i
def yq{c:Qb}{l:List Qa}(h:Inv (qd c) c.aa l)(hc:fY c.aa=0)(g:fQ c.aa<=20000)(d:ZZ c.aa=O (iF c.aa)):XW (c.aa,l.map gK)=O (ke c):=by
 obtain⟨c1,c2,j⟩:=fT hc;have hn:∀n∈c.aa,0<=n:=λn hn=>(j n hn).1
 have hl:=kK hn;have e:=Io (s:=c.aa) (L:=l.map gK) (f:=oG c) (λi hi=>SC h hc g hi) (iF c.aa) [] [] (pJ hn) yA rfl;have e':Z9 (iF c.aa,l.map gK,[],0)=O (ke c):=e;simp only[XW,d,Qf,e']
def oa:∀{s i:fJ},iz s i=J->jy s (iN s i)=i
 |[],[],_=>rfl
 |n::s,x::i,h=>by
  have c:iz s i=J:=by simp only[iz,jE]at h;exact h.2
  obtain⟨q0,q1⟩:=iy c;rw[iN,jy,fE,Int.add_mul_ediv_right _ _ y9,Int.ediv_eq_zero_of_lt q0 q1,Int.add_mul_emod_self_right,b9 q0 q1,oa c,dF]
 |[],_::_,h=>by simp[iz]at h
 |_::_,[],h=>by simp[iz]at h
def bdC(B:Int)(x:Bool×Int×Int):Prop:=(0<=x.2.1/\x.2.1<=100000)/\(0<=x.2.2/\x.2.2<=200)/\(x.1=J->x.2.1=0/\x.2.2=0)/\(x.1=U->x.2.1<B)
def Ie{B:Int}:bdC B (J,0,0):=⟨⟨by decide,by decide⟩,⟨by decide,by decide⟩,λ_=>⟨rfl,rfl⟩,λh=>by cases h⟩
section
variable{bs:List fJ}{m:Int}{G:Qb->Prop}
theorem Iv(p:GK bs m G)(L:I bs<=1000)(V:m<=200):∀(n:Nat) (c:Qb),uu c<=n->G c->∀i,iz c.aa i=J->bdC (I bs:Int) (oG c i)
 |0,c,h,_,_,_=>by have:=qx c;omega
 |n+1,c,h,u,i,hi=>by
  obtain⟨v,M,_⟩:=p.ns u;obtain⟨c1,c2,c3⟩:=fT v
  have sub:∀k∈c.ea,∀j,iz k.aa j=J->bdC (I bs:Int) (oG k j):=λk f j w=>by have:=uV f;exact Iv p L V n k y9 ((p c u).2.2 k f) j w
  have ns:∀k∈c.ea,fY k.aa=0:=λk f=>(p.ns<|(p c u).2.2 k f).1
  have N:=iv hi;cases p.vx u with
  |one E f=>
   rw[Cs E];have x:=(mE (p c u).1).2.1 E;have:=oz x;have P:=iy hi;refine⟨⟨?_,?_⟩,⟨P.1,?_⟩,(λh=>by cases h),λ_=>?_⟩
   .exact this.1
   .have:=(af.1 this.2).1;show c.bc<=100000
    omega
   .show iN c.aa i<=200
    omega
   .have:=(af.1 this.2).1;show c.bc<(I bs:Int)
    omega
  |uo k F f g t l=>
   rw[kT y9];have d:kg c=k.aa:=by unfold kg;rw[f]
   by_cases A:iz k.aa (nH i c.cx)=J
   .have es:gX c i=(0,nH i c.cx,J):=by unfold gX;rw[aj F,d,A];rfl
    rw[es];simp only[ak,f,bB,l8];exact sub k (by rw[f];simp) _ A
   .have es:(gX c i).2.2=U:=by unfold gX;rw[aj F,d];exact(aS _).mp A
    rw[es];exact Ie
  |rev k Q f g t l=>
   have d:kg c=c.aa:=by unfold kg;rw[f];exact g
   have es:gX c i=(0,i.set c.ch.toNat<|c.aa.getD c.ch.toNat 0 - 1 - i.getD c.ch.toNat 0,J):=by unfold gX;rw[ae y9,aj Q,d]
   rw[kT y9,es];simp only[ak,f,bB,l8];have r:=lC hi c.ch.toNat l;refine sub k (by rw[f];simp) _ ?_;have:=mh (k:=c.ch.toNat) (n:=c.aa.getD c.ch.toNat 0) (y:=c.aa.getD c.ch.toNat 0 - 1 - i.getD c.ch.toNat 0) hi y9 y9;rw[ka (ir l)]at this;rw[g];exact this
  |vk k R f g t l S t5 t6=>
   have d:kg c=c.aa:=by unfold kg;rw[f];exact g
   have es:gX c i=(0,i.set c.ch.toNat<|(i.getD c.ch.toNat 0+c.cS)%c.aa.getD c.ch.toNat 0,J):=by unfold gX;rw[ae y9,ae y9,aj R,d]
   rw[kT y9,es];simp only[ak,f,bB,l8];have r:=lC hi c.ch.toNat l;refine sub k (by rw[f];simp) _ ?_;have:=mh (k:=c.ch.toNat) (n:=c.aa.getD c.ch.toNat 0) (y:=(i.getD c.ch.toNat 0+c.cS)%c.aa.getD c.ch.toNat 0) hi (bM _ y9) (bC _ y9);rw[ka (ir l)]at this;rw[g];exact this
  |x7 k T f g t l=>
   have es:gX c i=(0,ot c.eh i,J):=by unfold gX;rw[ae y9,ae y9,ae y9,aj T];rfl
   rw[kT y9,es];simp only[ak,f,bB,l8];refine sub k (by rw[f];simp) _ (uK (by simp[ot,g]) λj w=>?_);have s:j<I c.eh:=by omega
   have e:(ot c.eh i).getD j 0=i.getD (c.eh.getD j 0).toNat 0:=by rw[gP (by simpa[ot]using s),gP s];simp[ot]
   have B:=t (c.eh.getD j 0) (by rw[gP s];exact zD _);have r:=lC hi (c.eh.getD j 0).toNat B.2;have:=l j w;rw[e];omega
  |nv k H f=>
   have d:kg c=k.aa:=by unfold kg;rw[f]
   have C:=ns k (by rw[f];simp);obtain⟨d1,d2,W⟩:=fT C;rw[kT y9];by_cases z:fQ k.aa=0
   .have es:(gX c i).2.2=U:=by unfold gX;rw[ae y9,ae y9,ae y9,ae y9,aj H,d,aj z]
    rw[es];exact Ie
   .have es:gX c i=(0,jy k.aa<|iN c.aa i%fQ k.aa,J):=by unfold gX;rw[ae y9,ae y9,ae y9,ae y9,aj H,d,ae z]
    rw[es];simp only[ak,f,bB,l8];have K:=gW (λn hn=>(W n hn).1) z;have hP:=gu K;exact sub k (by rw[f];simp) _ (qp K (bM _ y9)<|bC _ y9)
  |cat k k2 h7 f g t l S X Y f3=>
   have d:kg c=k.aa:=by unfold kg;rw[f]
   have r:=lC hi c.ch.toNat t;have hf3:c.aa.getD c.ch.toNat 0=k.aa.getD c.ch.toNat 0+k2.aa.getD c.ch.toNat 0:=by rw[jB,f3];rfl
   rw[kT y9];by_cases q:i.getD c.ch.toNat 0<k.aa.getD c.ch.toNat 0
   .have es:gX c i=(0,i,J):=by unfold gX;rw[ae y9,ae y9,ae y9,ae y9,ae y9,d,aj q]
    rw[es];simp only[ak,f,bB,l8];have:=mh (k:=c.ch.toNat) (n:=k.aa.getD c.ch.toNat 0) (y:=i.getD c.ch.toNat 0) hi y9 q;rw[X,ka<|ir y9]at this;exact sub k (by rw[f];simp) _ this
   .have es:gX c i=(1,i.set c.ch.toNat<|i.getD c.ch.toNat 0 - k.aa.getD c.ch.toNat 0,J):=by unfold gX;rw[ae y9,ae y9,ae y9,ae y9,ae y9,d,ae q]
    have D:Int.toNat 1=1:=rfl;rw[es];simp only[ak,f,D,l8];have:=mh (k:=c.ch.toNat) (n:=k2.aa.getD c.ch.toNat 0) (y:=i.getD c.ch.toNat 0 - k.aa.getD c.ch.toNat 0) hi y9 y9;rw[Y]at this;exact sub k2 (by rw[f];simp) _ this
end
def CN:∀{a b:fJ},I a=I b->tp a b=J->iH a b<0
 |x::a,y::b,hl,h=>by
  simp only[tp]at h;simp only[iH];by_cases c:x<y
  .rw[aj c];decide
  .by_cases e:x=y
   .rw[ae (by simpa using e)]at h;rw[ae c,ae y9];exact CN (by simpa using hl) h
   .rw[aj e]at h;exact absurd (of_decide_eq_true h) c
 |[],_,_,h=>by simp[tp]at h
 |_::_,[],_,h=>by simp[tp]at h
section
variable{s:fJ}{cf:Nat->Qi}{N:Nat}
theorem CR(c:(N:Int)=fQ s):∀{P:List Qc} {F:Nat},Fo s cf N F P->∀f:Nat,f<F->f<N->(P.map kO).countP (ij<|jy s (f:Int))=0
 |[],F,_,f,_,_=>rfl
 |p::P,F,⟨z,hc,j,d⟩,f,h,g=>by
  have:=hc.inb f y9
  have e:ij (jy s (f:Int)) (kO p)=U:=by
   show kh p.box.lo p.box.hi _=U
   rw[this];exact y3 y9
  rw[zV,dp (by rw[e];decide)];exact CR c d f y9 g
theorem G7(d:(N:Int)=fQ s):∀{P:List Qc} {F:Nat},Fo s cf N F P->∀f:Nat,F<=f->f<N->(P.map kO).countP (ij<|jy s (f:Int))=1
 |[],F,h,f,k,c=>by simp only[Fo]at h;omega
 |p::P,F,⟨z,hc,l,j⟩,f,h,c=>by
  have:=hc.inb f y9;by_cases g:f<F+z
  .have e:ij (jy s (f:Int)) (kO p)=J:=by
    show kh p.box.lo p.box.hi _=J
    rw[this];exact decide_eq_true ⟨h,g⟩
   rw[zV,cK e,CR d j f g c]
  .have e:ij (jy s (f:Int)) (kO p)=U:=by
    show kh p.box.lo p.box.hi _=U
    rw[this];exact y3 y9
   rw[zV,dp (by rw[e];decide)];exact G7 d j f y9 c
theorem GN(d:∀n∈s,1<=n)(g:(N:Int)=fQ s):∀{P:List Qc} {F:Nat},Fo s cf N F P->jw (P.map kO)=J
 |[],_,_=>rfl
 |[p],_,_=>rfl
 |p::q::P,F,⟨z,hc,m,e⟩=>by
  have f:=GN d g e;obtain⟨r,c,j,k⟩:=e;have Hb:=hc.Hb;have l:=c.Hb;simp only[zV,jw,jE,zE]at f |-;refine⟨?_,f⟩;show iH p.box.lo q.box.lo<0
  rw[hc.lo,c.lo];refine CN (by rw[lg,lg]) ?_;exact tq d y9 y9 y9
end
def PK(x:Qa):kO (gK x)=x:=rfl
def Rc(x:Qc):gK (kO x)=x:=rfl
def TC(P:List Qc):(P.map kO).map gK=P:=by
 rw[zG]
 have:(gK∘ kO)=id:=funext Rc
 rw[this,cD]
def oA(l:List Qa)(s0 s:fJ):List Qa:=if s0=s then l else(((XW (s0,l.map gK)).bind λo=>(Tw o).bind λr=>ZK (r,s)).getD []).map kO
def K0{a:Qt}{n:Nat}(h:zn a n):la n (Pr a):=h.k
def Se{a:Qt}{n:Nat}(h:zn a n):A3 (Pr a):=by
 have c:=h.s;refine⟨?_,?_,λd=>⟨h.m d,?_⟩,?_⟩
 .show W a.ek=a.ek;have:=c.o;exact gE y9 y9
 .show W a.ed=a.ed;rw[c.t];decide
 .show a.ep<=1000000000000;have:=c.m.2;omega
 .show (I a.bm)<=1000;exact c.l
section
variable{bs:List fJ}{m:Int}{G:Qb->Prop}
theorem DD{c k:Qb}(e:c.bx=6)(f:c.ea=[k])(i:fJ):oG c i=if fQ k.aa=0 then(J,0,0)else oG k (jy k.aa<|iN c.aa i%fQ k.aa):=by
 have d:kg c=k.aa:=by unfold kg;rw[f]
 rw[kT y9];by_cases z:fQ k.aa=0
 .have es:(gX c i).2.2=U:=by unfold gX;rw[ae y9,ae y9,ae y9,ae y9,aj e,d,aj z]
  rw[es,aj z];rfl
 .have es:gX c i=(0,jy k.aa<|iN c.aa i%fQ k.aa,J):=by unfold gX;rw[ae y9,ae y9,ae y9,ae y9,aj e,d,ae z]
  rw[es,ae z];simp only[ak,f,bB,l8]
theorem Ns{c k:Qb}(g:c.bx=6)(j:c.ea=[k])(d:k.aa=c.aa){l:List Qa}(h:Inv (qd k) k.aa l):Inv (qd c) c.aa l:=by rw[d]at h;refine⟨h.box,h.acc,λx e=>⟨λi hi m=>?_,(h.ss x e).2⟩,h.s4,h.HV⟩;have f:=iy hi;rw[DD g j i,d,ae y9,b9 f.1 f.2,oa hi];exact(h.ss x e).1 i (by rw[d];exact hi) m
theorem OZ(c:Qb)(hn:∀n∈c.aa,1<=n){f:Nat}(d:(f:Int)<fQ c.aa):ce (ke c) f=MD (oG c<|jy c.aa (f:Int)):=by have:=mf hn f d;unfold ce ke;rw[jB,jD,this];rfl
theorem uk(R:GK bs m G)(hb:I bs<=1000)(V:m<=200)(t:∀c,G c->ZZ c.aa=O (iF c.aa)){c k:Qb}(T:G c)(h6:c.bx=6)(hk:c.ea=[k]){l:List Qa}(h:Inv (qd k) k.aa l):
  ∃P,XW (k.aa,l.map gK)=O (ke k)/\Tw (ke k)=O (Kz<|ke k)/\ZK (Kz<|ke k,c.aa)=O P/\Inv (qd c) c.aa (P.map kO)/\(∀p∈P,zn p.be<|I c.aa)/\TS ((ke k).map oT)=O ((Kz<|ke k).map gQ)/\Yu ((Kz<|ke k).map gQ,c.aa)=O (P.map kO)/\(∀x∈ke k,oY x)/\(I<|ke k)=(fQ k.aa).toNat:=by
 have y:=(R c T).2.2 k (by rw[hk];simp);obtain⟨hc,hpc,hlc⟩:=R.ns T;obtain⟨H,hpk,hlk⟩:=R.ns y;obtain⟨c1,c2,c3⟩:=fT hc;obtain⟨d1,d2,d3⟩:=fT H;have A:∀n∈k.aa,0<=n:=λn hn=>(d3 n hn).1
 have e1:=yq h H y9 (t k y)
 have K:I (ke k)=(fQ k.aa).toNat:=by unfold ke;rw[jZ];have:=kK A;omega
 have hl:I (ke k)<=600:=by omega
 have e:∀x∈ke k,oY x:=λx d=>by obtain⟨i,hi,rfl⟩:=aq.1 d;have q:=Iv R hb y9 _ k (j7 _) y i (pJ A i hi);exact⟨q.1,q.2.1,q.2.2.1⟩
 have e2:=S5 hl e;have e4:=Sb hl e;by_cases z:fQ c.aa=0
 .have hS:Sm (I c.aa):=hZ (show I c.aa<=1000 by omega);refine⟨[],e1,e2,?_,?_,λp B=>by simp at B,e4,?_,e,K⟩
  ·     simp only[ZK,lu _ hS,jf,hc,z,ak,Qf]
  .exact⟨λx d=>by simp at d,λx d=>by simp at d,λx d=>by simp at d,λi hi=>by have:=iy hi;omega,rfl⟩
  .simp only[Yu,kL _ hS,jf,hc,z,ak,Qf,yi hc];rfl
 .have B:=gW (λn hn=>(c3 n hn).1) z;have hP:=gu B;obtain⟨N,W⟩:∃N:Nat,(N:Int)=fQ c.aa:=⟨(fQ c.aa).toNat,by omega⟩;obtain⟨P,e5,e3,C⟩:=KD hl y9 e hc B W (t c T);refine⟨P,e1,e2,e3,?_,λp B=>by obtain⟨F,z,hc⟩:=H5 C p B;exact hc.acc,e4,e5,e,K⟩
  have g:∀x∈P.map kO,∃p F z,x=kO p/\VK c.aa (TD<|ke k) p F z/\F+z<=N:=λx d=>by
   obtain⟨p,r,rfl⟩:=aq.1 d;clear e3 e5 d;generalize 0=F0 at C;induction P generalizing F0 with
   |nil=>simp at r
   |cons q P ih=>
    obtain⟨z,hc,hz,C⟩:=C;rcases ar.1 r with rfl|r
    .exact⟨_,F0,z,rfl,hc,hz⟩
    .exact ih r _ C
  refine⟨λx d=>?_,λx d=>?_,λx d=>?_,λi hi=>?_,GN B W C⟩
  .obtain⟨p,F,z,rfl,hc,_⟩:=g x d;exact hc.box
  .obtain⟨p,F,z,rfl,hc,_⟩:=g x d;exact K0 hc.acc
  .obtain⟨p,F,z,rfl,hc,hz⟩:=g x d;have L:A3 (kO p).be:=Se hc.acc;refine⟨λi hi hh=>?_,L⟩;have hd:=iy hi;obtain⟨f,S⟩:∃f:Nat,(f:Int)=iN c.aa i:=⟨(iN c.aa i).toNat,by omega⟩;have s:jy c.aa (f:Int)=i:=by rw[S];exact oa hi
   have D:=hc.inb f y9;rw[s]at D;have X:kh p.box.lo p.box.hi i=J:=hh;rw[X]at D;have M:=of_decide_eq_true D.symm;obtain⟨v,ok,g1,j⟩:=hc.y0 f M.1 M.2;rw[s]at g1;obtain⟨v',Y,g3,g4⟩:=Rg (a:=(kO p).be) (i:=i) (by have:=K0 hc.acc;rw[iv hi]at this;exact this) (by have:=iv hi;omega) L;have Q:X7 (p.be,i)=O (v',Y):=g3;rw[g1]at Q;obtain⟨rfl,rfl⟩:=Prod.mk.inj (jS Q);rw[g4,DD h6 hk i]
   have hcf:TD (ke k) f=if fQ k.aa=0 then⟨J,0,0⟩else MD (oG k<|jy k.aa<|iN c.aa i%fQ k.aa):=by
    unfold TD;by_cases E:fQ k.aa=0
    .rw[aj E,aj y9]
    .have u:=gW A E;have hPk:=gu u;rw[ae E,ae y9];unfold pS;have hml:=br f (show 0<I (ke k) by omega);rw[OZ k u y9]
     have:((f% I (ke k):Nat):Int)=iN c.aa i%fQ k.aa:=by rw[cF,S];congr 1;omega
     rw[this]
   rw[hcf]at j;by_cases E:fQ k.aa=0
   .rw[aj E]at j |-;cases ok with
    |false=>rfl
    |true=>
     rw[ae yD]at j;have:=bQ Qi.fill j;simp at this
   .rw[ae E]at j |-;generalize oG k (jy k.aa<|iN c.aa i%fQ k.aa)=w at j |-;obtain⟨w1,w2,w3⟩:=w;simp only[MD]at j;cases ok with
    |false=>
     rw[aj rfl]at j |-;injection j with q1 q2 q3
     rw[q1,q2,q3]
    |true=>
     rw[ae yD]at j |-;injection j with q1 q2 q3
     rw[q1,q2,q3];rfl
  .have hd:=iy hi;obtain⟨f,S⟩:∃f:Nat,(f:Int)=iN c.aa i:=⟨(iN c.aa i).toNat,by omega⟩;have s:jy c.aa (f:Int)=i:=by rw[S];exact oa hi
   have:=G7 W C f (zQ _) y9
   rwa [s]at this
end
def RR(o:fJ)(k:Int)(c:Nat):∀(s p:fJ) (v:Int),I p+I s<=600->(∀n∈s,1<=n)->1<=v->v*fQ s<=65536->Zf (p++s,c,o,k,v,(I p:Int))=O (v*fQ s)
 |[],p,v,h,d,g,f=>by rw[Zf];simp only[Q1,ai,Qf,j6,iC,bL]
 |x::s,p,v,h,d,g,f=>by
  rw[Zf];have j:=d x (jM ..);have l:=gu (λn hn=>d n<|jG _ hn);rw[gx,<-bo]at f;have b1:1<=v*x:=by have:=bn g j y9 y9;omega
  have b2:(v*x)*1<=v*x*fQ s:=aZ l y9;have m:W (v*x)=v*x:=kP y9 y9;have e:=RR o k c s (p++[x]) (v*x) (by simp at h |-;omega) (λn hn=>d n<|jG _ hn) b1 f;rw[<-Qs]at e;simp only[QX,ak,show v>0 by omega,decide_true,Qf,Qv,X8 h,m,e,gx,bo]
def Ru:∀(s p out:fJ) (c:Nat),I p+I s<=600->fY (p++s)=0->(∀n∈p++s,1<=n)->I out<=I p->∃g,QZ (p++s,c,out,(I p:Int))=O (g,out++ig s)
 |[],p,out,c,h,hc,f,l=>by rw[QZ];simp only[Q1,ai];simp only[ig,jV];exact⟨_,rfl⟩
 |x::s,p,out,c,h,hc,f,l=>by
  rw[QZ];have m:Sm (I (p++x::s)):=hZ (show(p++x::s).length<=1000 by simp at h |-;omega);have r:=gu f;have j:∀n∈s,1<=n:=λn hn=>f n (by simp[hn])
  have q:fQ s<=65536:=by have:=wH (a:=p++[x]) (b:=s) (λn hn=>f n (by simp at hn |-;rcases hn with h|h<;>simp[h])) j;rw[<-Qs]at this;have:=(fT hc).2.1;omega
  have d:Yn (p++x::s)=O (fQ (p++x::s)):=by rw[lu _ m,jf,aj hc]
  have k:=RR out (I p:Int) c s (p++[x]) 1 (by simp at h |-;omega) j y9 y9;rw[<-Qs,bX]at k;obtain⟨g,e⟩:=Ru s (p++[x]) (out++[fQ s]) (gb c ([fQ s]:fJ).isEmpty) (by simp at h |-;omega) (by rw[<-Qs];exact hc) (by rw[<-Qs];exact f) yA;rw[<-Qs]at e;simp only[QX,ak,d,Qf,show¬fQ (p++x::s)=0 by omega,ai,X8 h,k];rw[gn (by simp at h |-;omega) y9,Qf,e,ig];exact⟨g,by simp⟩
def Oo{s:fJ}(hc:fY s=0)(c:∀n∈s,1<=n):∃g,Yx s=O (g,ig s):=by obtain⟨f,j,k⟩:=fT hc;obtain⟨g,e⟩:=Ru s [] [] 0 yA hc c yB;have e':QZ (s,0,[],0)=O (g,ig s):=e;have d:Sm (I s):=hZ (show I s<=1000 by omega);exact⟨g,by simp only[Yx,nV s d,Qf,hc,ne_eq,not_true,ai,e']⟩
def Ro:∀(s p out:fJ) (c:Nat),I p+I s<=600->fY (p++s)=0->fQ (p++s)=0->I out<=I p->∃g,QZ (p++s,c,out,(I p:Int))=O (g,out++Nab (I s) 0)
 |[],p,out,c,h,hc,f,j=>by rw[QZ];simp only[Q1,ai];exact⟨_,by simp;rfl⟩
 |x::s,p,out,c,h,hc,f,j=>by
  rw[QZ];have k:Sm (I (p++x::s)):=hZ (show(p++x::s).length<=1000 by simp at h |-;omega);have d:Yn (p++x::s)=O (fQ (p++x::s)):=by rw[lu _ k,jf,aj hc]
  have l:∀w,Zf (p++x::s,c,out,(I p:Int),0,w)=O 0:=λw=>by
   rw[Zf]
   have:¬((0:Int)>0):=by decide
   by_cases g:w<(I (p++x::s):Int)
   .simp only[g,ak,this,y5,Qf,j6,ai]
   .simp only[g,ai,Qf,j6]
  obtain⟨g,e⟩:=Ro s (p++[x]) (out++[0]) (gb c ([0]:fJ).isEmpty) (by simp at h |-;omega) (by rw[<-Qs];exact hc) (by rw[<-Qs];exact f) yA;rw[<-Qs]at e;simp only[QX,ak,d,Qf,f,X8 h,l];rw[gn (by simp at h |-;omega) y9,Qf,e,zH,aB];exact⟨g,by simp⟩
def Dk:∀{s:fJ},gm (Nab (I s) 0) s=J->∀n∈s,1<=n
 |[],_,n,h=>by simp at h
 |x::s,f,n,h=>by
  rw[zH,aB,gm,jE,zE]at f;rcases ar.1 h with rfl|h
  .omega
  .exact Dk f.2 n h
def Lw{b:Int}{s:fJ}(hc:fY s=0):TN (b,s)=O ((if fQ s=0 then[]else[lb b s]).map gK):=by
 obtain⟨t,u,p⟩:=fT hc;have q:Sm (I s):=hZ (show I s<=1000 by omega);have k:JJ s=O ⟨Nab (I s) 0,s⟩:=by simp only[JJ,Cu (show I s<=600 by omega),Qf]
 by_cases z:fQ s=0
 .obtain⟨g,e⟩:=Ro s [] [] 0 yA hc z yB;have e':QZ (s,0,[],0)=O (g,Nab (I s) 0):=e;have es:Yx s=O (g,Nab (I s) 0):=by simp only[Yx,nV s q,Qf,hc,ne_eq,not_true,ai,e']
  have r:¬gm (Nab (I s) 0) s=J:=λf=>by have:=gu (Dk f);omega
  have d:=rn (n:=I s) (l:=[]) (x:=⟨⟨Nab (I s) 0,s⟩,⟨2,b,0,Nab (I s) 0,0,0,0⟩⟩) (y:=⟨⟨Nab (I s) 0,s⟩,⟨2,b,0,Nab (I s) 0,0,0,0⟩⟩) y9 yB (λz j=>by simp at j) ⟨by simp,rfl⟩ rfl yC
  have c:Zo ([],⟨⟨Nab (I s) 0,s⟩,⟨2,b,0,Nab (I s) 0,0,0,0⟩⟩)=O []:=by refine d.trans ?_;unfold js;rw[ae (show¬gA ⟨⟨Nab (I s) 0,s⟩,⟨2,b,0,Nab (I s) 0,0,0,0⟩⟩=J from r)];rfl
  simp only[TN,k,Qf,Ue,es,c,z,ak];rfl
 .have m:=gW (λn hn=>(p n hn).1) z;obtain⟨g,es⟩:=Oo hc m;have d:=rn (n:=I s) (l:=[]) (x:=lb b s) (y:=gK (lb b s)) y9 yB (λz j=>by simp at j) ⟨by simp[gK,lb],rfl⟩ rfl yC
  have c:Zo ([],⟨⟨Nab (I s) 0,s⟩,⟨2,b,0,ig s,0,0,0⟩⟩)=O [gK (lb b s)]:=by refine d.trans ?_;unfold js;rw[aj (show gA (lb b s)=J from om m)];rfl
  simp only[TN,k,Qf,Ue,es,c,z,ai];rfl
section
variable{bs:List fJ}{m:Int}
def GS(bs:List fJ)(m:Int)(c:Qb):Prop:=nE bs c/\pB m c
theorem kx:GK bs m (GS bs m):=λc h=>⟨h.1,h.2,λk d=>⟨(mE h.1).2.2 k d,(ov h.2).2 k d⟩⟩
theorem xR(d:1<=m)(e:m<=200)(c:Qb)(h:GS bs m c):ZZ c.aa=O (iF c.aa):=KC (ov h.2).1 ⟨d,by omega⟩
theorem RA(g:I bs<=1000)(v:1<=m)(s:m<=200):Wo (GS bs m) qd oA where
 whole:=λc e k1 z=>by obtain⟨hc,_,hl⟩:=kx.ns e;exact⟨KM k1 hc,Nw y9⟩
 uo:=λc k e k2 d x g j f t=>by
  obtain⟨hc,_,hl⟩:=kx.ns e;obtain⟨n,_,_⟩:=kx.ns ((kx c e).2.2 k (by rw[d];simp));cases kx.vx e
  case uo k' h hk' t1 t2 t3=>
   rw[d]at hk';cases hk';exact⟨OP k2 d hc n t1 t2 t3 g j f.1,G4 _ _ _ f.2⟩
  all_goals omega
 Lx:=λc k e k2 d b g w=>by
  obtain⟨hc,_,hl⟩:=kx.ns e;cases kx.vx e
  case uo k' h hk' t1 t2 t3=>
   rw[d]at hk';cases hk';exact⟨P5 k2 d hc t3 w,PG b⟩
  all_goals omega
 rev:=λc k e k3 d x g j f=>by
  cases kx.vx e
  case rev k' h hk' t1 t2 t3=>
   rw[d]at hk';cases hk';exact⟨Pd k3 d t1 y9 y9 g j f.1,R5 f.2⟩
  all_goals omega
 vk:=λc k e A d x g j f y p t=>by
  obtain⟨hc,_,hl⟩:=kx.ns e;cases kx.vx e
  case vk k' h hk' t1 t2 t3 t4 t5 t6=>
   rw[d]at hk';cases hk';refine⟨Ps A d t1 hc y9 y9 ⟨t4,t6⟩ g j f.1 p,?_⟩;simp only[mI,jU,bT,or_false]at p;rcases p with rfl|rfl
   .exact yI f.2
   .exact yI f.2
  all_goals omega
 N2:=λc k e B d x g j f t=>by
  obtain⟨hc,_,hl⟩:=kx.ns e;cases kx.vx e
  case x7 k' h hk' t1 t2 t3=>
   rw[d]at hk';cases hk';exact⟨O2 B d t1 t2 g j f.1,Tn f.2 y9⟩
  all_goals omega
 nv:=λc k e u d l h=>by
  unfold oA;by_cases q:k.aa=c.aa
  .rw[aj q];exact Ns u d q h
  .rw[ae q];obtain⟨P,C,D,E,hi,_⟩:=uk kx g s (xR v s) e u d h;rw[C,zX,D,zX,E];exact hi
 Kp:=λc k k2 e r d x g j f=>by
  obtain⟨n,_,_⟩:=kx.ns ((kx c e).2.2 k (by rw[d];simp));cases kx.vx e
  case cat k' k2' h hk' t1 t2 t3 t4 f1 f2 f3=>
   rw[d]at hk';cases hk';exact⟨PL r d n t3 y9 y9 g j f.1,yI f.2⟩
  all_goals omega
 OK:=λc k k2 e r d x g j f=>by
  obtain⟨n,_,_⟩:=kx.ns ((kx c e).2.2 k (by rw[d];simp));cases kx.vx e
  case cat k' k2' h hk' t1 t2 t3 t4 f1 f2 f3=>
   rw[d]at hk';cases hk';exact⟨PU r d n t4 t3 y9 y9 g j f.1,yI f.2⟩
  all_goals omega
theorem Hd(j:I bs<=1000)(M:1<=m)(F:m<=200):∀(n:Nat) (c:Qb),uu c<=n->GS bs m c->Xk c=O ((qo oA c).map gK)
 |0,c,h,_=>by have:=qx c;omega
 |n+1,c,h,t=>by
  have S:=RA (bs:=bs) j M F;obtain⟨q,hpr,hln⟩:=kx.ns t
  have sub:∀k∈c.ea,Inv (qd k) k.aa (qo oA k)/\fY k.aa=0/\fQ k.aa<=500/\(I k.aa)<=6/\Xk k=O ((qo oA k).map gK):=λk d=>by have:=uV d;have C:=(kx c t).2.2 k d;obtain⟨q1,q2,q3⟩:=kx.ns C;exact⟨wI S kx n k y9 C,q1,by omega,q3,Hd j M F n k y9 C⟩
  rw[Cl,Xk];cases kx.vx t with
  |one k1 d=>rw[Nc k1];simp only[k1,ak,Lw q,Qf]
  |uo k k2 d r z v=>
   obtain⟨g,u,p1,l1,w⟩:=sub k (by rw[d];simp);have y:idx [k] 0=O k:=rfl;have f:=Ck (Q:=qd c) g u q r z v (λx _ j p f N=>S.uo c k t k2 d x j p f N) (λb j hv=>S.Lx c k t k2 d b j hv);have e:=Oq g u y9 q r z f;rw[NF k2,rW d,d,mP];simp only[k2,show¬(2:Int)=1 by decide,ai,ak,y,Qf,w,e,bR]
  |rev k k3 d r z v=>
   obtain⟨g,u,p1,l1,w⟩:=sub k (by rw[d];simp);have y:idx [k] 0=O k:=rfl;rw[r]at g u p1;have p:=ir (l:=c.aa) (k:=c.ch.toNat) v;have f:=BC (Q:=qd c) g p (λx _ j p f=>S.rev c k t k3 d x (by rw[r];exact j) (by rw[r];exact p) f);have e:=OI g q y9 p f;have B:idx c.aa c.ch=O (c.aa.getD c.ch.toNat 0):=sn y9 v;rw[<-z]at e;rw[NU k3,d,mP];simp only[k3,show¬(3:Int)=1 by decide,show¬(3:Int)=2 by decide,ai,ak,y,Qf,w,B,e,bR]
  |vk k R d r z v G Y t6=>
   obtain⟨g,u,p1,l1,w⟩:=sub k (by rw[d];simp);have y:idx [k] 0=O k:=rfl;rw[r]at g u p1;have p:=ir (l:=c.aa) (k:=c.ch.toNat) v;have f:=Bw (Q:=qd c) g p G Y (λx _ j p f=>S.vk c k t R d x (by rw[r];exact j) (by rw[r];exact p) f);have e:=Rb g q y9 p G Y f;have B:idx c.aa c.ch=O (c.aa.getD c.ch.toNat 0):=sn y9 v;rw[<-z]at e;rw[Mq R,d,mP];simp only[R,show¬(4:Int)=1 by decide,show¬(4:Int)=2 by decide,show¬(4:Int)=3 by decide,ai,ak,y,Qf,w,B,e,bR]
  |x7 k H d r z v=>
   obtain⟨g,u,p1,l1,w⟩:=sub k (by rw[d];simp);have y:idx [k] 0=O k:=rfl;have f:=BZ (Q:=qd c) g r z v (λx _ j p f N=>S.N2 c k t H d x j p f N);have hd:=PE (mE (kx c t).1).1 H d y9;have e:=Ol g u y9 q r z hd (λx B=>(g.ss x B).2.n) f;rw[L6 H,d,mP];simp only[H,show¬(5:Int)=1 by decide,show¬(5:Int)=2 by decide,show¬(5:Int)=3 by decide,show¬(5:Int)=4 by decide,ai,ak,y,Qf,w,e,bR]
  |nv k T d=>
   obtain⟨g,u,p1,l1,w⟩:=sub k (by rw[d];simp);have y:idx [k] 0=O k:=rfl;have hS:Sm (I c.aa):=hZ (show I c.aa<=1000 by omega);rw[M0 T,rW d,d,mP];simp only[T,show¬(6:Int)=1 by decide,show¬(6:Int)=2 by decide,show¬(6:Int)=3 by decide,show¬(6:Int)=4 by decide,show¬(6:Int)=5 by decide,show¬(6:Int)=7 by decide,ai,ak,y,Qf,w,mV _ _ hS,bR];by_cases K:k.aa=c.aa
   .have W:oA (qo oA k) k.aa c.aa=qo oA k:=aj K;rw[W];simp only[K,decide_true,ak]
   .obtain⟨P,q1,q2,q3,hi,_⟩:=uk kx j F (xR M F) t T d g
    have W:oA (qo oA k) k.aa c.aa=P.map kO:=by refine(ae K).trans ?_;rw[q1,zX,q2,zX,q3];rfl
    rw[W];simp only[K,y5,j6,ai,q1,q2,q3,Qf,TC]
  |cat k A L d r z v G D E f3=>
   obtain⟨g,u,p1,l1,w⟩:=sub k (by rw[d];simp);obtain⟨i2,j2,p2,l2,e2⟩:=sub A (by rw[d];simp);have y:idx [k,A] 0=O k:=rfl;have X:idx [k,A] 1=O A:=rfl
   have f:=Cw (Q:=qd c) (s:=c.aa) (k:=c.ch.toNat) (n1:=k.aa.getD c.ch.toNat 0) (n2:=A.aa.getD c.ch.toNat 0) (P1:=qd k) (P2:=qd A) (by rw[D];exact g) (by rw[E];exact i2) q (by rw[D];exact u) (by rw[E];exact j2) f3
    (λx _ j p f=>S.Kp c k A t L d x (by rwa [D]at j) (by rw[v];exact p) f) (λx _ j p f=>S.OK c k A t L d x (by rwa [E]at j) (by rw[G];exact p) f)
   have e:=OD (s:=c.aa) (k:=c.ch.toNat) (n1:=k.aa.getD c.ch.toNat 0) (n2:=A.aa.getD c.ch.toNat 0) (P1:=qd k) (P2:=qd A) (by rw[D];exact g) (by rw[E];exact i2) (by rw[D];exact u) (by rw[E];exact j2) (by rw[D];omega) (by rw[E];omega) f3 (λx B=>(g.ss x B).2.n) f;have B:idx k.aa c.ch=O (k.aa.getD c.ch.toNat 0):=sn y9 y9;rw[<-r]at e;rw[M7 L,rW d,d,mP,mP,mP];simp only[L,show¬(7:Int)=1 by decide,show¬(7:Int)=2 by decide,show¬(7:Int)=3 by decide,show¬(7:Int)=4 by decide,show¬(7:Int)=5 by decide,ai,ak,y,X,Qf,w,e2,B,e,bR,cI]
end
def RK:∀(s lo hi c d:fJ),okB s lo hi->(∀n∈s,n<=65536)->I c=I d->I c+I lo<=600->XA (⟨c++lo,d++hi⟩,(I c:Int))=O (.inr ())
 |[],[],[],c,d,H,e,f,hl=>by rw[XA];simp only[Q1,ai]
 |n::s,l::lo,h::hi,c,d,H,e,f,hl=>by
  rw[XA];have j:idx (d++h::hi) (I c:Int)=O h:=by rw[f];exact Qv
  have hn:=e n yB;obtain⟨⟨k1,k2,k3⟩,k⟩:=H;have g:=RK s lo hi (c++[l]) (d++[h]) k (λn hn=>e n<|jG _ hn) (by simp[f]) (by simp at hl |-;omega);rw[<-Qs,<-Qs]at g;have g1:¬l<0:=by omega
  have m:¬l>h:=by omega
  have p:¬h>65536:=by omega
  simp only[QX,ak,Qv,Qf,j,g1,m,p,ai,y5,j6,W_l (x:=l) (show I c<=100000 by omega),g]
 |[],_::_,_,_,_,h,_,_,_=>by simp[okB]at h
 |[],[],_::_,_,_,h,_,_,_=>by simp[okB]at h
 |_::_,[],_,_,_,h,_,_,_=>by simp[okB]at h
 |_::_,_::_,[],_,_,h,_,_,_=>by simp[okB]at h
def RZ{s:fJ}{b:Qk}(H:okB s b.lo b.hi)(c:∀n∈s,n<=65536)(hl:I s<=16):Sd b=O J:=by
 obtain⟨lo,hi⟩:=b;obtain⟨l1,l2⟩:=ki H;simp only at H l1 l2;have e:=RK s lo hi [] [] H c rfl yA;simp only[jQ,jL,jJ]at e;have g1:¬((I lo:Int)≠(I hi:Int)):=by simp;omega
 have d:¬((I lo:Int)>16):=by omega
 simp only[Sd,g1,d,ai,y5,Qf,j6,e]
def RW{B:List Qk}{v:Int}{b:Qk}(g:idx B v=O b):∀(s lo hi c d:fJ),okB s lo hi->b.hi=d++hi->I c=I d->I c+I s<=600->Xw (c++s,B,v,(I c:Int))=O (.inr ())
 |[],[],[],c,d,H,e,f,hl=>by rw[Xw];simp only[Q1,ai]
 |n::s,l::lo,h::hi,c,d,H,e,f,hl=>by
  rw[Xw];have k:idx b.hi (I c:Int)=O h:=by rw[e,f];exact Qv
  obtain⟨⟨k1,k2,k3⟩,m⟩:=H;have j:=RW g s lo hi (c++[n]) (d++[h]) m (by rw[e,Qs]) (by simp[f]) (by simp at hl |-;omega);rw[<-Qs]at j;have g1:¬h>n:=by omega
  simp only[QX,ak,Qv,g,Qf,k,g1,ai,W_l (x:=n) (show I c<=100000 by omega),j]
 |[],_::_,_,_,_,h,_,_,_=>by simp[okB]at h
 |[],[],_::_,_,_,h,_,_,_=>by simp[okB]at h
 |_::_,[],_,_,_,h,_,_,_=>by simp[okB]at h
 |_::_,_::_,[],_,_,h,_,_,_=>by simp[okB]at h
def Hx:∀(P p:List Qc),I p+I P<=100000->Xo ((p++P).map kO,p,(I p:Int))=O (p++P)
 |[],p,h=>by
  rw[Xo]
  have:¬((I p:Int)<(I ((p++[]).map kO):Int)):=by simp
  simp only[this,ai];simp only[jV]
 |x::P,p,h=>by
  rw[Xo];have d:((I p:Int)<(I ((p++x::P).map kO):Int)):=by simp;omega
  have e:idx ((p++x::P).map kO) (I p:Int)=O (kO x):=kH yB;have f:W ((I p:Int)+1)=(I (p++[x]):Int):=by simp at h;rw[gE y9 y9];simp
  have c:=Hx P (p++[x]) (by simp at h |-;omega);rw[<-Qs]at c;simp only[d,ak,e,Qf,f];rw[gn (by simp at h |-;omega) y9,Qf];exact c
def OL{P:List Qc}(h:I P<=100000):TM (P.map kO)=O P:=by have e:=Hx P [] yA;have e':Xo (P.map kO,[],0)=O P:=e;simp only[TM,e',Qf]
def Ut{s:fJ}(e:∀n∈s,1<=n/\n<=65536)(hl:I s<=16):∀(P p:List Qk),I p+I P<=100000->(∀b∈P,okB s b.lo b.hi)->Yo (p++P,s,(I p:Int))=O (.inr ())
 |[],p,h,c=>by rw[Yo];simp only[Q1,ai]
 |b::P,p,h,c=>by
  rw[Yo];have hB:=c b yB;obtain⟨l1,l2⟩:=ki hB;have j:W ((I p:Int)+1)=(I (p++[b]):Int):=by simp at h;rw[gE y9 y9];simp
  have f:=Ut e hl P (p++[b]) (by simp at h |-;omega) (λy k=>c y<|jG _ k);rw[<-Qs]at f;have g:=RW (B:=p++b::P) (v:=(I p:Int)) Qv s b.lo b.hi [] [] hB rfl rfl yA;simp only[jQ,jL,jJ]at g;have d:((I b.lo:Int) !=(I s:Int))=U:=by rw[l1];simp
  simp only[QX,ak,Qv,Qf,RZ hB (λn hn=>(e n hn).2) hl,jO,ai,d,j6,g,j,f]
def lr:fJ->Int
 |[]=>0
 |x::l=>(x.natAbs:Int)+lr l
def nN:∀l:fJ,0<=lr l
 |[]=>aG _
 |x::l=>by rw[lr];have:=nN l;omega
def rK:∀(l:fJ) (k:Nat),((l.getD k 0).natAbs:Int)<=lr l
 |[],k=>by simp[lr]
 |x::l,0=>by rw[lr];have:=nN l;simp;omega
 |x::l,k+1=>by rw[lr];have:=rK l k;simp at this |-;omega
def Ay:∀(l:fJ) (k:Nat),k<I l->lr (l.drop k)=((l.getD k 0).natAbs:Int)+lr (l.drop<|k+1)
 |x::l,0,_=>by simp[lr]
 |x::l,k+1,h=>by
  have:=Ay l k (by simpa using h)
  simpa using this
 |[],_,h=>by simp at h
def xr:∀(l:fJ) (k:Nat) (v:Int),k<I l->lr (l.set k v)=lr l - ((l.getD k 0).natAbs:Int)+(v.natAbs:Int)
 |x::l,0,v,_=>by simp[lr];omega
 |x::l,k+1,v,h=>by have:=xr l k v (by simpa using h);simp only[bV,lr,this,cI];omega
 |[],_,_,h=>by simp at h
structure zc (d:Int) (a:Qj):Prop where
 k1:a.bx=1->a=lN
 k2:a.bx=2->a.ed=0/\a.dk=0/\a.ep=0
 k3:a.bx=3->1<=a.ep
 bf:0<=a.bc/\a.bc<=100000
 sm:lr a.bm<=600000
 ba:-d<=a.ek/\a.ek<=d
 st:-d<=a.ed/\a.ed<=d
 sp:-1000000<=a.dk/\a.dk<=1000000
 md:-1000000<=a.ep/\a.ep<=1000000
def zc.mono{d e:Int}{a:Qj}(h:zc d a)(n:d<=e):zc e a:=by obtain⟨c,f,g,j,k,p,q,l,m⟩:=h;exact⟨c,f,g,j,k,by omega,by omega,l,m⟩
def NN{d D:Int}{r:Nat}{a:Qj}{n:Int}{st:fJ}(hw:la r a)(h:zc d a)(hn:a.bx≠1->-D<=n/\n<=D)(h0:0<=D)(p:d+D<=1000000000000)(j:lr st<=600000):zc (d+D) (nt a n st):=by
 obtain⟨l,k,c,e,m,q,s,f,g⟩:=h;unfold nt;split
 .exact⟨l,k,c,e,m,by omega,by omega,f,g⟩
 .rename_i k1;have hn:=hn k1;split
  .rename_i k3;have w:W (a.ed+n)=a.ed+n:=gE y9 y9;exact⟨λh=>absurd h k1,λh=>absurd (k3.symm.trans h) yD,c,e,j,by simp only;omega,by simp only[w];omega,f,g⟩
  .rename_i k3;have w:W (a.ek+n)=a.ek+n:=gE y9 y9;exact⟨λh=>absurd h k1,k,c,e,j,by simp only[w];omega,by simp only;omega,f,g⟩
def Ht{a b A:Int}{B:Int}(c:-A<=a/\a<=A)(d:(b.natAbs:Int)<=B)(hB:0<=B):-(A*B)<=a*b/\a*b<=A*B:=qR c.1 c.2 y9 y9
def N7{d:Int}{r:Nat}{a:Qj}{k:Nat}{n:Int}(hw:la r a)(h:zc d a)(hn:-20000<=n/\n<=20000)(e:d<=900000000000):zc (d+20000*((a.bm.getD k 0).natAbs:Int)) (mw a k n):=by have f:=rK a.bm k;have c:=h.sm;have V:=Ht (a:=n) (b:=a.bm.getD k 0) (A:=20000) hn (aG _) y9;have w:W (n*a.bm.getD k 0)=n*a.bm.getD k 0:=gE y9 y9;unfold mw;rw[w];exact NN hw h (λ_=>V) y9 y9 c
def wm{d:Int}{r:Nat}{a:Qj}{k:Nat}{n:Int}(hw:la r a)(h:zc d a)(hn:-20000<=n/\n<=20000)(c:d<=900000000000):zc (d+12000000000) (mw a k n):=by have e:=rK a.bm k;have f:=h.sm;exact(N7 hw h hn c).mono y9
def SA{d:Int}{r:Nat}{a:Qj}{k:Nat}{n:Int}(hw:la r a)(f:k<r)(h:zc d a)(hn:0<=n/\n<=20000)(g:d<=900000000000):zc (d+12000000000) (tu a k n):=by
 have j:=rK a.bm k;have l:=h.sm;have c:W (n - 1)=n - 1:=gE y9 y9;have V:=Ht (a:=n - 1) (b:=a.bm.getD k 0) (A:=20000) (B:=600000) y9 y9 y9;have w:W ((n - 1)*a.bm.getD k 0)=(n - 1)*a.bm.getD k 0:=gE y9 y9;have e:W (0 - a.bm.getD k 0)=0 - a.bm.getD k 0:=gE y9 y9;unfold tu;rw[c,w,e];by_cases k1:a.bx=1
 .have:nt a ((n - 1)*a.bm.getD k 0) (a.bm.set k<|0 - a.bm.getD k 0)=a:=aj k1
  rw[this];exact h.mono y9
 .have hl:I a.bm=r:=by rcases hw with h|h;exact absurd h k1;exact h.2
  refine NN hw h (λ_=>by omega) y9 y9 ?_;rw[xr _ _ _ y9];omega
def Iy{r:Nat}:∀(st:fJ) (a:Qj) (k:Nat) (d:Int),la r a->zc d a->k+I st<=r->(∀n∈st,-20000<=n/\n<=20000)->d+20000*lr (a.bm.drop k)<=900000000000->zc (d+20000*lr (a.bm.drop k)) (lj a k st)
 |[],a,k,d,_,h,_,_,_=>by rw[lj];exact h.mono (by have:=nN (a.bm.drop k);omega)
 |n::st,a,k,d,hw,h,f,hn,l=>by
  rw[lj];by_cases k1:a.bx=1
  .have e:mw a k n=a:=aj k1
   have:∀(st:fJ) (k:Nat),lj a k st=a:=λst=>by
    induction st with
    |nil=>intro k;rfl
    |cons n st g=>intro k;rw[lj,show mw a k n=a from aj k1];exact g _
   rw[e,this];exact h.mono (by have:=nN (a.bm.drop k);omega)
  .have hl:I a.bm=r:=by rcases hw with h|h;exact absurd h k1;exact h.2
   have c:k<I a.bm:=by simp at f;omega
   have e:=Ay a.bm k c;have n1:=nN (a.bm.drop<|k+1);have j:=N7 (k:=k) hw h (hn n<|jM ..) y9;have es:(mw a k n).bm=a.bm:=by unfold mw nt;split <;>(try split)<;>rfl
   have:=Iy st (mw a k n) (k+1) _ (rq hw) j (by simp at f;omega) (λm V=>hn m<|jG _ V) (by rw[es];omega);rw[es]at this;exact this.mono y9
def Ae:∀(d st out:fJ),(∀j∈d,0<=j/\j.toNat<I out)->lr out+lr st<=600000->lr (qY d st out)<=lr out+lr st
 |[],st,out,_,_=>by rw[qY];have:=nN st;omega;simp
 |_::_,[],out,_,_=>by rw[qY];simp[lr];simp
 |j::d,c::st,out,f,g=>by
  obtain⟨m,k⟩:=f j (jM ..);rw[lr]at g |-;have n0:=nN st;have n1:=nN out;have p:=rK out j.toNat
  have w:W (W (0+out.getD j.toNat 0)+c)=out.getD j.toNat 0+c:=by rw[dF,gE (n:=out.getD j.toNat 0) y9 y9,gE y9 y9]
  have e:=xr out j.toNat (out.getD j.toNat 0+c) k;rw[qY,w];have l:=Ae d st (out.set j.toNat<|out.getD j.toNat 0+c) (λi hi=>by rw[zU];exact f i<|jG _ hi) (by rw[e];omega);rw[e]at l;omega
def wZ:∀r:Nat,lr (Nab r 0)=0
 |0=>rfl
 |r+1=>by rw[aB,lr,wZ r];rfl
def Td{d:Int}{a:Qj}{p:fJ}{r:Nat}(h:zc d a)(c:∀j∈p,0<=j/\j.toNat<r):zc d (p7 a p r):=by
 unfold p7;split
 .exact h
 .rename_i k1;have e:=h.sm;have:=Ae p a.bm (Nab r 0) (λj h=>by simpa using c j h) (by rw[wZ];omega);rw[wZ]at this;exact⟨λh=>absurd h k1,h.k2,h.k3,h.bf,by simp only;omega,h.ba,h.st,h.sp,h.md⟩
def LD{d:Int}(c:0<=d):zc d lN:=⟨λ_=>rfl,λh=>absurd (show(1:Int)=2 from h) yD,λh=>absurd (show(1:Int)=3 from h) yD,⟨by decide,by decide⟩,by show lr []<=600000;decide,by show -d<=0/\0<=d;omega,by show -d<=0/\0<=d;omega,⟨by decide,by decide⟩,⟨by decide,by decide⟩⟩
def Pv(b:Qo){d:Int}(c:0<=d):zc d (ll b).be:=LD c
def Bq:∀(l:fJ) (B:Int),(∀x∈l,(x.natAbs:Int)<=B)->lr l<=I l*B
 |[],B,_=>by simp[lr]
 |x::l,B,h=>by
  have d:=h x (jM ..);have e:=Bq l B λy c=>h y<|jG _ c
  rw[lr,zH,eV,cr];omega
def ML{b:Int}{s:fJ}{d:Int}(j:0<=d)(c:0<=b/\b<=100000)(e:∀n∈s,1<=n)(k:fQ s<=65536)(hl:I s<=6):zc d (lb b s).be:=by
 have f:=Bq (ig s) 65536 λx g=>by have:=CJ e x g;omega
 rw[lK]at f;have l:(I s:Int)*65536<=6*65536:=aK y9 yD;exact⟨λh=>absurd (show(2:Int)=1 from h) yD,λ_=>⟨rfl,rfl,rfl⟩,λh=>absurd (show(2:Int)=3 from h) yD,c,by show lr (ig s)<=600000;omega,by show -d<=0/\0<=d;omega,by show -d<=0/\0<=d;omega,⟨by show -1000000<=(0:Int);decide,by show(0:Int)<=1000000;decide⟩,⟨by show -1000000<=(0:Int);decide,by show(0:Int)<=1000000;decide⟩⟩
def SD{a:Qt}{n:Nat}{d:Int}(h:zn a n)(hn:n<=6)(f:1000000000<=d):zc d (Pr a):=by
 have c:=h.s
 have hl:I a.bm<=6:=by
  rcases h.k with k|k
  .rw[h.k1 k];decide
  .omega
 have g:=Bq a.bm 65536 λx e=>by have:=c.x x e;omega
 have j:(I a.bm:Int)*65536<=6*65536:=aK y9 yD;refine⟨λk=>?_,λk=>⟨c.t,h.k2 k⟩,h.m,c.b,by show lr a.bm<=600000;omega,?_,?_,c.s,c.m⟩
 .have:=h.k1 k;subst this;rfl
 .have:=c.o;show -d<=a.ek/\a.ek<=d;omega
 .have:=c.t;show -d<=a.ed/\a.ed<=d;omega
def sr{x:Int}(h:-1099511627776<=x/\x<=1099511627776):Z8 (x,1099511627776)=O J:=by
 have c:W (0 - 1099511627776)=-1099511627776:=by decide
 have g:x>=-1099511627776:=by omega
 have d:x<=1099511627776:=by omega
 simp only[Z8,c,g,ak,d,decide_true]
def LC(acc:Qt):∀(s p:fJ),acc.bm=p++s->I acc.bm<=1000->(∀x∈s,-1000000000000<=x/\x<=1000000000000)->Z6 (acc,1099511627776,(I p:Int))=O (.inr ())
 |[],p,h,hl,c=>by
  rw[Z6]
  have:¬((I p:Int)<(I acc.bm:Int)):=by rw[h];simp
  simp only[this,ai]
 |x::s,p,h,hl,c=>by
  rw[Z6];have d:((I p:Int)<(I acc.bm:Int)):=by rw[h];exact QX
  have e:idx acc.bm (I p:Int)=O x:=by rw[h];exact Qv
  have f:W ((I p:Int)+1)=(I (p++[x]):Int):=by rw[h]at hl;simp at hl;rw[gE y9 y9];simp
  have g:=LC acc s (p++[x]) (by rw[h];simp) hl (λy j=>c y<|jG _ j);have k:=c x yB;simp only[d,ak,e,Qf,sr (x:=x) y9,jO,ai,f,g]
def yg:∀{l:fJ} {x:Int},x∈l->(x.natAbs:Int)<=lr l
 |y::l,x,h=>by
  rw[lr];have:=nN l;rcases ar.1 h with rfl|h
  .omega
  .have:=yg h;omega
def Mj{a:Qj}{d:Int}{r:Nat}(hw:la r a)(h:zc d a)(A:d<=1000000000000)(B:r<=16):JI (kA a,(r:Int))=O J:=by
 obtain⟨m,n,p,C,D,E,F,G,H⟩:=h
 have hl:I a.bm<=1000:=by
  rcases hw with k|k
  .rw[m k];decide
  .omega
 have e:=LC (kA a) a.bm [] rfl hl (λx q=>by have:=yg q;omega);have c:Z6 (kA a,1099511627776,0)=O (.inr ()):=e
 have hB:J0 (kA a,1099511627776)=O J:=by simp only[J0,c,Qf];have q1:Z8 ((kA a).bc,1099511627776)=O J:=sr (by show -1099511627776<=a.bc/\_;exact⟨by omega,by show a.bc<=_;omega⟩);have q2:Z8 ((kA a).ek,1099511627776)=O J:=sr (by show -1099511627776<=a.ek/\a.ek<=_;omega);have q3:Z8 ((kA a).ed,1099511627776)=O J:=sr (by show -1099511627776<=a.ed/\a.ed<=_;omega);have q4:Z8 ((kA a).dk,1099511627776)=O J:=sr (by show -1099511627776<=a.dk/\a.dk<=_;omega);have q5:Z8 ((kA a).ep,1099511627776)=O J:=sr (by show -1099511627776<=a.ep/\a.ep<=_;omega);simp only[q1,q2,q3,q4,q5,Qf,ak]
 have f:J0 (⟨(kA a).bx,(kA a).bc,(kA a).ek,(kA a).bm,(kA a).ed,(kA a).dk,(kA a).ep⟩,1099511627776)=O J:=hB;have g1:¬((r:Int)<0):=by omega
 have s:¬((r:Int)>16):=by omega
 have t:¬((kA a).bc<0):=by show¬a.bc<0;omega
 simp only[JI,g1,s,ai,y5,Qf,j6,f,aF,t];rcases hw with k|⟨k|k,K⟩
 .have:=m k;subst this;rfl
 .obtain⟨u,v,w⟩:=n k;have g:(kA a).bx=2:=k;have j:((kA a).bm.length:Int)=(r:Int):=by show(I a.bm:Int)=_;omega
  have l:(kA a).ed=0:=u;have y:(kA a).dk=0:=v;have z:(kA a).ep=0:=w;simp only[g,j,l,y,z,show¬(2:Int)=1 by decide,ai,ak,Qf,beq_self_eq_true]
 .have g:(kA a).bx=3:=k;have j:((kA a).bm.length:Int)=(r:Int):=by show(I a.bm:Int)=_;omega
  have l:(kA a).ep>0:=by have:=p k;show a.ep>0;omega
  simp only[g,j,l,show¬(3:Int)=1 by decide,show¬(3:Int)=2 by decide,ai,ak,decide_true]
def HP:∀{s:fJ} {n:Int},n∈s->n<=Ig s
 |x::s,n,h=>by
  have c:=GR s;rw[Ig];rcases ar.1 h with rfl|h
  .by_cases g:n<1
   .rw[aj g];omega
   .rw[ae g]
    have:n*1<=n*Ig s:=aZ c y9
    omega
  .have e:=HP h;have d:1<=(if x<1 then 1 else x):=by split <;>omega
   have:1*Ig s<=(if x<1 then 1 else x)*Ig s:=aK d y9
   omega
def Ka{m:Int}{s:fJ}(h:uJ m s)(V:m<=200):∀n∈s,n<=20000:=λn hn=>by
 rcases h.2.2.2 with rfl|h
 .simp at hn
 .have:=HP hn;omega
def G1:∀{lo hi t st s0:fJ},jv s0 lo hi->I lo=I st->I t=I st->(∀n∈t,0<=n/\n<=20000)->(∀n∈s0,n<=20000)->(∀n∈st,-65536<=n/\n<=65536)->gm (tg lo t st) (ti lo hi t st)=J->∀n∈st,-20000<=n/\n<=20000
 |[],_,_,[],_,_,_,_,_,_,_,_=>λn h=>by simp at h
 |l::lo,h::hi,t::ts,n::st,m::s0,k,p,q,g,h0,j,f=>λx d=>by
  obtain⟨⟨k1,k2,k3⟩,r⟩:=k;have hn:=j n (jM ..);have e:=g t (jM ..);have V:=h0 m (jM ..);rw[tg,ti,gm,jE,zE]at f;rcases ar.1 d with rfl|d
  .have:=(KZ (l:=l) (h:=h) (n:=x) e.1).1.2 f.1;have s:W (l - x)=l - x:=gE y9 y9;have u:W (h - x)=h - x:=gE y9 y9;rw[s,u]at this;split at this<;>split at this<;>omega
  .exact G1 r (by simpa using p) (by simpa using q) (λy c=>g y<|jG _ c) (λy c=>h0 y<|jG _ c) (λy c=>j y<|jG _ c) f.2 x d
 |[],_,_,_::_,_,_,h,_,_,_,_,_=>by simp at h
 |_::_,_,_,[],_,_,h,_,_,_,_,_=>by simp at h
 |_,_,[],_::_,_,_,_,h,_,_,_,_=>by simp at h
 |_::_,[],_,_::_,_::_,h,_,_,_,_,_,_=>by simp[jv]at h
 |_::_,_,_,_::_,[],h,_,_,_,_,_,_=>by simp[jv]at h
section
variable{bs:List fJ}{m:Int}
def GZ(bs:List fJ)(m:Int)(c:Qb):Prop:=GS bs m c/\uu c<=70
def N1(c:Qb):Int:=12000000000*(uu c:Int)
def M3(c:Qb)(x:Qa):Prop:=qd c x/\zc (N1 c) x.be
theorem oe:GK bs m (GZ bs m):=λc h=>⟨h.1.1,h.1.2,λk d=>⟨(kx c h.1).2.2 k d,by have:=uV d;have:=h.2;omega⟩⟩
theorem xz{c k:Qb}(d:k∈c.ea)(e:uu c<=70):N1 k+12000000000<=N1 c/\N1 k<=840000000000/\0<=N1 k:=by have:=uV d;unfold N1;omega
theorem Rs(H:I bs<=1000)(K:1<=m)(C:m<=200):Wo (GZ bs m) M3 oA:=by
 have S:=RA (bs:=bs) (m:=m) H K C
 have s:∀c,GZ bs m c->∀n∈c.aa,0<=n/\n<=20000:=λc d n hn=>by obtain⟨hc,_,_⟩:=oe.ns d;exact⟨((fT hc).2.2 n hn).1,Ka (ov d.1.2).1 C n hn⟩
 have q:∀c,GZ bs m c->∀k,k<I c.aa->0<=c.aa.getD k 0/\c.aa.getD k 0<=20000:=λc d k e=>s c d _ (by rw[gP e];exact zD _)
 have D:∀c:Qb,0<=N1 c/\12000000000<=N1 c:=λc=>by have:=qx c;unfold N1;omega
 constructor
 .intro c d k1 z;obtain⟨hc,g,hl⟩:=oe.ns d;have A:=oz ((mE d.1.1).2.1 k1);have N:=(af.1 A.2).1;exact⟨S.whole c d.1 k1 z,ML (D c).1 ⟨A.1,by omega⟩ (gW (λn hn=>(s c d n hn).1) z) y9 hl⟩
 .intro c k d k2 e x f j g u;have t:=(oe c d).2.2 k (by rw[e];simp);have v:=xz (c:=c) (k:=k) (by rw[e];simp) d.2;refine⟨S.uo c k d.1 k2 e x f j g.1 u,?_⟩;cases oe.vx d
  case uo k' h hk' t1 t2 t3=>
   rw[e]at hk';cases hk';obtain⟨l1,l2⟩:=ki f;have hst:=G1 (wX f) y9 y9 (s c d) (λn hn=>(s k t n hn).2) t3 u;have Q:=g.2.sm;have:=Iy (r:=I k.aa) c.cx x.be 0 _ j g.2 y9 hst (by rw[bP];omega);rw[bP]at this;exact this.mono y9
  all_goals omega
 .intro c k d k2 e b f R;exact⟨S.Lx c k d.1 k2 e b f R,Pv b (D c).1⟩
 .intro c k d k3 e x f j g;have v:=xz (c:=c) (k:=k) (by rw[e];simp) d.2;refine⟨S.rev c k d.1 k3 e x f j g.1,?_⟩;cases oe.vx d
  case rev k' h hk' t1 t2 t3=>
   rw[e]at hk';cases hk';exact(SA j (by rw[t1];exact t3) g.2 (q c d _ t3) y9).mono y9
  all_goals omega
 .intro c k d T e x f j g y E u;have v:=xz (c:=c) (k:=k) (by rw[e];simp) d.2;refine⟨S.vk c k d.1 T e x f j g.1 y E u,?_⟩;cases oe.vx d
  case vk k' h hk' t1 t2 t3 t4 t5 t6=>
   rw[e]at hk';cases hk';have hn:=q c d _ t3;simp only[mI,jU,bT,or_false]at E;rcases E with rfl|rfl
   .have w:W (0 - (0 - c.cS))=c.cS:=by rw[gE y9 y9];omega
    exact(wm j g.2 (by rw[w];omega) y9).mono y9
   .have w:W (0 - (c.aa.getD c.ch.toNat 0 - c.cS))=c.cS - c.aa.getD c.ch.toNat 0:=by rw[gE y9 y9];omega
    exact(wm j g.2 (by rw[w];omega) y9).mono y9
  all_goals omega
 .intro c k d X e x f j g u;have v:=xz (c:=c) (k:=k) (by rw[e];simp) d.2;refine⟨S.N2 c k d.1 X e x f j g.1 u,?_⟩;cases oe.vx d
  case x7 k' h hk' t1 t2 t3=>
   rw[e]at hk';cases hk';exact(Td g.2 t2).mono y9
  all_goals omega
 .intro c k d L e l h;have v:=xz (c:=c) (k:=k) (by rw[e];simp) d.2;have hR:=S.nv c k d.1 L e l (h.mono λx _ g=>g.1);by_cases M:k.aa=c.aa
  .have F:oA l k.aa c.aa=l:=aj M;rw[F]at hR |-;exact⟨hR.box,hR.acc,λx B=>⟨hR.ss x B,(h.ss x B).2.mono y9⟩,hR.s4,hR.HV⟩
  .obtain⟨P,Y,e2,e3,hi,hr,_⟩:=uk kx H C (xR K y9) d.1 L e (h.mono λx _ g=>g.1)
   have F:oA l k.aa c.aa=P.map kO:=by refine(ae M).trans ?_;rw[Y,zX,e2,zX,e3];rfl
   rw[F];obtain⟨_,_,hl⟩:=oe.ns d;refine⟨hi.box,hi.acc,λx B=>⟨hi.ss x B,?_⟩,hi.s4,hi.HV⟩;obtain⟨p,g,rfl⟩:=aq.1 B;exact SD (hr p g) hl (by have:=D c;omega)
 .intro c k k2 d G e x f j g;have v:=xz (c:=c) (k:=k) (by rw[e];simp) d.2;refine⟨S.Kp c k k2 d.1 G e x f j g.1,?_⟩;have w:W (0 - 0)=0:=by decide
  exact(wm j g.2 (by rw[w];decide) y9).mono y9
 .intro c k k2 d G e x f j g;have v:=xz (c:=c) (k:=k2) (by rw[e];simp) d.2;refine⟨S.OK c k k2 d.1 G e x f j g.1,?_⟩;cases oe.vx d
  case cat k' k2' h hk' t1 t2 t3 t4 f1 f2 f3=>
   rw[e]at hk';cases hk';have t:=(oe c d).2.2 k (by rw[e];simp);have hn:=q k t c.ch.toNat y9;have w:W (0 - k.aa.getD c.ch.toNat 0)=0 - k.aa.getD c.ch.toNat 0:=gE y9 y9;exact(wm j g.2 (by rw[w];omega) y9).mono y9
  all_goals omega
end
def wA:∀{s lo hi:fJ},okB s lo hi->gm lo hi=J
 |[],[],[],_=>rfl
 |n::s,l::lo,h::hi,H=>by obtain⟨⟨k1,k2,k3⟩,c⟩:=H;rw[gm,wA c,decide_eq_true k2];rfl
 |[],_::_,_,h=>by simp[okB]at h
 |[],[],_::_,h=>by simp[okB]at h
 |_::_,[],_,h=>by simp[okB]at h
 |_::_,_::_,[],h=>by simp[okB]at h
def ra(x:Qa):Qk:=(gK x).box
section
variable{s:fJ}
theorem NI(u:∀n∈s,n<=65536)(hl:I s<=16):∀(l p:List Qa),I p+I l<=50000->((p++l).Pairwise λa b=>iH a.box.lo b.box.lo<0)->(∀x∈p++l,okB s x.box.lo x.box.hi)->(∀x∈l,JI (kA x.be,(I s:Int))=O J)->
  YL ((p++l).map gK,s,p.map ra,(I p:Int))=O (.inr<|(p++l).map ra)
 |[],p,h,m,k,r=>by
  rw[YL]
  have:¬((I p:Int)<(I ((p++[]).map gK):Int)):=by simp
  rw[ae this,jV]
 |x::l,p,h,m,k,r=>by
  rw[YL];have z:((I p:Int)<(I ((p++x::l).map gK):Int)):=by simp;omega
  have A:idx ((p++x::l).map gK) (I p:Int)=O (gK x):=kH yB;have t:I p<=50000:=by simp at h;omega
  have v:=NI u hl l (p++[x]) (by simp at h |-;omega) (by rw[<-Qs];exact m) (λy d=>k y (by rw[Qs];exact d)) (λy d=>r y<|jG _ d);rw[<-Qs]at v;have B:W ((I p:Int)+1)=(I (p++[x]):Int):=jq y9;have c:=k x yB;obtain⟨l1,l2⟩:=ki c;have C:Sd (gK x).box=O J:=RZ (s:=s) c u hl
  have D:Jb (gK x).box=O U:=by
   have:Jb (gK x).box=O (!gm x.box.lo x.box.hi):=El y9 y9
   rw[this,wA c];rfl
  have E:JI ((gK x).be,(I s:Int))=O J:=r x (jM ..)
  have F:app 48 (p.map ra) [(gK x).box]=O ((p++[x]).map ra):=by have:=gn (b:=48) (l:=p.map ra) (es:=[(gK x).box]) yA y9;rw[this,zM];rfl
  have G:(if(I p:Int)>0 then idx ((p++x::l).map gK) (W<|(I p:Int) - 1)>>=λf=>J9 (f.box.lo,(gK x).box.lo)>>=λ(j:Bool)=>O (!j)else O U)=O U:=by
   rcases bU p with rfl|⟨q,y,rfl⟩
   .rfl
   .simp only[cw]at *;have g:((I (q++[y]):Nat):Int)>0:=by rw[jW,bz];omega
    have w:W (((I (q++[y]):Nat):Int) - 1)=(I q:Int):=by rw[jW,bz]at t |-;rw[gE y9 y9];omega
    have i:idx ((q++[y]++x::l).map gK) (I q:Int)=O (gK y):=kH yB;have d:=k y yB;obtain⟨m1,m2⟩:=ki d;have hc:iH y.box.lo x.box.lo<0:=(dG.1 m).2.2 y yB x (jM ..);have e:J9 ((gK y).box.lo,(gK x).box.lo)=O (decide<|iH y.box.lo x.box.lo<0):=ET (by show I y.box.lo=I x.box.lo;omega) (by show I y.box.lo<=600;omega);rw[decide_eq_true hc]at e;rw[aj g,w,i,Qf,e];rfl
  simp only[z,ak,A,Qf,C,D,E,jO,ai,aF,j6,G,F,B,v]
theorem Rt{A:List fJ}{k:Nat}{i:fJ}(g:idx A (k:Int)=O i)(hi:I i<=600):∀(l p:List Qa) (m:Nat),I p+I l<=50000->m<=I p->(∀x∈l,I x.box.lo=I i/\(I x.box.hi)=I i)->
  Yp ((p++l).map ra,A,(k:Int),(m:Int),(I p:Int))=O ((m+l.countP (ij i):Nat):Int)
 |[],p,m,h,V,d=>by
  rw[Yp]
  have:¬((I p:Int)<(I ((p++[]).map ra):Int)):=by simp
  rw[ae this];simp
 |x::l,p,m,h,V,d=>by
  rw[Yp];have j:((I p:Int)<(I ((p++x::l).map ra):Int)):=by simp;omega
  have n:idx ((p++x::l).map ra) (I p:Int)=O (ra x):=kH yB;have q:I p<=50000:=by simp at h;omega
  obtain⟨l1,l2⟩:=d x (jM ..);have r:Rm (ra x,i)=O (ij i x):=Md (b:=ra x) l1 l2 hi;have e:=λm V=>Rt g hi l (p++[x]) m (by simp at h |-;omega) V (λy s=>d y<|jG _ s)
  simp only[<-Qs]at e;have t:W ((I p:Int)+1)=(I (p++[x]):Int):=jq y9;have f:W ((m:Int)+1)=((m+1:Nat):Int):=pY y9;simp only[j,ak,n,g,Qf,r,t,f];by_cases c:ij i x=J
  .simp only[c,ak];rw[e (m+1) yA,cK c];congr 2;omega
  .simp only[c,j6,ai];rw[e m yA,dp c]
theorem RF{P:Qa->Prop}{l:List Qa}(h:Inv P s l)(hl:I l<=50000)(g:I s<=600):∀(A p:List fJ),I p+I A<=100000->(∀i∈A,iz s i=J)->Y5 (p++A,l.map ra,(I p:Int))=O (.inr ())
 |[],p,c,d=>by rw[Y5];simp only[Q1,ai]
 |i::A,p,c,d=>by
  rw[Y5];have hi:=d i (jM ..);have m:=iv hi
  have e:=Rt (A:=p++i::A) (k:=I p) (i:=i) Qv y9 l [] 0 (by simpa using hl) (j7 _) (λx n=>by obtain⟨l1,l2⟩:=ki (h.box x n);exact⟨by omega,by omega⟩)
  rw[h.s4 i hi]at e;have e':Yp (l.map ra,p++i::A,(I p:Int),0,0)=O 1:=e;have f:=RF h hl g A (p++[i]) (by simp at c |-;omega) (λj q=>d j<|jG _ q);rw[<-Qs]at f;have r:W ((I p:Int)+1)=(I (p++[i]):Int):=jq (by simp at c;omega);simp only[QX,ak,e',Qf,ne_eq,not_true,ai,r,f]
theorem Fz{P:Qa->Prop}{l:List Qa}(h:Inv P s l)(hc:fY s=0)(m:fQ s<=20000)(p:∀x∈l,JI (kA x.be,(I s:Int))=O J)(c:ZZ s=O (iF s)):Ub (s,l.map gK)=O J:=by
 obtain⟨k,A,e⟩:=fT hc;have f:=h.pb hc m;have hn:∀n∈s,0<=n:=λn hn=>(e n hn).1
 have B:=kK hn;have q:=NI (s:=s) (λn hn=>(e n hn).2) k l [] yA (mD h.HV) h.box p;have g:YL (l.map gK,s,[],0)=O (.inr<|l.map ra):=q
 have r:Yo (l.map ra,s,0)=O (.inr ()):=by
  cases l with
  |nil=>
   rw[aH,Yo]
   have:¬((0:Int)<(I ([]:List Qk):Int)):=by simp
   simp only[this,ai]
  |cons x l=>
   have t:=(xw<|h.box x<|jM ..).1;have u:∀n∈s,1<=n/\n<=65536:=λn d=>⟨gW hn (by have:=iy t;omega) n d,(e n d).2⟩
   exact Ut u k ((x::l).map ra) [] (by simp at f |-;omega) λb v=>by obtain⟨y,w,rfl⟩:=aq.1 v;exact h.box y w
 have z:=RF h y9 y9 (iF s) [] yA (pJ hn);have j:Y5 (iF s,l.map ra,0)=O (.inr ()):=z;simp only[Ub,g,Qf,Wm,r,c,j]
end
def M2{s:fJ}(hn:∀n∈s,0<=n):(iF s).Nodup:=by
 have hl:=kK hn;by_cases z:fQ s=0
 .have:iF s=[]:=aw y9
  rw[this];exact .nil
 .have c:=gW hn z;rw[List.Nodup,dh];intro i j hi l m e;have d:=mf c i y9;have k:=mf c j y9;rw[jC hi]at d;rw[jC l]at k;have:=Hk c (f:=(i:Int)) (g:=(j:Int)) y9 y9 (by rw[<-jS d,<-jS k];exact e);omega
section
variable{bs:List fJ}{m:Int}
theorem HO{s i:fJ}{a:Nat}{y:Int}(c:a<I s)(h:iz s i=J)(h0:0<=y)(d:y<s.getD a 0):iz s (i.set a y)=J:=by
 have:=mh (k:=a) (n:=s.getD a 0) h h0 d
 rwa [ka (ir c)]at this
end
def UR{l:List Qa}(h:I l<=50000):TM l=O (l.map gK):=by
 have:=OL (P:=l.map gK) yA;rw[zG]at this;have e:(kO∘ gK)=id:=funext PK
 rwa [e,cD]at this
def GU:∀(a b p q:fJ),I a=I b->I p=I q->I p+I a<=600->QS (p++a,q++b,(I p:Int))=O (if a=b then .inr ()else .inl ())
 |[],[],p,q,_,_,h=>by rw[QS];simp only[Q1,ai];rfl
 |x::a,y::b,p,q,f,c,h=>by
  rw[QS];have j:idx (q++y::b) (I p:Int)=O y:=by rw[c];exact Qv
  simp only[QX,ak,Qv,j,Qf];by_cases g:x=y
  .have d:=GU a b (p++[x]) (q++[y]) (by simpa using f) (by simp[c]) (by simp at h |-;omega);rw[<-Qs,<-Qs]at d;subst g;rw[ae yB,X8 h,d];simp
  .have:¬(x::a=y::b):=λe=>g (List.cons.inj e).1
   rw[ae this,aj g]
 |[],_::_,_,_,h,_,_=>by simp at h
 |_::_,[],_,_,h,_,_=>by simp at h
def OF(a b:fJ)(h:I b<=600):JK (a,b)=O (decide<|a=b):=by
 by_cases hl:I a=I b
 .have e:=GU a b [] [] hl rfl yA;have e':QS (a,b,0)=O (if a=b then .inr ()else .inl ()):=e;have g:¬((I a:Int)≠(I b:Int)):=by omega
  simp only[JK,Zs,g,ai,e',Qf];by_cases c:a=b
  .simp only[c,ak,Qf,decide_true]
  .simp only[c,ai,Qf,y5]
 .have g:(I a:Int)≠(I b:Int):=by omega
  have:a≠b:=λe=>hl (by rw[e])
  simp only[JK,Zs,g,ak,Qf,this,y5,ne_eq,not_false_eq_true]
def Pn{bs:List fJ}{m:Int}(g:I bs<=1000)(j:1<=m)(n:m<=200){c k:Qb}(f:GS bs m c)(p:c.bx=6)(q:c.ea=[k]){l:List Qa}(h:Inv (qd k) k.aa l)(r:k.aa≠c.aa->TE (l,k.aa)=O ((ke k).map oT)):Jk (l,k.aa,c.aa)=O (oA l k.aa c.aa):=by
 obtain⟨_,_,hl⟩:=kx.ns f;by_cases d:k.aa=c.aa
 .have e:oA l k.aa c.aa=l:=aj d;rw[e,d];simp only[Jk,Sy (show I c.aa<=600 by omega),Qf,ak]
 .obtain⟨P,s,t,u,hi,x,v,w,_,_⟩:=uk kx g n (xR j y9) f p q h
  have e:oA l k.aa c.aa=P.map kO:=by refine(ae d).trans ?_;rw[s,zX,t,zX,u];rfl
  rw[e];have eq:=OF k.aa c.aa (show I c.aa<=600 by omega);simp only[Jk,eq,d,y5,Qf,j6,ai,r d,v,w]
def AP:fJ->fJ->fJ->Option fJ
 |l::lo,h::hi,a::az=>match AP lo hi az with
  |some b=>O (a::b)
  |none=>if a+1<h then O ((a+1)::lo)else Z
 |_,_,_=>Z
def EE:∀{lo hi az:fJ} {l h a:Int},I lo=I az->I hi=I az->AP (lo++[l]) (hi++[h]) (az++[a])=if a+1<h then O (az++[a+1])else(AP lo hi az).map (·++[l])
 |[],[],[],l,h,a,_,_=>by simp only[AP,jQ];split <;>rfl
 |j::lo,k::hi,a'::az,l,h,a,c,d=>by
  have f:=EE (lo:=lo) (hi:=hi) (az:=az) (l:=l) (h:=h) (a:=a) (by simpa using c) (by simpa using d);simp only[aN,AP,f];by_cases g:a+1<h
  .simp only[g,ak]
  .simp only[g,ai];cases AP lo hi az with
   |some b=>rfl
   |none=>
    simp only[dH];split <;>rfl
 |[],_,_::_,_,_,_,e,_=>by simp at e
 |_::_,_,[],_,_,_,e,_=>by simp at e
 |_,[],_::_,_,_,_,_,e=>by simp at e
 |_,_::_,[],_,_,_,_,e=>by simp at e
def BN{n:Nat}{l:fJ}(h:I l=n+1):∃(p:fJ) (x:Int),l=p++[x]/\(I p)=n:=by
 have hn:l≠[]:=by intro e;rw[e]at h;simp at h
 exact⟨l.dropLast,l.getLast hn,(List.dropLast_concat_getLast hn).symm,by simp[h]⟩
def EZ(q2:fJ):∀(n:Nat) (lo hi az c d xs:fJ),I lo=n->I hi=n->I az=n->I c=I xs->I d=I xs->I q2=n+I xs->n<=600->(∀x∈az,-100000<=x/\x<=100000)->
  Zu (q2,hi++d,lo++c,az++xs,(n:Int) - 1)=O (match AP lo hi az with|some b=>.inl (b++xs)|none=>.inr<|lo++xs)
 |0,lo,hi,az,c,d,xs,e,f,j,_,_,_,_,_=>by rw[Zu];have m:=cd.1 e;have p:=cd.1 f;have q:=cd.1 j;subst m p q;rfl
 |n+1,lo,hi,az,c,d,xs,e,f,j,r,s,F,G,k=>by
  obtain⟨lo,l,rfl,k1⟩:=BN e;obtain⟨hi,h,rfl,k2⟩:=BN f;obtain⟨az,a,rfl,k3⟩:=BN j;have t:=k a yB;have u:=EZ q2 n lo hi az (l::c) (h::d) (l::xs) k1 k2 k3 (by simp[r]) (by simp[s]) yA y9 (λx v=>k x (by simp[v]));rw[Zu,EE y9 y9];have c0:((n+1:Nat):Int) - 1=(I az:Int):=by omega
  have w:∀(y:Int) (ys:fJ),idx (az++y::ys) (I az:Int)=O y:=λy ys=>Qv
  have A:idx (hi++h::d) (I az:Int)=O h:=by rw[show I az=I hi by omega];exact Qv
  have B:idx (lo++l::c) (I az:Int)=O l:=by rw[show I az=I lo by omega];exact Qv
  have C:∀(y z:Int) (ys:fJ),iM (az++y::ys) (I az:Int) z=O (az++z::ys):=λy z ys=>by simp[iM]
  have g0:((I az:Int)>=0):=by omega
  have gl:∀y:Int,I (az++y::xs)=I q2:=λy=>by simp;omega
  have D:W (a+1)=a+1:=kP y9 y9;have E:W ((I az:Int) - 1)=(n:Int) - 1:=by rw[kP y9 y9];omega
  simp only[ay,aR,c0,g0,ak,gl,fX,w,A,B,C,Qf,D];by_cases g:a+1<h
  .simp only[g,ak,ay,aR]
  .simp only[g,ai,E,u];cases AP lo hi az with
   |some b=>simp only[jN,ay,aR]
   |none=>simp only[dH]
def L8{lo hi az:fJ}(c:I lo=I az)(d:I hi=I az)(f:I az<=600)(g:∀x∈az,-100000<=x/\x<=100000):
  X1 (lo,hi,az)=O (match AP lo hi az with|some b=>(b,J)|none=>(lo,U)):=by
 have e:=EZ az (I az) lo hi az [] [] [] c d rfl rfl rfl rfl f g;simp only[jV]at e;have j:W ((I az:Int) - 1)=(I az:Int) - 1:=kP y9 y9;simp only[X1,j,e];cases AP lo hi az<;>rfl
def Cr(a h:Int):fJ:=(Nad (h - a).toNat).map λ(k:Nat)=>a+(k:Int)
def C2{a h:Int}(g:a<h):Cr a h=a::Cr (a+1) h:=by unfold Cr;rw[show(h - a).toNat=(h - (a+1)).toNat+1 by omega,List.range_succ_eq_map];simp only[zV,zG];rw[show a+((0:Nat):Int)=a by omega];refine bQ (List.cons a) (aJ λk _=>?_);simp only[Function.comp_apply];omega
def NB{a h:Int}(g:¬a<h):Cr a h=[]:=by unfold Cr;rw[show(h - a).toNat=0 by omega];rfl
def Oy{a h x:Int}:x∈Cr a h↔a<=x/\x<h:=by
 unfold Cr;simp only[aq,ck];constructor
 .rintro⟨k,c,rfl⟩;omega
 .rintro⟨c,d⟩;exact⟨(x - a).toNat,by omega,by omega⟩
def pE:fJ->fJ->fJ->List fJ
 |l::lo,h::hi,a::az=>(pE lo hi az).map (a::·)++(Cr (a+1) h).flatMap λb=>(pE lo hi lo).map (b::·)
 |_,_,_=>[[]]
def Dc:∀{lo hi az:fJ},I lo=I az->I hi=I az->pE lo hi az=az::(match AP lo hi az with|some b=>pE lo hi b|none=>[])
 |[],[],[],_,_=>rfl
 |l::lo,h::hi,a::az,c,d=>by
  have f:=Dc (lo:=lo) (hi:=hi) (az:=az) (by simpa using c) (by simpa using d);rw[pE,f,AP];cases AP lo hi az with
  |some b=>simp only[zV,aN,pE]
  |none=>
   simp only[zV,aH,aN,jQ];by_cases g:a+1<h
   .rw[C2 g];simp only[g,ak,aI,pE]
   .rw[NB g];simp only[g,ai,dw]
 |[],_,_::_,e,_=>by simp at e
 |_::_,_,[],e,_=>by simp at e
 |_,[],_::_,_,e=>by simp at e
 |_,_::_,[],_,e=>by simp at e
def HB(l:fJ):Prop:=∀x∈l,-100000<=x/\x<=100000
def tZ{a:Int}{l:fJ}:HB (a::l)↔(-100000<=a/\a<=100000)/\HB l:=by unfold HB;simp
def RE:∀{lo hi az b:fJ},AP lo hi az=O b->HB lo->HB hi->HB az->I lo=I az->I b=I az/\HB b
 |l::lo,h::hi,a::az,b,e,k1,k2,k3,d=>by
  rw[tZ]at k1 k2 k3;rw[AP]at e;cases g:AP lo hi az with
  |some c=>
   rw[g]at e;cases e;have f:=RE g k1.2 k2.2 k3.2 (by simpa using d);exact⟨by simp[f.1],tZ.2 ⟨k3.1,f.2⟩⟩
  |none=>
   rw[g]at e;simp only at e;split at e
   .cases e;exact⟨by simpa using d,tZ.2 ⟨by omega,k1.2⟩⟩
   .cases e
 |[],_,_,_,e,_,_,_,_=>by simp[AP]at e
 |_::_,[],_,_,e,_,_,_,_=>by simp[AP]at e
 |_::_,_::_,[],_,e,_,_,_,_=>by simp[AP]at e
def BI{l:fJ}(h:I l<=600):Qy l=O l:=kV h
def Hm:∀(n:Nat) {lo hi az:fJ},I (pE lo hi az)=n->I lo=I az->I hi=I az->I az<=600->HB lo->HB hi->HB az->Fs (lo,hi,az)=O (pE lo hi az)
 |n,lo,hi,az,hn,c,d,e,k1,k2,k3=>by
  have es:=Dc c d;rw[Fs];simp only[BI e,Qf,L8 c d e k3];cases g:AP lo hi az with
  |none=>
   rw[g]at es;simp only[c,fX,Qf,es];rfl
  |some b=>
   rw[g]at es;have f:=RE g k1 k2 k3 c;have j:I (pE lo hi b)<n:=by rw[<-hn,es];simp
   have k:=Hm (I<|pE lo hi b) (lo:=lo) (hi:=hi) (az:=b) rfl y9 y9 y9 k1 k2 f.2;simp only[f.1,fX,Qf,ak,k,es]
termination_by n=>n
def He:∀{lo hi i:fJ},I lo=I hi->(gm lo hi=J)->(i∈pE lo hi lo↔kh lo hi i=J)
 |[],[],[],_,_=>by simp[pE,kh]
 |[],[],_::_,_,_=>by simp[pE,kh]
 |l::lo,h::hi,i,e,f=>by
  simp only[gm,jE,zE]at f;have d:=λj=>He (lo:=lo) (hi:=hi) (i:=j) (by simpa using e) f.2
  have g:pE (l::lo) (h::hi) (l::lo)=(Cr l h).flatMap λb=>(pE lo hi lo).map (b::·):=by rw[C2 f.1,aI,pE]
  rw[g];simp only[bJ,aq,Oy];constructor
  .rintro⟨b,⟨k,m⟩,j,n,rfl⟩
   simp only[kh,k,m,decide_true,dX,bg];exact(d j).1 n
  .intro c;cases i with
   |nil=>simp[kh]at c
   |cons b j=>
    simp only[kh,jE,zE]at c;exact⟨b,c.1,j,(d j).2 c.2,rfl⟩
 |[],_::_,_,e,_=>by simp at e
 |_::_,[],_,e,_=>by simp at e
def Ot{s lo hi:fJ}(g:fQ s<=65536)(d:I lo=I hi)(hl:I lo<=600)(H:okB s lo hi)(f:gm lo hi=J)(k1:HB lo)(k2:HB hi):My lo hi=O (pE lo hi lo):=by have hc:=uH (lo:=lo) (hi:=hi) g d hl (λ_=>H);have e:=DX (lo:=lo) (hi:=hi) (λ_=>H);rw[f]at e;have c:=of_decide_eq_true e;unfold My;simp only[BI hl,Qf,hc,c,ak];exact Hm _ rfl rfl d.symm hl k1 k2 k1
def G5:∀(s t p q:fJ) (x:Int),I p=I q->I (p++s)<=1000->I (q++t)<=1000->ZG (q++t,p++s,x,(I p:Int))=O (nD s t x)
 |[],t,p,q,x,h,c,d=>by
  rw[ZG]
  have:¬((I p:Int)<(if(I (q++t):Int)<(I (p++([]:fJ)):Int)then(I (q++t):Int)else(I (p++([]:fJ)):Int))):=by simp only[jW,jL];split <;>omega
  simp only[this,ai,nD]
 |a::s,[],p,q,x,h,c,d=>by
  rw[ZG]
  have:¬((I p:Int)<(if(I (q++([]:fJ)):Int)<(I (p++a::s):Int)then(I (q++([]:fJ)):Int)else(I (p++a::s):Int))):=by simp only[jW,jL,zH];split <;>omega
  simp only[this,ai,nD]
 |a::s,b::t,p,q,x,h,c,d=>by
  rw[ZG]
  have f:((I p:Int)<(if(I (q++b::t):Int)<(I (p++a::s):Int)then(I (q++b::t):Int)else(I (p++a::s):Int))):=by simp only[jW,zH];split <;>omega
  have g:idx (q++b::t) (I p:Int)=O b:=by rw[h];exact Qv
  have e:=G5 s t (p++[a]) (q++[b]) (W<|x+W (a*b)) (by simp[h]) (by simpa using c) (by simpa using d);rw[<-Qs,<-Qs]at e;have w:W ((I p:Int)+1)=(I (p++[a]):Int):=kQ (hZ c);simp only[f,ak,Qf,Qv,g,w,e,nD]
def OV{a b:fJ}(c:I a<=1000)(d:I b<=1000):RG (a,b)=O (nD a b 0):=by have e:=G5 a b [] [] 0 rfl (by simpa using c) (by simpa using d);simp only[jQ,jL,jJ]at e;unfold RG;simp only[e,Qf]
def Bm:∀(s t p q:fJ),I s=I t->I p=I q->Sm (I<|p++s)->YZ (p++s,q++t,(I p:Int))=O (if iz t s=J then .inr ()else .inl ())
 |[],[],p,q,_,_,c=>by rw[YZ];simp only[Q1,ai,iz,ak]
 |x::s,n::t,p,q,j,e,c=>by
  rw[YZ];have f:=Bm s t (p++[x]) (q++[n]) (by simpa using j) (by simp[e]) (by rw[<-Qs];exact c);rw[<-Qs,<-Qs]at f;simp only[QX,ak,Qv,Qf,kQ c,f,iz];rw[e,Qv];by_cases d:x<0
  .simp[d,Qf,show¬0<=x by omega]
  .by_cases g:x>=n
   .simp[d,g,Qf,show¬x<n by omega]
   .simp[d,g,Qf,show 0<=x by omega,show x<n by omega]
 |[],_::_,_,_,h,_,_=>by cases h
 |_::_,[],_,_,h,_,_=>by cases h
def IK(s i:fJ)(c:Sm (I i)):Ug (s,i)=O (iz s i):=by
 simp only[Ug];by_cases h:I i=I s
 .have e:YZ (i,s,0)=_:=Bm i s [] [] h rfl c;rw[ae y9,e];cases iz s i<;>rfl
 .rw[aj y9,F6 (λe=>h e.symm)]
def KA{s:fJ}(hc:fY s=0)(e7:∀n∈s,1<=n):X5 s=O ⟨ig s,s⟩:=by simp only[X5,qA hc e7,Qf]
def EI:∀(s t p q:fJ) (a:Int),iz s t=J->I p=I q->Sm (I<|p++s)->0<=a->a+iN s t<=65536->fQ s<=65536->
  ZG (q++t,p++ig s,a,(I p:Int))=O (a+iN s t)
 |[],[],p,q,a,_,d,e,l,j,_=>by
  rw[ZG]
  have:¬((I p:Int)<(if(I (q++[]):Int)<(I (p++ig []):Int)then(I (q++[]):Int)else(I (p++ig []):Int))):=by simp[ig,d]
  simp only[this,ai];simp[iN]
 |n::s,x::t,p,q,a,c,d,e,l,j,m=>by
  rw[ZG];simp only[iz,jE,zE]at c;have hl:=iv c.2;have w:=gu (qj c.2);obtain⟨y,z⟩:=iy c.2;rw[iN]at j;rw[gx]at m;have c1:0<=x*fQ s:=cj c.1.1 y9;have c2:1*fQ s<=n*fQ s:=aK y9 y9
  have this:((I p:Int)<(if(I (q++x::t):Int)<(I (p++ig (n::s)):Int)then(I (q++x::t):Int)else(I (p++ig (n::s)):Int))):=by simp only[jW,zH,lK,d];split <;>omega
  have hi:idx (q++x::t) (I p:Int)=O x:=by rw[d];exact Qv
  have f:idx (p++ig (n::s)) (I p:Int)=O (fQ s):=Qv;have r:W (fQ s*x)=x*fQ s:=by rw[bI,kP y9 y9]
  have u:W (a+x*fQ s)=a+x*fQ s:=kP y9 y9;have k:=EI s t (p++[fQ s]) (q++[x]) (a+x*fQ s) c.2 (by simp[d]) (by have:=e;simp at this |-;unfold Sm at *;omega) y9 y9 y9;rw[<-Qs,<-Qs]at k
  have v:W ((I p:Int)+1)=(I (p++[fQ s]):Int):=by unfold Sm at e;simp at e;rw[kP y9 y9];simp
  simp only[this,ak,hi,f,Qf,r,u,v];have g:ZG (q++x::t,p++ig (n::s),a+x*fQ s,(I (p++[fQ s]):Int))=_:=k;rw[g,iN,Int.add_assoc]
 |[],_::_,_,_,_,h,_,_,_,_,_=>by cases h
 |_::_,[],_,_,_,h,_,_,_,_,_=>by cases h
def Gg{s i:fJ}(h:iz s i=J)(hc:fY s=0):TJ (s,i)=O (iN s i,J):=by obtain⟨d,c,f⟩:=fT hc;obtain⟨g,j⟩:=iy h;have hl:=iv h;have e:=EI s i [] [] 0 h rfl (hZ (show I s<=1000 by omega)) y9 y9 c;have e':ZG (i,ig s,0,0)=O (0+iN s i):=e;simp only[TJ,IK s i<|hZ (show I i<=1000 by omega),h,Qf,jO,ai,KA hc<|qj h,Wg,RG,e',dF]
def S3{a:Qj}{i:fJ}(g:la (I i) a)(hi:I i<=600)(hn:A3 a):∃v ok,TW (a,i)=O (v,ok)/\vV a i=(if ok=U then(J,0,0)else(U,a.bc,v))/\(ok=U->v=0/\a.bx=1):=by
 have V:=hn.m;have d:=hn.l;obtain⟨n,p,ba,s,c,sp,md⟩:=a;simp only at d;have e:RG (s,i)=O (nD s i 0):=OV y9 y9;have j:Qy s=O s:=gn yA y9;unfold TW VJ Vs Wx;simp only[j,Qf];rcases g with h|⟨h|h,q⟩<;>simp only at h<;>subst h
 .refine⟨0,U,?_,rfl,λ_=>⟨rfl,rfl⟩⟩;simp only[show¬(1:Int)=3 by decide,show¬(1:Int)=2 by decide,ai,Qf,e]
 .refine⟨W<|ba+nD s i 0,J,?_,?_,λh=>absurd h yD⟩
  .simp only[show¬(2:Int)=3 by decide,ai,ak,Qf,e]
  .simp only[vV,show¬(2:Int)=1 by decide,show¬(2:Int)=3 by decide,ai,Bh,jO]
 .obtain⟨m1,m2⟩:=V rfl;simp only at m1 m2;have f:pz (W<|c+nD s i 0) md=O ((W<|c+nD s i 0).tmod md):=ae y9;have t:=D1 (a:=W (c+iB s i)) m1;have r:=dT (W<|c+iB s i) (show 0<md by omega);rw[Bh]at f
  have k:(if(W<|c+iB s i).tmod md<0 then O (W<|(W<|c+iB s i).tmod md+md)else O ((W<|c+iB s i).tmod md))=O (W (c+iB s i)%md):=by
   rw[<-t];split
   .rw[kP y9 y9]
   .rfl
  have m3:¬md<=0:=by omega
  refine⟨W<|ba+W (sp*(W (c+iB s i)%md)),J,?_,?_,λh=>absurd h yD⟩
  .simp only[show¬(3:Int)=2 by decide,ai,ak,Qf,e,Bh,m3,f,k]
  .simp only[vV,show¬(3:Int)=1 by decide,ak,ai,jO]
def E0:∀{s lo hi:fJ},okB s lo hi->gm lo hi=J
 |[],[],[],_=>rfl
 |n::s,l::lo,h::hi,H=>by simp only[gm,jE,zE];exact⟨H.1.2.1,E0 H.2⟩
 |[],_::_,_,h=>by simp[okB]at h
 |[],[],_::_,h=>by simp[okB]at h
 |_::_,[],_,h=>by simp[okB]at h
 |_::_,_::_,[],h=>by simp[okB]at h
def K8:∀{s lo hi:fJ},okB s lo hi->(∀n∈s,n<=65536)->HB lo/\HB hi
 |[],[],[],_,_=>⟨λx c=>by simp at c,λx c=>by simp at c⟩
 |n::s,l::lo,h::hi,H,d=>by
  have e:=K8 H.2 λn hn=>d n<|jG _ hn
  have hn:=d n (jM ..);obtain⟨⟨k1,k2,k3⟩,_⟩:=H;exact⟨tZ.2 ⟨by omega,e.1⟩,tZ.2 ⟨by omega,e.2⟩⟩
 |[],_::_,_,h,_=>by simp[okB]at h
 |[],[],_::_,h,_=>by simp[okB]at h
 |_::_,[],_,h,_=>by simp[okB]at h
 |_::_,_::_,[],h,_=>by simp[okB]at h
def Nf{s i j:fJ}(hi:iz s i=J)(c:iz s j=J)(h:(iN s i).toNat=(iN s j).toNat):i=j:=by
 have d:=iy hi;have f:=iy c;have e:iN s i=iN s j:=by omega
 rw[<-oa hi,<-oa c,e]
def wW{f:Type}{s:fJ}{F:fJ->f}{N:Nat}{step:fJ->List f->Option (List f)}(p:(N:Int)=fQ s):
  ∀(l:List fJ),(∀i∈l,iz s i=J)->(∀i∈l,∀v:List f,I v=N->step i v=O (v.set (iN s i).toNat<|F i))->∀v:List f,I v=N->
  ∃v',Bj step l v=O v'/\(I v')=N/\∀j,iz s j=J->(j∈l\/v[(iN s j).toNat]?=O (F j))->v'[(iN s j).toNat]?=O (F j)
 |[],_,_,v,k=>⟨v,rfl,k,λj _ h=>by
  rcases h with h|h
  .simp at h
  .exact h⟩
 |i::l,m,n,v,k=>by
  have e:=n i (jM ..) v k;obtain⟨v',k1,k2,k3⟩:=wW p l (λj d=>m j<|jG _ d) (λj d=>n j<|jG _ d) (v.set (iN s i).toNat<|F i) (by simpa using k);refine⟨v',by rw[Bj,e,Qf,k1],k2,λj d h=>k3 j d ?_⟩;have hi:=m i (jM ..);have r:=iy hi;by_cases c:i=j
  .subst c;refine .inr ?_;rw[List.getElem?_set_self y9]
  .rcases h with h|h
   .rcases ar.1 h with g|g
    .exact absurd g.symm c
    .exact .inl g
   .refine .inr ?_;rw[dI (λe=>c<|Nf hi d e)];exact h
def AX(k:Qb)(i:fJ):QC:=oT (MD<|oG k i)
def D7{k:Qb}{v2:List QC}(hc:fY k.aa=0)(m:(I v2:Int)=fQ k.aa):∀(l p:List Qa) (v:List QC),I p+I l<=100000->(∀x∈l,okB k.aa x.box.lo x.box.hi/\la (I k.aa) x.be/\M3 k x)->I v=I v2->
  ∃v',YY (p++l,k.aa,v2,v,(I p:Int))=O v'/\(I v')=I v2/\∀j,iz k.aa j=J->((∃x∈l,ij j x=J)\/v[(iN k.aa j).toNat]?=O (AX k j))->v'[(iN k.aa j).toNat]?=O (AX k j)
 |[],p,v,_,_,D=>by
  rw[YY];simp only[Q1,ai];refine⟨v,rfl,D,λj _ h=>?_⟩;rcases h with⟨x,C,_⟩|h
  .simp at C
  .exact h
 |x::l,p,v,hl,C,D=>by
  obtain⟨c1,c2,S⟩:=fT hc;obtain⟨q,T,E⟩:=C x (jM ..);obtain⟨l1,l2⟩:=ki q;have L:=E0 q;obtain⟨b1,b2⟩:=K8 q λn hn=>(S n hn).2
  have X:=Ot c2 (show I x.box.lo=I x.box.hi by omega) y9 q L b1 b2;have V:∀i,i∈pE x.box.lo x.box.hi x.box.lo↔ij i x=J:=λi=>He y9 L
  rw[YY];have f:∀i∈pE x.box.lo x.box.hi x.box.lo,iz k.aa i=J:=λi hi=>oO q<|(V i).1 hi
  obtain⟨v',k1,k2,k3⟩:=wW (F:=AX k) (N:=I v2) (step:=λ(g:fJ) (c:(List QC))=>
   TJ (k.aa,g)>>=λ(d,M)=>
   TW (x.be,g)>>=λ(s,t)=>
   QN (0<=d/\(d).toNat<I v2)>>=λ_=>
   idx c d>>=λP=>
   iM c d (⟨(!t),x.be.bc,s⟩:QC)>>=λA=>
   O A) m (pE x.box.lo x.box.hi x.box.lo) f (λi hi w hw=>by
    have e:=f i hi;have r:=iy e;have G:=iv e;obtain⟨a,ok,Y,e2,e4⟩:=S3 (a:=x.be) (i:=i) (by rw[<-G];exact T) y9 E.1.2;have e3:=E.1.1 i e ((V i).1 hi)
    have ec:(⟨(!ok),x.be.bc,a⟩:QC)=AX k i:=by
     unfold AX;rw[<-e3,e2];cases ok with
     |true=>rfl
     |false=>
      obtain⟨q1,q2⟩:=e4 rfl;have q3:x.be.bc=0:=by rw[E.2.k1 q2];rfl
      rw[q1,q3];rfl
    have ei:idx w (iN k.aa i)=O (w[(iN k.aa i).toNat]'y9):=by simp[idx,r.1,show(iN k.aa i).toNat<I w by omega]
    have es:∀y:QC,iM w (iN k.aa i) y=O (w.set (iN k.aa i).toNat y):=λy=>by simp[iM,r.1,show(iN k.aa i).toNat<I w by omega]
    simp only[Gg e hc,Qf,Y,fX (show 0<=iN k.aa i/\(iN k.aa i).toNat<I v2 by omega),ei,ec,es]) v D
  have Q:=D7 hc m l (p++[x]) v' (by simp at hl |-;omega) (λy B=>C y<|jG _ B) k2;rw[<-Qs]at Q;obtain⟨u,u1,u2,u3⟩:=Q;have hpl:I p<=100000:=by omega
  have H:JQ (x.box.lo,x.box.hi)=O (x.box.lo,x.box.hi):=by simp only[JQ,BI (show I x.box.lo<=600 by omega),BI (show I x.box.hi<=600 by omega),Qf]
  refine⟨u,?_,u2,λj K h=>u3 j K ?_⟩
  .simp only[QX,ak,Qv,Qf,H,X];refine(bQ (λz=>z>>=λc=>YY (p++x::l,k.aa,v2,c,W<|(I p:Int)+1)) k1).trans ?_;have hW:W ((I p:Int)+1)=(I (p++[x]):Int):=jq y9;simp only[Qf,hW,u1]
  .rcases h with⟨y,B,R⟩|h
   .rcases ar.1 B with rfl|B
    .exact .inr<|k3 j K<|.inl<|(V j).2 R
    .exact .inl ⟨y,B,R⟩
   .exact .inr<|k3 j K<|.inr h
def I3{k:Qb}(hc:fY k.aa=0){l:List Qa}(h:Inv (M3 k) k.aa l):TE (l,k.aa)=O ((ke k).map oT):=by
 obtain⟨c1,c2,w⟩:=fT hc;have hn:∀n∈k.aa,0<=n:=λn hn=>(w n hn).1
 have H:=kK hn;have y:=h.len hn
 have V:kj 24 (fQ k.aa) (⟨U,0,0⟩:QC)=O (Nab (fQ k.aa).toNat ⟨U,0,0⟩):=by
  have:((65536:Nat)*24:Nat)<=jd:=by decide +kernel
  unfold kj;rw[aj ⟨by omega,by omega,by omega⟩]
 have z:I (Nab (fQ k.aa).toNat (⟨U,0,0⟩:QC))=(fQ k.aa).toNat:=zK;obtain⟨v,A,B,C⟩:=D7 hc (v2:=Nab (fQ k.aa).toNat ⟨U,0,0⟩) (by rw[z];omega) l [] (Nab (fQ k.aa).toNat ⟨U,0,0⟩) yA (λx m=>⟨h.box x m,h.acc x m,h.ss x m⟩) rfl;have p:YY (l,k.aa,Nab (fQ k.aa).toNat ⟨U,0,0⟩,Nab (fQ k.aa).toNat ⟨U,0,0⟩,0)=O v:=A
 have D:v=(ke k).map oT:=by
  apply bG;intro j;by_cases g:j<(fQ k.aa).toNat
  .have r:j<I (iF k.aa):=by omega
   have c:=pJ hn _ (zD r);have e7:=qj c;have s:=mf e7 j y9;obtain⟨_,d⟩:=af.1 s;rw[d]at c;have E:=iy c;have t:=mf e7 (iN k.aa<|jy k.aa (j:Int)).toNat y9;rw[show(((iN k.aa<|jy k.aa (j:Int)).toNat:Nat):Int)=iN k.aa (jy k.aa (j:Int)) by omega,oa c]at t
   have F:iN k.aa (jy k.aa (j:Int))=(j:Int):=by
    obtain⟨l2,u⟩:=af.1 t;have f:=dh.1 (M2 hn);rcases cC j (iN k.aa<|jy k.aa (j:Int)).toNat with q|q|q
    .exact absurd (d.trans u.symm)<|f _ _ r l2 q
    .omega
    .exact absurd (u.trans d.symm)<|f _ _ l2 r q
   have e:=C _ c (.inl<|dg.1 (by rw[h.s4 _ c];omega));rw[F]at e;have e':v[j]?=O (AX k<|jy k.aa (j:Int)):=e;rw[e'];simp only[ke,zG,jD,s,jN];rfl
  .rw[aD y9,aD (by simp[ke];omega)]
 have gc:=kL k.aa (hZ (show I k.aa<=1000 by omega));have G:jf k.aa=fQ k.aa:=aj hc;simp only[TE,gc,G,Qf,V,p,B,fX];rw[D]
section
variable{bs:List fJ}{m:Int}{G:Qb->Prop}{R:Qb->Qa->Prop}{nv:List Qa->fJ->fJ->List Qa}
theorem LJ(S:Wo G R nv)(hR:∀c k,G c->c.bx=6->c.ea=[k]->∀l,Inv (R k) k.aa l->Jk (l,k.aa,c.aa)=O (nv l k.aa c.aa))(V:m<=20000)(X:GK bs m G):∀(n:Nat) (c:Qb),uu c<=n->G c->mR (conv c)=O (qo nv c)
 |0,c,h,_=>by have:=qx c;omega
 |n+1,c,h,C=>by
  obtain⟨hn,hcl,hk⟩:=X c C;obtain⟨z,_,_⟩:=mE hn;obtain⟨⟨_,v,hpr,_⟩,hck⟩:=ov hcl;obtain⟨c1,c2,c3⟩:=fT v
  have sub:∀k∈c.ea,∃l,l=qo nv k/\mR (conv k)=O l/\Inv (R k) k.aa l/\fY k.aa=0/\fQ k.aa<=20000:=λk D=>by
   have hsz:uu k<uu c:=by
    obtain⟨a1,a2,a3,a4,a5,a6,a7,ks⟩:=c;rw[uu]
    have:∀{l:List Qb},k∈l->uu k<=uB l:=λ{l}=>by
     induction l with
     |nil=>intro h;simp at h
     |cons a l ih=>
      intro h;rw[uB];rcases ar.1 h with rfl|h
      .omega
      .have:=ih h;omega
    have:uu k<=uB ks:=this D
    omega
   have T:=LJ S hR V X n k y9 (hk k D);have e2:=wI S X n k y9 (hk k D);obtain⟨⟨_,q1,q2,_⟩,_⟩:=ov (hck k D);exact⟨_,rfl,T,e2,q1,by omega⟩
  clear X;obtain⟨E,sh,K,st,d,L,M,ks⟩:=c;simp only at *
  have one:E≠1->E≠7->∃k,ks=[k]:=λn1 n7=>by
   have:=z.ea;simp only at this;rw[ae n7,ae n1]at this
   match ks,this with
   |[k],_=>exact⟨k,rfl⟩
   |[],h=>simp at h
   |_::_::_,h=>simp at h;omega
  have hkd:=z.bx;simp only at hkd;rw[Cl,conv];unfold mR;dsimp only;rw[ZX];by_cases k1:E=1
  .subst k1
   have hks:ks=[]:=by have:=z.ea;simp only[show¬(1:Int)=7 by decide,ai,ak]at this;exact aw y9
   subst hks;simp only[vQ,Sp,Qf,ak,VI,Ku K v];rfl
  by_cases k7:E=7
  .subst k7
   obtain⟨k,k2,rfl⟩:∃k k2,ks=[k,k2]:=by
    have:=z.ea;simp only[ak]at this
    match ks,this with
    |[a,b],_=>exact⟨a,b,rfl⟩
    |[],h=>simp at h
    |[_],h=>simp at h
    |_::_::_::_,h=>simp at h;omega
   obtain⟨l,u,T,F,A,H⟩:=sub k yB;obtain⟨l2,w,e2,i2,j3,j4⟩:=sub k2 yB;obtain⟨g,p,B,Y,N⟩:=z.cat rfl k k2 [] rfl;simp only at g p B Y N;have f:d=(d.toNat:Int):=by omega
   have b1:=(fT A).2.2;have b2:=(fT j3).2.2;have f1:sh.set d.toNat (k.aa.getD d.toNat 0)=k.aa:=wz p λj hj hne=>((N j y9).2 y9).2
   have f2:sh.set d.toNat (k2.aa.getD d.toNat 0)=k2.aa:=wz y9 λj hj hne=>by have:=(N j y9).2 y9;omega
   have hn1:=b1 (k.aa.getD d.toNat 0) (by rw[gP y9];exact zD _);have hn2:=b2 (k2.aa.getD d.toNat 0) (by rw[gP y9];exact zD _)
   have f3:sh[d.toNat]?=O (k.aa.getD d.toNat 0+k2.aa.getD d.toNat 0):=by rw[ir y9,(N d.toNat y9).1 f.symm,gE y9 y9]
   have:=OE (Q:=R ⟨7,sh,K,st,d,L,M,[k,k2]⟩) (s:=sh) (k:=d.toNat) (n1:=k.aa.getD d.toNat 0) (n2:=k2.aa.getD d.toNat 0) (l1:=l) (l2:=l2) (P1:=R k) (P2:=R k2) (by rw[f1];exact F) (by rw[f2];exact i2) v y9 (by rw[f1];exact A) (by rw[f2];exact j3) (by rw[f1];exact H) (by rw[f2];exact j4) f3
    (λx _ r y t=>S.Kp _ k k2 C rfl rfl x (by rwa [f1]at r) (by rw[p];exact y) t) (λx _ r y t=>S.OK _ k k2 C rfl rfl x (by rwa [f2]at r) (by rw[<-g,p];exact y) t)
   rw[<-f]at this;have g7:∀j:Int,j≠7->¬(7:Int)=j:=λj h e=>h e.symm
   have W:idx k.aa d=O (k.aa.getD d.toNat 0):=by have q:=mU (ir (l:=k.aa) (k:=d.toNat) y9);rwa [<-f]at q
   have p0:idx [l,l2] 0=O l:=rfl;have p1:idx [l,l2] 1=O l2:=rfl;have p2:idx [conv k,conv k2] 0=O (conv k):=rfl;simp only[vQ,Tg _ _ _ _ _ _ _ T e2,Qf,show¬(7:Int)=1 by decide,show¬(7:Int)=2 by decide,show¬(7:Int)=3 by decide,show¬(7:Int)=4 by decide,show¬(7:Int)=5 by decide,show¬(7:Int)=6 by decide,ai,ak,V9,p0,p1,p2,sQ,W,this.1]
   first|rfl|(subst u;rfl)|(subst u;subst w;rfl)
  obtain⟨k,rfl⟩:=one k1 k7;obtain⟨l,u,T,F,A,H⟩:=sub k yB;have p0:idx [l] 0=O l:=rfl;have p2:idx [conv k] 0=O (conv k):=rfl;simp only[vQ,R3 _ _ _ _ _ _ _ T,Qf,k1,ai];by_cases k2:E=2
  .subst k2;obtain⟨g,p,B⟩:=z.uo rfl;have B:=B k [] rfl;simp only at g p B;have:=P7 (Q:=R ⟨2,sh,K,st,d,L,M,[k]⟩) (st:=st) F A H v B g p (λx _ r y t hf=>S.uo _ k C rfl rfl x r y t hf) (λb r hv=>S.Lx _ k C rfl rfl b r hv);simp only[ak,VC,p0,p2,Qf,sQ,this.1]
   first|rfl|(subst u;rfl)|(subst u;subst w;rfl)
  simp only[k2,ai];by_cases k3:E=3
  .subst k3;obtain⟨g,p,B⟩:=z.rev (.inl rfl) k [] rfl;simp only at g p B;have f:d=(d.toNat:Int):=by omega
   have P:sh[d.toNat]?=O (sh.getD d.toNat 0):=ir y9;rw[g]at F A H;have:=Pz (Q:=R ⟨3,sh,K,st,d,L,M,[k]⟩) F A H P (λx _ r y t=>S.rev _ k C rfl rfl x (by rw[g];exact r) (by rw[g];exact y) t);rw[<-f]at this;have W:idx sh d=O (sh.getD d.toNat 0):=by have q:=mU P;rwa [<-f]at q
   simp only[ak,Wf,p0,Qf,W,this.1]
   first|rfl|(subst u;rfl)|(subst u;subst w;rfl)
  simp only[k3,ai];by_cases k4:E=4
  .subst k4;obtain⟨g,p,B⟩:=z.rev (.inr rfl) k [] rfl;obtain⟨Y,N⟩:=z.vk rfl;simp only at g p B Y N;have f:d=(d.toNat:Int):=by omega
   have P:sh[d.toNat]?=O (sh.getD d.toNat 0):=ir y9;have hnn:=c3 _ (jF P);rw[g]at F A H;have:=PM (Q:=R ⟨4,sh,K,st,d,L,M,[k]⟩) (m:=L) F A H P Y y9 (λx _ r y t=>S.vk _ k C rfl rfl x (by rw[g];exact r) (by rw[g];exact y) t);rw[<-f]at this;have W:idx sh d=O (sh.getD d.toNat 0):=by have q:=mU P;rwa [<-f]at q
   simp only[ak,VZ,p0,Qf,W,this.1]
   first|rfl|(subst u;rfl)|(subst u;subst w;rfl)
  simp only[k4,ai];by_cases k5:E=5
  .subst k5;obtain⟨g,p⟩:=z.x7 rfl k [] rfl;simp only at g p;have b1:=(fT A).2.2;have p:=p λn hn=>(b1 n hn).1
   have t:∀j∈M,0<=j/\j.toNat<I sh:=λj hj=>by obtain⟨i,hi,rfl⟩:=bD hj;have:=p i y9;rw[gP hi]at this;omega
   have:=PA (Q:=R ⟨5,sh,K,st,d,L,M,[k]⟩) F A H v g t (λi hi=>(p i hi).2.2) (λx _ r y t hf=>S.N2 _ k C rfl rfl x r y t hf);simp only[ak,V7,p0,Qf,this.1]
   first|rfl|(subst u;rfl)|(subst u;subst w;rfl)
  simp only[k5,ai];have k6:E=6:=by omega
  subst k6;have q1:=hR _ k C rfl rfl l F;simp only at q1;simp only[ak,Ws,p0,p2,Qf,sQ,q1];subst u;rfl
end
section
def O6{bs:List fJ}{m:Int}(g:I bs<=1000)(j:1<=m)(n:m<=200):∀c k,GZ bs m c->c.bx=6->c.ea=[k]->∀l,Inv (M3 k) k.aa l->Jk (l,k.aa,c.aa)=O (oA l k.aa c.aa):=λc k e p f l h=>by have d:=(oe c e).2.2 k (by rw[f];simp);exact Pn g j n e.1 p f (h.mono λx _ q=>q.1) λ_=>I3 (oe.ns d).1 h
def OG{bs:List fJ}{m:Int}(d:I bs<=1000)(e:1<=m)(f:m<=200){c:Qb}(g:GZ bs m c):S7 (conv c)=O (qo oA c)/\Inv (M3 c) c.aa (qo oA c):=
 ⟨(by cases hc:conv c;exact SQ ⟨_,_,_,_,_,_,_,_⟩:S7 (conv c)=mR (conv c)).trans<|LJ (Rs d e f) (O6 d e f) y9 oe (uu c) c (j7 _) g,wI (Rs d e f) oe (uu c) c (j7 _) g⟩
set_option maxHeartbeats 2000000
def Wc:(Qk×Qk)->Option Bool|(p0,p1)=>YV (p0.lo,p1.lo)>>=λc=>if c=J then YV (p0.hi,p1.hi)>>=λv2=>O v2 else O U
def QhB{p0 p1 r0}(V:Wc (p0,p1)=O r0):FQ 41 [(Qk.b8 p0),(Qk.b8 p1)] (Qp r0):=by unfold Wc at V;exact fp (fn:=f41) rfl<|ge 3<|gr 4 (bi V λd c V=>cp (TZ c)<|Qe 1<|lJ 10 V (λV=>Qe 4 (bi V λv2 c V=>cp (TZ c)<|re 2<|Qn zf)) (λV=>re 7<|Qn zf))
def Wq:(Qt×Qt)->Option Bool|(p0,p1)=>(if p0.bx=p1.bx then O (p0.bc==p1.bc)else O U)>>=λ(c:Bool)=>(if c=J then O (p0.ek==p1.ek)else O U)>>=λ(v2:Bool)=>(if v2=J then O (p0.ed==p1.ed)else O U)>>=λ(d:Bool)=>(if d=J then O (p0.dk==p1.dk)else O U)>>=λ(e:Bool)=>(if e=J then O (p0.ep==p1.ep)else O U)>>=λ(f:Bool)=>if f=J then YV (p0.bm,p1.bm)>>=λg=>O g else O U
def QhF{p0 p1 r0}(V:Wq (p0,p1)=O r0):FQ 42 [(Qt.b8 p0),(Qt.b8 p1)] (Qp r0):=by
 unfold Wq at V
 exact fp (fn:=f42) rfl<|ge 3<|Qh<|CK<|Qe 6 (bi V λe c V=>ZF (j:=12) (λd=>⟨sl d 52 [(2,(.ptr 0 0)),(3,(.ptr 1 0)),(4,(Qp U)),(16,(Qp e))],[(QB p0.bx p0.bc p0.ek p0.bm p0.ed p0.dk p0.ep),(QB p1.bx p1.bc p1.ek p1.bm p1.ed p1.dk p1.ep)]⟩) (λd=>Qe 1 (bi V λv2 c V=>ZF (j:=19) (λd=>⟨sl d 52 [(2,(.ptr 0 0)),(3,(.ptr 1 0)),(4,(Qp U)),(23,(Qp v2))],[(QB p0.bx p0.bc p0.ek p0.bm p0.ed p0.dk p0.ep),(QB p1.bx p1.bc p1.ek p1.bm p1.ed p1.dk p1.ep)]⟩) (λd=>Qe 1 (bi V λf c V=>ZF (j:=26) (λd=>⟨sl d 52 [(2,(.ptr 0 0)),(3,(.ptr 1 0)),(4,(Qp U)),(30,(Qp f))],[(QB p0.bx p0.bc p0.ek p0.bm p0.ed p0.dk p0.ep),(QB p1.bx p1.bc p1.ek p1.bm p1.ed p1.dk p1.ep)]⟩) (λd=>Qe 1 (bi V λg c V=>ZF (j:=33) (λd=>⟨sl d 52 [(2,(.ptr 0 0)),(3,(.ptr 1 0)),(4,(Qp U)),(37,(Qp g))],[(QB p0.bx p0.bc p0.ek p0.bm p0.ed p0.dk p0.ep),(QB p1.bx p1.bc p1.ek p1.bm p1.ed p1.dk p1.ep)]⟩) (λd=>Qe 1 (bi V λk c V=>ZF (j:=40) (λd=>⟨sl d 52 [(2,(.ptr 0 0)),(3,(.ptr 1 0)),(4,(Qp U)),(44,(Qp k))],[(QB p0.bx p0.bc p0.ek p0.bm p0.ed p0.dk p0.ep),(QB p1.bx p1.bc p1.ek p1.bm p1.ed p1.dk p1.ep)]⟩) (λd=>Qe 1<|lJ 45 V (λV=>Qe 4 (bi V λm l V=>cp (TZ l)<|re 2 ⟨kr,Qn zf⟩)) (λV=>re 7 ⟨kr,Qn zf⟩)) (λhJ=>lJ 38 c (λV=>Qe 6 zf) (λV=>Qe 6 zf)))) (λhJ=>lJ 31 c (λV=>Qe 6 zf) (λV=>Qe 6 zf)))) (λhJ=>lJ 24 c (λV=>Qe 6 zf) (λV=>Qe 6 zf)))) (λhJ=>lJ 17 c (λV=>Qe 6 zf) (λV=>Qe 6 zf)))) (λhJ=>Ba 10 c (λV=>Qe 6 zf) (λV=>Qe 6 zf)))
def Xr:((List Qc)×(List Qc)×Int)->Option (Unit⊕ Unit)|(p0,p1,c)=>if c<(I p0:Int)then(idx p0 c>>=λd=>idx p1 c>>=λe=>Wc (d.box,e.box)>>=λf=>if f=U then O J else idx p0 c>>=λg=>idx p1 c>>=λj=>Wq (g.be,j.be)>>=λk=>O<|!k)>>=λ(l:Bool)=>if l=J then O (Naf ())else Xr (p0,p1,(W<|c+1))else O (Nag ())
 partial_fixpoint
def Qd8:∀x r,Xr x=O r->match x with|(p0,p1,c)=>LQ f12 12 [1,1,0,1,0,0] 0 ⟨kp 43 [(0,(QL p0)),(1,(QL p1)),(5,(Qd c))],[]⟩ (P2 .ret (λ_ d=>⟨sl d 43 [(4,(Qp U))],[]⟩) (.exit 0) (λ_ d=>⟨sl d 43 [],[]⟩) r):=by refine Xr.partial_correctness _ (λXr Qd8 x r V=>?_);obtain⟨p0,p1,c⟩:=x;exact lp<|Qh<|gr 2<|QM Qc.b8 p0<|re 1<|ri V (λV=>Qm<|Qh<|Ql<|Qh (bi V λe p V=>Zm (λd=>⟨sl d 43 [(0,(QL p0)),(1,(QL p1)),(5,(Qd c)),(42,(Qp e))],[]⟩) (have V:=p;Zd (Qe 2 (QE 9 Qc.b8 V λg V=>Qe 4 (QE 9 Qc.b8 V λj V=>Qe 2 (bi V λk f V=>cp (QhB f)<|Qe 2<|RH 29 V (λV=>re 13 ⟨kr,zf⟩) (λV=>Qe 2 (QE 9 Qc.b8 V λl V=>Qe 4 (QE 9 Qc.b8 V λm V=>Qe 2 (bi V λn f V=>cp (QhF f)<|re 2 ⟨kr,zf⟩))))))))) (λd=>lf V (λV=>ge 1<|Qn zf) (λV=>Qm<|gp<|re 3<|Qd8 _ _ V _ kr)))) (λV=>QD zf)
def T0:((List Qc)×(List Qc))->Option Bool|(p0,p1)=>if(I p0:Int)≠(I p1:Int)then O U else(Xr (p0,p1,0)>>=λ|.inl _=>O U|.inr _=>O J)
def QhG{p0 p1 r0}(V:T0 (p0,p1)=O r0):FQ 12 [(.ew<|(Naa Qc.b8) p0),(.ew<|(Naa Qc.b8) p1)] (Qp r0):=by unfold T0 at V;exact fp (fn:=f12) rfl<|ge 1<|Qh<|gr 1<|QM Qc.b8 p0<|Qe 1<|QM Qc.b8 p1<|re 1<|zz V (λV=>ge 1<|Qn zf) (λV=>Qm<|Qh<|ge 1<|Ql (pG V (Qd8 _) (λ_ d V=>zf) λ_ d V=>ge 1<|Qn zf))
def XK:(Qo×Int)->Option (Unit⊕ Unit)|(p0,c)=>if c<(I p0.lo:Int)then idx p0.lo c>>=λd=>((if d<0 then O J else idx p0.hi c>>=λe=>O<|decide<|d>e)>>=λ(f:Bool)=>if f=J then O J else idx p0.hi c>>=λg=>O<|decide<|g>65536)>>=λ(j:Bool)=>if j=J then O (Naf ())else XK (p0,(W<|c+1))else O (Nag ())
 partial_fixpoint
def W0:∀x r,XK x=O r->match x with|(p0,c)=>LQ f48 48 [1,1,0,1,0,0] 1 ⟨kp 46 [(1,(.ptr 0 0)),(19,(La p0.lo)),(20,(Qd (I p0.lo:Int))),(21,(Qd c))],[(Qz p0.lo p0.hi)]⟩ (P2 .ret (λ_ d=>⟨sl d 46 [(2,(Qp U))],[(Qz p0.lo p0.hi)]⟩) (.exit 0) (λ_ d=>⟨sl d 46 [],[(Qz p0.lo p0.hi)]⟩) r):=by refine XK.partial_correctness _ (λXK W0 x r V=>?_);obtain⟨p0,c⟩:=x;exact lp<|ge 1<|Qh<|ri V (λV=>Qm<|Qh<|Ql<|gr 1 (QE 1 Qg V λk V=>re 3<|Qh (bi V λe g V=>Zm (λd=>⟨sl d 46 [(1,(.ptr 0 0)),(19,(La p0.lo)),(20,(Qd (I p0.lo:Int))),(21,(Qd c)),(44,(Qp e))],[(Qz p0.lo p0.hi)]⟩) (have V:=g;CK (Qe 3 (bi V λf g V=>ZF (j:=11) (λd=>⟨sl d 46 [(1,(.ptr 0 0)),(3,(Qd c)),(19,(La p0.lo)),(20,(Qd (I p0.lo:Int))),(21,(Qd c)),(36,(Qp f))],[(Qz p0.lo p0.hi)]⟩) (λd=>Qe 1<|lJ 37 V (λV=>re 7 ⟨kr,zf⟩) (λV=>Qe 3 (QE 1 Qg V λl V=>re 3 ⟨kr,zf⟩))) (λhJ=>gs 28 g (λV=>Qe 8 zf) (λV=>Qe 4 (QE 1 Qg V λm V=>Qe 3 zf)))))) (λd=>lf V (λV=>ge 1<|Qn zf) (λV=>Qm<|gp<|re 2<|W0 _ _ V _ kr))))) (λV=>QD zf)
def SI:Qo->Option Bool|p0=>(if(I p0.lo:Int)≠(I p0.hi:Int)then O J else O (decide<|(I p0.lo:Int)>16))>>=λ(c:Bool)=>if c=J then O U else(XK (p0,0)>>=λ|.inl _=>O U|.inr _=>O J)
def QgB{p0 r0}(V:SI p0=O r0):FQ 48 [(Qo.b8 p0)] (Qp r0):=by unfold SI at V;exact fp (fn:=f48) rfl<|ge 2<|Qh<|Qh (bi V λc e V=>Zm (λd=>⟨sl d 46 [(1,(.ptr 0 0)),(17,(Qp c))],[(Qz p0.lo p0.hi)]⟩) (have V:=e;gp (Qe 2<|QM Qg p0.lo<|Qe 2<|QM Qg p0.hi<|Qe 2<|KP 12 V (λV=>re 5 zf) (λV=>Qe 2<|QM Qg p0.lo<|re 2 zf))) (λd=>lf V (λV=>ge 1<|Qn zf) (λV=>Qm<|Qh<|gr 2<|QM Qg p0.lo<|re 1<|Ql (pG V (W0 _) (λ_ d V=>zf) λ_ d V=>ge 1<|Qn zf))))
def VG:Int->Option Bool|p0=>if p0<(-1099511627776)then O J else O (decide<|p0>1099511627776)
def Qhy{p0 r0}(V:VG p0=O r0):FQ 96 [(Qg p0)] (Qp r0):=by unfold VG at V;exact fp (fn:=f96) rfl<|ge 1<|gr 3<|gs 5 V (λV=>re 4<|Qn zf) (λV=>re 4<|Qn zf)
def QK:(fJ×Int)->Option (Int⊕ Unit)|(p0,c)=>if c<(I p0:Int)then idx p0 c>>=λd=>VG d>>=λe=>if e=J then O (Naf c)else QK (p0,(W<|c+1))else O (Nag ())
 partial_fixpoint
def Yz:∀x r,QK x=O r->match x with|(p0,c)=>LQ f131 131 [1,0,1,0,0] 0 ⟨kp 19 [(0,(La p0)),(1,(Nae 96)),(7,(Qd (I p0:Int))),(8,(Qd c))],[]⟩ (P2 .ret (λe d=>⟨sl d 19 [(4,(Qd e))],[]⟩) (.exit 0) (λ_ d=>⟨sl d 19 [],[]⟩) r):=by refine QK.partial_correctness _ (λQK Yz x r V=>?_);obtain⟨p0,c⟩:=x;exact lp<|ge 1<|Qh<|ri V (λV=>Qm<|Qh<|Ql<|ge 2<|gr 3 (QE 1 Qg V λf V=>Qe 1 (bi V λg j V=>cp (Qhy j)<|Q6<|lf V (λV=>ge 2<|Qn zf) (λV=>Qm<|gp<|re 2<|Yz _ _ V _ kr)))) (λV=>QD zf)
def ZN:fJ->Option Int|p0=>(QK (p0,0)>>=λ|.inl c=>O c|.inr _=>O (-1))
def Qb3{p0 r0}(V:ZN p0=O r0):FQ 131 [(Lb p0),(.raw<|.func (.func 96) #[] #[])] (Qd r0):=by unfold ZN at V;exact fp (fn:=f131) rfl<|ge 1<|Qh<|gr 1<|QM Qg p0<|re 1<|Ql (pG V (Yz _) (λc d V=>zf) λ_ d V=>ge 1<|Qn zf)
def Q9:fJ->Option Bool|p0=>ZN p0>>=λc=>O<|decide<|c>=0
def Qbl{p0 r0}(V:Q9 p0=O r0):FQ 95 [(Lb p0),(.raw<|.func (.func 96) #[] #[])] (Qp r0):=by unfold Q9 at V;exact fp (fn:=f95) rfl<|ge 1<|gr 2 (bi V λd c V=>cp (Qb3 c)<|re 2<|Qn zf)
def VO:(Qj×Qj)->Option Bool|(p0,p1)=>Zs (p0.bm,p1.bm)>>=λc=>(if c=J then O (p0.bx==p1.bx)else O U)>>=λ(v2:Bool)=>(if v2=J then O (p0.bc==p1.bc)else O U)>>=λ(d:Bool)=>(if d=J then O (p0.ek==p1.ek)else O U)>>=λ(e:Bool)=>(if e=J then O (p0.ed==p1.ed)else O U)>>=λ(f:Bool)=>(if f=J then O (p0.dk==p1.dk)else O U)>>=λ(g:Bool)=>if g=J then O (p0.ep==p1.ep)else O U
def Qhe{p0 p1 r0}(V:VO (p0,p1)=O r0):FQ 97 [(Qj.b8 p0),(Qj.b8 p1)] (Qp r0):=by
 unfold VO at V
 exact fp (fn:=f97) rfl<|ge 3<|Qh<|Zd<|re 6 ⟨kr,ge 4<|Qh<|CK<|Qe 4 (bi V λm e V=>cp (Qdi e)<|Qe 1 (bi V λv2 c V=>ZF (j:=12) (λd=>⟨sl d 58 [(4,(Qp U)),(5,(.ptr 0 0)),(6,(.ptr 1 0)),(22,(Qp v2))],[(Oi p0.bx p0.bc p0.ek p0.ed p0.dk p0.ep),(Oi p1.bx p1.bc p1.ek p1.ed p1.dk p1.ep)]⟩) (λd=>Qe 1 (bi V λf c V=>ZF (j:=19) (λd=>⟨sl d 58 [(4,(Qp U)),(5,(.ptr 0 0)),(6,(.ptr 1 0)),(29,(Qp f))],[(Oi p0.bx p0.bc p0.ek p0.ed p0.dk p0.ep),(Oi p1.bx p1.bc p1.ek p1.ed p1.dk p1.ep)]⟩) (λd=>Qe 1 (bi V λg c V=>ZF (j:=26) (λd=>⟨sl d 58 [(4,(Qp U)),(5,(.ptr 0 0)),(6,(.ptr 1 0)),(36,(Qp g))],[(Oi p0.bx p0.bc p0.ek p0.ed p0.dk p0.ep),(Oi p1.bx p1.bc p1.ek p1.ed p1.dk p1.ep)]⟩) (λd=>Qe 1 (bi V λk c V=>ZF (j:=33) (λd=>⟨sl d 58 [(4,(Qp U)),(5,(.ptr 0 0)),(6,(.ptr 1 0)),(43,(Qp k))],[(Oi p0.bx p0.bc p0.ek p0.ed p0.dk p0.ep),(Oi p1.bx p1.bc p1.ek p1.ed p1.dk p1.ep)]⟩) (λd=>Qe 1 (bi V λl c V=>ZF (j:=40) (λd=>⟨sl d 58 [(4,(Qp U)),(5,(.ptr 0 0)),(6,(.ptr 1 0)),(50,(Qp l))],[(Oi p0.bx p0.bc p0.ek p0.ed p0.dk p0.ep),(Oi p1.bx p1.bc p1.ek p1.ed p1.dk p1.ep)]⟩) (λd=>Qe 1<|lJ 51 V (λV=>re 7 ⟨kr,Qn zf⟩) (λV=>re 7 ⟨kr,Qn zf⟩)) (λhJ=>lJ 44 c (λV=>Qe 6 zf) (λV=>Qe 6 zf)))) (λhJ=>lJ 37 c (λV=>Qe 6 zf) (λV=>Qe 6 zf)))) (λhJ=>lJ 30 c (λV=>Qe 6 zf) (λV=>Qe 6 zf)))) (λhJ=>lJ 23 c (λV=>Qe 6 zf) (λV=>Qe 6 zf)))) (λhJ=>lJ 16 c (λV=>Qe 6 zf) (λV=>Qe 6 zf))))⟩
def JO:(Qj×Int)->Option Bool|(p0,p1)=>if p1<0 then O U else if p1>16 then O U else app 8 ([p0.bc,p0.ek,p0.ed,p0.dk,p0.ep]:fJ) p0.bm>>=λc=>Q9 c>>=λv2=>if v2=J then O U else if p0.bx=1 then VO (p0,(⟨1,0,0,([]:fJ),0,0,0⟩:Qj))>>=λd=>O d else if p0.bx=2 then(if p0.bc>=0 then O ((I p0.bm:Int)==p1)else O U)>>=λ(e:Bool)=>(if e=J then O (p0.ed==0)else O U)>>=λ(f:Bool)=>(if f=J then O (p0.dk==0)else O U)>>=λ(g:Bool)=>if g=J then O (p0.ep==0)else O U else if p0.bx=3 then(if p0.bc>=0 then O ((I p0.bm:Int)==p1)else O U)>>=λ(j:Bool)=>if j=J then O (decide<|p0.ep>0)else O U else O U
def QgU{p0 p1 r0}(V:JO (p0,p1)=O r0):FQ 50 [(Qj.b8 p0),(Qg p1)] (Qp r0):=by
 unfold JO at V
 exact fp (fn:=f50) rfl<|ge 2<|Qh<|gr 3<|gs 7 V (λV=>re 20<|L9 kr<|ge 1<|Qn zf) (λV=>Qe 4<|gs 11 V (λV=>re 16<|L9 kr<|ge 1<|Qn zf) (λV=>Qe 13 (bi V λe f V=>YA 3 1 8 1 Qg ([p0.bc,p0.ek,p0.ed,p0.dk,p0.ep]:fJ) p0.bm e (xs:=(Naa Qg) ([p0.bc,p0.ek,p0.ed,p0.dk,p0.ep]:fJ)) (es:=(Naa Qg) p0.bm) (L:=(Naa Qg)) yC rfl rfl yC f (bi V λv2 f V=>cp (Qbl f)<|re 1<|lf V (λV=>ge 1<|Qn zf) (λV=>Qm<|Qh<|ge 2<|Ql<|ge 2<|mQ V (λV=>gr 2 (bi V λn f V=>cp (Qhe f)<|re 1<|Qn zf)) (λV=>ge 2<|mQ V (λV=>Qh<|CK<|Qe 4 (bi V λg c V=>ZF (j:=10) (λd=>⟨sl d 79 [(2,(.ptr 0 0)),(4,(Qp U)),(46,(Qp g))],[(QB p0.bx p0.bc p0.ek p0.bm p0.ed p0.dk p0.ep),(.tok 3<|I e)]⟩) (λd=>Qe 1 (bi V λk c V=>ZF (j:=15) (λd=>⟨sl d 79 [(2,(.ptr 0 0)),(4,(Qp U)),(51,(Qp k))],[(QB p0.bx p0.bc p0.ek p0.bm p0.ed p0.dk p0.ep),(.tok 3<|I e)]⟩) (λd=>Qe 1 (bi V λl c V=>ZF (j:=20) (λd=>⟨sl d 79 [(2,(.ptr 0 0)),(4,(Qp U)),(56,(Qp l))],[(QB p0.bx p0.bc p0.ek p0.bm p0.ed p0.dk p0.ep),(.tok 3<|I e)]⟩) (λd=>Qe 1<|lJ 57 V (λV=>re 5 ⟨kr,Qn zf⟩) (λV=>re 5 ⟨kr,Qn zf⟩)) (λhJ=>lJ 52 c (λV=>Qe 4 zf) (λV=>Qe 4 zf)))) (λhJ=>lJ 47 c (λV=>Qe 4 zf) (λV=>Qe 4 zf)))) (λhJ=>gs 40 c (λV=>Qe 2<|QM Qg p0.bm<|Qe 3 zf) (λV=>Qe 6 zf)))) (λV=>ge 2<|mQ V (λV=>Qh<|CK<|Qe 4 (bi V λm c V=>ZF (j:=10) (λd=>⟨sl d 79 [(2,(.ptr 0 0)),(4,(Qp U)),(73,(Qp m))],[(QB p0.bx p0.bc p0.ek p0.bm p0.ed p0.dk p0.ep),(.tok 3<|I e)]⟩) (λd=>Qe 1<|lJ 74 V (λV=>re 5 ⟨kr,Qn zf⟩) (λV=>re 5 ⟨kr,Qn zf⟩)) (λhJ=>gs 67 c (λV=>Qe 2<|QM Qg p0.bm<|Qe 3 zf) (λV=>Qe 6 zf)))) (λV=>Qm<|ge 1<|Qn zf))))))))
def Zk:(fJ×fJ×Int)->Option (Int⊕ Unit)|(p0,p1,c)=>if c<(I p0:Int)then idx p0 c>>=λe=>if c>=(I p1:Int)then O (Naf 1)else idx p1 c>>=λf=>Xb (e,f)>>=λd=>if d≠0 then O (Naf d)else Zk (p0,p1,(W<|c+1))else O (Nag ())
 partial_fixpoint
def JF:∀x r,Zk x=O r->match x with|(p0,p1,c)=>LQ f98 98 [1,0,1,0,0] 0 ⟨kp 36 [(0,(La p0)),(1,(La p1)),(9,(La p0)),(10,(Qd (I p0:Int))),(11,(Qd c))],[]⟩ (P2 .ret (λe d=>⟨sl d 36 [(4,(Qd e))],[]⟩) (.exit 0) (λ_ d=>⟨sl d 36 [(0,(La p0)),(1,(La p1))],[]⟩) r):=by refine Zk.partial_correctness _ (λZk JF x r V=>?_);obtain⟨p0,p1,c⟩:=x;exact lp<|ge 1<|Qh<|ri V (λV=>Qm<|Qh<|Ql<|gr 1 (QE 1 Qg V λf V=>re 3<|Qh<|gr 2<|QM Qg p1<|re 1<|ri V (λV=>ge 1<|Qn zf) (λV=>Qm<|gr 2 (QE 1 Qg V λg V=>re 2<|gr 2 (bi V λj k V=>cp (QeM k)<|re 1<|ge 2<|zz V (λV=>ge 2<|Qn zf) (λV=>Qm<|gp<|re 2<|JF _ _ V _ kr)))))) (λV=>QD zf)
def Je:(fJ×fJ)->Option Int|(p0,p1)=>(Zk (p0,p1,0)>>=λ|.inl c=>O c|.inr _=>if(I p0:Int)<(I p1:Int)then O (-1)else O 0)
def QeW{p0 p1 r0}(V:Je (p0,p1)=O r0):FQ 98 [(Lb p0),(Lb p1)] (Qd r0):=by unfold Je at V;exact fp (fn:=f98) rfl<|ge 1<|Qh<|gr 1<|QM Qg p0<|re 1<|Ql (pG V (JF _) (λc d V=>zf) λ_ d V=>Qh<|gr 1<|QM Qg p0<|Qe 1<|QM Qg p1<|re 1<|ri V (λV=>ge 1<|Qn zf) (λV=>Qm<|ge 1<|Qn zf))
def JR:(Qa×Qa)->Option Int|(p0,p1)=>Je (p0.box.lo,p1.box.lo)>>=λc=>O c
def Qg2{p0 p1 r0}(V:JR (p0,p1)=O r0):FQ 51 [(Qa.b8 p0),(Qa.b8 p1)] (Qd r0):=by unfold JR at V;exact fp (fn:=f51) rfl<|ge 3<|gr 6 (bi V λd c V=>cp (QeW c)<|re 1<|Qn zf)
def J5:(Qo×fJ×Int)->Option (Unit⊕ Unit)|(p1,p0,c)=>if c<(I p1.hi:Int)then idx p1.hi c>>=λd=>idx p0 c>>=λe=>if d>e then O (Naf ())else J5 (p1,p0,(W<|c+1))else O (Nag ())
 partial_fixpoint
def WE:∀x r,J5 x=O r->match x with|(p1,p0,c)=>LQ f100 100 [1,1,0,1,0,0] 1 ⟨kp 33 [(0,(La p0)),(19,(La p1.hi)),(20,(Qd (I p1.hi:Int))),(21,(Qd c))],[(Qz p1.lo p1.hi)]⟩ (P2 .ret (λ_ d=>⟨sl d 33 [(4,(Qp U))],[(Qz p1.lo p1.hi)]⟩) (.exit 0) (λ_ d=>⟨sl d 33 [],[(Qz p1.lo p1.hi)]⟩) r):=by refine J5.partial_correctness _ (λJ5 WE x r V=>?_);obtain⟨p1,p0,c⟩:=x;exact lp<|ge 1<|Qh<|ri V (λV=>Qm<|Qh<|Ql<|gr 1 (QE 1 Qg V λe V=>re 3<|gr 3 (QE 1 Qg V λf V=>re 2<|ri V (λV=>ge 1<|Qn zf) (λV=>Qm<|gp<|re 2<|WE _ _ V _ kr)))) (λV=>QD zf)
def TF:(fJ×Qo)->Option Bool|(p0,p1)=>(SI p1>>=λ(v2:Bool)=>if v2=U then O J else O ((I p1.hi:Int) !=(I p0:Int)))>>=λ(c:Bool)=>if c=J then O U else(J5 (p1,p0,0)>>=λ|.inl _=>O U|.inr _=>O J)
def QiF{p0 p1 r0}(V:TF (p0,p1)=O r0):FQ 100 [(Lb p0),(Qo.b8 p1)] (Qp r0):=by unfold TF at V;exact fp (fn:=f100) rfl<|ge 2<|Qh<|Qh (bi V λc e V=>Zm (λd=>⟨sl d 33 [(0,(La p0)),(3,(.ptr 0 0)),(17,(Qp c))],[(Qz p1.lo p1.hi)]⟩) (have V:=e;gp (Qe 1 (bi V λv2 f V=>cp (QgB f)<|Qe 2<|RH 10 V (λV=>re 7 zf) (λV=>Qe 2<|QM Qg p1.hi<|Qe 1<|QM Qg p0<|re 2 zf)))) (λd=>lf V (λV=>ge 1<|Qn zf) (λV=>Qm<|Qh<|gr 2<|QM Qg p1.hi<|re 1<|Ql (pG V (WE _) (λ_ d V=>zf) λ_ d V=>ge 1<|Qn zf))))
def XJ:((List Qo)×Qo×fJ×(List Qo)×Int×Int×Int×Int)->Option ((fJ×fJ×fJ×fJ)⊕ Unit)|(d,g,p0,p1,k,l,m,e)=>if e<(I d:Int)then idx d e>>=λc=>XT (g,c)>>=λ(f,j)=>if j=J then O (Naf (c.lo,c.hi,f.lo,f.hi))else XJ (d,g,p0,p1,k,l,m,(W<|e+1))else O (Nag ())
 partial_fixpoint
def WC:∀x r,XJ x=O r->match x with|(e,c,p0,p1,f,g,j,k)=>LQ f53 53 [1,1,0,1,0,0,1,1,0,0,1,1,1,1,0,0] 1 ⟨kp 48 [(0,(La p0)),(1,(O8 p1)),(5,(Qd<|W<|f+g)),(7,(.ptr 0 0)),(12,(O8 p1)),(13,(Qd (I p1:Int))),(14,(Qd j)),(29,(O8 e)),(30,(Qd (I e:Int))),(31,(Qd k))],[(Qz c.lo c.hi)]⟩ (P2 .ret (λ(l,m,n,p) d=>⟨sl d 48 [(4,(Qp U))],[(Qz c.lo c.hi),(Qz l m),(Qz n p)]⟩) (.exit 2) (λ_ d=>⟨sl d 48 [(0,(La p0)),(1,(O8 p1)),(5,(Qd<|W<|f+g)),(12,(O8 p1)),(13,(Qd (I p1:Int))),(14,(Qd j))],[(Qz c.lo c.hi)]⟩) r):=by refine XJ.partial_correctness _ (λXJ WC x r V=>?_);obtain⟨e,c,p0,p1,f,g,j,k⟩:=x;exact lp<|ge 1<|Qh<|ri V (λV=>Qm<|Qh<|Ql<|Qh<|gp (QE 2 Qo.b8 V λq V=>re 3<|gr 2 (sB V λs t u V=>cp (Qfh u)<|re 6<|ge 1<|lf V (λV=>ge 1<|Qn zf) (λV=>Qm<|gp<|re 2<|WC _ _ V _ kr)))) (λV=>QD zf)
def XI:((List Qo)×fJ×Int×Int)->Option ((fJ×fJ)⊕ (fJ×fJ×fJ×fJ×fJ×fJ)⊕ Int)|(p1,p0,e,d)=>if d<(I p1:Int)then idx p1 d>>=λc=>TF (p0,c)>>=λm=>if m=U then O (Naf (c.lo,c.hi))else Ju c>>=λf=>sub p1 0 d>>=λn=>(XJ (n,c,p0,p1,e,f,d,0)>>=λ|.inl (g,j,k,l)=>O (Nag<|Naf (c.lo,c.hi,g,j,k,l))|.inr _=>XI (p1,p0,(W<|e+f),(W<|d+1)))else O (Nag<|Nag e)
 partial_fixpoint
def Qew:∀x r,XI x=O r->match x with|(p1,p0,e,c)=>LQ f53 53 [1,1,0,1,0,0] 0 ⟨kp 48 [(0,(La p0)),(1,(O8 p1)),(5,(Qd e)),(12,(O8 p1)),(13,(Qd (I p1:Int))),(14,(Qd c))],[]⟩ (P3 .ret (λ(g,j) d=>⟨sl d 48 [(4,(Qp U))],[(Qz g j)]⟩) .ret (λ(k,l,m,n,p,q) d=>⟨sl d 48 [(4,(Qp U))],[(Qz k l),(Qz m n),(Qz p q)]⟩) (.exit 0) (λs d=>⟨sl d 48 [(0,(La p0)),(5,(Qd s))],[]⟩) r):=by refine XI.partial_correctness _ (λXI Qew x r V=>?_);obtain⟨p1,p0,e,c⟩:=x;exact lp<|ge 1<|Qh<|ri V (λV=>Qm<|Qh<|Ql<|gr 1 (QE 2 Qo.b8 V λz V=>re 4<|Qh<|gr 2 (bi V λA t V=>cp (QiF t)<|re 1<|zb V (λV=>ge 1<|Qn zf) (λV=>Qm<|gr 2 (bi V λB t V=>cp (Vq t)<|re 2<|gr 2 (bi V λf t V=>Uf 2 Qo.b8 p1 f 0 c (es:=(Naa Qo.b8) p1) (L:=(Naa Qo.b8)) (a:=vX 0) (b:=vX c) yC rfl (λ_=>by first|rfl|exact oy<|Qo.fit _) t rfl (Or.inl rfl)<|QM Qo.b8 f<|re 1<|Ql (pG V (WC _) (λ⟨u,v,w,y⟩ d V=>zf) λ_ d V=>gp<|re 2<|Qew _ _ V _ kr))))))) (λV=>QD zf)
def UQ:(fJ×(List Qo))->Option Bool|(p0,p1)=>(XI (p1,p0,0,0)>>=λ|.inl (e,f)=>O U|.inr (.inl (g,j,k,l,m,n))=>O U|.inr (.inr d)=>Xl p0>>=λc=>O<|d==c)
def QhT{p0 p1 r0}(V:UQ (p0,p1)=O r0):FQ 53 [(Lb p0),(.ew<|(Naa Qo.b8) p1)] (Qp r0):=by unfold UQ at V;exact fp (fn:=f53) rfl<|ge 1<|ge 1<|Qh<|gr 1<|QM Qo.b8 p1<|re 1<|Ql (ru3 V (Qew _) (λ⟨e,f⟩ d V=>zf) (λ⟨g,j,k,l,m,n⟩ d V=>zf) λp d V=>gr 2 (bi V λc q V=>cp (TT q)<|re 2<|Qn zf))
def YG:((List Qa)×fJ×(List Qo)×Int)->Option ((fJ×fJ×Int×Int×Int×fJ×Int×Int×Int×Nat)⊕ (List Qo))|(p1,p0,e,d)=>if d<(I p1:Int)then idx p1 d>>=λc=>(SI c.box>>=λ(f:Bool)=>(if f=U then O J else Ju c.box>>=λg=>O<|g==0)>>=λ(j:Bool)=>(if j=J then O J else JO (c.be,(I p0:Int))>>=λk=>O<|!k)>>=λ(l:Bool)=>if l=J then O J else if d>0 then idx p1 (W<|d - 1)>>=λm=>JR (m,c)>>=λn=>O (decide<|n>=0)else O U)>>=λ(p:Bool)=>if p=J then O (Naf (c.box.lo,c.box.hi,c.be.bx,c.be.bc,c.be.ek,c.be.bm,c.be.ed,c.be.dk,c.be.ep,I e))else app 48 e ([c.box]:List Qo)>>=λq=>YG (p1,p0,q,(W<|d+1))else O (Nag e)
 partial_fixpoint
def Qc1:∀x r,YG x=O r->match x with|(p1,p0,e,f)=>LQ f15 15 [1,1,0,1,0,0] 1 ⟨kp 61 [(0,(La p0)),(1,(Q7 p1)),(5,(Vc e)),(8,(Q7 p1)),(9,(Qd (I p1:Int))),(10,(Qd f))],[(.tok 60<|I e)]⟩ (P2 .ret (λ(l,m,n,p,q,s,t,u,v,w) d=>⟨sl d 61 [(4,(Qp U))],[(.tok 60 w),(Zp l m n p q s t u v)]⟩) (.exit 0) (λk d=>⟨sl d 61 [(0,(La p0)),(5,(Vc k))],[(.tok 60<|I k)]⟩) r):=by
 refine YG.partial_correctness _ (λYG Qc1 x r V=>?_);obtain⟨p1,p0,e,f⟩:=x
 exact lp<|ge 1<|Qh<|ri V (λV=>Qm<|Qh<|Ql<|gr 1 (QE 9 Qa.b8 V λc V=>re 4<|Qh<|Qh (bi V λy z V=>Zm (λd=>⟨sl d 61 [(0,(La p0)),(1,(Q7 p1)),(5,(Vc e)),(7,(.ptr 1 0)),(8,(Q7 p1)),(9,(Qd (I p1:Int))),(10,(Qd f)),(46,(Qp y))],[(.tok 60<|I e),(Zp c.box.lo c.box.hi c.be.bx c.be.bc c.be.ek c.be.bm c.be.ed c.be.dk c.be.ep)]⟩) (have V:=z;Pj (Qe 2 (bi V λD g V=>cp (QgB g)<|Qe 2 (bi V λA z V=>ZF (j:=10) (λd=>⟨sl d 61 [(0,(La p0)),(1,(Q7 p1)),(5,(Vc e)),(6,(Qd f)),(7,(.ptr 1 0)),(8,(Q7 p1)),(9,(Qd (I p1:Int))),(10,(Qd f)),(24,(Qp A))],[(.tok 60<|I e),(Zp c.box.lo c.box.hi c.be.bx c.be.bc c.be.ek c.be.bm c.be.ed c.be.dk c.be.ep)]⟩) (λd=>Qe 1 (bi V λB z V=>ZF (j:=18) (λd=>⟨sl d 61 [(0,(La p0)),(1,(Q7 p1)),(5,(Vc e)),(6,(Qd f)),(7,(.ptr 1 0)),(8,(Q7 p1)),(9,(Qd (I p1:Int))),(10,(Qd f)),(32,(Qp B))],[(.tok 60<|I e),(Zp c.box.lo c.box.hi c.be.bx c.be.bc c.be.ek c.be.bm c.be.ed c.be.dk c.be.ep)]⟩) (λd=>Qe 1<|lJ 33 V (λV=>re 13 ⟨kr,zf⟩) (λV=>Qe 3<|gs 36 V (λV=>Qe 3 (QE 9 Qa.b8 V λE V=>Qe 2 (bi V λF g V=>cp (Qg2 g)<|re 3 ⟨kr,zf⟩))) (λV=>re 10 ⟨kr,zf⟩))) (λhJ=>lJ 25 z (λV=>Qe 7 zf) (λV=>Qe 3<|QM Qg p0 (bi V λG g V=>cp (QgU g)<|Qe 2 zf))))) (λhJ=>RH 19 z (λV=>Qe 5 zf) (λV=>Qe 2 (bi V λH g V=>cp (Vq g)<|Qe 2 zf))))))) (λd=>lf V (λV=>ge 1<|Qn zf) (λV=>Qm<|gp<|Qe 4 (bi V λC g V=>YA 60 2 48 0 Qo.b8 e ([c.box]:List Qo) C (xs:=(Naa Qo.b8) e) (es:=(Naa Qo.b8) ([c.box]:List Qo)) (L:=(Naa Qo.b8)) yC rfl rfl Qo.fit g<|re 1<|gp<|re 2<|Qc1 _ _ V _ kr)))))) (λV=>QD zf)
def Uk:(fJ×(List Qa))->Option Bool|(p0,p1)=>(YG (p1,p0,([]:List Qo),0)>>=λ|.inl (f,g,j,k,l,m,n,p,q,r)=>O U|.inr c=>TB p0>>=λd=>if d=0 then UQ (p0,c)>>=λe=>O e else O U)
def QgY{p0 p1 r0}(V:Uk (p0,p1)=O r0):FQ 15 [(Lb p0),(.ew<|(Naa Qa.b8) p1)] (Qp r0):=by unfold Uk at V;exact fp (fn:=f15) rfl<|ge 1<|ge 1<|Qh<|gr 1<|QM Qa.b8 p1<|re 1<|Ql (pG V (Qc1 _) (λ⟨e,f,g,j,k,l,m,n,p,q⟩ d V=>zf) λr d V=>gr 1 (bi V λs c V=>cp (QeV c)<|Qe 2<|Ba 56 V (λV=>Qe 2 (bi V λt c V=>cp (QhT c)<|re 2<|Qn zf)) (λV=>re 5<|Qn zf)))
def Y4:(fJ×fJ×Int)->Option (Unit⊕ Unit)|(p0,p1,c)=>if c<(I p0:Int)then(idx p1 c>>=λd=>if d<0 then O J else idx p1 c>>=λe=>idx p0 c>>=λf=>O<|decide<|e>=f)>>=λ(g:Bool)=>if g=J then O (Naf ())else Y4 (p0,p1,(W<|c+1))else O (Nag ())
 partial_fixpoint
def WO:∀x r,Y4 x=O r->match x with|(p0,p1,c)=>LQ f143 143 [1,1,0,1,0,0] 0 ⟨kp 33 [(0,(La p0)),(1,(La p1)),(5,(Qd c))],[]⟩ (P2 .ret (λ_ d=>⟨sl d 33 [(4,(Qp U))],[]⟩) (.exit 0) (λ_ d=>⟨sl d 33 [],[]⟩) r):=by refine Y4.partial_correctness _ (λY4 WO x r V=>?_);obtain⟨p0,p1,c⟩:=x;exact lp<|Qh<|gr 2<|QM Qg p0<|re 1<|ri V (λV=>Qm<|Qh<|Ql<|Qh (bi V λe k V=>Zm (λd=>⟨sl d 33 [(0,(La p0)),(1,(La p1)),(5,(Qd c)),(32,(Qp e))],[]⟩) (have V:=k;Zd (Qe 2 (QE 1 Qg V λf V=>Qe 3<|gs 22 V (λV=>re 10 ⟨kr,zf⟩) (λV=>Qe 2 (QE 1 Qg V λg V=>Qe 3 (QE 1 Qg V λj V=>re 3 ⟨kr,zf⟩)))))) (λd=>lf V (λV=>ge 1<|Qn zf) (λV=>Qm<|gp<|re 3<|WO _ _ V _ kr)))) (λV=>QD zf)
def SH:(fJ×fJ)->Option Bool|(p0,p1)=>if(I p0:Int)≠(I p1:Int)then O U else(Y4 (p0,p1,0)>>=λ|.inl _=>O U|.inr _=>O J)
def QeP{p0 p1 r0}(V:SH (p0,p1)=O r0):FQ 143 [(Lb p0),(Lb p1)] (Qp r0):=by unfold SH at V;exact fp (fn:=f143) rfl<|ge 1<|Qh<|gr 1<|QM Qg p0<|Qe 1<|QM Qg p1<|re 1<|zz V (λV=>ge 1<|Qn zf) (λV=>Qm<|Qh<|ge 1<|Ql (pG V (WO _) (λ_ d V=>zf) λ_ d V=>ge 1<|Qn zf))
def YJ:(fJ×fJ×Int×Int)->Option Int|(p0,p1,d,c)=>if c<(I p0:Int)then idx p0 c>>=λe=>idx p1 c>>=λf=>YJ (p0,p1,(W<|(W<|d*e)+f),(W<|c+1))else O d
 partial_fixpoint
def Qc6:∀x r,YJ x=O r->match x with|(p0,p1,c,e)=>LQ f104 104 [1,1,1,0,1,0,0] 0 ⟨kp 29 [(0,(La p0)),(1,(La p1)),(5,(Qd c)),(6,(Qd e))],[]⟩ (P1 (.exit 0) (λf d=>⟨sl d 29 [(5,(Qd f))],[]⟩) r):=by refine YJ.partial_correctness _ (λYJ Qc6 x r V=>?_);obtain⟨p0,p1,c,e⟩:=x;exact lp<|Qh<|gr 2<|QM Qg p0<|re 1<|ri V (λV=>Qm<|Qh<|Ql<|Zd<|Qe 3 (QE 1 Qg V λg V=>Qe 4 (QE 1 Qg V λj V=>re 3 ⟨kr,gp<|re 3<|Qc6 _ _ V _ kr⟩))) (λV=>QD zf)
def T9:(fJ×fJ)->Option Int|(p0,p1)=>SH (p0,p1)>>=λd=>if d=U then O (-1)else YJ (p0,p1,0,0)>>=λc=>O c
def QfI{p0 p1 r0}(V:T9 (p0,p1)=O r0):FQ 104 [(Lb p0),(Lb p1)] (Qd r0):=by unfold T9 at V;exact fp (fn:=f104) rfl<|ge 1<|Qh<|gr 2 (bi V λf e V=>cp (QeP e)<|re 1<|zb V (λV=>ge 1<|Qn zf) (λV=>Qm<|ge 1<|Qh<|ge 1<|Ql (kY V (Qc6 _) λc d V=>ge 2<|Qn zf)))
def Xv:(fJ×fJ×fJ×Int×Int)->Option (fJ)|(p0,m,d,e,c)=>if c>=0 then idx p0 c>>=λf=>pz e f>>=λg=>QN (I d=I m)>>=λ_=>idx d c>>=λn=>iM d c g>>=λj=>idx p0 c>>=λk=>zl e k>>=λl=>Xv (p0,m,j,l,(W<|c - 1))else O d
 partial_fixpoint
def Qdq:∀x r,Xv x=O r->match x with|(p0,k,c,f,g)=>LQ f144 144 [1,1,0,1,0,0] 1 ⟨kp 33 [(0,(La p0)),(1,(Qd f)),(5,(.arr 0 0 (I k)<|I k)),(6,(Qd g))],[(.box<|cellsOf Qg c)]⟩ (P1 (.exit 0) (λs d=>⟨sl d 33 [(5,(.arr 0 0 (I k)<|I k))],[(.box<|cellsOf Qg s)]⟩) r):=by refine Xv.partial_correctness _ (λXv Qdq x r V=>?_);obtain⟨p0,k,c,f,g⟩:=x;exact lp<|Qh<|ge 2<|ri V (λV=>Qm<|Qh<|Ql<|gr 5 (QE 1 Qg V λt V=>Qe 1 (bi V λu p V=>QA rfl (λ_=>OH (a:=f) (b:=t) p rfl kr kr) (gi V λq V=>bi V λw p V=>QA rfl (λ_=>T7 (e:=3) (l:=c) (n:=g) (i:=0) (cap:=I k) (m:=I k) p q kr kr rfl kr kr) (bi V λj p V=>Zb (λH=>H.set 0<|.box<|cellsOf Qg j) rfl kr (λ_=>UT Qg (l:=c) (n:=g) (y:=u) p yC kr rfl kr kr kr kr)<|Q6<|gp<|Qe 3 (QE 1 Qg V λv V=>Qe 1 (bi V λz p V=>QA rfl (λ_=>Qiq (a:=f) (b:=v) p rfl kr kr)<|re 1<|gp<|re 3<|Qdq _ _ V _<|fZ [(.box<|cellsOf Qg j)] (λ_=>(fR (kX Qg _ _ _) gD)) rfl))))))) (λV=>QD zf)
def UH:(fJ×Int)->Option fJ|(p0,p1)=>kj 8 (I p0:Int) 0>>=λd=>Xv (p0,d,d,p1,(W<|(I p0:Int) - 1))>>=λc=>QN (I c=I d)>>=λ_=>O c
def Qhi{p0 p1 r0}(V:UH (p0,p1)=O r0):FQ 144 [(Lb p0),(Qg p1)] (La r0):=by unfold UH at V;exact fp (fn:=f144) rfl<|ge 1<|gr 1<|QM Qg p0 (bi V λf j V=>Zb (v:=.arr 0 0 (I f) (I f)) (λH=>H++[.box (cellsOf Qg f)]) rfl kr (by intro K k;exact UB 0 Qg (z:=0) (n:=(I p0:Int)) (bytes:=8) j (e:=3) kr kr kr kr rfl rfl kr kr k)<|re 1<|Qh<|gr 1<|QM Qg p0<|re 2<|Ql<|kY V (Qdq _) (λg d V=>ge 2<|Qn (gi V λc V=>(by obtain rfl:=vz V;exact⟨trivial,Ym [(.arr 0 0 (I f)<|I f)] kr<|xE<|pq Qg g c yC kr⟩))) (hst:=(fZ [(.box<|cellsOf Qg f)] (λ_=>(fR (kX Qg _ _ _) gD)) rfl)))
def XU:(fJ×Qb×fJ×Qb×fJ×Int)->Option (fJ)|(j,p0,p1,m,c,d)=>if d<(I j:Int)then QN (I c=I j)>>=λ_=>idx c d>>=λk=>idx c d>>=λe=>idx p0.cx d>>=λf=>QN (I c=I j)>>=λ_=>idx c d>>=λl=>iM c d (W<|e+f)>>=λg=>XU (j,p0,p1,m,g,(W<|d+1))else O c
 partial_fixpoint
def WD:∀x r,XU x=O r->match x with|(m,p0,p1,A,f,c)=>LQ f105 105 [1,1,1,1,0,1,0,1,0,0,1,0,0] 2 ⟨kp 158 [(2,(.ptr 0 0)),(7,(.ms 1 (gb 0 p1.isEmpty) 0 (I m)<|I m)),(8,(La A.aa)),(9,(Qd c))],[(KE p0.bx p0.aa p0.bc p0.cx p0.ch p0.cS p0.eh p0.ea),(JN p1.isEmpty f)]⟩ (P1 (.exit 1) (λw d=>⟨sl d 158 [(7,(.ms 1 (gb 0 p1.isEmpty) 0 (I m)<|I m)),(8,(La A.aa))],[(KE p0.bx p0.aa p0.bc p0.cx p0.ch p0.cS p0.eh p0.ea),(JN p1.isEmpty w)]⟩) r):=by
 refine XU.partial_correctness _ (λXU WD x r V=>?_);obtain⟨m,p0,p1,A,f,c⟩:=x
 exact lp<|Qh<|gr 2<|Qe 1<|re 1<|ri V (λV=>Qm<|Qh<|Ql<|Zd<|Qe 4 (gi V λt V=>bi V λB p V=>QA rfl (λ_=>QR (e:=3) (n:=c) (j:=(c).toNat) (tt:=1) (g:=(gb 0 p1.isEmpty)) (lo:=0) (len:=I m) (cap:=I m) (k:=.i64) kr kr rfl kr kr (gw p)<|zB (gJ p) t) (bi V λq p V=>QA rfl (λ_=>Ye (tt:=1) (g:=(gb 0 p1.isEmpty)) (j:=(0+(c).toNat)) (e:=3) (cs:=cellsOf Qg f) (v:=.b7 (Qg q)) kr kr rfl kr (Zt kr)<|gM Qg p)<|Qe 3 (QE 1 Qg V λz V=>Qe 2 (gi V λu V=>bi V λC p V=>QA rfl (λ_=>QR (e:=3) (n:=c) (j:=(c).toNat) (tt:=1) (g:=(gb 0 p1.isEmpty)) (lo:=0) (len:=I m) (cap:=I m) (k:=.i64) kr kr rfl kr kr (gw p)<|zB (gJ p) u) (bi V λs p V=>Zb (λH=>H.set 1<|JN p1.isEmpty s) rfl kr (λ_=>Js Qg (l:=f) (n:=c) (y:=(W<|q+z)) p yC kr rfl kr kr kr kr)<|Q6 ⟨kr,gp<|re 3<|WD _ _ V _<|fZ [(KE p0.bx p0.aa p0.bc p0.cx p0.ch p0.cS p0.eh p0.ea),(JN p1.isEmpty s)] (λ_=>(fR kr<|fR (gj Qg _ _ _ _ _) gD)) rfl⟩)))))) (λV=>QD zf)
def XV:(Qb×Qb×fJ×fJ×fJ×Int)->Option (fJ)|(j,p0,p1,k,d,c)=>if c<(I j.aa:Int)then idx p0.eh c>>=λe=>idx p1 e>>=λf=>app 8 d ([f]:fJ)>>=λg=>XV (j,p0,p1,k,g,(W<|c+1))else O d
 partial_fixpoint
def Qd6:∀x r,XV x=O r->match x with|(l,p0,p1,k,c,j)=>LQ f105 105 [1,1,1,1,0,1,0,1,1,1,1,1,1,1,0,1,1,0,0] 3 ⟨kp 158 [(1,(La p1)),(2,(.ptr 0 0)),(7,(Oj c)),(8,(La l.aa)),(10,(Qd j))],[(KE p0.bx p0.aa p0.bc p0.cx p0.ch p0.cS p0.eh p0.ea),(JN p1.isEmpty k),(.tok 3<|I c)]⟩ (P1 (.exit 3) (λe d=>⟨sl d 158 [(7,(Oj e))],[(KE p0.bx p0.aa p0.bc p0.cx p0.ch p0.cS p0.eh p0.ea),(JN p1.isEmpty k),(.tok 3<|I e)]⟩) r):=by refine XV.partial_correctness _ (λXV Qd6 x r V=>?_);obtain⟨l,p0,p1,k,c,j⟩:=x;exact lp<|Qh<|gr 2<|QM Qg l.aa<|re 1<|ri V (λV=>Qm<|Qh<|Ql<|gp<|Qe 5 (QE 1 Qg V λm V=>Qe 1 (QE 1 Qg V λf V=>Qe 2 (bi V λg n V=>YA 3 1 8 2 Qg c ([f]:fJ) g (xs:=(Naa Qg) c) (es:=(Naa Qg) ([f]:fJ)) (L:=(Naa Qg)) yC rfl rfl yC n<|re 1<|gp<|re 3<|Qd6 _ _ V _<|fZ [(KE p0.bx p0.aa p0.bc p0.cx p0.ch p0.cS p0.eh p0.ea),(JN p1.isEmpty k),(.tok 3<|I g)] (λ_=>(fR kr<|fR (gj Qg _ _ _ _ _)<|fR kr gD)) rfl)))) (λV=>QD zf)
def Xp:(Qb×fJ)->Option (Int×fJ×Bool)|(p0,p1)=>(if p0.bx=1 then O J else SH (p0.aa,p1)>>=λv2=>O<|!v2)>>=λ(G:Bool)=>if G=J then O (0,([]:fJ),U)else app 8 ([]:fJ) p1>>=λc=>idx p0.ea 0>>=λg=>if p0.bx=2 then XU (c,p0,p1,g,c,0)>>=λd=>QN (I d=I c)>>=λ_=>SH (g.aa,d)>>=λt=>if t=U then O (0,([]:fJ),U)else QN (I d=I c)>>=λ_=>O (0,d,J)else if p0.bx=3 then idx g.aa p0.ch>>=λu=>idx c p0.ch>>=λD=>idx c p0.ch>>=λv=>idx c p0.ch>>=λE=>iM c p0.ch (W<|(W<|u - 1) - v)>>=λj=>QN (I j=I c)>>=λ_=>O (0,j,J)else if p0.bx=4 then idx c p0.ch>>=λF=>idx c p0.ch>>=λw=>idx g.aa p0.ch>>=λy=>pz (W<|w+p0.cS) y>>=λz=>idx c p0.ch>>=λv626=>iM c p0.ch z>>=λv627=>QN (I v627=I c)>>=λ_=>O (0,v627,J)else if p0.bx=5 then XV (g,p0,p1,c,([]:fJ),0)>>=λk=>O (0,k,J)else if p0.bx=6 then Yn g.aa>>=λe=>if e=0 then O (0,([]:fJ),U)else T9 (p0.aa,p1)>>=λl=>pz l e>>=λm=>UH (g.aa,m)>>=λn=>O (0,n,J)else if p0.bx=7 then idx c p0.ch>>=λA=>idx c p0.ch>>=λp=>idx g.aa p0.ch>>=λq=>if p>=q then idx c p0.ch>>=λB=>idx c p0.ch>>=λr=>idx g.aa p0.ch>>=λs=>idx c p0.ch>>=λC=>iM c p0.ch (W<|r - s)>>=λf=>QN (I f=I c)>>=λ_=>O (1,f,J)else O (0,c,J)else O (0,c,J)
def QhC{p0 p1 r0 r1 r2}(V:Xp (p0,p1)=O (r0,r1,r2)):FQ 105 [(Qb.ex p0),(Lb p1)] (.fz [(Qd r0),(La r1),(Qp r2)]):=by
 unfold Xp at V
 exact fp (fn:=f105) rfl<|ge 4<|Qh<|Qh (bi V λv1 hs V=>Zm (λd=>⟨sl d 158 [(1,(La p1)),(2,(.ptr 0 0)),(21,(Qp v1))],(QO p0.bx p0.aa p0.bc p0.cx p0.ch p0.cS p0.eh p0.ea)⟩) (have V:=hs;gp (Qe 4<|Ba 15 V (λV=>re 6 zf) (λV=>Qe 3 (bi V λv2 c V=>cp (QeP c)<|re 2 zf)))) (λd=>lf V (λV=>ge 3<|Qn zf) (λV=>Qm<|gr 2 (bi V λf c V=>Zb (v:=.ms 1 (gb 0 p1.isEmpty) 0 (I f) (I f)) (λH=>H.set 1<|JN p1.isEmpty f) rfl kr (λ_ hk=>TQ Qg (l:=([]:fJ)) (es:=p1) (bytes:=8) (e:=3) (tt:=1) (g:=0) (m:=I ([]:fJ)) c yC kr kr kr kr rfl rfl kr rfl kr (sX yC) hk)<|re 1<|gr 2 (bi V λM c V=>X9 8 Qb.b8 p0.ea 0 M (es:=Qb.hE p0.ea) (d:=(Qb.ex M)) (Qb.fa _) c (Qb.i6 M) rfl<|re 3<|Qh<|ge 2<|Ql<|ge 2<|mQ V (λV=>Qh<|ge 1<|Ql<|kY V (WD _) (λs d V=>gr 2 (gi V λx V=>bi V λY c V=>Qh9 (args:=[(La M.aa),(.ms 1 (gb 0 p1.isEmpty) 0 (I f)<|I f)]) (QeP c []) (iu kr<|iu (pR<|jx (e:=3) Qg s x yC kr) ng)<|re 1<|zb V (λV=>ge 3<|Qn zf) (λV=>Qm<|ge 4<|Qn (gi V λz V=>(by obtain⟨rfl,rfl,rfl⟩:=To V;exact⟨trivial,Ym [(Qd 0),(.ms 1 (gb 0 p1.isEmpty) 0 (I f)<|I f),(Qp J)] kr<|uI<|iu kr<|iu (pR<|jx (e:=3) Qg s z yC kr)<|iu kr ng⟩))))) (hst:=(fZ [(KE p0.bx p0.aa p0.bc p0.cx p0.ch p0.cS p0.eh p0.ea),(JN p1.isEmpty f)] (λ_=>(fR kr<|fR (gj Qg _ _ _ _ _) gD)) rfl))) (λV=>ge 2<|mQ V (λV=>Zd<|Qe 6 (QE 1 Qg V λG V=>Qe 5 (bi V λv617 c V=>QA rfl (λ_=>QR (e:=3) (n:=p0.ch) (j:=(p0.ch).toNat) (tt:=1) (g:=(gb 0 p1.isEmpty)) (lo:=0) (len:=I f) (cap:=I f) (k:=.i64) kr kr rfl kr kr (gw c)<|zB (gJ c) rfl) (bi V λt c V=>QA rfl (λ_=>Ye (tt:=1) (g:=(gb 0 p1.isEmpty)) (j:=(0+(p0.ch).toNat)) (e:=3) (cs:=cellsOf Qg f) (v:=.b7 (Qg t)) kr kr rfl kr (Zt kr)<|gM Qg c)<|Qe 1 (bi V λv619 c V=>QA rfl (λ_=>QR (e:=3) (n:=p0.ch) (j:=(p0.ch).toNat) (tt:=1) (g:=(gb 0 p1.isEmpty)) (lo:=0) (len:=I f) (cap:=I f) (k:=.i64) kr kr rfl kr kr (gw c)<|zB (gJ c) rfl) (bi V λu c V=>Zb (λH=>H.set 1<|JN p1.isEmpty u) rfl kr (λ_=>Js Qg (l:=f) (n:=p0.ch) (y:=(W<|(W<|G - 1) - t)) c yC kr rfl kr kr kr kr)<|Q6 ⟨kr,ge 4<|Qn (gi V λA V=>(by obtain⟨rfl,rfl,rfl⟩:=To V;exact⟨trivial,Ym [(Qd 0),(.ms 1 (gb 0 p1.isEmpty) 0 (I f)<|I f),(Qp J)] kr<|uI<|iu kr<|iu (pR<|jx (e:=3) Qg u A yC kr)<|iu kr ng⟩))⟩)))))) (λV=>ge 2<|mQ V (λV=>Zd<|Qe 6 (bi V λv622 c V=>QA rfl (λ_=>QR (e:=3) (n:=p0.ch) (j:=(p0.ch).toNat) (tt:=1) (g:=(gb 0 p1.isEmpty)) (lo:=0) (len:=I f) (cap:=I f) (k:=.i64) kr kr rfl kr kr (gw c)<|zB (gJ c) rfl) (bi V λw c V=>QA rfl (λ_=>Ye (tt:=1) (g:=(gb 0 p1.isEmpty)) (j:=(0+(p0.ch).toNat)) (e:=3) (cs:=cellsOf Qg f) (v:=.b7 (Qg w)) kr kr rfl kr (Zt kr)<|gM Qg c)<|Qe 6 (QE 1 Qg V λK V=>Qe 1 (bi V λL c V=>QA rfl (λ_=>OH (a:=(W<|w+p0.cS)) (b:=K) c rfl kr kr) (bi V λv626 c V=>QA rfl (λ_=>QR (e:=3) (n:=p0.ch) (j:=(p0.ch).toNat) (tt:=1) (g:=(gb 0 p1.isEmpty)) (lo:=0) (len:=I f) (cap:=I f) (k:=.i64) kr kr rfl kr kr (gw c)<|zB (gJ c) rfl) (bi V λv627 c V=>Zb (λH=>H.set 1<|JN p1.isEmpty v627) rfl kr (λ_=>Js Qg (l:=f) (n:=p0.ch) (y:=L) c yC kr rfl kr kr kr kr)<|Q6 ⟨kr,ge 4<|Qn (gi V λB V=>(by obtain⟨rfl,rfl,rfl⟩:=To V;exact⟨trivial,Ym [(Qd 0),(.ms 1 (gb 0 p1.isEmpty) 0 (I f)<|I f),(Qp J)] kr<|uI<|iu kr<|iu (pR<|jx (e:=3) Qg v627 B yC kr)<|iu kr ng⟩))⟩))))))) (λV=>ge 2<|mQ V (λV=>ge 1<|ge 1<|Ql<|kY V (Qd6 _) (λN d V=>ge 4<|Qn zf) (hst:=(fZ [(KE p0.bx p0.aa p0.bc p0.cx p0.ch p0.cS p0.eh p0.ea),(JN p1.isEmpty f),(.tok 3<|I ([]:fJ))] (λ_=>(fR kr<|fR (gj Qg _ _ _ _ _)<|fR kr gD)) rfl))) (λV=>ge 2<|mQ V (λV=>gr 1 (bi V λC c V=>cp (TV c)<|re 1<|Qh<|ge 2<|mQ V (λV=>ge 3<|Qn zf) (λV=>Qm<|gp<|Qe 4 (bi V λD c V=>cp (QfI c)<|Qe 1 (bi V λP c V=>QA rfl (λ_=>OH (a:=D) (b:=C) c rfl kr kr) (bi V λQ c V=>cp (Qhi c)<|re 1<|ge 4<|Qn zf)))))) (λV=>ge 2<|mQ V (λV=>Qh<|Zd<|Qe 3 (bi V λR c V=>QA rfl (λ_=>QR (e:=3) (n:=p0.ch) (j:=(p0.ch).toNat) (tt:=1) (g:=(gb 0 p1.isEmpty)) (lo:=0) (len:=I f) (cap:=I f) (k:=.i64) kr kr rfl kr kr (gw c)<|zB (gJ c) rfl) (bi V λE c V=>QA rfl (λ_=>Ye (tt:=1) (g:=(gb 0 p1.isEmpty)) (j:=(0+(p0.ch).toNat)) (e:=3) (cs:=cellsOf Qg f) (v:=.b7 (Qg E)) kr kr rfl kr (Zt kr)<|gM Qg c)<|Qe 3 (QE 1 Qg V λS V=>re 2 ⟨kr,ri V (λV=>Qh<|Zd<|Qe 6 (bi V λT c V=>QA rfl (λ_=>QR (e:=3) (n:=p0.ch) (j:=(p0.ch).toNat) (tt:=1) (g:=(gb 0 p1.isEmpty)) (lo:=0) (len:=I f) (cap:=I f) (k:=.i64) kr kr rfl kr kr (gw c)<|zB (gJ c) rfl) (bi V λp c V=>QA rfl (λ_=>Ye (tt:=1) (g:=(gb 0 p1.isEmpty)) (j:=(0+(p0.ch).toNat)) (e:=3) (cs:=cellsOf Qg f) (v:=.b7 (Qg p)) kr kr rfl kr (Zt kr)<|gM Qg c)<|Qe 3 (QE 1 Qg V λF V=>Qe 2 (bi V λX c V=>QA rfl (λ_=>QR (e:=3) (n:=p0.ch) (j:=(p0.ch).toNat) (tt:=1) (g:=(gb 0 p1.isEmpty)) (lo:=0) (len:=I f) (cap:=I f) (k:=.i64) kr kr rfl kr kr (gw c)<|zB (gJ c) rfl) (bi V λq c V=>Zb (λH=>H.set 1<|JN p1.isEmpty q) rfl kr (λ_=>Js Qg (l:=f) (n:=p0.ch) (y:=(W<|p - F)) c yC kr rfl kr kr kr kr)<|Q6 ⟨kr,ge 4<|Qn (gi V λr V=>(by obtain⟨rfl,rfl,rfl⟩:=To V;exact⟨trivial,Ym [(Qd 1),(.ms 1 (gb 0 p1.isEmpty) 0 (I f)<|I f),(Qp J)] kr<|uI<|iu kr<|iu (pR<|jx (e:=3) Qg q r yC kr)<|iu kr ng⟩))⟩)))))) (λV=>Qm<|ge 4<|Qn (by obtain⟨rfl,rfl,rfl⟩:=To V;exact⟨trivial,Ym [(Qd 0),(.ms 1 (gb 0 p1.isEmpty) 0 (I f)<|I f),(Qp J)] kr<|uI<|iu kr<|iu (pR<|jx (e:=3) Qg f rfl yC kr)<|iu kr ng⟩))⟩)))) (λV=>Qm<|ge 4<|Qn (by obtain⟨rfl,rfl,rfl⟩:=To V;exact⟨trivial,Ym [(Qd 0),(.ms 1 (gb 0 p1.isEmpty) 0 (I f)<|I f),(Qp J)] kr<|uI<|iu kr<|iu (pR<|jx (e:=3) Qg f rfl yC kr)<|iu kr ng⟩))))))))))))
def XP:(Qb×fJ)->Option Qi|(p0,p1)=>if p0.bx=1 then T9 (p0.aa,p1)>>=λc=>O (⟨U,p0.bc,c⟩:Qi)else Xp ((⟨p0.bx,p0.aa,p0.bc,p0.cx,p0.ch,p0.cS,p0.eh,p0.ea⟩:Qb),p1)>>=λ(v2,d,e)=>if e=U then O (⟨J,0,0⟩:Qi)else idx p0.ea v2>>=λf=>XP (f,d)>>=λg=>O g
 partial_fixpoint
def Wr:(Qb×fJ)->Qi->Prop:=λx r=>match x,r with|(p0,p1),c=>∀H,PC prog env 56 ([(Qb.ex p0),(Lb p1)].map .b7) H (.b7<|Qi.b8 c) H
def xO:(∀x r,XP x=O r->Wr x r):=by
 refine XP.partial_correctness Wr ?_
 .intro XP QeI x f V;unfold Wr;obtain⟨p0,p1⟩:=x;intro H;refine sF (ds:=[(Qb.ex p0),(Lb p1)]) (fn:=f56) rfl ?_;exact ge 2<|Qh<|ge 3<|mQ V (λV=>Qh<|Zd<|Qe 5 (bi V λg c V=>cp (QfI c)<|re 2 ⟨kr,Qn zf⟩)) (λV=>Qm<|gr 2 (N9 V λv2 j k c V=>cp (QhC c)<|re 7<|Qh<|ge 2<|zb V (λV=>ge 2<|Qn zf) (λV=>Qm<|gr 3 (bi V λe c V=>X9 8 Qb.b8 p0.ea v2 e (es:=Qb.hE p0.ea) (d:=(Qb.ex e)) (Qb.fa _) c (Qb.i6 e) rfl<|Qe 2 (bi V λl c V=>XF (QeI _ _ c [])<|re 1<|Qn zf)))))
def QeI:∀x r,XP x=O r->Wr x r:=xO
def Z5:((List fJ)×Qb×(List Qi)×Int)->Option ((List Qi))|(j,p0,d,c)=>if c<(I j:Int)then idx j c>>=λe=>XP ((⟨p0.bx,p0.aa,p0.bc,p0.cx,p0.ch,p0.cS,p0.eh,p0.ea⟩:Qb),e)>>=λf=>app 24 d ([f]:List Qi)>>=λg=>Z5 (j,p0,g,(W<|c+1))else O d
 partial_fixpoint
def QcF:∀x r,Z5 x=O r->match x with|(k,p0,c,e)=>LQ f17 17 [1,1,1,0,1,0,0] 2 ⟨kp 25 [(1,(.ptr 0 0)),(3,(.vec 1<|(Naa Qi.b8) c)),(4,(Zq k)),(5,(Qd e))],[(KE p0.bx p0.aa p0.bc p0.cx p0.ch p0.cS p0.eh p0.ea),(.tok 45<|I c)]⟩ (P1 (.exit 0) (λf d=>⟨sl d 25 [(3,(.vec 1<|(Naa Qi.b8) f))],[(KE p0.bx p0.aa p0.bc p0.cx p0.ch p0.cS p0.eh p0.ea),(.tok 45<|I f)]⟩) r):=by refine Z5.partial_correctness _ (λZ5 QcF x r V=>?_);obtain⟨k,p0,c,e⟩:=x;exact lp<|Qh<|gr 2<|Ff (λl=>fS.ew<|(Naa Qg) l) k (es:=(Naa (λl=>fS.ew<|(Naa Qg) l)) k) rfl<|re 1<|ri V (λV=>Qm<|Qh<|Ql<|Zd<|Qe 4 (bi V λg m V=>X9 1 (λl=>fS.ew<|(Naa Qg) l) k e g (es:=(Naa (λl=>fS.ew<|(Naa Qg) l)) k) (d:=(Lb g)) rfl m rfl rfl<|Qe 1 (bi V λj m V=>XF (QeI _ _ m [])<|Qe 1 (bi V λn m V=>YA 45 3 24 1 Qi.b8 c ([j]:List Qi) n (xs:=(Naa Qi.b8) c) (es:=(Naa Qi.b8) ([j]:List Qi)) (L:=(Naa Qi.b8)) yC rfl rfl Qi.fit m<|re 1 ⟨kr,gp<|re 3<|QcF _ _ V _ kr⟩)))) (λV=>QD zf)
def UU:Qb->Option (List Qi)|p0=>ZZ p0.aa>>=λd=>Z5 (d,p0,([]:List Qi),0)>>=λc=>O c
def QgI{p0 r0}(V:UU p0=O r0):FQ 17 [(Qb.ex p0)] (Jy r0):=by unfold UU at V;exact fp (fn:=f17) rfl<|ge 2<|ge 1<|gr 2 (bi V λf e V=>cp (Vv e)<|re 1<|Qh<|ge 1<|Ql (kY V (QcF _) λc d V=>ge 2<|Qn zf))
def ZA:((List Qi)×(List Qi)×Qb×Int)->Option (Unit⊕ Unit)|(f,g,p0,c)=>if c<(I f:Int)then idx g c>>=λd=>idx f c>>=λe=>if((d.fill==e.fill) &&((d.bc==e.bc) &&((d.offset==e.offset) &&J)))=U then O (Naf ())else ZA (f,g,p0,(W<|c+1))else O (Nag ())
 partial_fixpoint
def Qbi:∀x r,ZA x=O r->match x with|(f,j,p0,g)=>LQ f3 3 [1,1,1,1,1,1,1,0,1,0,0] 1 ⟨kp 69 [(7,(Jy j)),(8,(Jy f)),(9,(Qd g))],(QO p0.bx p0.aa p0.bc p0.cx p0.ch p0.cS p0.eh p0.ea)⟩ (P2 .ret (λ_ d=>⟨sl d 69 [(4,(Qp U))],(QO p0.bx p0.aa p0.bc p0.cx p0.ch p0.cS p0.eh p0.ea)⟩) (.exit 0) (λ_ d=>⟨sl d 69 [(7,(Jy j)),(8,(Jy f))],(QO p0.bx p0.aa p0.bc p0.cx p0.ch p0.cS p0.eh p0.ea)⟩) r):=by refine ZA.partial_correctness _ (λZA Qbi x r V=>?_);obtain⟨f,j,p0,g⟩:=x;exact lp<|Qh<|gr 2<|QM Qi.b8 f<|re 1<|ri V (λV=>Qm<|Qh<|Ql<|Qh<|Zd<|Qe 2 (QE 3 Qi.b8 V λc V=>Qe 3 (QE 3 Qi.b8 V λe V=>Qe 1<|QA rfl (λ_=>Qip (t:=45) (xs:=#[.bool c.fill,.int .i64 c.bc,.int .i64 c.offset]) (ys:=#[.bool e.fill,.int .i64 e.bc,.int .i64 e.offset]) (b:=((c.fill==e.fill) &&((c.bc==e.bc) &&((c.offset==e.offset) &&J)))) rfl kr kr<|MJ (fs:=prog.fieldsOf 45) kr kr kr kr)<|Q6 ⟨kr,zb V (λV=>ge 1<|Qn zf) (λV=>Qm<|gp<|re 3<|Qbi _ _ V _ kr)⟩))) (λV=>QD zf)
def VV:(Qb×(List fJ))->Option Bool|(p0,p1)=>(VR ()>>=λ(v2:Bool)=>if v2=U then O J else UD (p0,p1,200)>>=λm=>O<|!m)>>=λ(n:Bool)=>if n=J then VR ()>>=λp=>O p else SE p0>>=λq=>S7 q>>=λl=>Xk p0>>=λe=>(TM l>>=λ(r:(List Qc))=>T0 (r,e)>>=λf=>(if f=U then O J else Ub (p0.aa,e)>>=λg=>O<|!g)>>=λ(j:Bool)=>if j=J then O J else Uk (p0.aa,l)>>=λk=>O<|!k)>>=λ(s:Bool)=>if s=J then O U else XW (p0.aa,e)>>=λc=>UU (⟨p0.bx,p0.aa,p0.bc,p0.cx,p0.ch,p0.cS,p0.eh,p0.ea⟩:Qb)>>=λd=>(ZA (d,c,p0,0)>>=λ|.inl _=>O U|.inr _=>O<|(I c:Int)==(I d:Int))
def Qep:(Qb×(List fJ))->Bool->Prop:=λx r=>match x,r with|(p0,p1),c=>∀H,PC prog env 3 ([(Qb.ex p0),(.ew<|(Naa (λl=>fS.ew<|(Naa Qg) l)) p1)].map .b7) H (Qp c) H
def w_law20_DnfReduces:∀x r,VV x=O r->Qep x r:=by
 intro x v V;unfold VV at V;unfold Qep;obtain⟨p0,p1⟩:=x;intro H;refine sF (ds:=[(Qb.ex p0),(.ew<|(Naa (λl=>fS.ew<|(Naa Qg) l)) p1)]) (fn:=f3) rfl ?_
 exact ge 2<|Qh<|Qh (bi V λn e V=>Zm (λd=>⟨sl d 69 [(2,(.ptr 0 0)),(17,(Qp n))],(QO p0.bx p0.aa p0.bc p0.cx p0.ch p0.cS p0.eh p0.ea)⟩) (have V:=e;gp (bi V λv2 c V=>XF (QfR _ _ c [])<|Qe 2<|RH 12 V (λV=>re 5 zf) (λV=>Qe 2 (bi V λw c V=>cp (Qhm c)<|re 2 zf)))) (λd=>lf V (λV=>Qh<|gp (bi V λy c V=>XF (QfR _ _ c [])<|re 1<|Qn zf)) (λV=>Qm<|gr 1 (bi V λz c V=>XF (Qfc _ _ c []) (bi V λp c V=>cp (Qhz c)<|re 1<|gr 1 (bi V λm c V=>XF (Wk _ _ c [])<|re 1<|Qh<|Qh (bi V λq e V=>Zm (λd=>⟨sl d 69 [(2,(.ptr 0 0)),(6,(QL m)),(42,(Qp q))],(QO p0.bx p0.aa p0.bc p0.cx p0.ch p0.cS p0.eh p0.ea)⟩) (have V:=e;CK (Qe 1 (bi V λA c V=>XF (QhA _ _ c [])<|Qe 1 (bi V λs c V=>cp (QhG c)<|Qe 2 (bi V λf e V=>ZF (j:=12) (λd=>⟨sl d 69 [(2,(.ptr 0 0)),(5,(Q7 p)),(6,(QL m)),(35,(Qp f))],(QO p0.bx p0.aa p0.bc p0.cx p0.ch p0.cS p0.eh p0.ea)⟩) (λd=>Qe 1<|lJ 36 V (λV=>re 6 ⟨kr,zf⟩) (λV=>Qe 3 (bi V λt c V=>cp (QgY c)<|re 2 ⟨kr,zf⟩))) (λhJ=>RH 29 e (λV=>Qe 6 zf) (λV=>Qe 3 (bi V λu c V=>cp (Qg5 c)<|Qe 2 zf)))))))) (λd=>lf V (λV=>ge 1<|Qn zf) (λV=>Qm<|gr 3 (bi V λg c V=>cp (Qfl c)<|re 1<|gr 1 (bi V λk c V=>cp (QgI c)<|re 1<|Qh<|ge 1<|Ql (pG V (Qbi _) (λ_ d V=>zf) λ_ d V=>gr 1<|QM Qi.b8 g<|Qe 1<|QM Qi.b8 k<|re 2<|Qn zf))))))))))))
def Ai:∀(s t p q:fJ),I s=I t->I p=I q->Sm (I<|p++s)->Y4 (p++s,q++t,(I p:Int))=O (if iz s t=J then .inr ()else .inl ())
 |[],[],p,q,_,_,c=>by rw[Y4];simp only[Q1,ai,iz,ak]
 |n::s,x::t,p,q,j,e,c=>by
  rw[Y4];have f:=Ai s t (p++[n]) (q++[x]) (by simpa using j) (by simp[e]) (by rw[<-Qs];exact c);rw[<-Qs,<-Qs]at f;simp only[QX,ak,Qv,Qf,kQ c,f,iz];rw[e,Qv];by_cases d:x<0
  .simp[d,Qf,show¬0<=x by omega]
  .by_cases g:x>=n
   .simp[d,g,Qf,show¬x<n by omega]
   .simp[d,g,Qf,show 0<=x by omega,show x<n by omega]
 |[],_::_,_,_,h,_,_=>by cases h
 |_::_,[],_,_,h,_,_=>by cases h
def lY(s i:fJ)(c:Sm (I s)):SH (s,i)=O (iz s i):=by
 simp only[SH];by_cases h:I s=I i
 .have e:Y4 (s,i,0)=_:=Ai s i [] [] h rfl c;rw[ae y9,e];cases iz s i<;>rfl
 .rw[aj y9,F6 h]
def Ha(c:fJ)(p1:fJ)(j:Qb)(k:Int)(sh:fJ)(bu:Int)(ax am:Int)(pe:fJ)(ks:List Qb):∀(s t p q:fJ),I s=I t->I p=I q->I (q++t)=I c->Sm (I<|p++s)->
  XU (c,⟨k,sh,bu,p++s,ax,am,pe,ks⟩,p1,j,q++t,(I p:Int))=O (q++nH t s)
 |[],[],p,q,_,f,d,g=>by
  rw[XU]
  have:¬((I p:Int)<(I c:Int)):=by simp at d;omega
  simp only[this,ai];simp[nH]
 |n::s,x::t,p,q,m,f,d,g=>by
  rw[XU];have l:=Ha c p1 j k sh bu ax am pe ks s t (p++[n]) (q++[W (x+n)]) (by simpa using m) (by simp[f]) (by simpa using d) (by rw[<-Qs];exact g);rw[<-Qs]at l;have hl:((I p:Int)<(I c:Int)):=by simp at d;omega
  have hi:idx (q++x::t) (I p:Int)=O x:=by rw[f];exact Qv
  have e:iM (q++x::t) (I p:Int) (W<|x+n)=O ((q++[W (x+n)])++t):=by rw[f,iV yB,oX]
  simp only[hl,ak,fX d,Qf,hi,Qv,e,kQ g,l];simp[nH]
 |[],_::_,_,_,h,_,_,_=>by cases h
 |_::_,[],_,_,h,_,_,_=>by cases h
def MO(f p0:Qb)(p1 k:fJ)(l:∀x∈p0.eh,0<=x/\x<(I p1:Int)):∀(s t p q:fJ) (a:fJ),f.aa=p++s->p0.eh=q++t->I s=I t->I p=I q->I (p++s)<=1000->I a=I p->
  XV (f,p0,p1,k,a,(I p:Int))=O (a++pick p1 t)
 |[],[],p,q,a,c,d,_,g,e,m=>by rw[XV];simp only[c,Q1,ai];simp[pick]
 |n::s,x::t,p,q,a,c,d,u,g,e,m=>by
  rw[XV];have r:=l x (by rw[d];simp);have v:=MO f p0 p1 k l s t (p++[n]) (q++[x]) (a++[p1.getD x.toNat 0]) (by rw[c];simp) (by rw[d];simp) (by simpa using u) (by simp[g]) (by rw[<-Qs];exact e) (by simp[m]);have hi:idx (q++x::t) (I p:Int)=O x:=by rw[g];exact Qv
  have j:app 8 a [p1.getD x.toNat 0]=O (a++[p1.getD x.toNat 0]):=F5 (by
   have:1002*8<=jd:=by decide +kernel
   simp at e |-;omega)
  simp only[c,d,QX,ak,hi,Qf,kQ<|hZ e,nA r.1 r.2,j,v];simp[pick]
 |[],_::_,_,_,_,_,_,h,_,_,_=>by cases h
 |_::_,[],_,_,_,_,_,h,_,_,_=>by cases h
def GV:∀(s t p q:fJ) (a:Int),iz s t=J->I p=I q->Sm (I<|p++s)->0<=a->(a+1)*fQ s<=65536->
  YJ (p++s,q++t,a,(I p:Int))=O (a*fQ s+iN s t)
 |[],[],p,q,a,_,c,d,f,g=>by rw[YJ];simp only[Q1,ai];simp[iN,fQ]
 |n::s,x::t,p,q,a,e,c,d,f,g=>by
  rw[YJ];simp only[iz,jE,zE]at e;have m:=gu (qj e.2);rw[gx]at g;have r:(a+1)*(n*fQ s)=(a*n+n)*fQ s:=by rw[<-bo,cr,bX]
  have b1:(a*n+x+1)*fQ s<=(a*n+n)*fQ s:=aK y9 y9;have u:0<=a*n:=cj f y9;have b2:(a*n+n)*1<=(a*n+n)*fQ s:=aZ y9 y9;have k:W (a*n)=a*n:=kP y9 y9;have l:W (a*n+x)=a*n+x:=kP y9 y9;have j:=GV s t (p++[n]) (q++[x]) (a*n+x) e.2 (by simp[c]) (by rw[<-Qs];exact d) y9 y9;rw[<-Qs,<-Qs]at j;have hi:idx (q++x::t) (I p:Int)=O x:=by rw[c];exact Qv
  simp only[QX,ak,Qv,hi,Qf,kQ d,k,l,j,iN,gx];rw[cr,bo,Int.add_assoc]
 |[],_::_,_,_,_,h,_,_,_,_=>by cases h
 |_::_,[],_,_,_,h,_,_,_,_=>by cases h
def wP{s i:fJ}(h:iz s i=J)(d:fQ s<=65536)(c:Sm (I s)):T9 (s,i)=O (iN s i):=by have e:YJ (s,i,0,0)=O (0*fQ s+iN s i):=GV s i [] [] 0 h rfl c y9 (by simpa using d);simp only[T9,lY s i c,h,Qf,jO,ai,e,dE,dF]
def G2(s q:fJ)(z:I q=I s)(B:I s<=1000)(e7:∀n∈s,1<=n):∀(m:Nat) (a b d:fJ) (o:Int),I a=m->s=a++b->I d=I b->0<=o->o<fQ a->o<=65536->
  Xv (s,q,Nab (I a) 0++d,o,(I a:Int) - 1)=O (jy a o++d)
 |0,a,b,d,o,g,e,t,f,r,C=>by
  obtain rfl:=aw g;rw[Xv]
  have:¬((I ([]:fJ):Int) - 1>=0):=by simp
  simp only[this,ai];rfl
 |m+1,a,b,d,o,g,e,t,f,r,C=>by
  rcases bU a with rfl|⟨a',n,rfl⟩
  .simp at g
  .simp only[cw]at g e r |-;have u:I a'=m:=by simpa using g
   rw[Xv];have hl:I s=I a'+1+I b:=by rw[e];simp;omega
   have v:((I (a'++[n]):Nat):Int) - 1=(I a':Int):=by simp
   have e':s=a'++(n::b):=by rw[e];simp
   have D:I (Nab (I<|a'++[n]) (0:Int)++d)=I q:=by simp[z,hl,t]
   have E:Nab (I<|a'++[n]) (0:Int)++d=Nab (I a') 0++0::d:=by rw[jW,bz,cY,ay];rfl
   have A:I a'<I (Nab (I<|a'++[n]) (0:Int)++d):=by simp;omega
   have j:(Nab (I<|a'++[n]) (0:Int)++d).set (I a') (o%n)=Nab (I a') 0++(o%n::d):=by rw[E];have:=oX (p:=Nab (I a') (0:Int)) (s:=d) (x:=0) (y:=o%n);simp only[zK]at this;rw[this,<-Qs]
   have l:idx s (I a':Int)=O n:=by rw[e'];exact Qv
   have hn:1<=n:=e7 n (by rw[e'];simp);have c:∀k∈a',1<=k:=λk F=>e7 k (by rw[e'];exact y6 _ F)
   have w:o<fQ a'*n:=by rwa [kB,gx,iC,bL]at r
   have q1:o/n<fQ a':=fc y9 w;have q0:0<=o/n:=di f y9;have q2:o/n<=o:=eF _ f;have G:W ((I a':Int) - 1)=(I a':Int) - 1:=kP y9 y9;have H:=G2 s q z B e7 m a' (n::b) (o%n::d) (o/n) u e' (by simp[t]) q0 q1 y9;have K:(I a':Int)>=0:=by omega
   simp only[v,K,ak,l,Qf,nm f hn,Hg f hn y9,fX D,ky A,iV A,j,G];rw[H,tS a' n o c hn f r];simp
def Kg{s:fJ}{o:Int}(c:I s<=1000)(e7:∀n∈s,1<=n)(d:0<=o)(f:o<fQ s)(g:o<=65536):UH (s,o)=O (jy s o):=by have e:=G2 s (Nab (I s) 0) yB c e7 (I s) s [] [] o rfl yB rfl d f g;simp only[jV]at e;simp only[UH,qB c,Qf,kP (show -9223372036854775808<=(I s:Int) - 1 by omega) y9,e];rw[fX (by simp[lg])];rfl
def oM{l:fJ}(h:I l<=1000):app 8 ([]:fJ) l=O l:=gn yA y9
def SU{c:Qb}{i:fJ}(h:c.bx=2):gX c i=(0,if iz (kg c) (nH i c.cx)=J then nH i c.cx else[],iz (kg c)<|nH i c.cx):=aj h
def SK{c:Qb}{i:fJ}(h:c.bx=3):gX c i=(0,i.set c.ch.toNat<|(kg c).getD c.ch.toNat 0 - 1 - i.getD c.ch.toNat 0,J):=by rw[gX,ae y9,aj h]
def Tl{c:Qb}{i:fJ}(h:c.bx=4):gX c i=(0,i.set c.ch.toNat<|(i.getD c.ch.toNat 0+c.cS)% (kg c).getD c.ch.toNat 0,J):=by rw[gX,ae y9,ae y9,aj h]
def Tq{c:Qb}{i:fJ}(h:c.bx=5):gX c i=(0,pick i c.eh,J):=by rw[gX,ae y9,ae y9,ae y9,aj h]
def Mm{c:Qb}{i:fJ}(h:c.bx=6):gX c i=if fQ (kg c)=0 then(0,[],U)else(0,jy (kg c)<|iN c.aa i%fQ (kg c),J):=by rw[gX,ae y9,ae y9,ae y9,ae y9,aj h]
def K6{c:Qb}{i:fJ}(h:c.bx=7):gX c i=if i.getD c.ch.toNat 0<(kg c).getD c.ch.toNat 0 then(0,i,J)else(1,i.set c.ch.toNat<|i.getD c.ch.toNat 0 - (kg c).getD c.ch.toNat 0,J):=by rw[gX,ae y9,ae y9,ae y9,ae y9,ae y9]
def wq{l:fJ}{j:Nat}{v:Int}:I (l.set j v)=I l:=by simp
def LI{l p:fJ}:I (pick l p)=I p:=by simp[pick]
def Lz{l p:fJ}{k:Nat}(h:k<I p):(pick l p).getD k 0=l.getD (p.getD k 0).toNat 0:=by simp[pick,h]
def Br{l:fJ}{k:Nat}(h:∀n∈l,0<=n/\n<=65536)(c:k<I l):0<=l.getD k 0/\l.getD k 0<=65536:=by rw[jB,jC c];exact h _<|zD _
def FR(c:Qb)(i:fJ)(r:Int×fJ×Bool):Prop:=gX c i=r/\Xp (c,i)=O r/\(r.2.2=J->∃d,idx c.ea r.1=O d/\iz d.aa r.2.1=J)
section
variable{sh:fJ}{bu:Int}{st:fJ}{ax am:Int}{pe:fJ}{ks:List Qb}{i:fJ}
theorem sR2(hn:nB ⟨2,sh,bu,st,ax,am,pe,ks⟩)(f:iz sh i=J):∃r,FR ⟨2,sh,bu,st,ax,am,pe,ks⟩ i r:=by
 obtain⟨d,g⟩:=mn (c:=⟨2,sh,bu,st,ax,am,pe,ks⟩) (by rw[hn.ea];simp);simp only at g;subst g;obtain⟨n1,n2,n3⟩:=hn.uo rfl;have n3:I d.aa=I sh:=n3 d [] rfl;have n1:I st=I sh:=n1;have hl:=iv f;have l:I sh<=16:=(fT hn.ns).1;have j:=Ha i i d 2 sh bu ax am pe [d] st i [] [] y9 rfl rfl (hZ (show([]++st).length<=1000 by simp;omega));simp only[jQ,jL,jJ]at j;have al:I (nH i st)=I i:=MW y9;have v2:=lY d.aa (nH i st) (hZ (show I d.aa<=1000 by omega));have b2:=lY sh i (hZ (show I sh<=1000 by omega));have k:idx [d] 0=O d:=rfl;have gl:QN (I (nH i st)=I i)=O ():=fX al
 refine⟨(0,if iz d.aa (nH i st)=J then nH i st else[],iz d.aa<|nH i st),SU rfl,?_,λe=>⟨d,rfl,?_⟩⟩
 .simp only[Xp,b2,f,Qf,aF,j6,ai,show¬((2:Int)=1) by decide,ak,oM (show I i<=1000 by omega),j,k,gl,v2];cases iz d.aa (nH i st)
  .rfl
  .simp only[ak,jO,ai,Qf,gl]
 .have e:iz d.aa (nH i st)=J:=e;show iz d.aa (if iz d.aa (nH i st)=J then nH i st else[])=J
  rw[aj e];exact e
theorem sR3(hn:nB ⟨3,sh,bu,st,ax,am,pe,ks⟩)(f:iz sh i=J):∃r,FR ⟨3,sh,bu,st,ax,am,pe,ks⟩ i r:=by
 obtain⟨e,m⟩:=mn (c:=⟨3,sh,bu,st,ax,am,pe,ks⟩) (by rw[hn.ea];simp);simp only at m;subst m;obtain⟨n1,n2,n3⟩:=hn.rev (Or.inl rfl) e [] rfl;have n1:e.aa=sh:=n1;have n2:0<=ax:=n2;have n3:ax<(I sh:Int):=n3;have hl:=iv f;obtain⟨c1,c2,n⟩:=fT hn.ns;simp only at c1 c2 n;obtain⟨j,rfl⟩:=zC n2;have k:j<I sh:=by omega
 have g:=lC f j k;have d:=Br n k;have p:idx sh (j:Int)=O (sh.getD j 0):=by rw[nA n2 n3];simp
 have q:idx i (j:Int)=O (i.getD j 0):=by rw[nA (l:=i) n2 y9];simp
 have w:W (W (sh.getD j 0 - 1) - i.getD j 0)=sh.getD j 0 - 1 - i.getD j 0:=by rw[show W (sh.getD j 0 - 1)=sh.getD j 0 - 1 from kP y9 y9,kP y9 y9]
 have b2:=lY sh i (hZ (show I sh<=1000 by omega));have s:iM i (j:Int) (sh.getD j 0 - 1 - i.getD j 0)=O (i.set j<|sh.getD j 0 - 1 - i.getD j 0):=iV y9;have k2:idx [e] 0=O e:=rfl;have gl:QN (I (i.set j<|sh.getD j 0 - 1 - i.getD j 0)=I i)=O ():=fX wq;refine⟨(0,i.set j<|sh.getD j 0 - 1 - i.getD j 0,J),(SK rfl).trans (by show(0,i.set j<|e.aa.getD j 0 - 1 - i.getD j 0,J)=_;rw[n1]),?_,λ_=>⟨e,rfl,?_⟩⟩
 .simp only[Xp,b2,f,Qf,aF,j6,ai,show¬((3:Int)=1) by decide,show¬((3:Int)=2) by decide,ak,oM (show I i<=1000 by omega),k2,n1,p,q,w,s,gl]
 .rw[n1];have t:0<=sh.getD j 0 - 1 - i.getD j 0:=by omega
  have u:sh.getD j 0 - 1 - i.getD j 0<sh.getD j 0:=by omega
  exact HO k f t u
theorem sR4(hn:nB ⟨4,sh,bu,st,ax,am,pe,ks⟩)(f:iz sh i=J):∃r,FR ⟨4,sh,bu,st,ax,am,pe,ks⟩ i r:=by
 obtain⟨e,m⟩:=mn (c:=⟨4,sh,bu,st,ax,am,pe,ks⟩) (by rw[hn.ea];simp);simp only at m;subst m;obtain⟨n1,n2,n3⟩:=hn.rev (Or.inr rfl) e [] rfl;obtain⟨m1,m2⟩:=hn.vk rfl;have n1:e.aa=sh:=n1;have n2:0<=ax:=n2;have n3:ax<(I sh:Int):=n3;have m1:0<=am:=m1;have m2:am=0\/am<sh.getD ax.toNat 0:=m2;have hl:=iv f;obtain⟨c1,c2,n⟩:=fT hn.ns;simp only at c1 c2 n;obtain⟨j,rfl⟩:=zC n2;have k:j<I sh:=by omega
 have g:=lC f j k;have m2:am=0\/am<sh.getD j 0:=by simpa using m2
 have d:=Br n k;have p:idx sh (j:Int)=O (sh.getD j 0):=by rw[nA n2 n3];simp
 have q:idx i (j:Int)=O (i.getD j 0):=by rw[nA (l:=i) n2 y9];simp
 have w:W (i.getD j 0+am)=i.getD j 0+am:=kP y9 y9;have b2:=lY sh i (hZ (show I sh<=1000 by omega));have hR:=nm (a:=i.getD j 0+am) (b:=sh.getD j 0) y9 y9;have s:=bM (i.getD j 0+am) (show sh.getD j 0≠0 by omega);have t:=bC (i.getD j 0+am) (show 0<sh.getD j 0 by omega);have u:iM i (j:Int) ((i.getD j 0+am)%sh.getD j 0)=O (i.set j<|(i.getD j 0+am)%sh.getD j 0):=iV y9;have k2:idx [e] 0=O e:=rfl;have gl:QN (I (i.set j<|(i.getD j 0+am)%sh.getD j 0)=I i)=O ():=fX wq;refine⟨(0,i.set j<|(i.getD j 0+am)%sh.getD j 0,J),(Tl rfl).trans (by show(0,i.set j<|(i.getD j 0+am)%e.aa.getD j 0,J)=_;rw[n1]),?_,λ_=>⟨e,rfl,?_⟩⟩
 .simp only[Xp,b2,f,Qf,aF,j6,ai,show¬((4:Int)=1) by decide,show¬((4:Int)=2) by decide,show¬((4:Int)=3) by decide,ak,oM (show I i<=1000 by omega),k2,n1,p,q,w,hR,u,gl]
 .rw[n1];exact HO k f s t
theorem sR5(hn:nB ⟨5,sh,bu,st,ax,am,pe,ks⟩)(g:∀k∈ks,nB k)(l:iz sh i=J):∃r,FR ⟨5,sh,bu,st,ax,am,pe,ks⟩ i r:=by
 obtain⟨d,f⟩:=mn (c:=⟨5,sh,bu,st,ax,am,pe,ks⟩) (by rw[hn.ea];simp);simp only at f;subst f;obtain⟨n1,n2⟩:=hn.x7 rfl d [] rfl;have n1:I pe=I d.aa:=n1;obtain⟨c1,c2,p⟩:=fT (g d yB).ns;have n2:∀j,j<I d.aa->0<=pe.getD j 0/\pe.getD j 0<(I sh:Int)/\sh.getD (pe.getD j 0).toNat 0<=d.aa.getD j 0:=n2 λn V=>(p n V).1
 have hl:=iv l;have t:I sh<=16:=(fT hn.ns).1
 have q:∀x∈pe,0<=x/\x<(I i:Int):=λx s=>by obtain⟨k,f,e⟩:=bD s;have:=n2 k y9;rw[jB,jC f]at this;simp only[aE,e]at this;exact⟨this.1,by omega⟩
 have m:=MO d ⟨5,sh,bu,st,ax,am,pe,[d]⟩ i i q d.aa pe [] [] [] rfl rfl n1.symm rfl yA rfl;simp only[jQ,jL,jJ]at m;have b2:=lY sh i (hZ (show I sh<=1000 by omega));have k2:idx [d] 0=O d:=rfl;refine⟨(0,pick i pe,J),Tq rfl,?_,λ_=>⟨d,rfl,?_⟩⟩
 .simp only[Xp,b2,l,Qf,aF,j6,ai,show¬((5:Int)=1) by decide,show¬((5:Int)=2) by decide,show¬((5:Int)=3) by decide,show¬((5:Int)=4) by decide,ak,oM (show I i<=1000 by omega),k2,m]
 .refine uK (by rw[LI];omega) λk f=>?_
  rw[Lz y9];have a:=n2 k f;have b:=lC l (pe.getD k 0).toNat y9;exact⟨b.1,by omega⟩
theorem sR6(hn:nB ⟨6,sh,bu,st,ax,am,pe,ks⟩)(j:∀k∈ks,nB k)(f:iz sh i=J):∃r,FR ⟨6,sh,bu,st,ax,am,pe,ks⟩ i r:=by
 obtain⟨d,m⟩:=mn (c:=⟨6,sh,bu,st,ax,am,pe,ks⟩) (by rw[hn.ea];simp);simp only at m;subst m;have hc:=(j d yB).ns;obtain⟨c1,c2,q⟩:=fT hc;have l:fY sh=0:=hn.ns;obtain⟨v,s,w⟩:=fT l;have hl:=iv f;obtain⟨t,x⟩:=iy f;have p:Sm (I d.aa):=hZ (show I d.aa<=1000 by omega);have b2:=lY sh i (hZ (show I sh<=1000 by omega));have k2:idx [d] 0=O d:=rfl;have g:jf d.aa=fQ d.aa:=by rw[jf,aj hc]
 by_cases e:fQ d.aa=0
 .refine⟨(0,[],U),(Mm rfl).trans<|aj e,?_,λh=>by cases h⟩;simp only[Xp,b2,f,Qf,aF,j6,ai,show¬((6:Int)=1) by decide,show¬((6:Int)=2) by decide,show¬((6:Int)=3) by decide,show¬((6:Int)=4) by decide,show¬((6:Int)=5) by decide,ak,oM (show I i<=1000 by omega),k2,lu _ p,g,e]
 .have e7:=gW (λn V=>(q n V).1) e;have u:=gu e7;have o1:=bM (iN sh i) (show fQ d.aa≠0 from e);have o2:=bC (iN sh i) (show 0<fQ d.aa by omega);have hR:=nm t u;have hJ:=Kg (show I d.aa<=1000 by omega) e7 o1 o2 y9;refine⟨(0,jy d.aa<|iN sh i%fQ d.aa,J),(Mm rfl).trans<|ae e,?_,λ_=>⟨d,rfl,qp e7 o1 o2⟩⟩;simp only[Xp,b2,f,Qf,aF,j6,ai,show¬((6:Int)=1) by decide,show¬((6:Int)=2) by decide,show¬((6:Int)=3) by decide,show¬((6:Int)=4) by decide,show¬((6:Int)=5) by decide,ak,oM (show I i<=1000 by omega),k2,lu _ p,g,e,wP f s<|hZ (show I sh<=1000 by omega),hR,hJ]
theorem sR7(hn:nB ⟨7,sh,bu,st,ax,am,pe,ks⟩)(n:∀k∈ks,nB k)(m:iz sh i=J):∃r,FR ⟨7,sh,bu,st,ax,am,pe,ks⟩ i r:=by
 obtain⟨a,b,p⟩:=DY (c:=⟨7,sh,bu,st,ax,am,pe,ks⟩) (by rw[hn.ea];simp);simp only at p;subst p;obtain⟨n1,n2,n3,n4,n5⟩:=hn.cat rfl a b [] rfl;have n2:I a.aa=I sh:=n2;have n3:0<=ax:=n3;have n4:ax<(I a.aa:Int):=n4;have n5:∀j,j<I a.aa->Kx ax sh a.aa b.aa j:=n5;obtain⟨c1,c2,u⟩:=fT (n a yB).ns;obtain⟨A,B,x⟩:=fT (n b yB).ns;have hl:=iv m;obtain⟨j,rfl⟩:=zC n3;have q:j<I a.aa:=by omega
 have g:=lC m j y9;have C:=Br u q;have gb:=Br x (show j<I b.aa by omega);have gs:sh.getD j 0=a.aa.getD j 0+b.aa.getD j 0:=by rw[(n5 j q).1 rfl,kP y9 y9]
 have s:idx a.aa (j:Int)=O (a.aa.getD j 0):=by rw[nA (l:=a.aa) n3 n4];simp
 have t:idx i (j:Int)=O (i.getD j 0):=by rw[nA (l:=i) n3 y9];simp
 have b2:=lY sh i (hZ (show I sh<=1000 by omega));have k2:idx [a,b] 0=O a:=rfl;by_cases f:i.getD j 0<a.aa.getD j 0
 .refine⟨(0,i,J),(K6 rfl).trans<|aj f,?_,λ_=>⟨a,rfl,?_⟩⟩
  .simp only[Xp,b2,m,Qf,aF,j6,ai,show¬((7:Int)=1) by decide,show¬((7:Int)=2) by decide,show¬((7:Int)=3) by decide,show¬((7:Int)=4) by decide,show¬((7:Int)=5) by decide,show¬((7:Int)=6) by decide,ak,oM (show I i<=1000 by omega),k2,s,t,show¬(i.getD j 0>=a.aa.getD j 0) by omega]
  .refine uK (by show I a.aa=I i;omega) λk p=>?_
   have v:=lC m k y9;by_cases d:k=j
   .subst d;exact⟨v.1,f⟩
   .have e:=((n5 k p).2 y9).2;have y:i.getD k 0<a.aa.getD k 0:=by omega
    exact⟨v.1,y⟩
 .have w:W (i.getD j 0 - a.aa.getD j 0)=i.getD j 0 - a.aa.getD j 0:=kP y9 y9;have z:iM i (j:Int) (i.getD j 0 - a.aa.getD j 0)=O (i.set j<|i.getD j 0 - a.aa.getD j 0):=iV y9;have gl:QN (I (i.set j<|i.getD j 0 - a.aa.getD j 0)=I i)=O ():=fX wq;refine⟨(1,i.set j<|i.getD j 0 - a.aa.getD j 0,J),(K6 rfl).trans<|ae f,?_,λ_=>⟨b,rfl,?_⟩⟩
  .simp only[Xp,b2,m,Qf,aF,j6,ai,show¬((7:Int)=1) by decide,show¬((7:Int)=2) by decide,show¬((7:Int)=3) by decide,show¬((7:Int)=4) by decide,show¬((7:Int)=5) by decide,show¬((7:Int)=6) by decide,ak,oM (show I i<=1000 by omega),k2,s,t,show(i.getD j 0>=a.aa.getD j 0) by omega,w,z,gl]
  .refine uK (by show I b.aa=I (i.set j _);rw[wq];omega) λk p=>?_
   show 0<=(i.set j _).getD k 0/\(i.set j _).getD k 0<_
   rw[sx y9];by_cases d:j=k
   .rw[aj d,<-d];exact⟨by omega,by omega⟩
   .rw[ae d];have v:=lC m k y9;have e:=(n5 k y9).2 y9;exact⟨v.1,by omega⟩
end
def Ua:∀(c:Qb) (i:fJ),nB c->(∀k∈c.ea,nB k)->c.bx≠1->iz c.aa i=J->∃r,FR c i r
 |⟨d,sh,bu,st,ax,am,pe,ks⟩,i,hn,e,g,f=>by
  obtain⟨q1,q2⟩:=hn.bx;have q1:1<=d:=q1;have q2:d<=7:=q2;have g:d≠1:=g;have hc:d=2\/d=3\/d=4\/d=5\/d=6\/d=7:=by omega
  rcases hc with rfl|rfl|rfl|rfl|rfl|rfl
  .exact sR2 hn f
  .exact sR3 hn f
  .exact sR4 hn f
  .exact sR5 hn e f
  .exact sR6 hn e f
  .exact sR7 hn e f
def SX(c:Qb):(⟨c.bx,c.aa,c.bc,c.cx,c.ch,c.cS,c.eh,c.ea⟩:Qb)=c:=by cases c;rfl
def DC:∀{ks:List Qb} {n:Nat} {c:Qb} (i:fJ),ks[n]?=O c->l8 ks n i=oG c i
 |[],_,_,_,h=>by simp at h
 |k::ks,0,c,i,h=>by simp at h;subst h;rw[l8]
 |k::ks,n+1,c,i,h=>by rw[l8];exact DC i (by simpa using h)
def PT{c:Type}{l:List c}{k:Int}{a:c}(h:idx l k=O a):l[k.toNat]?=O a:=by
 unfold idx at h;split at h
 .exact h
 .cases h
def It{bs:List fJ}:∀(n:Nat) (c:Qb) (i:fJ),uu c<=n->nE bs c->iz c.aa i=J->XP (c,i)=O (MD<|oG c i)
 |0,c,i,r,_,_=>by have:=qx c;omega
 |n+1,c,i,r,s,p=>by
  obtain⟨hn,x,q⟩:=mE s;obtain⟨c1,c2,y⟩:=fT hn.ns;have g:Sm (I c.aa):=hZ (show I c.aa<=1000 by omega);rw[XP];by_cases e:c.bx=1
  .have j:=wP p c2 g;simp only[e,ak,j,Qf];rw[Cs e];rfl
  .obtain⟨⟨k,l,ok⟩,t,j,u⟩:=Ua c i hn (λk V=>(mE<|q k V).1) e p;simp only[e,ai,SX,j,Qf];rw[kT e,t];cases ok with
   |false=>rfl
   |true=>
    obtain⟨d,ik,v⟩:=u rfl;have f:=PT ik;have V:=jF f;have w:=It n d l (by have:=uV V;omega) (q d V) v;have m:idx c.ea k=O d:=ik;simp only[jO,ai,ak,m,Qf,w];rw[DC l f]
def Dg{c:Qb}{s:fJ}{f:fJ->Qi}(e:∀i,iz s i=J->XP (c,i)=O (f i)):∀(A p:List fJ) (out:List Qi),(∀i∈A,iz s i=J)->I p+I A<=50000->I out=I p->
  Z5 (p++A,c,out,(I p:Int))=O (out++A.map f)
 |[],p,out,h,d,g=>by rw[Z5];simp only[Q1,ai];simp
 |i::A,p,out,h,d,g=>by
  rw[Z5];have l:I p<=50000:=by simp at d;omega
  have k:=Dg e A (p++[i]) (out++[f i]) (λj m=>h j<|jG _ m) (by simp at d |-;omega) (by simp[g]);rw[<-Qs]at k;have n:W ((I p:Int)+1)=(I (p++[i]):Int):=jq y9;simp only[QX,ak,Qv,Qf,SX,e i<|h i<|jM ..];rw[gn yA y9,Qf,n,k];simp
def NA{bs:List fJ}{c:Qb}(g:nE bs c)(k:fQ c.aa<=20000)(d:ZZ c.aa=O (iF c.aa)):UU c=O (ke c):=by
 obtain⟨c1,c2,j⟩:=fT (mE g).1.ns;have hn:∀n∈c.aa,0<=n:=λn hn=>(j n hn).1
 have hl:=kK hn;have e:=Dg (c:=c) (s:=c.aa) (f:=λi=>MD<|oG c i) (λi hi=>It _ c i (j7 _) g hi) (iF c.aa) [] [] (pJ hn) yA rfl;have e':Z5 (iF c.aa,c,[],0)=O (ke c):=e;simp only[UU,d,Qf,e']
def GY:∀(P p:List Qc),I p+I P<=100000->(∀x∈P,I x.box.lo<=1000/\(I x.box.hi)<=1000/\(I x.be.bm)<=1000)->Xr (p++P,p++P,(I p:Int))=O (.inr ())
 |[],p,h,c=>by rw[Xr];simp only[Q1,ai]
 |x::P,p,h,c=>by
  rw[Xr];obtain⟨k1,k2,k3⟩:=c x (jM ..);have d:=GY P (p++[x]) (by simp at h |-;omega) (λy e=>c y<|jG _ e);rw[<-Qs]at d;have f:I p<=100000:=by simp at h;omega
  have g:W ((I p:Int)+1)=(I (p++[x]):Int):=jq y9;simp only[QX,ak,Qv,Qf,Wc,Wq,mV _ _<|hZ k1,mV _ _<|hZ k2,mV _ _<|hZ k3,decide_true,beq_self_eq_true,jO,ai,aF,j6,g,d]
def Pu{P:List Qc}(h:I P<=100000)(c:∀x∈P,I x.box.lo<=1000/\(I x.box.hi)<=1000/\(I x.be.bm)<=1000):T0 (P,P)=O J:=by have e:=GY P [] yA c;have e':Xr (P,P,0)=O (.inr ()):=e;simp only[T0,ne_eq,not_true,ai,e',Qf]
def Pw(x y:Int):Xb (x,y)=O (if x<y then -1 else if x>y then 1 else 0):=by
 have n1:∀z:Int,Jv z=O U:=λz=>by simp[Jv]
 simp only[Xb,n1,Qf,j6,ai];by_cases a:x<y
 .simp only[a,ak]
 .by_cases b:x>y
  .simp only[a,b,ak,ai]
  .simp only[a,b,ai]
def GL:∀(a b p q:fJ),I a=I b->I p=I q->I p+I a<=600->iH a b<0->Zk (p++a,q++b,(I p:Int))=O (.inl (-1))
 |[],[],p,q,_,_,_,h=>by simp[iH]at h
 |x::a,y::b,p,q,j,e,hl,h=>by
  rw[Zk];have k:idx (q++y::b) (I p:Int)=O y:=by rw[e];exact Qv
  have g:¬((I p:Int)>=(I (q++y::b):Int)):=by simp;omega
  simp only[iH]at h;simp only[QX,ak,Qv,g,ai,k,Qf,Pw];by_cases c:x<y
  .simp only[c,ak];rfl
  .by_cases d:y<x
   .rw[ae c,aj d]at h;omega
   .rw[ae c,ae d]at h;have f:=GL a b (p++[x]) (q++[y]) (by simpa using j) (by simp[e]) (by simp at hl |-;omega) h;rw[<-Qs,<-Qs]at f;rw[ae c,ae (show¬x>y from d),ae yB,X8 hl,f]
 |[],_::_,_,_,h,_,_,_=>by simp at h
 |_::_,[],_,_,h,_,_,_=>by simp at h
def Kn{x y:Qa}(h:I x.box.lo=I y.box.lo)(hl:I x.box.lo<=600)(hc:iH x.box.lo y.box.lo<0):JR (x,y)=O (-1):=by have e:=GL x.box.lo y.box.lo [] [] h rfl (by simpa using hl) hc;have e':Zk (x.box.lo,y.box.lo,0)=O (.inl (-1)):=e;simp only[JR,Je,e',Qf]
def KS:∀(s lo hi c d:fJ),okB s lo hi->(∀n∈s,n<=65536)->I c=I d->I c+I lo<=600->XK (⟨c++lo,d++hi⟩,(I c:Int))=O (.inr ())
 |[],[],[],c,d,_,_,_,_=>by rw[XK];simp only[Q1,ai]
 |n::s,l::lo,h::hi,c,d,⟨⟨k1,k2,k3⟩,j⟩,e,f,hl=>by
  rw[XK];have k:idx (d++h::hi) (I c:Int)=O h:=by rw[f];exact Qv
  have g:=KS s lo hi (c++[l]) (d++[h]) j (λm V=>e m<|jG _ V) (by simp[f]) (by simp at hl |-;omega);rw[<-Qs,<-Qs]at g;have hn:=e n (jM ..);have g1:¬l<0:=by omega
  have p:¬l>h:=by omega
  have q:¬h>65536:=by omega
  simp only[QX,ak,Qv,k,Qf,g1,p,q,ai,y5,j6,X8 hl,g]
 |[],_::_,_,_,_,h,_,_,_=>by simp[okB]at h
 |[],[],_::_,_,_,h,_,_,_=>by simp[okB]at h
 |_::_,[],_,_,_,h,_,_,_=>by simp[okB]at h
 |_::_,_::_,[],_,_,h,_,_,_=>by simp[okB]at h
def MG{s:fJ}{b:Qo}(h:okB s b.lo b.hi)(c:∀n∈s,n<=65536)(hl:I s<=16):SI b=O J:=by
 obtain⟨l1,l2⟩:=ki h;have e:=KS s b.lo b.hi [] [] h c rfl yA;have e':XK (b,0)=O (.inr ()):=e;have g1:¬((I b.lo:Int)≠(I b.hi:Int)):=by omega
 have d:¬((I b.lo:Int)>16):=by omega
 simp only[SI,g1,ai,d,y5,Qf,j6,e']
def MC(e:fJ):∀(s lo hi c d:fJ),okB s lo hi->I c=I d->I c+I s<=600->J5 (⟨e,d++hi⟩,c++s,(I c:Int))=O (.inr ())
 |[],[],[],c,d,_,f,_=>by rw[J5];rw[f];simp only[Q1,ai]
 |n::s,l::lo,h::hi,c,d,⟨⟨k1,k2,k3⟩,j⟩,f,hl=>by
  rw[J5];have g0:((I c:Int)<(I (d++h::hi):Int)):=by simp;omega
  have k:idx (d++h::hi) (I c:Int)=O h:=by rw[f];exact Qv
  have g:=MC e s lo hi (c++[n]) (d++[h]) j (by simp[f]) (by simp at hl |-;omega);rw[<-Qs,<-Qs]at g;have g1:¬h>n:=by omega
  simp only[g0,ak,Qv,k,Qf,g1,ai,X8 hl,g]
 |[],_::_,_,_,_,h,_,_=>by simp[okB]at h
 |[],[],_::_,_,_,h,_,_=>by simp[okB]at h
 |_::_,[],_,_,_,h,_,_=>by simp[okB]at h
 |_::_,_::_,[],_,_,h,_,_=>by simp[okB]at h
def Sq{s:fJ}{b:Qo}(h:okB s b.lo b.hi)(c:∀n∈s,n<=65536)(hl:I s<=16):TF (s,b)=O J:=by
 obtain⟨l1,l2⟩:=ki h;have e:=MC b.lo s b.lo b.hi [] [] h rfl yA;have e':J5 (b,s,0)=O (.inr ()):=e;have g:((I b.hi:Int) !=(I s:Int))=U:=by simp;omega
 simp only[TF,MG h c hl,Qf,jO,ai,g,j6,e']
def sZ:∀{s al ah bl bh:fJ},okB s al ah->okB s bl bh->gm (Nac sD al bl) (Nac tf ah bh)=J->
  okB s (Nac sD al bl) (Nac tf ah bh)/\kh al ah (Nac sD al bl)=J/\kh bl bh (Nac sD al bl)=J/\iz s (Nac sD al bl)=J
 |[],[],[],[],[],_,_,_=>⟨trivial,rfl,rfl,rfl⟩
 |n::s,a::al,b::ah,c::bl,d::bh,⟨⟨k1,k2,k3⟩,e⟩,⟨⟨m1,m2,m3⟩,m4⟩,f=>by
  rw[aX,aX,gm,jE,zE]at f;obtain⟨g,j⟩:=f;obtain⟨k,l,m,p⟩:=sZ e m4 j;have q:a<=sD a c/\c<=sD a c:=by unfold sD;split <;>omega
  have r:tf b d<=b/\tf b d<=d:=by unfold tf;split <;>omega
  simp only[aX,okB,kh,iz,jE,zE];exact⟨⟨⟨by omega,g,by omega⟩,k⟩,⟨⟨by omega,by omega⟩,l⟩,⟨⟨by omega,by omega⟩,m⟩,⟨by omega,by omega⟩,p⟩
 |[],_::_,_,_,_,h,_,_=>by simp[okB]at h
 |[],[],_::_,_,_,h,_,_=>by simp[okB]at h
 |[],[],[],_::_,_,_,h,_=>by simp[okB]at h
 |[],[],[],[],_::_,_,h,_=>by simp[okB]at h
 |_::_,[],_,_,_,h,_,_=>by simp[okB]at h
 |_::_,_::_,[],_,_,h,_,_=>by simp[okB]at h
 |_::_,_::_,_::_,[],_,_,h,_=>by simp[okB]at h
 |_::_,_::_,_::_,_::_,[],_,h,_=>by simp[okB]at h
def E8{s:fJ}{a b:Qo}(c:okB s a.lo a.hi)(d:okB s b.lo b.hi)(g:fQ s<=65536)(hl:I s<=16)(j:∀i,iz s i=J->¬(kh a.lo a.hi i=J/\kh b.lo b.hi i=J)):XT (a,b)=O (⟨[],[]⟩,U):=by
 obtain⟨l1,l2⟩:=ki c;obtain⟨n,p⟩:=ki d;have e:=DE (al:=a.lo) (ah:=a.hi) (bl:=b.lo) (bh:=b.hi) g y9 y9 y9 y9 λf=>(sZ c d f).1
 refine e.trans ?_;by_cases f:gm (Nac sD a.lo b.lo) (Nac tf a.hi b.hi)=J
 .obtain⟨_,k,l,m⟩:=sZ c d f;exact absurd ⟨k,l⟩<|j _ m
 .rw[ae f]
def Hy(l h C:Nat):∀n:Nat,((Nad n).map λk=>if l<=k/\k<h then C else 0).sum=(if n<=l then 0 else if n<=h then n - l else h - l)*C
 |0=>by simp
 |n+1=>by
  rw[dC,zM,List.sum_append,Hy l h C n];simp only[zV,aH,dt,List.sum_nil,zY];by_cases a:l<=n/\n<h
  .rw[aj a,ae (show¬n+1<=l by omega),aj (show n+1<=h by omega)];by_cases b:n<=l
   .rw[aj b,show n+1 - l=1 by omega];omega
   .rw[ae b,aj (show n<=h by omega),show n+1 - l=(n - l)+1 by omega,av];omega
  .rw[ae a,zY];congr 1;by_cases b:n+1<=l
   .rw[aj b,aj (show n<=l by omega)]
   .rw[ae b];by_cases c:n<=l
    .rw[aj c];split <;>omega
    .rw[ae c];split <;>split <;>omega
def GA:∀{s lo hi:fJ},okB s lo hi->(((iF s).countP (kh lo hi):Nat):Int)=fQ (tK lo hi)
 |[],[],[],_=>by simp[iF,kh,tK,fQ]
 |n::s,l::lo,h::hi,⟨⟨k1,k2,k3⟩,d⟩=>by
  have f:=GA d;rw[iF,List.countP_flatMap,tK,gx,<-f]
  have e:((Nad n.toNat).map (List.countP (kh (l::lo) (h::hi))∘ λ(k:Nat)=>(iF s).map ((k:Int)::·)))=(Nad n.toNat).map λk=>if l.toNat<=k/\k<h.toNat then(iF s).countP (kh lo hi)else 0:=by
   refine aJ λk _=>?_
   show List.countP _ ((iF s).map _)=_
   rw[dD];by_cases c:l.toNat<=k/\k<h.toNat
   .rw[aj c];refine List.countP_congr λi _=>?_
    simp only[Function.comp_apply,kh,show l<=(k:Int) by omega,show(k:Int)<h by omega,decide_true,bg,fu]
   .rw[ae c];refine cJ.2 λi _=>?_
    simp only[Function.comp_apply,kh,jE,zE];omega
  rw[e,Hy,ae (show¬n.toNat<=l.toNat by omega)]
  have:(if n.toNat<=h.toNat then n.toNat - l.toNat else h.toNat - l.toNat)=h.toNat - l.toNat:=by split <;>omega
  rw[this,cy,show((h.toNat - l.toNat:Nat):Int)=h - l by omega]
 |[],_::_,_,h=>by simp[okB]at h
 |[],[],_::_,h=>by simp[okB]at h
 |_::_,[],_,h=>by simp[okB]at h
 |_::_,_::_,[],h=>by simp[okB]at h
def wa(x:Qa):Nat:=(fQ<|tK x.box.lo x.box.hi).toNat
def Dn:∀(A:List fJ) (l:List Qa),(l.map λx=>A.countP λi=>ij i x).sum=(A.map λi=>l.countP<|ij i).sum
 |[],l=>by
  simp only[eS,aH,List.sum_nil];induction l with
  |nil=>rfl
  |cons x l c=>simp only[zV,dt,c,zY]
 |i::A,l=>by
  rw[zV,dt,<-Dn A l];induction l with
  |nil=>rfl
  |cons x l c=>
   have c1:((i::A).countP λj=>ij j x)=A.countP (λj=>ij j x)+if ij i x=J then 1 else 0:=bN ..
   have c2:(x::l).countP (ij i)=l.countP (ij i)+if ij i x=J then 1 else 0:=bN ..
   simp only[zV,dt];rw[c,c1,c2];omega
def ID:∀(A:List fJ) (f:fJ->Nat),(∀i∈A,f i=1)->(A.map f).sum=I A
 |[],_,_=>rfl
 |i::A,f,h=>by rw[zV,dt,h i<|jM ..,ID A f (λj c=>h j<|jG _ c),zH];omega
def SZ{P:Qa->Prop}{s:fJ}{l:List Qa}(h:Inv P s l)(hn:∀n∈s,0<=n):(((l.map wa).sum:Nat):Int)=fQ s:=by
 have e:l.map wa=l.map λx=>(iF s).countP λi=>ij i x:=aJ λx c=>by
  have:=GA (h.box x c);have d:(iF s).countP (kh x.box.lo x.box.hi)=(iF s).countP λi=>ij i x:=rfl
  unfold wa;omega
 have:=kK hn;rw[e,Dn,ID _ _ (λi hi=>h.s4 i<|pJ hn i hi)];exact this
def my(x:Qa):Qo:=x.box
def L2{s:fJ}:∀{l:List Qa},(∀i,iz s i=J->l.countP (ij i)<=1)->l.Pairwise λa b=>∀i,iz s i=J->¬(ij i a=J/\ij i b=J)
 |[],_=>.nil
 |x::l,h=>by
  refine aM.2 ⟨λy e i hi d=>?_,L2 λi hi=>?_⟩
  .have c:=h i hi;rw[cK d.1]at c
   have:0<l.countP (ij i):=dg.2 ⟨y,e,d.2⟩
   omega
  .have c:=h i hi;rw[bN]at c;omega
def NZ{b:Qo}{s:fJ}{L:List Qo}{v z k:Int}:∀(l p:List Qo),I p+I l<=50000->(∀c∈l,XT (b,c)=O (⟨[],[]⟩,U))->XJ (p++l,b,s,L,v,z,k,(I p:Int))=O (.inr ())
 |[],p,h,hi=>by rw[XJ];simp only[Q1,ai]
 |c::l,p,h,hi=>by
  rw[XJ];have f:I p<=50000:=by simp at h;omega
  have e:=NZ (b:=b) (s:=s) (L:=L) (v:=v) (z:=z) (k:=k) l (p++[c]) (by simp at h |-;omega) (λd g=>hi d<|jG _ g);rw[<-Qs]at e;have j:W ((I p:Int)+1)=(I (p++[c]):Int):=jq y9;simp only[QX,ak,Qv,Qf,hi c<|jM ..,j6,ai,j,e]
section
variable{s:fJ}
theorem M1(A:∀n∈s,n<=65536)(hl:I s<=16)(m:fQ s<=65536):∀(l p:List Qa),I p+I l<=50000->(∀x∈p++l,okB s x.box.lo x.box.hi)->((p++l).Pairwise λa b=>∀i,iz s i=J->¬(ij i a=J/\ij i b=J))->((p++l).map wa).sum<=65536->
  XI ((p++l).map my,s,((p.map wa).sum:Int),(I p:Int))=O (.inr<|.inr (((p++l).map wa).sum:Int))
 |[],p,h,j,q,B=>by
  rw[XI]
  have:¬((I p:Int)<(I ((p++[]).map my):Int)):=by simp
  rw[ae this,jV]
 |x::l,p,h,j,q,B=>by
  rw[XI];have G:((I p:Int)<(I ((p++x::l).map my):Int)):=by simp;omega
  have H:idx ((p++x::l).map my) (I p:Int)=O (my x):=kH yB;have r:I p<=50000:=by simp at h;omega
  have f:okB s (my x).lo (my x).hi:=j x yB;obtain⟨l1,l2⟩:=ki f;have K:TF (s,my x)=O J:=Sq f A hl
  have hc:Ju (my x)=O (wa x:Int):=by
   have e:=uH m (lo:=(my x).lo) (hi:=(my x).hi) y9 y9 (λ_=>f);have d:=(CI f).1;have P:1<=fQ (tK x.box.lo x.box.hi):=d
   have t:zo (my x).lo (my x).hi=(wa x:Int):=by
    unfold zo wa;rw[aj (wA f)];show fQ (tK x.box.lo x.box.hi)=_
    omega
   simp only[Ju,e,Qf,t]
  have t:sub ((p++x::l).map my) 0 (I p:Int)=O (p.map my):=by simp[sub];omega
  have M:XJ (p.map my,my x,s,(p++x::l).map my,((p.map wa).sum:Int),(wa x:Int),(I p:Int),0)=O (.inr ()):=by
   have e:=NZ (b:=my x) (s:=s) (L:=(p++x::l).map my) (v:=((p.map wa).sum:Int)) (z:=(wa x:Int)) (k:=(I p:Int)) (p.map my) [] (by simpa using r) λc hc=>by obtain⟨y,C,rfl⟩:=aq.1 hc;have u:=j y (by simp[C]);have g:=(dG.1 q).2.2 y C x (jM ..);exact E8 f u m hl λi hi D=>g i hi ⟨D.2,D.1⟩
   exact e
  have nf:(((p++[x]).map wa).sum:Nat)=(p.map wa).sum+wa x:=by simp
  have E:((p++x::l).map wa).sum=(p.map wa).sum+wa x+(l.map wa).sum:=by simp;omega
  have N:W (((p.map wa).sum:Int)+(wa x:Int))=(((p++[x]).map wa).sum:Int):=by rw[gE y9 y9,nf];omega
  have w:W ((I p:Int)+1)=(I (p++[x]):Int):=jq y9;have F:=M1 A hl m l (p++[x]) (by simp at h |-;omega) (by rw[<-Qs];exact j) (by rw[<-Qs];exact q) (by rw[<-Qs];exact B);rw[<-Qs]at F;simp only[G,ak,H,Qf,K,jO,ai,hc,t,M,N,w,F]
theorem Tv{P:Qa->Prop}{l:List Qa}(h:Inv P s l)(hc:fY s=0)(d:fQ s<=20000):UQ (s,l.map my)=O J:=by
 obtain⟨f,g,c⟩:=fT hc;have j:=h.pb hc d;have k:Sm (I s):=hZ (show I s<=1000 by omega);have m:=SZ h λn hn=>(c n hn).1
 have e:=M1 (λn hn=>(c n hn).2) f g l [] (by simpa using by omega) h.box (L2 λi hi=>ct<|h.s4 i hi) (by show(l.map wa).sum<=65536;omega);have e':XI (l.map my,s,0,0)=O (.inr<|.inr ((l.map wa).sum:Int)):=e;have p:Xl s=O (fQ s):=by rw[kL s k,jf,aj hc]
 simp only[UQ,e',Qf,p,m,beq_self_eq_true]
end
def Nr:∀(s p:fJ),Sm (I<|p++s)->(∀n∈s,-1099511627776<=n/\n<=1099511627776)->QK (p++s,(I p:Int))=O (.inr ())
 |[],p,h,c=>by rw[QK];simp only[Q1,ai]
 |x::s,p,h,c=>by
  rw[QK];have e:=Nr s (p++[x]) (by rw[<-Qs];exact h) (λn hn=>c n<|jG _ hn);rw[<-Qs]at e;have f:=c x (jM ..);have g1:¬x< -1099511627776:=by omega
  have d:¬x>1099511627776:=by omega
  simp only[QX,ak,Qv,Qf,VG,g1,ai,d,y5,j6,kQ h,e]
def SS{l:fJ}(hl:Sm (I l))(h:∀n∈l,-1099511627776<=n/\n<=1099511627776):Q9 l=O U:=by have e:=Nr l [] hl h;have e':QK (l,0)=O (.inr ()):=e;simp only[Q9,ZN,e',Qf];rfl
def Te:Zs ([],[])=O J:=by unfold Zs;dsimp only;rw[QS];rfl
def Kw{a:Qj}{d:Int}{r:Nat}(hw:la r a)(h:zc d a)(w:d<=1000000000000)(x:r<=16):JO (a,(r:Int))=O J:=by
 obtain⟨f,l,m,g,y,z,A,B,C⟩:=h
 have hl:I a.bm<=16:=by
  rcases hw with k|k
  .rw[f k];decide
  .omega
 have g1:¬((r:Int)<0):=by omega
 have p:¬((r:Int)>16):=by omega
 have q:app 8 [a.bc,a.ek,a.ed,a.dk,a.ep] a.bm=O ([a.bc,a.ek,a.ed,a.dk,a.ep]++a.bm):=gn yA y9
 have s:Q9 ([a.bc,a.ek,a.ed,a.dk,a.ep]++a.bm)=O U:=SS (hZ (show _<=1000 by simp;omega)) λn hn=>by
  simp only[aU,jU,bT,or_false]at hn;rcases hn with hn|hn
  .omega
  .have:=yg hn;omega
 simp only[JO,g1,ai,p,q,Qf,s,j6];rcases hw with k|⟨k|k,j⟩
 .have e:=f k;subst e;simp only[lN,ak,VO,Te,Qf,beq_self_eq_true]
 .obtain⟨t,u,v⟩:=l k;have c:a.bc>=0:=g.1;simp only[k,show¬(2:Int)=1 by decide,ai,ak,c,j,beq_self_eq_true,Qf,t,u,v]
 .have:=m k;have c:a.bc>=0:=g.1;simp only[k,show¬(3:Int)=1 by decide,show¬(3:Int)=2 by decide,ai,ak,c,j,beq_self_eq_true,Qf];rw[decide_eq_true y9]
section
variable{s:fJ}
theorem Iq(v:∀n∈s,n<=65536)(hl:I s<=16)(z:fQ s<=65536):∀(l p:List Qa),I p+I l<=50000->((p++l).Pairwise λa b=>iH a.box.lo b.box.lo<0)->(∀x∈p++l,okB s x.box.lo x.box.hi)->(∀x∈l,JO (x.be,(I s:Int))=O J)->
  YG (p++l,s,p.map my,(I p:Int))=O (.inr<|(p++l).map my)
 |[],p,h,m,k,r=>by rw[YG];simp only[Q1,ai];rw[jV]
 |x::l,p,h,m,k,r=>by
  rw[YG];have t:I p<=50000:=by simp at h;omega
  have A:=Iq v hl z l (p++[x]) (by simp at h |-;omega) (by rw[<-Qs];exact m) (λy d=>k y (by rw[Qs];exact d)) (λy d=>r y<|jG _ d);rw[<-Qs]at A;have B:W ((I p:Int)+1)=(I (p++[x]):Int):=jq y9;have c:=k x yB;obtain⟨l1,l2⟩:=ki c;have C:SI x.box=O J:=MG c v hl
  have D:Ju x.box=O (zo x.box.lo x.box.hi):=by have e:=uH z (lo:=x.box.lo) (hi:=x.box.hi) y9 y9 (λ_=>c);simp only[Ju,e,Qf]
  have u:(zo x.box.lo x.box.hi==0)=U:=by rw[wN (λ_=>c),wA c];rfl
  have E:=r x (jM ..)
  have F:app 48 (p.map my) [x.box]=O ((p++[x]).map my):=by have:=gn (b:=48) (l:=p.map my) (es:=[x.box]) yA y9;rw[this,zM];rfl
  have G:(if(I p:Int)>0 then idx (p++x::l) (W<|(I p:Int) - 1)>>=λf=>JR (f,x)>>=λ(j:Int)=>O (decide<|j>=0)else O U)=O U:=by
   rcases bU p with rfl|⟨q,y,rfl⟩
   .rfl
   .simp only[cw]at *;have g:((I (q++[y]):Nat):Int)>0:=by rw[jW,bz];omega
    have w:W (((I (q++[y]):Nat):Int) - 1)=(I q:Int):=by rw[jW,bz]at t |-;rw[gE y9 y9];omega
    have i:idx (q++[y]++x::l) (I q:Int)=O y:=kH yB;have d:=k y yB;obtain⟨m1,m2⟩:=ki d;have hc:iH y.box.lo x.box.lo<0:=(dG.1 m).2.2 y yB x (jM ..);have e:JR (y,x)=O (-1):=Kn y9 y9 hc;rw[aj g,w,i,Qf,e];rfl
  simp only[QX,ak,Qv,Qf,C,D,u,E,jO,ai,aF,j6,G,F,B,A]
theorem ON{P:Qa->Prop}{l:List Qa}(h:Inv P s l)(hc:fY s=0)(c:fQ s<=20000)(d:∀x∈l,JO (x.be,(I s:Int))=O J):Uk (s,l)=O J:=by obtain⟨f,g,j⟩:=fT hc;have k:=h.pb hc c;have m:Sm (I s):=hZ (show I s<=1000 by omega);have e:=Iq (s:=s) (λn hn=>(j n hn).2) f g l [] (by simpa using by omega) (mD h.HV) h.box d;have e':YG (l,s,[],0)=O (.inr<|l.map my):=e;simp only[Uk,e',Qf,nl s m,hc,ak,Tv h hc c]
end
def RU{c:Qb}:∀(l p:List Qi),I p+I l<=50000->ZA (p++l,p++l,c,(I p:Int))=O (.inr ())
 |[],p,h=>by rw[ZA];simp only[Q1,ai]
 |x::l,p,h=>by
  rw[ZA];have e:I p<=50000:=by simp at h;omega
  have d:=RU (c:=c) l (p++[x]) (by simp at h |-;omega);rw[<-Qs]at d;have f:W ((I p:Int)+1)=(I (p++[x]):Int):=jq y9;simp only[QX,ak,Qv,Qf,beq_self_eq_true,fu,jO,ai,f,d]
def DnfReduces_ok(c:Qb)(bs:List fJ):VV (c,bs)=O J:=by
 have t:VR ()=O J:=rfl;obtain⟨b,u,v⟩:=K9 c bs 200 yD;unfold VV;simp only[t,Qf,jO,ai,SX,u];cases b with
 |false=>simp only[cT,ak,Qf]
 |true=>
  obtain⟨w,q,r,Q,R⟩:=v rfl;obtain⟨⟨q0,q1,q2,_⟩,_⟩:=ov r;obtain⟨c1,c2,z⟩:=fT q1;have hn:∀n∈c.aa,0<=n:=λn hn=>(z n hn).1
  have g:GS bs 200 c:=⟨q,r⟩;have j:GZ bs 200 c:=⟨g,by omega⟩;obtain⟨A,e⟩:=OG y9 yD yD j;have B:=Hd y9 yD yD (uu c) c (j7 _) g;obtain⟨_,S,hl⟩:=oe.ns j;have C:=e.pb q1 y9;have d:=xR yD yD c g;have hR:Inv (qd c) c.aa (qo oA c):=e.mono λx _ D=>D.1
  have s:N1 c<=1000000000000:=by have:=j.2;unfold N1;omega
  have E:=Fz e q1 y9 (λx f=>Mj (e.acc x f) (e.ss x f).2 s c1) d;have F:=ON e q1 y9 (λx f=>Kw (e.acc x f) (e.ss x f).2 s c1);have G:=yq hR q1 y9 d;have H:=NA q y9 d;have K:=UR (l:=qo oA c) y9
  have L:T0 ((qo oA c).map gK,(qo oA c).map gK)=O J:=Pu yA λy M=>by obtain⟨x,f,rfl⟩:=aq.1 M;obtain⟨l1,l2⟩:=ki (e.box x f);have hw:=(hR.ss x f).2.l;exact⟨by show I x.box.lo<=1000;omega,by show I x.box.hi<=1000;omega,hw⟩
  have T:=kK hn;have m:I (ke c)<=50000:=by unfold ke;rw[jZ];omega
  have N:=RU (c:=c) (ke c) [] (by simpa using m);have p:ZA (ke c,ke c,c,0)=O (.inr ()):=N;have P:(⟨(conv c).bx,(conv c).aa,(conv c).bc,(conv c).cx,(conv c).ch,(conv c).cS,(conv c).eh,(conv c).ea⟩:Qr)=conv c:=by generalize conv c=k;cases k;rfl
  simp only[aF,j6,ai,Qf,Gv c w,P,A,B,E,F,G,H,K,L,p,jO,beq_self_eq_true]
def ua3:prog.underlying 3=O (TypeDesc.int IntKind.i64):=by kernel_rfl
def U7:prog.underlying 22=O (TypeDesc.slice 3):=by kernel_rfl
def Sk:prog.underlying 25=O (TypeDesc.struct {toList:=[{name:= "Kind",type:=3,offset:=0,embedded:=U,tag:= "",pkgPath:= "",byteOffset:=0},{name:= "Shape",type:=22,offset:=1,embedded:=U,tag:= "",pkgPath:= "",byteOffset:=8},{name:= "Buffer",type:=3,offset:=2,embedded:=U,tag:= "",pkgPath:= "",byteOffset:=32},{name:= "Starts",type:=22,offset:=3,embedded:=U,tag:= "",pkgPath:= "",byteOffset:=40},{name:= "Axis",type:=3,offset:=4,embedded:=U,tag:= "",pkgPath:= "",byteOffset:=64},{name:= "Amount",type:=3,offset:=5,embedded:=U,tag:= "",pkgPath:= "",byteOffset:=72},{name:= "Perm",type:=22,offset:=6,embedded:=U,tag:= "",pkgPath:= "",byteOffset:=80},{name:= "Kids",type:=23,offset:=7,embedded:=U,tag:= "",pkgPath:= "",byteOffset:=104}]}):=by kernel_rfl
def WS:prog.underlying 23=O (TypeDesc.slice 25):=by kernel_rfl
def UL:prog.underlying 26=O (TypeDesc.slice 22):=by kernel_rfl
def ua4:prog.underlying 4=O TypeDesc.bool:=by kernel_rfl
def qt{e c:Type}{f:c->e}{p:c->Prop}:∀{L:List e},(∀x∈L,∃y,x=f y/\p y)->∃l:List c,L=l.map f/\∀y∈l,p y
 |[],_=>⟨[],rfl,λy h=>by cases h⟩
 |x::L,h=>by
  obtain⟨y,rfl,g⟩:=h x (jM ..);obtain⟨l,rfl,hl⟩:=qt (λx j=>h x<|jG _ j)
  exact⟨y::l,rfl,λz d=>by
   rcases ar.1 d with rfl|d
   .exact g
   .exact hl z d⟩
variable{B:Nat}{n:Nat}{cs:List fS}
theorem Uv(h:tW prog B n 3 cs):∃m:Int,cs=[(Qg m)]/\((-9223372036854775808)<=m/\m<=9223372036854775807):=by
 cases n with
 |zero=>exact h.elim
 |succ n=>
  simp only[tW,ua3]at h;obtain⟨m,rfl,V⟩:=h;refine⟨m,rfl,?_⟩
  simpa[Lit.wf,IntKind.min,IntKind.max,IntKind.signed,IntKind.bits]using V
def IE(B:Nat)(x:fJ):Prop:=I x<=B/\∀m∈x,((-9223372036854775808)<=m/\m<=9223372036854775807)
theorem Ou(h:tW prog B n 22 cs):∃l:fJ,cs=[.ew ((Naa Qg) l)]/\IE B l:=by
 cases n with
 |zero=>exact h.elim
 |succ n=>
  simp only[tW,U7]at h;obtain⟨L,rfl,hl,d⟩:=h;obtain⟨l,rfl,V⟩:=qt (f:=λm=>[(Qg m)]) (p:=λm=>((-9223372036854775808)<=m/\m<=9223372036854775807)) (λx c=>Uv<|d x c);refine⟨l,?_,by simpa using hl,V⟩
  have e:(l.map (λm=>[(Qg m)])).map (mS prog 3)=l.map Qg:=by rw[zG];exact aJ (λm _=>by simp only[Function.comp_apply];simp[mS,tU,ua3])
  rw[e]
mutual
def CC (B:Nat):Qb->Prop
 |⟨kind,shape,buffer,starts,axis,amount,perm,kids⟩=>(((-9223372036854775808)<=kind/\kind<=9223372036854775807))/\((IE B shape))/\(((-9223372036854775808)<=buffer/\buffer<=9223372036854775807))/\((IE B starts))/\(((-9223372036854775808)<=axis/\axis<=9223372036854775807))/\(((-9223372036854775808)<=amount/\amount<=9223372036854775807))/\((IE B perm))/\(I kids<=B/\vK B kids)
def vK (B:Nat):List Qb->Prop
 |[]=>True
 |k::ks=>CC B k/\vK B ks
end
theorem Ds:∀{l:List Qb},(∀y∈l,CC B y)->vK B l
 |[],_=>by rw[vK];trivial
 |y::l,h=>by rw[vK];exact⟨h y<|jM ..,Ds λz c=>h z<|jG _ c⟩
theorem QjP(c:∀cs,tW prog B n 23 cs->∃l:List Qb,cs=[.ew (Qb.hE l)]/\(I l)<=B/\vK B l)(h:tW prog B (n+1) 25 cs):∃x:Qb,cs=[(Qg x.bx),(.ew<|(Naa Qg) x.aa),(Qg x.bc),(.ew<|(Naa Qg) x.cx),(Qg x.ch),(Qg x.cS),(.ew<|(Naa Qg) x.eh),(.ew<|Qb.hE x.ea)]/\CC B x:=by simp only[tW,Sk,List.foldr]at h;obtain⟨_,_,rfl,h0,_,_,rfl,d,_,_,rfl,e,_,_,rfl,f,_,_,rfl,g,_,_,rfl,j,_,_,rfl,k,_,_,rfl,m,rfl⟩:=h;obtain⟨m0,rfl,p⟩:=Uv h0;obtain⟨m1,rfl,q⟩:=Ou d;obtain⟨m2,rfl,r⟩:=Uv e;obtain⟨m3,rfl,s⟩:=Ou f;obtain⟨m4,rfl,t⟩:=Uv g;obtain⟨m5,rfl,u⟩:=Uv j;obtain⟨m6,rfl,v⟩:=Ou k;obtain⟨m7,rfl,w⟩:=c _ m;exact⟨⟨m0,m1,m2,m3,m4,m5,m6,m7⟩,rfl,by rw[CC];exact⟨p,q,r,s,t,u,v,w⟩⟩
theorem QkG(d:∀cs,tW prog B n 25 cs->∃x:Qb,cs=[(Qg x.bx),(.ew<|(Naa Qg) x.aa),(Qg x.bc),(.ew<|(Naa Qg) x.cx),(Qg x.ch),(Qg x.cS),(.ew<|(Naa Qg) x.eh),(.ew<|Qb.hE x.ea)]/\CC B x)(h:tW prog B (n+1) 23 cs):∃l:List Qb,cs=[.ew (Qb.hE l)]/\(I l)<=B/\vK B l:=by
 simp only[tW,WS]at h;obtain⟨L,rfl,hl,g⟩:=h;obtain⟨l,rfl,V⟩:=qt (f:=λ(x:Qb)=>[(Qg x.bx),(.ew<|(Naa Qg) x.aa),(Qg x.bc),(.ew<|(Naa Qg) x.cx),(Qg x.ch),(Qg x.cS),(.ew<|(Naa Qg) x.eh),(.ew<|Qb.hE x.ea)]) (p:=λx=>CC B x) (λc hc=>d c<|g c hc);refine⟨l,?_,by simpa using hl,Ds V⟩
 have e:(l.map (λ(x:Qb)=>[(Qg x.bx),(.ew<|(Naa Qg) x.aa),(Qg x.bc),(.ew<|(Naa Qg) x.cx),(Qg x.ch),(Qg x.cS),(.ew<|(Naa Qg) x.eh),(.ew<|Qb.hE x.ea)])).map (mS prog 25)=Qb.hE l:=by rw[Qb.fa,zG];exact aJ (λm _=>by rw[Qb.i6];simp only[Function.comp_apply];simp[mS,tU,Sk];rfl)
 rw[e]
theorem Tu:∀n,(∀cs,tW prog B n 25 cs->∃x:Qb,cs=[(Qg x.bx),(.ew<|(Naa Qg) x.aa),(Qg x.bc),(.ew<|(Naa Qg) x.cx),(Qg x.ch),(Qg x.cS),(.ew<|(Naa Qg) x.eh),(.ew<|Qb.hE x.ea)]/\CC B x)/\(∀cs,tW prog B n 23 cs->∃l:List Qb,cs=[.ew (Qb.hE l)]/\(I l)<=B/\vK B l)
 |0=>⟨λ_ h=>h.elim,λ_ h=>h.elim⟩
 |n+1=>⟨λ_ h=>QjP (Tu n).2 h,λ_ h=>QkG (Tu n).1 h⟩
theorem Qkf(h:tW prog B n 25 cs):∃x:Qb,cs=[(Qg x.bx),(.ew<|(Naa Qg) x.aa),(Qg x.bc),(.ew<|(Naa Qg) x.cx),(Qg x.ch),(Qg x.cS),(.ew<|(Naa Qg) x.eh),(.ew<|Qb.hE x.ea)]/\CC B x:=(Tu n).1 cs h
def Vi(B:Nat)(x:(List fJ)):Prop:=I x<=B/\∀m∈x,(IE B m)
theorem WV(h:tW prog B n 26 cs):∃l:(List fJ),cs=[.ew ((Naa (λl=>fS.ew<|(Naa Qg) l)) l)]/\Vi B l:=by
 cases n with
 |zero=>exact h.elim
 |succ n=>
  simp only[tW,UL]at h;obtain⟨L,rfl,hl,d⟩:=h;obtain⟨l,rfl,V⟩:=qt (f:=λm=>[(.ew<|(Naa Qg) m)]) (p:=λm=>(IE B m)) (λx c=>Ou<|d x c);refine⟨l,?_,by simpa using hl,V⟩
  have e:(l.map (λm=>[(.ew<|(Naa Qg) m)])).map (mS prog 22)=l.map (λl=>fS.ew<|(Naa Qg) l):=by rw[zG];exact aJ (λm _=>by simp only[Function.comp_apply];simp[mS,tU,U7])
  rw[e]
theorem ty25{d:fS}(h:RV prog B 25 d):∃m:Qb,d=(Qb.ex m)/\(CC B m):=by obtain⟨n,cs,h,c⟩:=h;obtain⟨m,rfl,V⟩:=Qkf h;exact⟨m,by rw[c];simp[mS,tU,Sk];rfl,V⟩
theorem ty26{d:fS}(h:RV prog B 26 d):∃m:(List fJ),d=(.ew<|(Naa (λl=>fS.ew<|(Naa Qg) l)) m)/\(Vi B m):=by obtain⟨n,cs,h,c⟩:=h;obtain⟨m,rfl,V⟩:=WV h;exact⟨m,by rw[c];simp[mS,tU,UL],V⟩
def U3:List TypeId:=[3,22,25,23,26,5,4]
theorem argTs_closed:mq prog U3=J:=by kernel_rfl
theorem laidOut:laidOutB prog=J:=by kernel_rfl
theorem pa:E9 prog env:=⟨(λf G h ds p c=>by
  unfold env at h;dsimp only at h;split at h
  .cases h;cases c
  split at h
  .cases h;cases c
  cases h),
 (λf G h=>by
  unfold env at h;dsimp only at h;split at h
  .rename_i e;subst e;cases h;exact⟨by kernel_rfl,IS⟩
  split at h
  .rename_i e;subst e;cases h;exact⟨by kernel_rfl,EA⟩
  cases h)⟩
theorem mixed:prog.follows .mixedOrders=J:=by kernel_rfl
theorem pure_of{f:fM}{c:List fS}{p:PV}(d:p.out=J)(h:PC prog env f (c.map .b7) [] p []):od prog f c p:=by obtain⟨N,e⟩:=h;exact E7 pa mixed (e N<|j7 _) d
end
end Go.Proofs.Tryz
