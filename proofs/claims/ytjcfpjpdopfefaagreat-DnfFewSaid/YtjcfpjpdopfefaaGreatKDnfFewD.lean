/-
 Models of functions, their walks, and plain laws.
-/
import Derived.Test.YtjcfpjpdopfefaaGreatKDnfFewC
namespace Go.Proofs.Tryz
open Go Go.Pm
set_option linter.all false
set_option maxRecDepth 2000
theorem vC:∀(al ah e f:fj),(jc al ah e f).length<=2*al.length
 |a::al,b::ah,c::e,d::f=>by
  have:=vC al ah e f;simp only[jc,zG,jY];omega
 |[],_,_,_=>by simp[jc]
 |_::_,[],_,_=>by simp[jc]
 |_::_,_::_,[],_=>by simp[jc]
 |_::_,_::_,_::_,[]=>by simp[jc]
theorem yV:∀{f al ah g j:fj},jg f al ah->qf al ah g j->∀x∈jc al ah g j,jg f x.1 x.2
 |n::f,a::al,b::ah,c::g,d::j,⟨⟨k1,k2,k3⟩,k⟩,⟨l,m,p,q⟩,x,e=>by
  rw[jc]at e;rcases aq.1 e with rfl|e
  .exact⟨⟨k1,l,by omega⟩,k⟩
  rcases aq.1 e with rfl|e
  .exact⟨⟨by omega,p,k3⟩,k⟩
  obtain⟨y,r,rfl⟩:=ar.1 e;exact⟨⟨by omega,m,by omega⟩,yV k q y r⟩
 |[],[],[],_,_,_,_,x,e=>by simp[jc]at e
 |_::_,_::_,_::_,[],_,_,h,_,_=>by simp[qf]at h
 |_::_,_::_,_::_,_::_,[],_,h,_,_=>by simp[qf]at h
 |[],_::_,_,_,_,h,_,_,_=>by simp[jg]at h
 |[],[],_::_,_,_,h,_,_,_=>by simp[jg]at h
 |_::_,[],_,_,_,h,_,_,_=>by simp[jg]at h
 |_::_,_::_,[],_,_,h,_,_,_=>by simp[jg]at h
theorem uC(c d x:Int)(i:fj)(l:List (fj×fj)):
  (l.map λy=>(c::y.1,d::y.2)).filter (λy=>jk y.1 y.2 (x::i))=if c<=x/\x<d then(l.filter λy=>jk y.1 y.2 i).map λy=>(c::y.1,d::y.2)else[]:=by
 rw[List.filter_map];by_cases h:c<=x/\x<d
 .rw[ai h];congr 1;refine List.filter_congr λy _=>?_
  simp[jk,h.1,h.2]
 .rw[af h]
  have:(l.filter ((λy:fj×fj=>jk y.1 y.2 (x::i))∘ λy=>(c::y.1,d::y.2)))=[]:=by
   refine List.filter_eq_nil_iff.2 λy _=>?_
   simp only[Function.comp,jk,jE,zD];exact λe=>h e.1
  rw[this];rfl
theorem uv:∀(al ah e f i:fj),qf al ah e f->jk al ah i=true->
  (jk e f i=true->(jc al ah e f).filter (λy=>jk y.1 y.2 i)=[])/\(jk e f i=false->∃q,(jc al ah e f).filter (λy=>jk y.1 y.2 i)=[q])
 |[],[],[],[],[],_,_=>⟨λ_=>rfl,λh=>by simp[jk]at h⟩
 |a::al,b::ah,c::e,d::f,x::i,m,hi=>by
  obtain⟨s,t,u,g⟩:=m;simp only[jk,jE,zD]at hi;obtain⟨j,k⟩:=uv al ah e f i g hi.2;have e0:jk (a::al) (c::ah) (x::i)=decide (x<c):=by simp[jk,hi.1.1,hi.2]
  have n:jk (d::al) (b::ah) (x::i)=decide (d<=x):=by simp[jk,hi.1.2,hi.2]
  have p:jk (c::e) (d::f) (x::i)=(decide (c<=x) &&decide (x<d) &&jk e f i):=rfl;rw[jc,dU,dU,uC,p];simp only[e0,n];by_cases c1:x<c
  .have n1:¬d<=x:=by omega
   have n2:¬(c<=x/\x<d):=by omega
   have n3:¬c<=x:=by omega
   rw[af n2];simp[c1,n1,n3]
  .by_cases c2:d<=x
   .have n2:¬(c<=x/\x<d):=by omega
    have n3:¬x<d:=by omega
    rw[af n2];simp[c1,c2,n3]
   .have l:c<=x/\x<d:=by omega
    rw[ai l];simp only[l.1,l.2,decide_true,aY,c1,c2,y3];refine⟨λh=>by simp[j h],λh=>?_⟩;obtain⟨q,r⟩:=k h;exact⟨(c::q.1,d::q.2),by simp[r]⟩
theorem rU:∀{lo hi i:fj},jk lo hi i=true->fW lo hi=true
 |[],[],[],_=>rfl
 |l::lo,h::hi,x::i,H=>by
  simp only[jk,jE,zD]at H;simp only[fW,jE,zD];exact⟨by omega,rU H.2⟩
theorem wa:∀{s lo hi:fj},okB s lo hi->iB s lo=true/\jk lo hi lo=true
 |[],[],[],_=>⟨rfl,rfl⟩
 |n::s,l::lo,h::hi,⟨⟨k1,k2,k3⟩,c⟩=>by
  obtain⟨d,e⟩:=wa c;simp only[iB,jk,d,e,cY,jE,zD];omega
 |[],_::_,_,h=>by simp[okB]at h
 |[],[],_::_,h=>by simp[okB]at h
 |_::_,[],_,h=>by simp[okB]at h
 |_::_,_::_,[],h=>by simp[okB]at h
theorem qC:∀{s i:fj},iB s i=true->jk (List.replicate s.length 0) s i=true
 |[],[],_=>rfl
 |n::s,x::i,h=>by
  simp only[iB,jE,zD]at h;simp only[zG,aJ,jk,jE,zD];exact⟨h.1,qC h.2⟩
 |[],_::_,h=>by cases h
 |_::_,[],h=>by cases h
def gZ(i:fj)(x:Qa):Bool:=jk x.box.lo x.box.hi i
theorem rM(i:fj)(l:List Qa):(l.filter fT).countP (gZ i)=l.countP (gZ i):=by
 rw[List.countP_filter];congr 1
 funext x
 unfold gZ fT;cases h:jk x.box.lo x.box.hi i with
 |false=>rfl
 |true=>simp[rU h]
theorem sL{s:fj}:∀{l:List Qa},(∀x∈l,okB s x.box.lo x.box.hi)->(∀i,iB s i=true->l.countP (gZ i)<=1)->l.Pairwise λa b=>a.box.lo≠b.box.lo
 |[],_,_=>.nil
 |a::l,c,hc=>by
  obtain⟨f,v2⟩:=wa (c a (jM ..));refine aT.2 ⟨λb d e=>?_,sL (λx g=>c x (jG _ g)) λi hi=>?_⟩
  .have j:=hc a.box.lo f;rw[cC (by exact v2)]at j;have k:0<l.countP (gZ a.box.lo):=dy.2 ⟨b,d,by rw[e];exact(wa (c b (jG _ d))).2⟩;omega
  .have:=hc i hi;rw[cz]at this;omega
def kW:Qh:=⟨1,0,0,[],0,0,0⟩
def l6(b:Ql):Qa:=⟨b,kW⟩
theorem Ga{s d e:fj}(h0:∀n∈s,0<=n)(hc:jg s d e):∀b∈qc s d e,jg s b.lo b.hi:=λb c=>by
 have c:=(bk.1 c).1;by_cases f:fW d e=true
 .rw[ai f]at c;obtain⟨x,g,rfl⟩:=ar.1 c;exact yV (ky h0) (sw hc) x g
 .rw[af f]at c;simp only[jX]at c;subst c;exact ky h0
theorem K3(s c d:fj):(qc s c d).length<=2*s.length+1:=by
 unfold qc;refine jW (dh _ _) ?_;split
 .have:=vC (List.replicate s.length 0) s c d;simp at this |-;omega
 .simp
theorem DK{s c d i:fj}(a:Qh)(hc:jg s c d)(hi:iB s i=true):((⟨⟨c,d⟩,a⟩:Qa)::(qc s c d).map l6).countP (gZ i)=1:=by
 have hw:=qC hi
 have e:((qc s c d).map l6).countP (gZ i)=((if fW c d then(jc (List.replicate s.length 0) s c d).map λx=>(⟨x.1,x.2⟩:Ql)else[⟨List.replicate s.length 0,s⟩])).countP (λb=>jk b.lo b.hi i):=by
  rw[cW,qc,List.countP_filter];congr 1
  funext b
  show(jk b.lo b.hi i &&fW b.lo b.hi)=jk b.lo b.hi i
  cases h:jk b.lo b.hi i with
  |false=>rfl
  |true=>simp[rU h]
 rw[cz,e];by_cases f:fW c d=true
 .rw[ai f,cW];have hm:=uv (List.replicate s.length 0) s c d i (sw hc) hw;have j:(jc (List.replicate s.length 0) s c d).countP ((λb:Ql=>jk b.lo b.hi i)∘ λx=>(⟨x.1,x.2⟩:Ql))=((jc (List.replicate s.length 0) s c d).filter λy=>jk y.1 y.2 i).length:=List.countP_eq_length_filter;rw[j];unfold gZ;cases g:jk c d i with
  |true=>rw[hm.1 g];simp
  |false=>obtain⟨q,k⟩:=hm.2 g;rw[k];simp
 .rw[af f];unfold gZ
  have g:jk c d i=false:=by
   cases g:jk c d i with
   |false=>rfl
   |true=>exact absurd (rU g) f
  simp[g,hw]
section
variable{s st:fj}
end
theorem Ba:∀(l h i:fj) (k:Nat) (a b x:Int),i[k]?=some x->l.length=i.length->h.length=i.length->
  jk (l.set k a) (h.set k b) i=(decide (a<=x) &&decide (x<b) &&jk (l.eraseIdx k) (h.eraseIdx k) (i.eraseIdx k))
 |[],_,i,k,a,b,x,e,hl,_=>by
  have:i=[]:=bS.1 hl.symm
  subst this;simp at e
 |_::_,[],i,k,a,b,x,e,_,f=>by
  have:i=[]:=bS.1 f.symm
  subst this;simp at e
 |_::_,_::_,[],k,a,b,x,e,_,_=>by simp at e
 |c::l,d::h,y::i,0,a,b,x,e,hl,f=>by
  simp at e;subst e;simp[jk]
 |c::l,d::h,y::i,k+1,a,b,x,e,hl,f=>by
  have g:=Ba l h i k a b x (by simpa using e) (by simpa using hl) (by simpa using f);simp only[bZ,jk,g,dY];cases decide (c<=y)<;>cases decide (y<d)<;>cases decide (a<=x)<;>cases decide (x<b)<;>simp
theorem Pa(l h i:fj)(k:Nat)(a b x:Int)(d:i[k]?=some x)(f:l[k]?=some a)(g:h[k]?=some b)(hl:l.length=i.length)(j:h.length=i.length):
  jk l h i=(decide (a<=x) &&decide (x<b) &&jk (l.eraseIdx k) (h.eraseIdx k) (i.eraseIdx k)):=by
 have m:l.set k a=l:=by
  obtain⟨c,e⟩:=ae.1 f;rw[<-e,ck]
 have n:h.set k b=h:=by
  obtain⟨c,e⟩:=ae.1 g;rw[<-e,ck]
 have:=Ba l h i k a b x d hl j
 rwa [m,n]at this
theorem xK:∀(l:fj) (k:Nat) (a:Int),(l.set k a).eraseIdx k=l.eraseIdx k
 |[],k,a=>by simp
 |_::_,0,_=>by simp
 |_::l,k+1,a=>by simp[xK l k a]
theorem vq(l h i:fj)(k:Nat)(a b x c d y:Int)(g:i[k]?=some x)(m:l[k]?=some a)(n:h[k]?=some b)(hl:l.length=i.length)(j:h.length=i.length)(q:Bool)(e:(decide (c<=x) &&decide (x<d))=(q &&(decide (a<=y) &&decide (y<b)))):
  jk (l.set k c) (h.set k d) i=(q &&jk l h (i.set k y)):=by
 obtain⟨f,_⟩:=ae.1 g;rw[Ba l h i k c d x g hl j,Pa l h (i.set k y) k a b y (by simp[f]) m n (by simpa using hl) (by simpa using j),xK,e];simp[Bool.and_assoc]
theorem rX:∀{s l h:fj} {k:Nat} {n:Int},jg s l h->s[k]?=some n->∃a b,l[k]?=some a/\h[k]?=some b/\0<=a/\a<=b/\b<=n
 |[],_,_,_,_,_,c=>by simp at c
 |n::s,a::l,b::h,0,_,d,c=>by
  simp at c;subst c;exact⟨a,b,rfl,rfl,d.1.1,d.1.2.1,d.1.2.2⟩
 |n::s,a::l,b::h,k+1,_,d,c=>by
  obtain⟨x,y,e⟩:=rX d.2 (by simpa using c);exact⟨x,y,by simpa using e⟩
 |_::_,[],_,_,_,h,_=>by simp[jg]at h
 |_::_,_::_,[],_,_,h,_=>by simp[jg]at h
theorem Dy:∀{s l h:fj} {k:Nat} {a b m:Int},jg s l h->0<=a->a<=b->b<=m->jg (s.set k m) (l.set k a) (h.set k b)
 |[],[],[],_,_,_,_,_,_,_,_=>by simp[jg]
 |n::s,c::l,d::h,0,a,b,m,e,f,g,j=>⟨⟨f,g,j⟩,e.2⟩
 |n::s,c::l,d::h,k+1,a,b,m,e,f,g,j=>⟨e.1,Dy e.2 f g j⟩
 |[],_::_,_,_,_,_,_,h,_,_,_=>by simp[jg]at h
 |[],[],_::_,_,_,_,_,h,_,_,_=>by simp[jg]at h
 |_::_,[],_,_,_,_,_,h,_,_,_=>by simp[jg]at h
 |_::_,_::_,[],_,_,_,_,h,_,_,_=>by simp[jg]at h
theorem iz{s:fj}{k:Nat}{n:Int}(h:s[k]?=some n):s.set k n=s:=by
 obtain⟨c,e⟩:=ae.1 h;rw[<-e,ck]
theorem sq:∀{s l h:fj},okB s l h->jg s l h
 |[],[],[],_=>trivial
 |n::s,a::l,b::h,H=>⟨⟨H.1.1,by have:=H.1.2.1;omega,H.1.2.2⟩,sq H.2⟩
 |[],_::_,_,h=>by simp[okB]at h
 |[],[],_::_,h=>by simp[okB]at h
 |_::_,[],_,h=>by simp[okB]at h
 |_::_,_::_,[],h=>by simp[okB]at h
theorem rH:∀{s i:fj} {k:Nat} {n:Int},iB s i=true->s[k]?=some n->∃x,i[k]?=some x/\0<=x/\x<n
 |[],_,_,_,_,h=>by simp at h
 |_::_,[],_,_,h,_=>by simp[iB]at h
 |_::s,x::i,0,n,h,c=>by
  simp at c;subst c;simp only[iB,jE,zD]at h;exact⟨x,rfl,h.1.1,h.1.2⟩
 |_::s,_::i,k+1,n,h,c=>by
  simp only[iB,jE]at h;obtain⟨x,e,r⟩:=rH h.2 (by simpa using c);exact⟨x,by simpa using e,r⟩
theorem lG:∀{s i:fj} {k:Nat} {n y:Int},iB s i=true->0<=y->y<n->iB (s.set k n) (i.set k y)=true
 |[],[],_,_,_,_,_,_=>by simp[iB]
 |[],_::_,_,_,_,h,_,_=>by simp[iB]at h
 |_::_,[],_,_,_,h,_,_=>by simp[iB]at h
 |_::s,_::i,0,n,y,h,h0,hn=>by
  simp only[iB,jE]at h;simp[iB,h0,hn,h.2]
 |_::s,_::i,k+1,n,y,h,h0,hn=>by
  simp only[iB,jE]at h;simp only[bZ,iB,lG h.2 h0 hn,cY]
  simpa using h.1
theorem rY:∀{s l h i:fj},jg s l h->jk l h i=true->iB s i=true
 |[],[],[],[],_,_=>rfl
 |[],[],[],_::_,_,h=>by simp[jk]at h
 |n::s,a::l,b::h,x::i,c,hi=>by
  simp only[jk,jE,zD]at hi;obtain⟨⟨k1,k2,k3⟩,d⟩:=c;simp only[iB,jE,zD];exact⟨⟨by omega,by omega⟩,rY d hi.2⟩
 |_::_,_::_,_::_,[],_,hi=>by simp[jk]at hi
 |[],_::_,_,_,h,_=>by simp[jg]at h
 |[],[],_::_,_,h,_=>by simp[jg]at h
 |_::_,[],_,_,h,_=>by simp[jg]at h
 |_::_,_::_,[],_,h,_=>by simp[jg]at h
def mV(a f t:Int):Int:=if t<(if a<f then f else a)then t else(if a<f then f else a)
def pE(a b f t:Int):Int:=if mV a f t<(if t<b then t else b)then(if t<b then t else b)else mV a f t
theorem O4{a b f t x d:Int}(h0:f<=t):(decide (mV a f t+d<=x) &&decide (x<pE a b f t+d))=(decide (f<=x - d/\x - d<t) &&(decide (a<=x - d) &&decide (x - d<b))):=by
 have h:(mV a f t+d<=x/\x<pE a b f t+d)↔((f<=x - d/\x - d<t)/\(a<=x - d/\x - d<b)):=by
  unfold pE mV;split <;>split <;>split <;>(try split)<;>omega
 rw[<-aZ,<-aZ,<-aZ];exact decide_eq_decide.2 h
theorem EL{a b f t:Int}(h0:0<=a)(c:a<=b)(d:0<=f)(e:f<=t):0<=mV a f t/\mV a f t<=pE a b f t/\f<=mV a f t/\mV a f t<=t/\pE a b f t<=t:=by
 unfold pE mV;split <;>split <;>split <;>(try split)<;>omega
theorem Ie{a b f t n:Int}(c:a<=b)(d:b<=n)(e:f<=n):pE a b f t<=n:=by
 unfold pE mV;split <;>split <;>split <;>(try split)<;>omega
theorem uU:∀{t st lo hi i:fj},iB t i=true->lo.length=t.length->hi.length=t.length->st.length=t.length->(∀x∈lo,0<=x/\x<=65536)->(∀x∈hi,0<=x/\x<=65536)->(∀x∈st,-65536<=x/\x<=65536)->
  jk (Be lo t st) (Bg lo hi t st) i=jk lo hi (List.zipWith (·+·) i st)
 |[],[],[],[],[],_,_,_,_,_,_,_=>rfl
 |n::t,m::st,a::lo,b::hi,x::i,d,g,j,k,p1,e,f=>by
  simp only[iB,jE,zD]at d;obtain⟨⟨s,v2⟩,l⟩:=d;have p:=uU (t:=t) (st:=st) (lo:=lo) (hi:=hi) (i:=i) l (by simpa using g) (by simpa using j) (by simpa using k) (λx c=>p1 x (jG _ c)) (λx c=>e x (jG _ c)) (λx c=>f x (jG _ c));obtain⟨u,v⟩:=p1 a (jM ..);obtain⟨b1,b2⟩:=e b (jM ..);obtain⟨m1,m2⟩:=f m (jM ..);have q:W (a - m)=a - m:=gh y8 y8;have r:W (b - m)=b - m:=gh y8 y8
  have h:(Bf a n m<=x/\x<GM a b n m)↔(a<=x+m/\x+m<b):=by
   unfold GM Bf;rw[q,r];split <;>split <;>split <;>(try split)<;>(try split)<;>omega
  simp only[Be,Bg,bY,jk,p];congr 1;rw[<-aZ,<-aZ];exact decide_eq_decide.2 h
 |[],_::_,_,_,_,_,_,_,h,_,_,_=>by simp at h
 |[],_,_::_,_,_,_,h,_,_,_,_,_=>by simp at h
 |[],_,_,_::_,_,_,_,h,_,_,_,_=>by simp at h
 |[],_,_,_,_::_,h,_,_,_,_,_,_=>by simp[iB]at h
 |_::_,[],_,_,_,_,_,_,h,_,_,_=>by simp at h
 |_::_,_,[],_,_,_,h,_,_,_,_,_=>by simp at h
 |_::_,_,_,[],_,_,_,h,_,_,_,_=>by simp at h
 |_::_,_,_,_,[],h,_,_,_,_,_,_=>by simp[iB]at h
theorem Er:∀{s l h:fj},(∀n∈s,n<=65536)->jg s l h->(∀x∈l,0<=x/\x<=65536)/\(∀x∈h,0<=x/\x<=65536)
 |[],[],[],_,_=>⟨λx c=>by simp at c,λx c=>by simp at c⟩
 |n::s,a::l,b::h,hn,⟨⟨k1,k2,k3⟩,d⟩=>by
  obtain⟨e,f⟩:=Er (λm hm=>hn m (jG _ hm)) d;have:=hn n (jM ..);refine⟨λx c=>?_,λx c=>?_⟩
  .rcases aq.1 c with rfl|c
   .omega
   .exact e x c
  .rcases aq.1 c with rfl|c
   .omega
   .exact f x c
 |[],_::_,_,_,h=>by simp[jg]at h
 |[],[],_::_,_,h=>by simp[jg]at h
 |_::_,[],_,_,h=>by simp[jg]at h
 |_::_,_::_,[],_,h=>by simp[jg]at h
def mA(perm i:fj):fj:=perm.map λj=>i.getD j.toNat 0
def qS:fj->fj->fj->fj
 |j::c,a::l,lo=>qS c l (lo.set j.toNat (if lo.getD j.toNat 0<a then a else lo.getD j.toNat 0))
 |_,_,lo=>lo
def qY:fj->fj->fj->fj
 |j::c,b::h,hi=>qY c h (hi.set j.toNat (if b<hi.getD j.toNat 0 then b else hi.getD j.toNat 0))
 |_,_,hi=>hi
theorem qu:∀(c l lo:fj),(qS c l lo).length=lo.length
 |[],_,_=>rfl
 |_::_,[],_=>rfl
 |j::c,a::l,lo=>by rw[qS,qu];simp
theorem qw:∀(c h hi:fj),(qY c h hi).length=hi.length
 |[],_,_=>rfl
 |_::_,[],_=>rfl
 |j::c,a::h,hi=>by rw[qY,qw];simp
theorem iZ{l:fj}{k:Nat}{a:Int}(h:l[k]?=some a):l.getD k 0=a:=by rw[jB,h];rfl
theorem gy{l:fj}{k:Nat}(h:k<l.length):l[k]?=some (l.getD k 0):=by simp[jB,h]
theorem Ai:∀(perm l h lo hi i:fj),l.length=perm.length->h.length=perm.length->lo.length=i.length->hi.length=i.length->(∀j∈perm,0<=j/\j.toNat<i.length)->
  jk (qS perm l lo) (qY perm h hi) i=(jk lo hi i &&jk l h (mA perm i))
 |[],[],[],lo,hi,i,_,_,_,_,_=>by simp[qS,qY,mA,jk]
 |j::perm,a::l,b::h,lo,hi,i,m,n,c,d,f=>by
  obtain⟨t,p⟩:=f j (jM ..);have g:=gy p;have q:=gy (l:=lo) (k:=j.toNat) y8;have r:=gy (l:=hi) (k:=j.toNat) y8;rw[qS,qY,Ai perm l h _ _ i (by simpa using m) (by simpa using n) (by simpa using c) (by simpa using d) λj s=>f j (jG _ s)]
  have e:=vq lo hi i j.toNat (lo.getD j.toNat 0) (hi.getD j.toNat 0) (i.getD j.toNat 0) (if lo.getD j.toNat 0<a then a else lo.getD j.toNat 0) (if b<hi.getD j.toNat 0 then b else hi.getD j.toNat 0) (i.getD j.toNat 0) g q r c d (decide (a<=i.getD j.toNat 0) &&decide (i.getD j.toNat 0<b)) (by
   rw[<-aZ,<-aZ,<-aZ,<-aZ];refine decide_eq_decide.2 ?_;split <;>split <;>omega)
  rw[e,iz g];simp only[mA,zU,jk];cases(decide (a<=i.getD j.toNat 0) &&decide (i.getD j.toNat 0<b))<;>simp
 |[],_::_,_,_,_,_,h,_,_,_,_=>by simp at h
 |[],_,_::_,_,_,_,_,h,_,_,_=>by simp at h
 |_::_,[],_,_,_,_,h,_,_,_,_=>by simp at h
 |_::_,_,[],_,_,_,_,h,_,_,_=>by simp at h
def kQ(r:Nat)(a:Qh):Prop:=a.kind=1\/(a.kind=2\/a.kind=3)/\a.strides.length=r
structure Inv (P:Qa->Prop) (s:fj) (l:List Qa):Prop where
 box:∀x∈l,okB s x.box.lo x.box.hi
 acc:∀x∈l,kQ s.length x.access
 prp:∀x∈l,P x
 cnt:∀i,iB s i=true->l.countP (gZ i)=1
 srt:ja l=true
structure KS (P:Qa->Prop) (s:fj) (l:List Qa):Prop where
 box:∀x∈l,Ro s x.box.lo x.box.hi
 acc:∀x∈l,kQ s.length x.access
 prp:∀x∈l,fT x=true->P x
 cnt:∀i,iB s i=true->l.countP (gZ i)=1
theorem EU{c:Type}[DecidableEq c]:∀{l m:List c},l.Nodup->(∀x∈l,x∈m)->l.length<=m.length
 |[],_,_,_=>zP _
 |a::l,m,hn,d=>by
  obtain⟨j,k⟩:=ea.1 hn;have f:=d a (jM ..);have n:=EU (m:=m.erase a) k λx g=>(eP (λe=>j (by rw[<-e];exact g))).2 (d x (jG _ g))
  rw[dV f]at n;have:=eE f;simp only[zG];omega
section
variable{P Q:Qa->Prop}{s s':fj}{l L:List Qa}
theorem Inv.dist(h:Inv P s l):l.Pairwise λa b=>a.box.lo≠b.box.lo:=sL h.box λi hi=>by have:=h.cnt i hi;omega
theorem Inv.len(h:Inv P s l)(h0:∀n∈s,0<=n):(l.length:Int)<=fw s:=by
 rw[<-ko h0];have hn:(l.map λx=>x.box.lo).Nodup:=dN.2 h.dist
 have:=EU hn (m:=ig s) λi hi=>by
  obtain⟨x,c,rfl⟩:=ar.1 hi;exact vY.2 (wa (h.box x c)).1
 simp only[jY]at this;omega
theorem Inv.wk(h:Inv P s l):∀x∈l,jg s x.box.lo x.box.hi:=λx c=>sq (h.box x c)
theorem Inv.mono(h:Inv P s l)(d:∀x∈l,P x->Q x):Inv Q s l:=⟨h.box,h.acc,λx c=>d x c (h.prp x c),h.cnt,h.srt⟩
theorem KS.listed(h:KS P s L)(hc:fH s=0)(j:L.length<=100000):Zq L=some (iC (L.filter fT))/\Inv P s (iC (L.filter fT)):=by
 obtain⟨l,k,m⟩:=fE hc
 have d:∀x∈L.filter fT,okB s x.box.lo x.box.hi:=λx c=>by
  obtain⟨k1,k2⟩:=bk.1 c;exact(h.box x k1).2.2 k2
 have e:∀i,iB s i=true->(L.filter fT).countP (gZ i)=1:=λi hi=>by rw[rM];exact h.cnt i hi
 have g:=sL d λi hi=>by have:=e i hi;omega
 have f:=lR (L.filter fT);refine⟨xW k y8 j h.box g,⟨λx c=>d x (f.mem_iff.1 c),λx c=>h.acc x (bk.1 (f.mem_iff.1 c)).1,λx c=>?_,λi hi=>(f.countP_eq _).trans (e i hi),nx g⟩⟩;obtain⟨k1,k2⟩:=bk.1 (f.mem_iff.1 c);exact h.prp x k1 k2
end
theorem l9{c:Type}{p:List c}{x:c}(h:p.length<=100000):W ((p.length:Int)+1)=((p++[x]).length:Int):=by
 rw[gh y8 y8];simp
theorem vz{i j:fj}{f:Qa->List Qa}:∀{l:List Qa},(∀x∈l,(f x).countP (gZ i)=if gZ j x then 1 else 0)->(l.flatMap f).countP (gZ i)=l.countP (gZ j)
 |[],_=>rfl
 |x::l,h=>by
  rw[aS,dF,h x (jM ..),vz λy c=>h y (jG _ c),cz];omega
theorem r7{i j:fj}{f:Qa->Qa}{l:List Qa}(h:∀x∈l,gZ i (f x)=gZ j x):(l.map f).countP (gZ i)=l.countP (gZ j):=by
 rw[cW];exact List.countP_congr λx c=>by simp[h x c]
def oR(a:Qh)(n:Int)(st:fj):Qh:=
 if a.kind=1 then a else if a.kind=3 then⟨a.kind,a.buffer,a.base,st,W (a.start+n),a.step,a.mod⟩else⟨a.kind,a.buffer,W (a.base+n),st,a.start,a.step,a.mod⟩
def oM(a:Qh)(k:Nat)(n:Int):Qh:=oR a (W (n*a.strides.getD k 0)) a.strides
def AM(a:Qh)(k:Nat)(n:Int):Qh:=oR a (W (W (n - 1)*a.strides.getD k 0)) (a.strides.set k (W (0 - a.strides.getD k 0)))
theorem C6(a:Qh)(n:Int)(st:fj):(oR a n st).kind=a.kind:=by unfold oR;split <;>(try split)<;>rfl
theorem Ks{r:Nat}{a:Qh}{n:Int}{st:fj}(h:kQ r a)(c:st.length=a.strides.length):kQ r (oR a n st):=by
 rcases h with h|⟨e,d⟩
 .left;rw[C6];exact h
 .right;refine⟨by rw[C6];exact e,?_⟩;unfold oR;rw[af y8];split
  .exact c.trans d
  .exact c.trans d
theorem rE{r:Nat}{a:Qh}{k:Nat}{n:Int}(h:kQ r a):kQ r (oM a k n):=Ks h rfl
theorem N7{r:Nat}{a:Qh}{k:Nat}{n:Int}(h:kQ r a):kQ r (AM a k n):=Ks h yA
theorem lv{l:fj}(h:l.length<=600):Qu l=some l:=gj y9 y8
theorem iy{l:fj}{k:Nat}(h:k<l.length):l.getD k 0=l[k]:=by simp[jB,h]
theorem II{r:Nat}{a:Qh}{k:Nat}(n:Int)(h:kQ r a)(g:k<r)(j:r<=600):Xh (a,(k:Int),n)=some (oM a k n):=by
 obtain⟨d,l,ba,st,m,sp,md⟩:=a;rcases h with h|⟨c,e⟩
 .simp only at h;subst h;simp only[Xh,Xj,ak,Qc,oM,oR]
 .simp only at c e;have f:¬d=1:=by omega
  have hi:idx st (k:Int)=some (st.getD k 0):=by rw[iy y8];exact oP y8
  simp only[Xh,Xj,f,aj,YZ,lv (show st.length<=600 by omega),Qc,oM,oR];rcases c with rfl|rfl
  .simp only[show¬(2:Int)=3 by decide,aj,Qc,YR,Z1,hi,ZL]
  .simp only[ak,Qc,YR,Z1,hi,ZL]
theorem Pb{r:Nat}{a:Qh}{k:Nat}(n:Int)(h:kQ r a)(l:k<r)(m:r<=600):JJ (a,(k:Int),n)=some (AM a k n):=by
 obtain⟨f,p,ba,st,q,sp,md⟩:=a;rcases h with h|⟨c,g⟩
 .simp only at h;subst h;simp only[JJ,Xk,ak,Qc,AM,oR]
 .simp only at c g;have j:¬f=1:=by omega
  have hi:idx st (k:Int)=some (st.getD k 0):=by rw[iy y8];exact oP y8
  have d:iL st (k:Int) (W (0 - st.getD k 0))=some (st.set k (W (0 - st.getD k 0))):=jo y8;have e:QR ((st.set k (W (0 - st.getD k 0))).length=st.length)=some ():=fI yA;simp only[JJ,Xk,j,aj,YZ,lv (show st.length<=600 by omega),Qc,AM,oR];rcases c with rfl|rfl
  .simp only[show¬(2:Int)=3 by decide,aj,Qc,Y4,Ya,Z2,hi,d,ZK,e]
  .simp only[ak,Qc,Y4,Ya,Z2,hi,d,ZK,e]
def mW(k:Nat)(n:Int)(x:Qa):Qa:=⟨⟨x.box.lo.set k (n - x.box.hi.getD k 0),x.box.hi.set k (n - x.box.lo.getD k 0)⟩,AM x.access k n⟩
theorem qb{l:fj}{k:Nat}{a:Int}(h:l[k]?=some a):idx l (k:Int)=some a:=mB h
theorem l8{l:fj}{k:Nat}{a:Int}(h:l[k]?=some a):k<l.length:=(ae.1 h).1
theorem MB{lo hi:fj}{k:Nat}{n a b:Int}(c:lo[k]?=some a)(d:hi[k]?=some b)(h0:0<=a)(z:a<=b)(A:b<=n)(B:n<=65536)(hl:lo.length<=600)(e:hi.length<=600)(c1 c2 f:Int)(j:fj)(l m p q r s:Int)(t:fj)(u v w:Int)(g:Nat):
  XM (lo,hi,c1,c2,f,j,l,m,p,(k:Int),n,q,r,s,t,u,v,w,g)=some (lo.set k (n - b),hi.set k (n - a),lo.length,hi.length,lo.set k (n - b),hi.set k (n - a)):=by
 have x:W (n - b)=n - b:=gh y8 y8;have y:W (n - a)=n - a:=gh y8 y8;simp only[XM,lv hl,lv e,Qc,qb c,qb d,Xq,x,y,jo (l8 c),jo (l8 d),fI (zT)]
theorem I3{s:fj}{k:Nat}{n:Int}(c:s[k]?=some n)(hn:n<=65536)(g:s.length<=600):∀(l p out:List Qa),p.length+l.length<=50000->out.length<=p.length->(∀x∈l,jg s x.box.lo x.box.hi/\kQ s.length x.access)->
  ZA (p++l,(k:Int),n,out,(p.length:Int))=some (out++l.map (mW k n))
 |[],p,out,h,q,hw=>by
  rw[ZA];simp only[Za,aj,aN];simp only[jU]
 |x::l,p,out,h,q,hw=>by
  rw[ZA];obtain⟨j,r⟩:=hw x (jM ..);obtain⟨l1,l2⟩:=kH j;obtain⟨a,b,d,e,t,k1,k2⟩:=rX j c;have f:=I3 c hn g l (p++[x]) (out++[mW k n x]) (by simp at h |-;omega) y9 (λy u=>hw y (jG _ u));rw[<-Qv]at f;have v:p.length<=100000:=by simp at h;omega
  have m:app 120 out [mW k n x]=some (out++[mW k n x]):=gj (by simp at h |-;omega) y8;simp only[mW,iZ d,iZ e]at m f;simp only[Q4,ak,Qy,Qc,Pb n r (l8 c) g,MB d e t k1 k2 hn (show x.box.lo.length<=600 by omega) (show x.box.hi.length<=600 by omega),m,l9 (x:=x) v,f,zU,mW,iZ d,iZ e,aB,aM]
theorem Fc{s i:fj}{k:Nat}{n y:Int}{x:Qa}(c:jg s x.box.lo x.box.hi)(f:s[k]?=some n)(hi:i[k]?=some y)(hl:s.length=i.length):gZ i (mW k n x)=gZ (i.set k (n - 1 - y)) x:=by
 obtain⟨l1,l2⟩:=kH c;obtain⟨a,b,d,e,g,k1,k2⟩:=rX c f;unfold gZ mW;simp only[iZ d,iZ e];rw[vq _ _ i k a b y (n - b) (n - a) (n - 1 - y) hi d e y8 y8 true ?_,aY];rw[aY,<-aZ,<-aZ];exact decide_eq_decide.2 y8
def iM(k:Nat)(f t d:Int)(x:Qa):Qa:=⟨⟨x.box.lo.set k (mV (x.box.lo.getD k 0) f t+d),x.box.hi.set k (pE (x.box.lo.getD k 0) (x.box.hi.getD k 0) f t+d)⟩,oM x.access k (W (0 - d))⟩
theorem Ay{s:fj}{k:Nat}{n f t d:Int}{x:Qa}(g:s[k]?=some n)(hn:n<=65536)(p:s.length<=600)(j:jg s x.box.lo x.box.hi)(q:kQ s.length x.access)(h0:0<=f)(r:f<=t)(y:t<=65536)(z:-65536<=d)(A:d<=65536):XD (x,(k:Int),f,t,d)=some (iM k f t d x):=by
 obtain⟨l1,l2⟩:=kH j;obtain⟨a,b,c,e,u,k1,k2⟩:=rX j g;obtain⟨q1,q2,q3,q4,q5⟩:=EL u k1 h0 r;have v:W (mV a f t+d)=mV a f t+d:=gh y8 y8;have w:W (pE a b f t+d)=pE a b f t+d:=gh y8 y8;have l:iL x.box.lo (k:Int) (W (mV a f t+d))=some (x.box.lo.set k (mV a f t+d)):=by rw[v];exact jo (l8 c)
 have m:iL x.box.hi (k:Int) (W (pE a b f t+d))=some (x.box.hi.set k (pE a b f t+d)):=by rw[w];exact jo (l8 e)
 unfold pE mV at m;unfold mV at l;simp only[XD,II (W (0 - d)) q (l8 g) p,Qc,Jw,lv (show x.box.lo.length<=600 by omega),lv (show x.box.hi.length<=600 by omega),qb c,qb e,XO];rw[l,Qc,m,Qc];rw[fI (zT),Qc,fI (zT),Qc,Qc];simp only[iM,iZ c,iZ e,mV,pE]
theorem na{s i:fj}{k:Nat}{n f t d y:Int}{x:Qa}(c:jg s x.box.lo x.box.hi)(j:s[k]?=some n)(l:f<=t)(hi:i[k]?=some y)(hl:s.length=i.length):gZ i (iM k f t d x)=(decide (f<=y - d/\y - d<t) &&gZ (i.set k (y - d)) x):=by
 obtain⟨l1,l2⟩:=kH c;obtain⟨a,b,e,g,m,k1,k2⟩:=rX c j;unfold gZ iM;simp only[iZ e,iZ g];exact vq _ _ i k a b y _ _ (y - d) hi e g y8 y8 _ (O4 l)
theorem AQ{s:fj}{k:Nat}{n f t d m:Int}{x:Qa}(e:jg s x.box.lo x.box.hi)(g:s[k]?=some n)(h0:0<=f)(j:f<=t)(r:0<=f+d)(c:t+d<=m\/(f<=n/\n+d<=m)):jg (s.set k m) (iM k f t d x).box.lo (iM k f t d x).box.hi:=by
 obtain⟨a,b,l,p,q,k1,k2⟩:=rX e g;obtain⟨q1,q2,q3,q4,q5⟩:=EL q k1 h0 j;unfold iM;simp only[iZ l,iZ p];refine Dy e y8 y8 ?_;rcases c with c|⟨c,u⟩
 .omega
 .have:=Ie (a:=a) (b:=b) (f:=f) (t:=t) (n:=n) k1 k2 c;omega
def kE(k:Nat)(m n:Int)(x:Qa):List Qa:=[iM k m n (0 - m) x,iM k 0 m (n - m) x]
theorem Ld{s:fj}{k:Nat}{m n:Int}(c:s[k]?=some n)(hn:n<=65536)(d:s.length<=600)(h0:0<=m)(hm:m<=n):∀(l p out:List Qa),p.length+l.length<=50000->out.length<=2*p.length->(∀x∈l,jg s x.box.lo x.box.hi/\kQ s.length x.access)->
  Z5 (p++l,(k:Int),m,n,out,(p.length:Int))=some (out++l.flatMap (kE k m n))
 |[],p,out,h,j,hw=>by
  rw[Z5];simp only[Za,aj,dc];simp only[jU]
 |x::l,p,out,h,j,hw=>by
  rw[Z5];obtain⟨e,f⟩:=hw x (jM ..);have g:=Ld c hn d h0 hm l (p++[x]) (out++kE k m n x) (by simp at h |-;omega) (by simp[kE];omega) (λy q=>hw y (jG _ q));rw[<-Qv]at g;have r:p.length<=100000:=by simp at h;omega
  have t:W (0 - m)=0 - m:=gh y8 y8;have u:W (n - m)=n - m:=gh y8 y8;have v:app 120 out [iM k m n (0 - m) x,iM k 0 m (n - m) x]=some (out++kE k m n x):=gj (by simp at h |-;omega) y8;simp only[Q4,ak,Qy,Qc,t,u,Ay c hn d e f h0 hm hn (show -65536<=0 - m by omega) (show 0 - m<=65536 by omega),Ay c hn d e f (aC 0) h0 (show m<=65536 by omega) (show -65536<=n - m by omega) (show n - m<=65536 by omega),v,l9 (x:=x) r,g,aS,aB]
section
variable{P Q:Qa->Prop}{s:fj}{l:List Qa}{k:Nat}{n:Int}
theorem Inv.len4(h:Inv P s l)(hc:fH s=0)(c:fw s<=20000):l.length<=20000:=by
 have:=h.len λn hn=>((fE hc).2.2 n hn).1
 omega
theorem FM(h:Inv P s l)(d:s[k]?=some n)(f:∀x∈l,okB s x.box.lo x.box.hi->kQ s.length x.access->P x->Q (mW k n x)):
  KS Q s (l.map (mW k n)):=by
 refine⟨λy e=>?_,λy e=>?_,λy e _=>?_,λi hi=>?_⟩
 .obtain⟨x,c,rfl⟩:=ar.1 e;obtain⟨a,b,g,j,q,k1,k2⟩:=rX (h.wk x c) d;have:=Dy (k:=k) (a:=n - b) (b:=n - a) (m:=n) (h.wk x c) y8 y8 y8;rw[iz d]at this;simp only[mW,iZ g,iZ j];exact tP this
 .obtain⟨x,c,rfl⟩:=ar.1 e;exact N7 (h.acc x c)
 .obtain⟨x,c,rfl⟩:=ar.1 e;exact f x c (h.box x c) (h.acc x c) (h.prp x c)
 .obtain⟨y,p,r,t⟩:=rH hi d;rw[r7 λx c=>Fc (h.wk x c) d p (il hi)];have:=lG (k:=k) (n:=n) (y:=n - 1 - y) hi y8 y8;rw[iz d]at this;exact h.cnt _ this
theorem LV(h:Inv P s l)(hc:fH s=0)(f:fw s<=20000)(c:s[k]?=some n)(g:∀x∈l,okB s x.box.lo x.box.hi->kQ s.length x.access->P x->Q (mW k n x)):
  JF (l,(k:Int),n)=some (iC ((l.map (mW k n)).filter fT))/\Inv Q s (iC ((l.map (mW k n)).filter fT)):=by
 obtain⟨q,r,j⟩:=fE hc;have m:=h.len4 hc f;have hn:=j n (jF c);have e:=I3 c hn.2 y8 l [] [] (by simpa using by omega) yA (λx d=>⟨h.wk x d,h.acc x d⟩);have e':ZA (l,(k:Int),n,[],0)=some (l.map (mW k n)):=e;have p:=FM (Q:=Q) h c g;obtain⟨q1,q2⟩:=p.listed hc y9;refine⟨?_,q2⟩;unfold JF;simp only[e',Qc,q1]
theorem EO{m:Int}(h:Inv P s l)(p:s[k]?=some n)(h0:0<=m)(hm:m<=n)(z:∀x∈l,okB s x.box.lo x.box.hi->kQ s.length x.access->P x->∀y∈kE k m n x,fT y=true->Q y):
  KS Q s (l.flatMap (kE k m n)):=by
 refine⟨λy e=>?_,λy e=>?_,λy e A=>?_,λi hi=>?_⟩
 .obtain⟨x,g,e⟩:=bE.1 e;have q:=h.wk x g;simp only[kE,aq,bV,or_false]at e;have r:=iz p;rcases e with rfl|rfl
  .have:=AQ (m:=n) (t:=n) (f:=m) (d:=0 - m) q p h0 hm y8 (.inl y8);rw[r]at this;exact tP this
  .have:=AQ (m:=n) (t:=m) (f:=0) (d:=n - m) q p (aC 0) h0 y8 (.inl y8);rw[r]at this;exact tP this
 .obtain⟨x,g,e⟩:=bE.1 e;simp only[kE,aq,bV,or_false]at e;rcases e with rfl|rfl<;>exact rE (h.acc x g)
 .obtain⟨x,g,e⟩:=bE.1 e;exact z x g (h.box x g) (h.acc x g) (h.prp x g) y e A
 .obtain⟨y,w,B,C⟩:=rH hi p;have hl:=il hi;have r:=iz p;by_cases c:y<n - m
  .rw[vz (j:=i.set k (y+m)) λx g=>?_]
   .have:=lG (k:=k) (n:=n) (y:=y+m) hi y8 y8;rw[r]at this;exact h.cnt _ this
   .have q:=h.wk x g;have u:=na (f:=m) (t:=n) (d:=0 - m) q p hm w hl;have v:=na (f:=0) (t:=m) (d:=n - m) q p h0 w hl;rw[decide_eq_true (show m<=y - (0 - m)/\y - (0 - m)<n by omega),aY,show y - (0 - m)=y+m by omega]at u;rw[zZ (show¬(0<=y - (n - m)/\y - (n - m)<m) by omega),cu]at v;simp only[kE,cz,List.countP_nil,u,v,j6,aj,zY]
  .rw[vz (j:=i.set k (y - (n - m))) λx g=>?_]
   .have:=lG (k:=k) (n:=n) (y:=y - (n - m)) hi y8 y8;rw[r]at this;exact h.cnt _ this
   .have q:=h.wk x g;have u:=na (f:=m) (t:=n) (d:=0 - m) q p hm w hl;have v:=na (f:=0) (t:=m) (d:=n - m) q p h0 w hl;rw[zZ (show¬(m<=y - (0 - m)/\y - (0 - m)<n) by omega),cu]at u;rw[decide_eq_true (show 0<=y - (n - m)/\y - (n - m)<m by omega),aY]at v;simp only[kE,cz,List.countP_nil,u,v,j6,aj,zY,zX]
theorem MI{m:Int}(h:Inv P s l)(hc:fH s=0)(g:fw s<=20000)(d:s[k]?=some n)(h0:0<=m)(hm:m<=n)(j:∀x∈l,okB s x.box.lo x.box.hi->kQ s.length x.access->P x->∀y∈kE k m n x,fT y=true->Q y):
  J1 (l,(k:Int),m,n)=some (iC ((l.flatMap (kE k m n)).filter fT))/\Inv Q s (iC ((l.flatMap (kE k m n)).filter fT)):=by
 obtain⟨u,v,p⟩:=fE hc;have q:=h.len4 hc g;have hn:=p n (jF d);have e:=Ld d hn.2 y8 h0 hm l [] [] (by simpa using by omega) yA (λx f=>⟨h.wk x f,h.acc x f⟩);have e':Z5 (l,(k:Int),m,n,[],0)=some (l.flatMap (kE k m n)):=e
 have c:∀l:List Qa,(l.flatMap (kE k m n)).length=2*l.length:=λl=>by
  induction l with
  |nil=>rfl
  |cons a l r=>rw[aS,jV,r];simp[kE];omega
 have t:=EO (Q:=Q) h d h0 hm j;obtain⟨q1,q2⟩:=t.listed hc (by rw[c];omega);refine⟨?_,q2⟩;unfold J1;simp only[e',Qc,q1]
end
theorem HM{c:Type}{p s:List c}{x y:c}:iL (p++x::s) (p.length:Int) y=some (p++y::s):=by
 simp[iL]
theorem Iw{s:fj}{k:Nat}{m n:Int}(c:s[k]?=some m)(hm:m<=65536)(h0:0<=n)(hn:n<=65536)(d:s.length<=600)(p0:List Qa):∀(l p:List Qa) (g:Nat) (out:List Qa),p.length+l.length<=50000->out.length<=p.length+30000->(∀x∈l,jg s x.box.lo x.box.hi/\kQ s.length x.access)->
  ∃g',Zs (p++l,(k:Int),n,p0,g,out,(p.length:Int))=some (g',out++l.map (iM k 0 65536 n))
 |[],p,g,out,h,f,hw=>by
  rw[Zs];simp only[Za,aj,aN];exact⟨g,by simp only[jU]⟩
 |x::l,p,g,out,h,f,hw=>by
  rw[Zs];obtain⟨j,q⟩:=hw x (jM ..);obtain⟨g',e⟩:=Iw c hm h0 hn d p0 l (p++[x]) (g+1) (out++[iM k 0 65536 n x]) (by simp at h |-;omega) y9 (λy r=>hw y (jG _ r));rw[<-Qv]at e;have t:p.length<=100000:=by simp at h;omega
  have u:app 120 out [iM k 0 65536 n x]=some (out++[iM k 0 65536 n x]):=gj (by simp at h |-;omega) y8;refine⟨g',?_⟩;simp only[Q4,ak,Qy,Qc,Ay c hm d j q (aC 0) (show(0:Int)<=65536 by decide) (aC 65536) (show -65536<=n by omega) hn,u,l9 (x:=x) t,e,zU,aB,aM]
theorem HZ{s:fj}{k:Nat}{m:Int}(g:s[k]?=some m)(hm:m<=65536)(j:s.length<=600)(p0 c:List Qa)(d:Nat)(e:List Qa)(n:p0.length<=c.length)(f:p0.length<=50000):∀(l p:List Qa),p.length+l.length=p0.length->(∀x∈l,jg s x.box.lo x.box.hi/\kQ s.length x.access)->
  Zt (p0,(k:Int),c,d,p++(l++e),(p.length:Int))=some (p++(l.map (iM k 0 65536 0)++e))
 |[],p,h,hw=>by
  rw[Zt]
  have:¬((p.length:Int)<(p0.length:Int)):=by simp at h;omega
  simp only[this,aj];rfl
 |x::l,p,h,hw=>by
  rw[Zt];obtain⟨q,r⟩:=hw x (jM ..);have hl:p.length<p0.length:=by simp at h;omega
  have t:=HZ g hm j p0 c d e n f l (p++[iM k 0 65536 0 x]) (by simp at h |-;omega) (λy u=>hw y (jG _ u));have v:((p.length:Int)<(p0.length:Int)):=by omega
  have w:QR (0<=(p.length:Int)/\(p.length:Int).toNat<p0.length)=some ():=fI ⟨by omega,by omega⟩;have z:QR (0<=(p.length:Int)/\(p.length:Int).toNat<c.length)=some ():=fI ⟨by omega,by omega⟩;have A:W ((p.length:Int)+1)=((p++[iM k 0 65536 0 x]).length:Int):=l9 y8;rw[aW];simp only[v,ak,w,Qc,Qy,Ay g hm j q r (aC 0) (show(0:Int)<=65536 by decide) (aC 65536) (show(-65536:Int)<=0 by decide) (show(0:Int)<=65536 by decide),z,HM,A];rw[Qv,t];simp
section
variable{P1 P2 Q:Qa->Prop}{s:fj}{l1 l2:List Qa}{k:Nat}{n1 n2:Int}
theorem Fx(p:Inv P1 (s.set k n1) l1)(q:Inv P2 (s.set k n2) l2)(hc:fH s=0)(B:fH (s.set k n1)=0)(C:fH (s.set k n2)=0)(v:s[k]?=some (n1+n2))(D:∀x∈l1,okB (s.set k n1) x.box.lo x.box.hi->kQ s.length x.access->P1 x->Q (iM k 0 65536 0 x))(E:∀x∈l2,okB (s.set k n2) x.box.lo x.box.hi->kQ s.length x.access->P2 x->Q (iM k 0 65536 n1 x)):
  KS Q s (l1.map (iM k 0 65536 0)++l2.map (iM k 0 65536 n1)):=by
 obtain⟨c1,c2,H⟩:=fE hc;have w:k<s.length:=l8 v;have j:(s.set k n1)[k]?=some n1:=by simp[w]
 have l:(s.set k n2)[k]?=some n2:=by simp[w]
 have b1:=(fE B).2.2 n1 (jF j);have b2:=(fE C).2.2 n2 (jF l);have O:=H _ (jF v);have A:∀m:Int,(s.set k n1).set k m=s.set k m:=λm=>by simp
 have r:∀m:Int,(s.set k n2).set k m=s.set k m:=λm=>by simp
 refine⟨λy g=>?_,λy g=>?_,λy g _=>?_,λi hi=>?_⟩
 .rcases aV.1 g with g|g
  .obtain⟨x,e,rfl⟩:=ar.1 g;have:=AQ (m:=n1+n2) (t:=65536) (f:=0) (d:=0) (p.wk x e) j (aC 0) yC yC (.inr ⟨b1.1,by omega⟩);rw[A,iz v]at this;exact tP this
  .obtain⟨x,e,rfl⟩:=ar.1 g;have:=AQ (m:=n1+n2) (t:=65536) (f:=0) (d:=n1) (q.wk x e) l (aC 0) yC y8 (.inr ⟨b2.1,by omega⟩);rw[r,iz v]at this;exact tP this
 .rcases aV.1 g with g|g
  .obtain⟨x,e,rfl⟩:=ar.1 g;have:=p.acc x e;rw[zT]at this;exact rE this
  .obtain⟨x,e,rfl⟩:=ar.1 g;have:=q.acc x e;rw[zT]at this;exact rE this
 .rcases aV.1 g with g|g
  .obtain⟨x,e,rfl⟩:=ar.1 g;have:=p.acc x e;rw[zT]at this;exact D x e (p.box x e) this (p.prp x e)
  .obtain⟨x,e,rfl⟩:=ar.1 g;have:=q.acc x e;rw[zT]at this;exact E x e (q.box x e) this (q.prp x e)
 .obtain⟨y,u,I,P⟩:=rH hi v;have hl:=il hi;rw[dF]
  have J:(l1.map (iM k 0 65536 0)).countP (gZ i)=l1.countP (gZ i):=r7 λx e=>by
   rw[na (p.wk x e) j yC u (by simpa using hl),Int.sub_zero,iz u,decide_eq_true (show 0<=y/\y<65536 by omega),aY]
  rw[J];by_cases c:y<n1
  .have F:=lG (k:=k) (n:=n1) (y:=y) hi I c;rw[iz u]at F;rw[p.cnt i F]
   have:(l2.map (iM k 0 65536 n1)).countP (gZ i)=0:=by
    rw[cU];intro z K;obtain⟨x,e,rfl⟩:=ar.1 K;rw[na (q.wk x e) l yC u (by simpa using hl),zZ (show¬(0<=y - n1/\y - n1<65536) by omega),cu];simp
   rw[this]
  .have L:l1.countP (gZ i)=0:=by
    rw[cU];intro x e M;have:=rY (p.wk x e) M;obtain⟨z,G,R,S⟩:=rH this j;rw[u]at G;simp only[j9]at G;omega
   have v2:=lG (k:=k) (n:=n2) (y:=y - n1) hi y8 y8
   have N:(l2.map (iM k 0 65536 n1)).countP (gZ i)=l2.countP (gZ (i.set k (y - n1))):=r7 λx e=>by
    rw[na (q.wk x e) l yC u (by simpa using hl),decide_eq_true (show 0<=y - n1/\y - n1<65536 by omega),aY]
   rw[L,N,q.cnt _ v2]
theorem Me(l:Inv P1 (s.set k n1) l1)(n:Inv P2 (s.set k n2) l2)(hc:fH s=0)(H:fw s<=20000)(c:fH (s.set k n1)=0)(d:fH (s.set k n2)=0)(p:fw (s.set k n1)<=20000)(q:fw (s.set k n2)<=20000)(r:s[k]?=some (n1+n2))(t:∀x∈l1,okB (s.set k n1) x.box.lo x.box.hi->kQ s.length x.access->P1 x->Q (iM k 0 65536 0 x))(u:∀x∈l2,okB (s.set k n2) x.box.lo x.box.hi->kQ s.length x.access->P2 x->Q (iM k 0 65536 n1 x)):
  Jd (l1,l2,(k:Int),n1)=some (iC ((l1.map (iM k 0 65536 0)++l2.map (iM k 0 65536 n1)).filter fT))/\Inv Q s (iC ((l1.map (iM k 0 65536 0)++l2.map (iM k 0 65536 n1)).filter fT)):=by
 obtain⟨c1,c2,C⟩:=fE hc;have z:=l.len4 c p;have A:=n.len4 d q;have e:k<s.length:=l8 r;have f:(s.set k n1)[k]?=some n1:=by simp[e]
 have g:(s.set k n2)[k]?=some n2:=by simp[e]
 have b1:=(fE c).2.2 n1 (jF f);have b2:=(fE d).2.2 n2 (jF g);have I:=C _ (jF r);obtain⟨g',D⟩:=Iw g b2.2 b1.1 b1.2 y9 l1 l2 [] 1 l1 (by simpa using by omega) (by simpa using by omega) (λx j=>⟨n.wk x j,n.acc x j⟩);have v:Zs (l2,(k:Int),n1,l1,1,l1,0)=some (g',l1++l2.map (iM k 0 65536 n1)):=D;have E:=HZ f b1.2 y9 l1 (l1++l2.map (iM k 0 65536 n1)) g' (l2.map (iM k 0 65536 n1)) yA y8 l1 [] yA (λx j=>⟨l.wk x j,l.acc x j⟩);have w:Zt (l1,(k:Int),l1++l2.map (iM k 0 65536 n1),g',l1++l2.map (iM k 0 65536 n1),0)=some (l1.map (iM k 0 65536 0)++l2.map (iM k 0 65536 n1)):=E;have F:Yf l1=some l1:=gj y9 y8;have B:∀m:Int,(s.set k n1).set k m=s.set k m:=λm=>by simp
 have y:∀m:Int,(s.set k n2).set k m=s.set k m:=λm=>by simp
 have G:=Fx (Q:=Q) l n hc c d r t u;obtain⟨q1,q2⟩:=G.listed hc y9;refine⟨?_,q2⟩;unfold Jd;simp only[F,Qc,v,w];rw[fI yA,Qc,fI yA,Qc,q1];rfl
end
def sX:fj->fj->fj->fj
 |j::d,c::st,out=>sX d st (out.set j.toNat (W (W (0+out.getD j.toNat 0)+c)))
 |_,_,out=>out
theorem mF:∀(d st out:fj),(sX d st out).length=out.length
 |[],_,_=>rfl
 |_::_,[],_=>rfl
 |j::d,c::st,out=>by rw[sX,mF];simp
def rC(a:Qh)(perm:fj)(r:Nat):Qh:=
 if a.kind=1 then a else⟨a.kind,a.buffer,a.base,sX perm a.strides (List.replicate r 0),a.start,a.step,a.mod⟩
theorem yd(a:Qh)(p:fj)(r:Nat):(rC a p r).kind=a.kind:=by unfold rC;split <;>rfl
theorem OC{c r:Nat}{a:Qh}{p:fj}(h:kQ c a):kQ r (rC a p r):=by
 rcases h with h|⟨d,e⟩
 .left;rw[yd];exact h
 .right;refine⟨by rw[yd];exact d,?_⟩;unfold rC;rw[af y8];simp only[mF,zJ]
theorem Tk(x y:Int):JZ [x,y]=some (W (W (0+x)+y)):=by
 have c:((0:Int)<(([x,y]:fj).length:Int)):=by simp
 have l1:((1:Int)<(([x,y]:fj).length:Int)):=by simp
 have l2:¬((2:Int)<(([x,y]:fj).length:Int)):=by simp
 have d:idx [x,y] 0=some x:=rfl;have e:idx [x,y] 1=some y:=rfl;have w0:W (0+1)=1:=by decide
 have f:W (1+1)=2:=by decide
 unfold JZ;dsimp only;rw[Yt];simp only[c,ak,d,Qc,w0];rw[Yt];simp only[l1,ak,e,Qc,f];rw[Yt];simp only[l2,aj,Qc]
theorem An{l:fj}{j:Int}(h0:0<=j)(h:j.toNat<l.length):idx l j=some (l.getD j.toNat 0):=by
 obtain⟨k,rfl⟩:∃k:Nat,j=(k:Int):=⟨j.toNat,by omega⟩;simp only[cJ]at h |-;rw[oP h,iy h]
theorem zr{l:fj}{j y:Int}(h0:0<=j)(h:j.toNat<l.length):iL l j y=some (l.set j.toNat y):=by
 simp[iL,h0,h]
theorem EW(k:fj)(q2 q3 q4:Int)(q5:fj)(q6:Int)(l m:fj)(q7 F q1 g:Int)(s t u:Int)(v:fj)(w y z A:Int):∀(f st e d out:fj),st.length=f.length->d.length=e.length->e.length+f.length<=600->out.length=k.length->(∀j∈f,0<=j/\j.toNat<out.length)->
  QS (e++f,k,d++st,s,t,u,v,w,y,z,A,g,out,(e.length:Int))=some (sX f st out)
 |[],[],e,d,out,B,n,p,q,r=>by
  rw[QS];simp only[Za,aj];rfl
 |j::f,c::st,e,d,out,B,n,p,q,r=>by
  rw[QS];obtain⟨C,D⟩:=r j (jM ..);have G:idx (d++c::st) (e.length:Int)=some c:=by rw[<-n];exact Qy
  have E:=EW k q2 q3 q4 q5 q6 l m q7 F q1 g s t u v w y z A f st (e++[j]) (d++[c]) (out.set j.toNat (W (W (0+out.getD j.toNat 0)+c))) (by simpa using B) (by simp[n]) (by simp at p |-;omega) (by simpa using q) (λi hi=>by simpa using r i (jG _ hi));rw[<-Qv,<-Qv]at E;have H:e.length<=100000:=by simp at p;omega
  have I:QR (out.length=k.length)=some ():=fI q;simp only[Q4,ak,Qy,Qc,I,An C D,G,Tk,zr C D,l9 (x:=j) H,E];rfl
 |[],_::_,_,_,_,h,_,_,_,_=>by simp at h
 |_::_,[],_,_,_,h,_,_,_,_=>by simp at h
theorem Ir{r:Nat}(h:r<=600):jb 8 (r:Int) (0:Int)=some (List.replicate r 0):=by
 have:=vD (List.replicate r 0) (by simpa using h)
 simpa using this
theorem Og{a:Qh}{perm:fj}{r:Nat}(h:kQ perm.length a)(hl:perm.length<=600)(g:r<=600)(p:∀j∈perm,0<=j/\j.toNat<r):XI (a,perm,(r:Int))=some (rC a perm r):=by
 obtain⟨e,k,ba,st,l,sp,md⟩:=a;rcases h with h|⟨m,n⟩
 .simp only at h;subst h;simp only[XI,Xi,ak,Qc,rC]
 .simp only at m n;have q:¬e=1:=by omega
  have t:QR (mg (List.replicate r (0:Int))=mg (List.replicate r (0:Int)))=some ():=fI rfl
  have d:∀f c:Int,QS (perm,List.replicate r 0,st,e,k,ba,st,l,sp,md,f,c,List.replicate r 0,0)=some (sX perm st (List.replicate r 0)):=λf c=>by
   have:=EW (List.replicate r 0) 0 0 0 [] 0 [] [] 0 0 0 c e k ba st l sp md f perm st [] [] (List.replicate r 0) n rfl (by simpa using hl) rfl (λj s=>by simpa using p j s)
   simpa using this
  simp only[XI,Xi,q,aj,X9,lv (show st.length<=600 by omega),Qc,rC];rcases m with rfl|rfl
  .simp only[show¬(2:Int)=3 by decide,aj,Qc,Yz,Zw,Ir g,d,ZJ,mF,zJ];rw[fI (by simp[mF]),Qc]
  .simp only[ak,Qc,Yz,Zw,Ir g,d,ZJ,mF,zJ];rw[fI (by simp[mF]),Qc]
def mi(perm s:fj)(x:Qa):Qa:=⟨⟨qS perm x.box.lo (List.replicate s.length 0),qY perm x.box.hi s⟩,rC x.access perm s.length⟩
theorem H9(c d C:fj)(g p0:List Qa)(k:Int)(m:Nat)(x:Qa):∀(f l h e n p lo hi:fj),x.box.lo=n++l->x.box.hi=p++h->l.length=f.length->h.length=f.length->n.length=e.length->p.length=e.length->e.length+f.length<=600->lo.length=c.length->hi.length=d.length->(∀j∈f,0<=j/\j.toNat<lo.length/\j.toNat<hi.length)->
  Zy (e++f,c,x,d,C,g,p0,k,m,lo,hi,(e.length:Int))=some (qS f l lo,qY f h hi)
 |[],[],[],e,n,p,lo,hi,r,s,D,E,t,u,v,w,y,z=>by
  rw[Zy];simp only[Za,aj];rfl
 |j::f,a::l,b::h,e,n,p,lo,hi,r,s,D,E,t,u,v,w,y,z=>by
  rw[Zy];obtain⟨q,F,G⟩:=z j (jM ..);have I:idx x.box.lo (e.length:Int)=some a:=by rw[r,<-t];exact Qy
  have J:idx x.box.hi (e.length:Int)=some b:=by rw[s,<-u];exact Qy
  have H:=H9 c d C g p0 k m x f l h (e++[j]) (n++[a]) (p++[b]) (lo.set j.toNat (if lo.getD j.toNat 0<a then a else lo.getD j.toNat 0)) (hi.set j.toNat (if b<hi.getD j.toNat 0 then b else hi.getD j.toNat 0)) (by rw[r,Qv]) (by rw[s,Qv]) (by simpa using D) (by simpa using E) (by simp[t]) (by simp[u]) (by simp at v |-;omega) (by simpa using w) (by simpa using y) (λi hi=>by simpa using z i (jG _ hi));rw[<-Qv]at H;have K:e.length<=100000:=by simp at v;omega
  have A:QR (lo.length=c.length)=some ():=fI w;have B:QR (hi.length=d.length)=some ():=fI y;simp only[Q4,ak,Qy,Qc,A,B,An q F,An q G,I,J,zr q F,zr q G,l9 (x:=j) K,H];rfl
 |[],_::_,_,_,_,_,_,_,_,_,h,_,_,_,_,_,_,_=>by simp at h
 |[],_,_::_,_,_,_,_,_,_,_,_,h,_,_,_,_,_,_=>by simp at h
 |_::_,[],_,_,_,_,_,_,_,_,h,_,_,_,_,_,_,_=>by simp at h
 |_::_,_,[],_,_,_,_,_,_,_,_,h,_,_,_,_,_,_=>by simp at h
theorem Oh(s:fj)(h:s.length<=600)(a b:fj)(c d e:Int)(f:fj)(g i j:Int)(m:Nat):∃q,XX (s,a,b,c,d,e,f,g,i,j,m)=some (q,List.replicate s.length 0,s):=by
 refine⟨mg (List.replicate s.length (0:Int)),?_⟩;simp only[XX,vD s h,Qc,lv h]
theorem Kn{s0 s perm:fj}(c:perm.length=s0.length)(hl:perm.length<=600)(e:s.length<=600)(d:∀j∈perm,0<=j/\j.toNat<s.length):∀(l p out:List Qa),p.length+l.length<=50000->out.length<=p.length->(∀x∈l,jg s0 x.box.lo x.box.hi/\kQ s0.length x.access)->
  Zp (p++l,s,perm,out,(p.length:Int))=some (out++l.map (mi perm s))
 |[],p,out,h,v,hw=>by
  rw[Zp];simp only[Za,aj,aN];simp only[jU]
 |x::l,p,out,h,v,hw=>by
  rw[Zp];obtain⟨w,z⟩:=hw x (jM ..);obtain⟨l1,l2⟩:=kH w;have f:=Kn c hl e d l (p++[x]) (out++[mi perm s x]) (by simp at h |-;omega) y9 (λy A=>hw y (jG _ A));rw[<-Qv]at f;have B:p.length<=100000:=by simp at h;omega
  obtain⟨q,eq⟩:=Oh s e x.box.lo x.box.hi x.access.kind x.access.buffer x.access.base x.access.strides x.access.start x.access.step x.access.mod out.length;have t:=H9 (List.replicate s.length 0) s s out (p++x::l) (p.length:Int) q x perm x.box.lo x.box.hi [] [] [] (List.replicate s.length 0) s rfl rfl y8 y8 rfl rfl (by simpa using hl) rfl rfl (λj g=>⟨(d j g).1,by simpa using(d j g).2,(d j g).2⟩);simp only[jQ,jL,jJ]at t;have u:app 120 out [mi perm s x]=some (out++[mi perm s x]):=gj (by simp at h |-;omega) y8;have k:QR ((qS perm x.box.lo (List.replicate s.length 0)).length=(List.replicate s.length (0:Int)).length)=some ():=fI (qu _ _ _);have m:QR ((qY perm x.box.hi s).length=s.length)=some ():=fI (qw _ _ _)
  have n:=Og (a:=x.access) (perm:=perm) (r:=s.length) (by rw[c];exact z) hl e d;unfold mi at u f;simp only[Q4,ak,Qy,Qc,eq,t,n,k,m,u,l9 (x:=x) B,f,zU,aB,aM];rfl
theorem Cy:∀(c l lo:fj) (k:Nat),(∀j∈c,0<=j/\j.toNat<lo.length)->lo.getD k 0<=(qS c l lo).getD k 0
 |[],_,_,_,_=>aC _
 |_::_,[],_,_,_=>aC _
 |j::c,a::l,lo,k,h=>by
  refine e8 ?_ (Cy c l _ k λi hi=>by simpa using h i (jG _ hi));obtain⟨f,d⟩:=h j (jM ..);by_cases e:j.toNat=k
  .subst e;simp only[jB,zE,ak,d,aE];split <;>omega
  .simp only[jB,zE,e,aj,aC]
theorem Ca:∀(c l hi:fj) (k:Nat),(∀j∈c,0<=j/\j.toNat<hi.length)->(qY c l hi).getD k 0<=hi.getD k 0
 |[],_,_,_,_=>aC _
 |_::_,[],_,_,_=>aC _
 |j::c,a::l,hi,k,h=>by
  refine e8 (Ca c l _ k λi hi=>by simpa using h i (jG _ hi)) ?_;obtain⟨f,d⟩:=h j (jM ..);by_cases e:j.toNat=k
  .subst e;simp only[jB,zE,ak,d,aE];split <;>omega
  .simp only[jB,zE,e,aj,aC]
theorem NM:∀{s l h:fj},l.length=s.length->h.length=s.length->fW l h=true->(∀k,k<s.length->0<=l.getD k 0/\h.getD k 0<=s.getD k 0)->okB s l h
 |[],[],[],_,_,_,_=>trivial
 |n::s,a::l,b::h,f,g,c,e=>by
  simp only[fW,jE,zD]at c;have h0:=e 0 yA;simp at h0;exact⟨⟨h0.1,c.1,h0.2⟩,NM (by simpa using f) (by simpa using g) c.2 λk d=>by simpa using e (k+1) (by simpa using d)⟩
 |[],_::_,_,h,_,_,_=>by simp at h
 |[],[],_::_,_,h,_,_=>by simp at h
 |_::_,[],_,h,_,_,_=>by simp at h
 |_::_,_::_,[],_,h,_,_=>by simp at h
theorem KI(r k:Nat):(List.replicate r (0:Int)).getD k 0=0:=by
 simp only[jB,zM];split <;>rfl
section
variable{P Q:Qa->Prop}{s0 s perm:fj}{l:List Qa}
theorem FK(h:Inv P s0 l)(m:perm.length=s0.length)(g:∀j∈perm,0<=j/\j.toNat<s.length)(q:∀k,k<s0.length->s.getD (perm.getD k 0).toNat 0<=s0.getD k 0)(r:∀x∈l,okB s0 x.box.lo x.box.hi->kQ s0.length x.access->P x->fT (mi perm s x)=true->Q (mi perm s x)):
  KS Q s (l.map (mi perm s)):=by
 refine⟨λy d=>?_,λy d=>?_,λy d n=>?_,λi hi=>?_⟩
 .obtain⟨x,c,rfl⟩:=ar.1 d;refine⟨by simp[mi,qu],by simp[mi,qw],λn=>NM (by simp[mi,qu]) (by simp[mi,qw]) n λk p=>⟨?_,Ca _ _ _ _ g⟩⟩;have:=Cy perm x.box.lo (List.replicate s.length 0) k (λj f=>by simpa using g j f);rw[KI]at this;exact this
 .obtain⟨x,c,rfl⟩:=ar.1 d;exact OC (h.acc x c)
 .obtain⟨x,c,rfl⟩:=ar.1 d;exact r x c (h.box x c) (h.acc x c) (h.prp x c) n
 .have hl:=il hi;rw[r7 (j:=mA perm i) λx c=>?_]
  .refine h.cnt _ (D2 (by simp[mA,m]) λk p=>?_);have f:=g (perm.getD k 0) (by rw[iy y8];exact zC _);have t:=mo hi (perm.getD k 0).toNat f.2
   have e:(mA perm i).getD k 0=i.getD (perm.getD k 0).toNat 0:=by
    rw[iy (l:=mA perm i) (by simp[mA];omega),iy (l:=perm) (k:=k) y8];simp[mA]
   rw[e];have:=q k p;omega
  .obtain⟨l1,l2⟩:=kH (h.wk x c);unfold gZ mi;rw[Ai perm x.box.lo x.box.hi _ s i y8 y8 (by simpa using hl) hl (λj f=>by have:=g j f;omega),qC hi,aY]
theorem MW(h:Inv P s0 l)(c:fH s0=0)(f:fw s0<=20000)(hc:fH s=0)(d:perm.length=s0.length)(m:∀j∈perm,0<=j/\j.toNat<s.length)(p:∀k,k<s0.length->s.getD (perm.getD k 0).toNat 0<=s0.getD k 0)(q:∀x∈l,okB s0 x.box.lo x.box.hi->kQ s0.length x.access->P x->fT (mi perm s x)=true->Q (mi perm s x)):
  XZ (l,perm,s)=some (iC ((l.map (mi perm s)).filter fT))/\Inv Q s (iC ((l.map (mi perm s)).filter fT)):=by
 obtain⟨t,u,v⟩:=fE hc;obtain⟨w,y,z⟩:=fE c;have r:=h.len4 c f;have e:=Kn d y8 y8 m l [] [] (by simpa using by omega) yA (λx n=>⟨h.wk x n,h.acc x n⟩);have e':Zp (l,s,perm,[],0)=some (l.map (mi perm s)):=e;have g:=FK (Q:=Q) h d m p q;obtain⟨q1,q2⟩:=g.listed hc y9;refine⟨?_,q2⟩;unfold XZ;simp only[e',Qc,q1]
end
def nR(a:Qh):Nat->fj->Qh
 |_,[]=>a
 |k,n::st=>nR (oM a k n) (k+1) st
theorem Fw{r:Nat}:∀(st:fj) (a:Qh) (k:Nat),kQ r a->kQ r (nR a k st)
 |[],_,_,h=>h
 |n::st,a,k,h=>by rw[nR];exact Fw st _ _ (rE h)
def pB(s st:fj)(x:Qa):Qa:=⟨⟨Be x.box.lo s st,Bg x.box.lo x.box.hi s st⟩,nR x.access 0 st⟩
theorem NO(p1 j:fj)(c p0:List Qa)(d:Int)(f:Qa){r:Nat}(k:r<=600):∀(st p:fj) (a:Qh),kQ r a->p.length+st.length<=r->
  Yv (p++st,p1,j,c,p0,d,f,a.kind,a.buffer,a.base,a.strides,a.start,a.step,a.mod,(p.length:Int))=some ((nR a p.length st).kind,(nR a p.length st).buffer,(nR a p.length st).base,(nR a p.length st).strides,(nR a p.length st).start,(nR a p.length st).step,(nR a p.length st).mod)
 |[],p,a,hw,h=>by
  rw[Yv];simp only[Za,aj];rfl
 |n::st,p,a,hw,h=>by
  rw[Yv];have g:p.length<r:=by simp at h;omega
  have l:=NO p1 j c p0 d f k st (p++[n]) (oM a p.length n) (rE hw) (by simp at h |-;omega);rw[<-Qv]at l;have e:Xh (⟨a.kind,a.buffer,a.base,a.strides,a.start,a.step,a.mod⟩,(p.length:Int),n)=some (oM a p.length n):=II n hw g k;simp only[Q4,ak,Qy,Qc,e,l9 (x:=n) (show p.length<=100000 by omega),l];rw[show(p++[n]).length=p.length+1 by simp];rfl
theorem Ng{s0 s st:fj}(f:s.length<=600)(h0:s0.length=s.length)(hst:st.length=s.length)(p1:fj):∀(l p out:List Qa),p.length+l.length<=50000->out.length<=p.length->(∀x∈l,jg s0 x.box.lo x.box.hi/\kQ s0.length x.access)->
  Z6 (p++l,st,p1,s,out,(p.length:Int))=some (out++l.map (pB s st))
 |[],p,out,h,g,hw=>by
  rw[Z6];simp only[Za,aj,aN];simp only[jU]
 |x::l,p,out,h,g,hw=>by
  rw[Z6];obtain⟨j,k⟩:=hw x (jM ..);obtain⟨l1,l2⟩:=kH j;have c:=Ng f h0 hst p1 l (p++[x]) (out++[pB s st x]) (by simp at h |-;omega) y9 (λy m=>hw y (jG _ m));rw[<-Qv]at c;have n:p.length<=100000:=by simp at h;omega
  have d:=NO p1 s out (p++x::l) (p.length:Int) x (r:=s0.length) y8 st [] x.access k y9;simp only[jQ,jL,jJ]at d;have q:=F5 (lo:=x.box.lo) (hi:=x.box.hi) (t:=s) (st:=st) y8 y8 y8 y8;have e:app 120 out [pB s st x]=some (out++[pB s st x]):=gj (by simp at h |-;omega) y8;unfold pB at e c;simp only[Q4,ak,Qy,Qc,d,q,l9 (x:=x) n];refine(bI (·>>=_) e).trans ?_;rw[Qc,c];simp[pB]
theorem Mv{i st:fj}(h:i.length=st.length):(List.zipWith (·+·) i st).length=i.length:=by simp[h]
theorem Ki(c:Ql):∀(l p:List Ql) (out:List Qa),p.length+l.length<=50000->out.length+l.length<=90000->Yw (p++l,c,out,(p.length:Int))=some (out++l.map l6)
 |[],p,out,h,d=>by
  rw[Yw];simp only[Za,aj];simp only[aN,jU]
 |b::l,p,out,h,d=>by
  rw[Yw];have g:p.length<=100000:=by simp at h;omega
  have e:=Ki c l (p++[b]) (out++[l6 b]) (by simp at h |-;omega) (by simp at d |-;omega);rw[<-Qv]at e;have f:app 120 out [l6 b]=some (out++[l6 b]):=gj (by simp at h |-;omega) y8;unfold l6 kW at f;simp only[Q4,ak,Qy,Qc,f,l9 (x:=b) g];refine e.trans ?_;simp
section
variable{P Q:Qa->Prop}{s0 s st:fj}{l:List Qa}
def Dk(s0 s st:fj)(l:List Qa):List Qa:=l.map (pB s st)++(qc s (Be (List.replicate s.length 0) s st) (Bg (List.replicate s.length 0) s0 s st)).map l6
theorem Fa(h:Inv P s0 l)(u:fH s0=0)(hc:fH s=0)(h0:s0.length=s.length)(hst:st.length=s.length)(k:∀x∈st,-65536<=x/\x<=65536)(A:∀x∈l,okB s0 x.box.lo x.box.hi->kQ s0.length x.access->P x->fT (pB s st x)=true->Q (pB s st x))(B:∀b,okB s b.lo b.hi->(∀i,iB s i=true->jk b.lo b.hi i=true->iB s0 (List.zipWith (·+·) i st)=false)->Q (l6 b)):
  KS Q s (Dk s0 s st l):=by
 obtain⟨D,E,C⟩:=fE hc;obtain⟨F,G,v⟩:=fE u;have j:∀n∈s,0<=n:=λn hn=>(C n hn).1
 have w:∀n∈s0,0<=n:=λn hn=>(v n hn).1
 have m:=uT (lo:=List.replicate s.length 0) (hi:=s0) (t:=s) (st:=st) (by simp[hst]) hst.symm y8 j
 have q:∀i,iB s i=true->jk (Be (List.replicate s.length 0) s st) (Bg (List.replicate s.length 0) s0 s st) i=iB s0 (List.zipWith (·+·) i st):=λi hi=>by
  have hl:=il hi;rw[uU hi yA y8 hst (λx c=>by have:=(dG.1 c).2;omega) (λx c=>v x c) k];have H:=Mv (i:=i) (st:=st) y8;cases f:iB s0 (List.zipWith (·+·) i st)with
  |true=>have:=qC f;rw[h0]at this;exact this
  |false=>
   cases p:jk (List.replicate s.length 0) s0 (List.zipWith (·+·) i st)with
   |false=>rfl
   |true=>
    rw[<-h0]at p;have:=rY (ky w) p;rw[f]at this;cases this
 have g:∀i,iB s i=true->((qc s (Be (List.replicate s.length 0) s st) (Bg (List.replicate s.length 0) s0 s st)).map l6).countP (gZ i)=if iB s0 (List.zipWith (·+·) i st)=true then 0 else 1:=λi hi=>by
  have:=DK kW m hi;rw[cz]at this;have e:gZ i (⟨⟨Be (List.replicate s.length 0) s st,Bg (List.replicate s.length 0) s0 s st⟩,kW⟩:Qa)=iB s0 (List.zipWith (·+·) i st):=q i hi;rw[e]at this;split at this<;>rename_i f
  .rw[ai f];omega
  .rw[af f];omega
 have r:∀i,iB s i=true->∀x∈l,gZ i (pB s st x)=gZ (List.zipWith (·+·) i st) x:=λi hi x c=>by
  obtain⟨l1,l2⟩:=kH (h.wk x c);obtain⟨b1,b2⟩:=Er (λn hn=>(v n hn).2) (h.wk x c);exact uU hi y8 y8 hst b1 b2 k
 refine⟨λy d=>?_,λy d=>?_,λy d z=>?_,λi hi=>?_⟩
 .rcases aV.1 d with d|d
  .obtain⟨x,c,rfl⟩:=ar.1 d;obtain⟨l1,l2⟩:=kH (h.wk x c);exact tP (uT y8 y8 y8 j)
  .obtain⟨b,k,rfl⟩:=ar.1 d;exact tP (Ga j m b k)
 .rcases aV.1 d with d|d
  .obtain⟨x,c,rfl⟩:=ar.1 d;have:=h.acc x c;rw[h0]at this;exact Fw _ _ _ this
  .obtain⟨b,k,rfl⟩:=ar.1 d;exact .inl rfl
 .rcases aV.1 d with d|d
  .obtain⟨x,c,rfl⟩:=ar.1 d;exact A x c (h.box x c) (h.acc x c) (h.prp x c) z
  .obtain⟨b,k,rfl⟩:=ar.1 d;refine B b (tV (Ga j m b k) z) λi hi p=>?_
   have:=g i hi;cases f:iB s0 (List.zipWith (·+·) i st)with
   |false=>rfl
   |true=>
    rw[ai f,cU]at this;exact absurd p (this (l6 b) (ar.2 ⟨b,k,rfl⟩))
 .unfold Dk;rw[dF,g i hi,r7 (r i hi)];by_cases f:iB s0 (List.zipWith (·+·) i st)=true
  .rw[ai f,h.cnt _ f]
  .rw[af f]
   have:l.countP (gZ (List.zipWith (·+·) i st))=0:=by
    rw[cU];intro x c p;exact f (rY (h.wk x c) p)
   rw[this]
theorem Mt(h:Inv P s0 l)(c:fH s0=0)(f:fw s0<=20000)(hc:fH s=0)(h0:s0.length=s.length)(hst:st.length=s.length)(q:∀x∈st,-65536<=x/\x<=65536)(r:∀x∈l,okB s0 x.box.lo x.box.hi->kQ s0.length x.access->P x->fT (pB s st x)=true->Q (pB s st x))(u:∀b,okB s b.lo b.hi->(∀i,iB s i=true->jk b.lo b.hi i=true->iB s0 (List.zipWith (·+·) i st)=false)->Q (l6 b)):
  J2 (l,s0,s,st)=some (iC ((Dk s0 s st l).filter fT))/\Inv Q s (iC ((Dk s0 s st l).filter fT)):=by
 obtain⟨F,w,y⟩:=fE hc;obtain⟨G,H,z⟩:=fE c;have A:=h.len4 c f;have d:∀n∈s,0<=n:=λn hn=>(y n hn).1
 have B:∀n∈s0,0<=n:=λn hn=>(z n hn).1
 have e:=Ng (s0:=s0) (s:=s) (st:=st) y8 h0 hst s0 l [] [] (by simpa using by omega) yA (λx m=>⟨h.wk x m,h.acc x m⟩);have e':Z6 (l,st,s0,s,[],0)=some (l.map (pB s st)):=e;have C:=F5 (lo:=List.replicate s.length 0) (hi:=s0) (t:=s) (st:=st) (by simp[hst]) hst.symm y8 y8;have j:=uT (lo:=List.replicate s.length 0) (hi:=s0) (t:=s) (st:=st) (by simp[hst]) hst.symm y8 d;obtain⟨g,D⟩:=rQ s y8;have E:=Kd w y8 d j;have I:=K3 s (Be (List.replicate s.length 0) s st) (Bg (List.replicate s.length 0) s0 s st);have p:=Ki ⟨Be (List.replicate s.length 0) s st,Bg (List.replicate s.length 0) s0 s st⟩ (qc s (Be (List.replicate s.length 0) s st) (Bg (List.replicate s.length 0) s0 s st)) [] (l.map (pB s st)) y9 y9
 simp only[jQ,jL,jJ]at p;have k:=Fa (Q:=Q) h c hc h0 hst q r u;obtain⟨q1,q2⟩:=k.listed hc (by unfold Dk;simp;omega);refine⟨?_,q2⟩;unfold J2;simp only[e',Qc,vD s (show s.length<=600 by omega),C,D,E,p];show(Zq (Dk s0 s st l)>>=λv=>some v)=_
 rw[q1,Qc]
end
def mR(c:Qj):Option (List Qa):=Zx (c.kind,c.shape,c.buffer,c.starts,c.axis,c.amount,c.perm,c.kids)
theorem N9(q0:Int)(q1:fj)(q2:Int)(q3:fj)(q4 q5:Int)(q6:fj):QH ([],q0,q1,q2,q3,q4,q5,q6,[],0)=some []:=by
 rw[QH]
 have:¬((0:Int)<(([]:List Qj).length:Int)):=by simp
 simp only[this,aj]
theorem OH(q0:Int)(q1:fj)(q2:Int)(q3:fj)(q4 q5:Int)(q6:fj){k:Qj}{l:List Qa}(h:mR k=some l):QH ([k],q0,q1,q2,q3,q4,q5,q6,[],0)=some [l]:=by
 have c:((0:Int)<(([k]:List Qj).length:Int)):=by simp
 have d:¬((1:Int)<(([k]:List Qj).length:Int)):=by simp
 have e:idx [k] 0=some k:=rfl;have w0:W (0+1)=1:=by decide
 unfold mR at h;rw[QH];simp only[c,ak,e,Qc,h,w0];rw[gj yA y8,Qc,QH];simp only[d,aj,jQ]
theorem N4(q0:Int)(q1:fj)(q2:Int)(q3:fj)(q4 q5:Int)(q6:fj){k k2:Qj}{l l2:List Qa}(h:mR k=some l)(c:mR k2=some l2):QH ([k,k2],q0,q1,q2,q3,q4,q5,q6,[],0)=some [l,l2]:=by
 have d:((0:Int)<(([k,k2]:List Qj).length:Int)):=by simp
 have e:((1:Int)<(([k,k2]:List Qj).length:Int)):=by simp
 have f:¬((2:Int)<(([k,k2]:List Qj).length:Int)):=by simp
 have g:idx [k,k2] 0=some k:=rfl;have j:idx [k,k2] 1=some k2:=rfl;have w0:W (0+1)=1:=by decide
 have m:W (1+1)=2:=by decide
 unfold mR at h c;rw[QH];simp only[d,ak,g,Qc,h,w0];rw[gj yA y8,Qc,QH];simp only[e,ak,j,Qc,c,m];rw[gj yA y8,Qc,QH];simp only[f,aj,jQ,aM]
theorem ra:∀c:Qb,(conv c).shape=c.shape
 |⟨_,_,_,_,_,_,_,_⟩=>by rw[conv]
theorem Hw{P:Qa->Prop}{s:fj}{b:Int}(hc:fH s=0)(d:fw s≠0->P (mc b s)):Inv P s (if fw s=0 then[]else[mc b s]):=by
 obtain⟨f,g,e⟩:=fE hc;have hn:∀n∈s,0<=n:=λn hn=>(e n hn).1
 by_cases z:fw s=0
 .rw[ai z];refine⟨λx c=>by simp at c,λx c=>by simp at c,λx c=>by simp at c,λi hi=>?_,rfl⟩;have:=fM (qI hi);omega
 .rw[af z];refine⟨λx c=>?_,λx c=>?_,λx c=>?_,λi hi=>?_,rfl⟩
  .simp only[jX]at c;subst c;exact tV (ky hn) (oZ (gu hn z))
  .simp only[jX]at c;subst c;exact .inr ⟨.inl rfl,kJ s⟩
  .simp only[jX]at c;subst c;exact d z
  .have:gZ i (mc b s)=true:=qC hi
   simp[this]
theorem uW{s a:fj}{k:Nat}(hl:a.length=s.length)(h:∀j,j<s.length->j≠k->a.getD j 0=s.getD j 0):s.set k (a.getD k 0)=a:=by
 refine bW (by simp[hl]) λj c d=>?_
 rw[List.getElem_set];split
 .rename_i e;subst e;exact iy d
 .rename_i e;have:=h j (by simpa using c) (λe'=>e e'.symm);rw[iy d,iy (by simpa using c)]at this;exact this.symm
section
variable{bs:List (fj)}{m:Int}{G:Qb->Prop}{R:Qb->Qa->Prop}
end
theorem IP:∀(s p:fj),p.length+s.length<=600->QN (p++s,p++s,(p.length:Int))=some (.inr ())
 |[],p,h=>by
  rw[QN];simp only[Za,aj]
 |x::s,p,h=>by
  rw[QN];have c:=IP s (p++[x]) (by simp at h |-;omega);rw[<-Qv]at c;simp only[Q4,ak,Qy,Qc,ne_eq,not_true,aj,Ed h,c]
theorem O9{s:fj}(h:s.length<=600):XH (s,s)=some true:=by
 have e:=IP s [] (by simpa using h);have e':QN (s,s,0)=some (.inr ()):=e;simp only[XH,Yr,ne_eq,not_true,aj,e',Qc]
theorem Oj(c:Qj):YS ⟨c.kind,c.shape,c.buffer,c.starts,c.axis,c.amount,c.perm,c.kids⟩=mR c:=by
 cases c;unfold YS mR;simp only[Xz,Qc];cases Zx _<;>rfl
def js(c:Qb):fj:=match c.kids with|[]=>[]|k::_=>k.shape
def gW(c:Qb)(i:fj):Int×fj×Bool:=
 if c.kind=2 then(0,if iB (js c) (D3 i c.starts)=true then D3 i c.starts else[],iB (js c) (D3 i c.starts))
 else if c.kind=3 then(0,i.set c.axis.toNat ((js c).getD c.axis.toNat 0 - 1 - i.getD c.axis.toNat 0),true)
 else if c.kind=4 then(0,i.set c.axis.toNat ((i.getD c.axis.toNat 0+c.amount)% (js c).getD c.axis.toNat 0),true)
 else if c.kind=5 then(0,pick i c.perm,true)
 else if c.kind=6 then(if fw (js c)=0 then(0,[],false)else(0,iT (js c) (iA c.shape i%fw (js c)),true))
 else if i.getD c.axis.toNat 0<(js c).getD c.axis.toNat 0 then(0,i,true)else(1,i.set c.axis.toNat (i.getD c.axis.toNat 0 - (js c).getD c.axis.toNat 0),true)
def gL:fj->fj->Int
 |a::s,b::t=>a*b+gL s t
 |_,_=>0
theorem uQ(a q:Int):W (a+18446744073709551616*q)=W a:=by
 simp only[W,IntKind.wrap,IntKind.bits,IntKind.signed];simp
theorem M8(a:Int):∃q,W a=a+18446744073709551616*q:=by
 simp only[W,IntKind.wrap,IntKind.bits,IntKind.signed];simp;split
 .exact⟨-(a/18446744073709551616) - 1,by omega⟩
 .exact⟨-(a/18446744073709551616),by omega⟩
theorem sG(a b:Int):W (W a+b)=W (a+b):=by
 obtain⟨q,e⟩:=M8 a;rw[e,show a+18446744073709551616*q+b=(a+b)+18446744073709551616*q by omega,uQ]
theorem EZ(a b:Int):W (a+W b)=W (a+b):=by rw[dr,sG,dr]
theorem vB:∀(s i:fj) (k:Nat) (c x y:Int),s[k]?=some c->i[k]?=some x->gL s (i.set k y)=gL s i+c*(y - x)
 |[],_,_,_,_,_,h,_=>by simp at h
 |_::_,[],_,_,_,_,_,h=>by simp at h
 |a::s,b::i,0,c,x,y,d,e=>by
  simp at d e;subst d;subst e;simp only[List.set_cons_zero,gL,eF];omega
 |a::s,b::i,k+1,c,x,y,d,e=>by
  simp only[bZ,gL,vB s i k c x y (by simpa using d) (by simpa using e)];omega
theorem wu:∀(s i:fj) (k:Nat) (c d x:Int),s[k]?=some c->i[k]?=some x->gL (s.set k d) i=gL s i+(d - c)*x
 |[],_,_,_,_,_,h,_=>by simp at h
 |_::_,[],_,_,_,_,_,h=>by simp at h
 |a::s,b::i,0,c,d,x,e,f=>by
  simp at e f;subst e;subst f;simp only[List.set_cons_zero,gL,eG];omega
 |a::s,b::i,k+1,c,d,x,e,f=>by
  simp only[bZ,gL,wu s i k c d x (by simpa using e) (by simpa using f)];omega
def uB(a:Qh)(i:fj):Bool×Int×Int:=
 if a.kind=1 then(true,0,0)else if a.kind=3 then(false,a.buffer,W (a.base+W (a.step*(W (a.start+gL a.strides i)%a.mod))))else(false,a.buffer,W (a.base+gL a.strides i))
theorem KO{r:Nat}{a:Qh}{n:Int}{st i j:fj}(h:kQ r a)(e:∀b:Int,a.kind≠1->W (W (b+n)+gL st i)=W (b+gL a.strides j)):uB (oR a n st) i=uB a j:=by
 obtain⟨d,f,ba,s,c,sp,md⟩:=a;rcases h with h|⟨h|h,g⟩<;>simp only at h<;>subst h
 .rfl
 .have:=e ba (show¬(2:Int)=1 by decide);simp only[uB,oR,show¬(2:Int)=1 by decide,show¬(2:Int)=3 by decide,aj];rw[this]
 .have:=e c (show¬(3:Int)=1 by decide);simp only[uB,oR,show¬(3:Int)=1 by decide,aj,ak];rw[this]
theorem HJ{r:Nat}{a:Qh}{k:Nat}{n x:Int}{i:fj}(h:kQ r a)(d:k<r)(hi:i[k]?=some x):uB (oM a k n) i=uB a (i.set k (x+n)):=
 KO h λb c=>by
  have e:a.strides.length=r:=by rcases h with h|h;exact absurd h c;exact h.2
  rw[vB _ i k (a.strides.getD k 0) x _ (gy y8) hi,sG,show b+W (n*a.strides.getD k 0)+gL a.strides i=(b+gL a.strides i)+W (n*a.strides.getD k 0) by omega,EZ,
   show x+n - x=n by omega,bj n]
  congr 1;omega
theorem OY{r:Nat}{a:Qh}{k:Nat}{n x:Int}{i:fj}(h:kQ r a)(g:k<r)(hi:i[k]?=some x):uB (AM a k n) i=uB a (i.set k (n - 1 - x)):=
 KO h λb d=>by
  have j:a.strides.length=r:=by rcases h with h|h;exact absurd h d;exact h.2
  have hc:=gy (l:=a.strides) (k:=k) y8;generalize a.strides.getD k 0=c at *;obtain⟨q,e⟩:=M8 (n - 1);obtain⟨q2,f⟩:=M8 (0 - c);rw[vB _ i k c x _ hc hi,wu _ i k c _ x hc hi,sG,show b+W (W (n - 1)*c)+(gL a.strides i+(W (0 - c) - c)*x)=(b+(gL a.strides i+(W (0 - c) - c)*x))+W (W (n - 1)*c) by omega,EZ,e,f]
  have:b+(gL a.strides i+(0 - c+18446744073709551616*q2 - c)*x)+(n - 1+18446744073709551616*q)*c=(b+(gL a.strides i+c*(n - 1 - x - x)))+18446744073709551616*(q2*x+q*c):=by
   simp only[cH,eG,eF,dD,bF,fb,cq,bO,bj x c,bj n c];omega
  rw[this,uQ]
theorem Fl{r:Nat}:∀(st c i:fj) (a:Qh),kQ r a->c.length+st.length=r->i.length=st.length->uB (nR a c.length st) (c++i)=uB a (c++List.zipWith (·+·) i st)
 |[],c,[],a,_,_,_=>rfl
 |n::st,c,x::i,a,h,d,f=>by
  have e:=Fl st (c++[x]) i (oM a c.length n) (rE h) (by simp at d |-;omega) (by simpa using f);rw[nR];rw[jV,cg,aB,aM]at e;rw[e,aB,aM,HJ h (by simp at d;omega) (x:=x) yA];congr 1;simp
 |[],_,_::_,_,_,_,h=>by simp at h
 |_::_,_,[],_,_,_,h=>by simp at h
theorem wD(i:fj):∀(d st out:fj),st.length=d.length->out.length=i.length->(∀j∈d,0<=j/\j.toNat<i.length)->∃q,gL (sX d st out) i=gL out i+gL st (mA d i)+18446744073709551616*q
 |[],[],out,_,_,_=>⟨0,by simp[sX,mA,gL]⟩
 |j::d,c::st,out,g,l,f=>by
  obtain⟨r,m⟩:=f j (jM ..);obtain⟨q,e⟩:=wD i d st (out.set j.toNat (W (W (0+out.getD j.toNat 0)+c))) (by simpa using g) (by simpa using l) (λk n=>f k (jG _ n));obtain⟨q2,p⟩:=M8 (0+out.getD j.toNat 0+c);rw[sX,e,wu out i j.toNat (out.getD j.toNat 0) _ (i.getD j.toNat 0) (gy y8) (gy m),sG,p];refine⟨q+q2*i.getD j.toNat 0,?_⟩;simp only[mA,zU,gL];generalize i.getD j.toNat 0=x;generalize out.getD j.toNat 0=y;simp only[cH,eG,dD,bF];omega
 |[],_::_,_,h,_,_=>by simp at h
 |_::_,[],_,h,_,_=>by simp at h
theorem sY:∀(r:Nat) (i:fj),gL (List.replicate r 0) i=0
 |0,_=>by simp[gL]
 |r+1,[]=>by simp[aJ,gL]
 |r+1,x::i=>by rw[aJ,gL,sY r i];omega
theorem OF{a:Qh}{perm i:fj}(h:kQ perm.length a)(c:∀j∈perm,0<=j/\j.toNat<i.length):uB (rC a perm i.length) i=uB a (mA perm i):=by
 obtain⟨g,k,ba,s,d,sp,md⟩:=a;rcases h with h|⟨h|h,f⟩<;>simp only at h<;>subst h
 .rfl
 .obtain⟨q,e⟩:=wD i perm s (List.replicate i.length 0) f yA c;rw[sY]at e;simp only[uB,rC,show¬(2:Int)=1 by decide,show¬(2:Int)=3 by decide,aj,e];rw[show ba+(0+gL s (mA perm i)+18446744073709551616*q)=(ba+gL s (mA perm i))+18446744073709551616*q by omega,uQ]
 .obtain⟨q,e⟩:=wD i perm s (List.replicate i.length 0) f yA c;rw[sY]at e;simp only[uB,rC,show¬(3:Int)=1 by decide,aj,ak,e];rw[show d+(0+gL s (mA perm i)+18446744073709551616*q)=(d+gL s (mA perm i))+18446744073709551616*q by omega,uQ]
mutual
def mE:Qb->fj->Bool×Int×Int
 |⟨k,c,d,st,e,f,g,ks⟩,i=>if k=1 then(false,d,iA c i)else if(gW ⟨k,c,d,st,e,f,g,ks⟩ i).2.2=true then l5 ks (gW ⟨k,c,d,st,e,f,g,ks⟩ i).1.toNat (gW ⟨k,c,d,st,e,f,g,ks⟩ i).2.1 else(true,0,0)
def l5:List Qb->Nat->fj->Bool×Int×Int
 |[],_,_=>(true,0,0)
 |k::_,0,i=>mE k i
 |_::ks,n+1,i=>l5 ks n i
end
theorem FI{c:Qb}{i:fj}(h:c.kind=1):mE c i=(false,c.buffer,iA c.shape i):=by
 cases c;simp only at h;rw[mE,ai h]
theorem ki{c:Qb}{i:fj}(h:c.kind≠1):mE c i=if(gW c i).2.2=true then l5 c.kids (gW c i).1.toNat (gW c i).2.1 else(true,0,0):=by
 cases c;simp only at h;rw[mE,af h]
theorem xf:∀{i st:fj},(∀x∈i,0<=x/\x<=65536)->(∀x∈st,-65536<=x/\x<=65536)->D3 i st=List.zipWith (·+·) i st
 |[],_,_,_=>rfl
 |_::_,[],_,_=>rfl
 |x::i,n::st,d,e=>by
  have a:=d x (jM ..);have b:=e n (jM ..);have f:=xf (i:=i) (st:=st) (λy c=>d y (jG _ c)) (λy c=>e y (jG _ c));unfold D3 at f |-;rw[bY,bY,f,gh y8 y8]
theorem FD{s i:fj}(c:∀n∈s,n<=65536)(h:iB s i=true):∀x∈i,0<=x/\x<=65536:=λx d=>by
 obtain⟨k,e,rfl⟩:=bM d;have hl:=il h;have:=mo h k y8;have f:=c (s.getD k 0) (by rw[iy y8];exact zC _);rw[iy e]at this;omega
def rn(c:Qb)(x:Qa):Prop:=∀i,iB c.shape i=true->gZ i x=true->uB x.access i=mE c i
section
variable{bs:List (fj)}{m:Int}{G:Qb->Prop}
theorem ni{s i:fj}{x:Qa}(c:okB s x.box.lo x.box.hi)(h:gZ i x=true):iB s i=true:=rY (sq c) h
theorem BX:∀{s i:fj},s.length=i.length->gL (gF s) i=iA s i
 |[],[],_=>rfl
 |n::s,x::i,h=>by rw[gF,gL,iA,BX (by simpa using h),bj]
 |[],_::_,h=>by simp at h
 |_::_,[],h=>by simp at h
theorem GL{c:Qb}(d:c.kind=1)(hc:fH c.shape=0):rn c (mc c.buffer c.shape):=λi hi _=>by
 obtain⟨c1,c2,e⟩:=fE hc;have:=gG hi;have hw:W (0+iA c.shape i)=iA c.shape i:=by rw[gh y8 y8];omega
 rw[FI d];simp only[uB,mc,show¬(2:Int)=1 by decide,show¬(2:Int)=3 by decide,aj,BX (il hi),hw]
theorem LI{c k:Qb}{x:Qa}(q:c.kind=2)(m:c.kids=[k])(hc:fH c.shape=0)(g:fH k.shape=0)(hl:k.shape.length=c.shape.length)(hst:c.starts.length=c.shape.length)(d:∀x∈c.starts,-65536<=x/\x<=65536)(j:okB k.shape x.box.lo x.box.hi)(s:kQ k.shape.length x.access)(t:rn k x):rn c (pB c.shape c.starts x):=λi hi l=>by
 obtain⟨c1,c2,u⟩:=fE hc;obtain⟨z,A,v⟩:=fE g;obtain⟨l1,l2⟩:=lx j;obtain⟨b1,b2⟩:=Er (λn hn=>(v n hn).2) (sq j);have w:=il hi;have e:gZ i (pB c.shape c.starts x)=gZ (List.zipWith (·+·) i c.starts) x:=uU hi y8 y8 hst b1 b2 d;rw[e]at l;have p:=ni j l;have y:=xf (FD (λn hn=>(u n hn).2) hi) d;have f:js c=k.shape:=by unfold js;rw[m]
 have es:gW c i=(0,List.zipWith (·+·) i c.starts,true):=by
  unfold gW;rw[ai q,y,f,p];rfl
 rw[ki y8,es];simp only[ak,m,br,l5];rw[<-t _ p l];exact Fl (r:=k.shape.length) c.starts [] i x.access s y9 y8
theorem Na{c k:Qb}{b:Ql}(f:c.kind=2)(g:c.kids=[k])(hc:fH c.shape=0)(e:∀x∈c.starts,-65536<=x/\x<=65536)(j:∀i,iB c.shape i=true->jk b.lo b.hi i=true->iB k.shape (List.zipWith (·+·) i c.starts)=false):rn c (l6 b):=λi hi l=>by
 obtain⟨c1,c2,m⟩:=fE hc;have p:=xf (FD (λn hn=>(m n hn).2) hi) e;have d:js c=k.shape:=by unfold js;rw[g]
 have es:(gW c i).2.2=false:=by
  unfold gW;rw[ai f,p,d];exact j i hi l
 rw[ki y8,es];rfl
theorem Mm{c k:Qb}{x:Qa}(r:c.kind=3)(n:c.kids=[k])(f:k.shape=c.shape)(s:0<=c.axis)(t:c.axis<(c.shape.length:Int))(g:okB k.shape x.box.lo x.box.hi)(p:kQ k.shape.length x.access)(u:rn k x):rn c (mW c.axis.toNat (c.shape.getD c.axis.toNat 0) x):=λi hi j=>by
 have m:=il hi;rw[f]at g p;have q:=gy (l:=i) (k:=c.axis.toNat) y8;have e:=Fc (sq g) (gy (l:=c.shape) (k:=c.axis.toNat) y8) q m;rw[e]at j;have v:=ni g j;have d:js c=c.shape:=by unfold js;rw[n];exact f
 have es:gW c i=(0,i.set c.axis.toNat (c.shape.getD c.axis.toNat 0 - 1 - i.getD c.axis.toNat 0),true):=by
  unfold gW;rw[af y8,ai r,d]
 rw[ki y8,es];simp only[ak,n,br,l5];rw[<-u _ (by rw[f];exact v) j];exact OY p y8 q
theorem uO{s i:fj}{x:Qa}{k:Nat}{n f t d y:Int}(j:okB s x.box.lo x.box.hi)(l:kQ s.length x.access)(g:s[k]?=some n)(c:f<=t)(m:-65536<=d/\d<=65536)(hl:s.length=i.length)(hi:i[k]?=some y)(e:gZ i (iM k f t d x)=true):
  (f<=y - d/\y - d<t)/\gZ (i.set k (y - d)) x=true/\uB (iM k f t d x).access i=uB x.access (i.set k (y - d)):=by
 rw[na (sq j) g c hi hl,jE,zD]at e;refine⟨e.1,e.2,?_⟩;have w:W (0 - d)=0 - d:=gh y8 y8;have:=HJ (n:=0 - d) l (l8 g) hi;rw[show y+(0 - d)=y - d by omega]at this;simp only[iM,w];exact this
theorem ML{c k:Qb}{x y:Qa}(u:c.kind=4)(p:c.kids=[k])(j:k.shape=c.shape)(hc:fH c.shape=0)(v:0<=c.axis)(w:c.axis<(c.shape.length:Int))(hm:0<=c.amount/\(c.amount=0\/c.amount<c.shape.getD c.axis.toNat 0))(e:okB k.shape x.box.lo x.box.hi)(m:kQ k.shape.length x.access)(q:rn k x)(r:y∈kE c.axis.toNat c.amount (c.shape.getD c.axis.toNat 0) x):rn c y:=λi hi s=>by
 obtain⟨c1,c2,A⟩:=fE hc;have f:=il hi;rw[j]at e m;have d:=gy (l:=c.shape) (k:=c.axis.toNat) y8;have n:=gy (l:=i) (k:=c.axis.toNat) y8;obtain⟨z,t,C,D⟩:=rH hi d;have B:=A _ (jF d);rw[n]at t;simp only[j9]at t;have g:js c=c.shape:=by unfold js;rw[p];exact j
 have es:gW c i=(0,i.set c.axis.toNat ((i.getD c.axis.toNat 0+c.amount)%c.shape.getD c.axis.toNat 0),true):=by
  unfold gW;rw[af y8,af y8,ai u,g]
 rw[ki y8,es];simp only[ak,p,br,l5];generalize E:c.shape.getD c.axis.toNat 0=N at *;generalize F:i.getD c.axis.toNat 0=X at *;simp only[kE,aq,bV,or_false]at r;rcases r with rfl|rfl
 .obtain⟨q1,q2,q3⟩:=uO e m d y8 y8 f n s
  have:(X+c.amount)%N=X - (0 - c.amount):=by rw[bJ y8 y8];omega
  rw[q3,this];exact q _ (by rw[j];exact ni e q2) q2
 .obtain⟨q1,q2,q3⟩:=uO e m d y8 y8 f n s
  have:(X+c.amount)%N=X - (N - c.amount):=by
   rw[show X+c.amount=(X - (N - c.amount))+N by omega,Int.add_emod_right,bJ y8 y8]
  rw[q3,this];exact q _ (by rw[j];exact ni e q2) q2
theorem MG{c k:Qb}{x:Qa}(n:c.kind=5)(p:c.kids=[k])(g:c.perm.length=k.shape.length)(e:∀j∈c.perm,0<=j/\j.toNat<c.shape.length)(m:okB k.shape x.box.lo x.box.hi)(q:kQ k.shape.length x.access)(r:rn k x):rn c (mi c.perm c.shape x):=λi hi f=>by
 have d:=il hi;obtain⟨l1,l2⟩:=lx m;unfold gZ mi at f;rw[Ai c.perm x.box.lo x.box.hi _ c.shape i y8 y8 (by simpa using d) d (λj l=>by have:=e j l;omega),qC hi,aY]at f;have s:=ni (x:=x) m f
 have es:gW c i=(0,mA c.perm i,true):=by
  unfold gW;rw[af y8,af y8,af y8,ai n];rfl
 rw[ki y8,es];simp only[ak,p,br,l5];rw[<-r _ s f];have:=OF (a:=x.access) (perm:=c.perm) (i:=i) (by rw[g];exact q) (λj l=>by have:=e j l;omega);simp only[mi,d];exact this
theorem M9{c k k2:Qb}{x:Qa}(w:c.kind=7)(g:c.kids=[k,k2])(p:fH k.shape=0)(hl:k.shape.length=c.shape.length)(q:0<=c.axis)(r:c.axis<(c.shape.length:Int))(j:okB k.shape x.box.lo x.box.hi)(s:kQ k.shape.length x.access)(t:rn k x):rn c (iM c.axis.toNat 0 65536 0 x):=λi hi u=>by
 have v:=il hi;have d:=gy (l:=k.shape) (k:=c.axis.toNat) y8;have f:=gy (l:=i) (k:=c.axis.toNat) y8;obtain⟨q1,q2,q3⟩:=uO j s d yC yC y8 f u;rw[Int.sub_zero,iz f]at q2 q3;have m:=ni j q2;obtain⟨z,n,y,A⟩:=rH m d;rw[f]at n;simp only[j9]at n;have e:js c=k.shape:=by unfold js;rw[g]
 have es:gW c i=(0,i,true):=by
  unfold gW;rw[af y8,af y8,af y8,af y8,af y8,e,ai y8]
 rw[ki y8,es];simp only[ak,g,br,l5];rw[q3];exact t _ m q2
theorem Mn{c k k2:Qb}{x:Qa}(y:c.kind=7)(g:c.kids=[k,k2])(e:fH k.shape=0)(hl:k2.shape.length=c.shape.length)(m:k.shape.length=c.shape.length)(n:0<=c.axis)(p:c.axis<(c.shape.length:Int))(j:okB k2.shape x.box.lo x.box.hi)(q:kQ k2.shape.length x.access)(r:rn k2 x):rn c (iM c.axis.toNat 0 65536 (k.shape.getD c.axis.toNat 0) x):=λi hi s=>by
 have t:=il hi;have f:=gy (l:=k2.shape) (k:=c.axis.toNat) y8;have u:=gy (l:=i) (k:=c.axis.toNat) y8;have hn:=(fE e).2.2 _ (jF (gy (l:=k.shape) (k:=c.axis.toNat) y8));obtain⟨q1,q2,q3⟩:=uO j q f yC y8 y8 u s;have v:=ni j q2;have d:js c=k.shape:=by unfold js;rw[g]
 have es:gW c i=(1,i.set c.axis.toNat (i.getD c.axis.toNat 0 - k.shape.getD c.axis.toNat 0),true):=by
  unfold gW;rw[af y8,af y8,af y8,af y8,af y8,d,af y8]
 have w:Int.toNat 1=1:=rfl;rw[ki y8,es];simp only[ak,g,w,l5];rw[q3];exact r _ v q2
end
inductive LM (c:Qb):Prop
 |one:c.kind=1->c.kids=[]->LM c
 |win (k:Qb):c.kind=2->c.kids=[k]->k.shape.length=c.shape.length->c.starts.length=c.shape.length->(∀x∈c.starts,-65536<=x/\x<=65536)->LM c
 |rev (k:Qb):c.kind=3->c.kids=[k]->k.shape=c.shape->c.axis=(c.axis.toNat:Int)->c.axis.toNat<c.shape.length->LM c
 |rot (k:Qb):c.kind=4->c.kids=[k]->k.shape=c.shape->c.axis=(c.axis.toNat:Int)->c.axis.toNat<c.shape.length->0<=c.amount->c.amount<=c.shape.getD c.axis.toNat 0->(c.amount=0\/c.amount<c.shape.getD c.axis.toNat 0)->LM c
 |tra (k:Qb):c.kind=5->c.kids=[k]->c.perm.length=k.shape.length->(∀j∈c.perm,0<=j/\j.toNat<c.shape.length)->(∀i,i<k.shape.length->c.shape.getD (c.perm.getD i 0).toNat 0<=k.shape.getD i 0)->LM c
 |rsh (k:Qb):c.kind=6->c.kids=[k]->LM c
 |cat (k k2:Qb):c.kind=7->c.kids=[k,k2]->c.axis=(c.axis.toNat:Int)->c.axis.toNat<c.shape.length->k.shape.length=c.shape.length->k2.shape.length=c.shape.length->
   c.shape.set c.axis.toNat (k.shape.getD c.axis.toNat 0)=k.shape->c.shape.set c.axis.toNat (k2.shape.getD c.axis.toNat 0)=k2.shape->c.shape[c.axis.toNat]?=some (k.shape.getD c.axis.toNat 0+k2.shape.getD c.axis.toNat 0)->LM c
theorem N6{c:Type}:∀{l:List c},(l.length:Int)=1->∃k,l=[k]
 |[k],_=>⟨k,rfl⟩
 |[],h=>by simp at h
 |_::_::_,h=>by simp at h;omega
theorem O0{c:Type}:∀{l:List c},(l.length:Int)=2->∃k k2,l=[k,k2]
 |[a,b],_=>⟨a,b,rfl⟩
 |[],h=>by simp at h
 |[_],h=>by simp at h
 |_::_::_::_,h=>by simp at h;omega
theorem Ou{c:Qb}(e:CF c)(q:∀k∈c.kids,fH k.shape=0):LM c:=by
 obtain⟨c1,c2,x⟩:=fE e.chk
 have one:c.kind≠1->c.kind≠7->∃k,c.kids=[k]:=λn1 n7=>by
  have:=e.kids;rw[af n7,af n1]at this;exact N6 this
 have y:=e.kind;by_cases k1:c.kind=1
 .refine .one k1 ?_;have:=e.kids;rw[af y8,ai k1]at this;exact aw y8
 by_cases m:c.kind=7
 .obtain⟨k,k2,d⟩:∃k k2,c.kids=[k,k2]:=by
   have:=e.kids;rw[ai m]at this;exact O0 this
  obtain⟨g,f,p,v,l⟩:=e.cat m k k2 [] d;have b1:=(fE (q k (by rw[d];simp))).2.2;have b2:=(fE (q k2 (by rw[d];simp))).2.2;have z:c.shape.set c.axis.toNat (k.shape.getD c.axis.toNat 0)=k.shape:=uW f λj r s=>((l j y8).2 y8).2
  have A:c.shape.set c.axis.toNat (k2.shape.getD c.axis.toNat 0)=k2.shape:=uW y8 λj r s=>by have:=(l j y8).2 y8;omega
  have B:=b1 (k.shape.getD c.axis.toNat 0) (by rw[iy y8];exact zC _);have C:=b2 (k2.shape.getD c.axis.toNat 0) (by rw[iy y8];exact zC _);refine .cat k k2 m d y8 y8 f y8 z A ?_;rw[gy y8,(l c.axis.toNat y8).1 y8,gh y8 y8]
 obtain⟨k,d⟩:=one k1 m;have t:=q k (by rw[d];simp);by_cases k2:c.kind=2
 .obtain⟨g,f,p⟩:=e.win k2;exact .win k k2 d (p k [] d) g f
 by_cases k3:c.kind=3
 .obtain⟨g,f,p⟩:=e.rev (.inl k3) k [] d;exact .rev k k3 d g y8 y8
 by_cases u:c.kind=4
 .obtain⟨g,f,p⟩:=e.rev (.inr u) k [] d;obtain⟨v,l⟩:=e.rot u;have:=x (c.shape.getD c.axis.toNat 0) (by rw[iy y8];exact zC _);exact .rot k u d g y8 y8 v y8 l
 by_cases w:c.kind=5
 .obtain⟨g,f⟩:=e.tra w k [] d;have f:=f λn hn=>((fE t).2.2 n hn).1
  refine .tra k w d g (λj r=>?_) λi hi=>(f i hi).2.2
  obtain⟨i,hi,rfl⟩:=bM r;have:=f i y8;rw[iy hi]at this;omega
 exact .rsh k y8 d
def rB(rsh:List Qa->fj->fj->List Qa)(c:Qb)(d:List (List Qa)):List Qa:=
 if c.kind=1 then(if fw c.shape=0 then[]else[mc c.buffer c.shape])
 else if c.kind=2 then iC ((Dk (js c) c.shape c.starts (d.getD 0 [])).filter fT)
 else if c.kind=3 then iC (((d.getD 0 []).map (mW c.axis.toNat (c.shape.getD c.axis.toNat 0))).filter fT)
 else if c.kind=4 then iC (((d.getD 0 []).flatMap (kE c.axis.toNat c.amount (c.shape.getD c.axis.toNat 0))).filter fT)
 else if c.kind=5 then iC (((d.getD 0 []).map (mi c.perm c.shape)).filter fT)
 else if c.kind=6 then rsh (d.getD 0 []) (js c) c.shape
 else iC (((d.getD 0 []).map (iM c.axis.toNat 0 65536 0)++(d.getD 1 []).map (iM c.axis.toNat 0 65536 ((js c).getD c.axis.toNat 0))).filter fT)
mutual
def mf (rsh:List Qa->fj->fj->List Qa):Qb->List Qa
 |⟨k,c,d,st,e,f,g,ks⟩=>rB rsh ⟨k,c,d,st,e,f,g,ks⟩ (qQ rsh ks)
def qQ (rsh:List Qa->fj->fj->List Qa):List Qb->List (List Qa)
 |[]=>[]
 |k::ks=>mf rsh k::qQ rsh ks
end
theorem E5(rsh:List Qa->fj->fj->List Qa)(c:Qb):mf rsh c=rB rsh c (qQ rsh c.kids):=by
 cases c;rw[mf]
theorem AK{c k:Qb}(d:k∈c.kids):rv k<rv c:=by
 obtain⟨f,g,j,m,n,p,q,ks⟩:=c;rw[rv]
 have:∀{l:List Qb},k∈l->rv k<=qj l:=λ{l}=>by
  induction l with
  |nil=>intro h;simp at h
  |cons a l e=>
   intro h;rw[qj];rcases aq.1 h with rfl|h
   .omega
   .have:=e h;omega
 have:rv k<=qj ks:=this d
 omega
structure RM (G:Qb->Prop) (R:Qb->Qa->Prop) (rsh:List Qa->fj->fj->List Qa):Prop where
 whole:∀c,G c->c.kind=1->fw c.shape≠0->R c (mc c.buffer c.shape)
 win:∀c k,G c->c.kind=2->c.kids=[k]->∀x,okB k.shape x.box.lo x.box.hi->kQ k.shape.length x.access->R k x->fT (pB c.shape c.starts x)=true->R c (pB c.shape c.starts x)
 fil:∀c k,G c->c.kind=2->c.kids=[k]->∀b,okB c.shape b.lo b.hi->(∀i,iB c.shape i=true->jk b.lo b.hi i=true->iB k.shape (List.zipWith (·+·) i c.starts)=false)->R c (l6 b)
 rev:∀c k,G c->c.kind=3->c.kids=[k]->∀x,okB k.shape x.box.lo x.box.hi->kQ k.shape.length x.access->R k x->R c (mW c.axis.toNat (c.shape.getD c.axis.toNat 0) x)
 rot:∀c k,G c->c.kind=4->c.kids=[k]->∀x,okB k.shape x.box.lo x.box.hi->kQ k.shape.length x.access->R k x->∀y∈kE c.axis.toNat c.amount (c.shape.getD c.axis.toNat 0) x,fT y=true->R c y
 per:∀c k,G c->c.kind=5->c.kids=[k]->∀x,okB k.shape x.box.lo x.box.hi->kQ k.shape.length x.access->R k x->fT (mi c.perm c.shape x)=true->R c (mi c.perm c.shape x)
 rsh:∀c k,G c->c.kind=6->c.kids=[k]->∀l,Inv (R k) k.shape l->Inv (R c) c.shape (rsh l k.shape c.shape)
 ct1:∀c k k2,G c->c.kind=7->c.kids=[k,k2]->∀x,okB k.shape x.box.lo x.box.hi->kQ k.shape.length x.access->R k x->R c (iM c.axis.toNat 0 65536 0 x)
 ct2:∀c k k2,G c->c.kind=7->c.kids=[k,k2]->∀x,okB k2.shape x.box.lo x.box.hi->kQ k2.shape.length x.access->R k2 x->R c (iM c.axis.toNat 0 65536 (k.shape.getD c.axis.toNat 0) x)
theorem KS.inv{P:Qa->Prop}{s:fj}{L:List Qa}(h:KS P s L):Inv P s (iC (L.filter fT)):=by
 have d:∀x∈L.filter fT,okB s x.box.lo x.box.hi:=λx c=>by
  obtain⟨k1,k2⟩:=bk.1 c;exact(h.box x k1).2.2 k2
 have e:∀i,iB s i=true->(L.filter fT).countP (gZ i)=1:=λi hi=>by rw[rM];exact h.cnt i hi
 have g:=sL d λi hi=>by have:=e i hi;omega
 have f:=lR (L.filter fT);refine⟨λx c=>d x (f.mem_iff.1 c),λx c=>h.acc x (bk.1 (f.mem_iff.1 c)).1,λx c=>?_,λi hi=>(f.countP_eq _).trans (e i hi),nx g⟩;obtain⟨k1,k2⟩:=bk.1 (f.mem_iff.1 c);exact h.prp x k1 k2
theorem AS{c k:Qb}{r:List Qb}(h:c.kids=k::r):js c=k.shape:=by unfold js;rw[h]
section
variable{bs:List (fj)}{m:Int}{G:Qb->Prop}{R:Qb->Qa->Prop}{rsh:List Qa->fj->fj->List Qa}
def GK(bs:List fj)(m:Int)(G:Qb->Prop):Prop:=∀c,G c->nL bs c/\nD m c/\∀k∈c.kids,G k
theorem GK.chk(d:GK bs m G){c:Qb}(h:G c):fH c.shape=0/\fw c.shape<=m/\c.shape.length<=6:=by
 obtain⟨⟨q0,q1,q2,_⟩,_⟩:=lB (d c h).2.1;exact⟨q1,q2,q0⟩
theorem GK.nod(d:GK bs m G){c:Qb}(h:G c):LM c:=Ou (pZ (d c h).1).1 λk e=>(d.chk ((d c h).2.2 k e)).1
theorem OB{c:Qb}{d:List (List Qa)}(h:c.kind=1):rB rsh c d=if fw c.shape=0 then[]else[mc c.buffer c.shape]:=ai h
theorem O7{c:Qb}{d:List (List Qa)}(h:c.kind=2):rB rsh c d=iC ((Dk (js c) c.shape c.starts (d.getD 0 [])).filter fT):=by
 rw[rB,af y8,ai h]
theorem OQ{c:Qb}{d:List (List Qa)}(h:c.kind=3):rB rsh c d=iC (((d.getD 0 []).map (mW c.axis.toNat (c.shape.getD c.axis.toNat 0))).filter fT):=by
 rw[rB,af y8,af y8,ai h]
theorem OI{c:Qb}{d:List (List Qa)}(h:c.kind=4):rB rsh c d=iC (((d.getD 0 []).flatMap (kE c.axis.toNat c.amount (c.shape.getD c.axis.toNat 0))).filter fT):=by
 rw[rB,af y8,af y8,af y8,ai h]
theorem NQ{c:Qb}{d:List (List Qa)}(h:c.kind=5):rB rsh c d=iC (((d.getD 0 []).map (mi c.perm c.shape)).filter fT):=by
 rw[rB,af y8,af y8,af y8,af y8,ai h]
theorem N3{c:Qb}{d:List (List Qa)}(h:c.kind=6):rB rsh c d=rsh (d.getD 0 []) (js c) c.shape:=by
 rw[rB,af y8,af y8,af y8,af y8,af y8,ai h]
theorem OS{c:Qb}{d:List (List Qa)}(h:c.kind=7):rB rsh c d=iC (((d.getD 0 []).map (iM c.axis.toNat 0 65536 0)++(d.getD 1 []).map (iM c.axis.toNat 0 65536 ((js c).getD c.axis.toNat 0))).filter fT):=by
 rw[rB,af y8,af y8,af y8,af y8,af y8,af y8]
theorem Bb(S:RM G R rsh)(u:GK bs m G):∀(n:Nat) (c:Qb),rv c<=n->G c->Inv (R c) c.shape (mf rsh c)
 |0,c,h,_=>by have:=so c;omega
 |n+1,c,h,e=>by
  obtain⟨r,_,_⟩:=u.chk e
  have sub:∀k∈c.kids,Inv (R k) k.shape (mf rsh k)/\fH k.shape=0:=λk d=>by
   have:=AK d;exact⟨Bb S u n k y8 ((u c e).2.2 k d),(u.chk ((u c e).2.2 k d)).1⟩
  rw[E5];cases u.nod e with
  |one E d=>rw[OB E];exact Hw r λz=>S.whole c e E z
  |win k w d j v q=>
   obtain⟨f,t⟩:=sub k (by rw[d];simp);rw[O7 w,AS d,d,qQ];exact(Fa (Q:=R c) f t r j v q (λx _ g l p y=>S.win c k e w d x g l p y) (λb g K=>S.fil c k e w d b g K)).inv
  |rev k F d j v q=>
   obtain⟨f,t⟩:=sub k (by rw[d];simp);rw[OQ F,d,qQ];rw[j]at f;exact(FM (Q:=R c) f (gy q) (λx _ g l p=>S.rev c k e F d x (by rw[j];exact g) (by rw[j];exact l) p)).inv
  |rot k H d j v q A L P=>
   obtain⟨f,t⟩:=sub k (by rw[d];simp);rw[OI H,d,qQ];rw[j]at f;exact(EO (Q:=R c) f (gy q) A L (λx _ g l p=>S.rot c k e H d x (by rw[j];exact g) (by rw[j];exact l) p)).inv
  |tra k I d j v q=>
   obtain⟨f,t⟩:=sub k (by rw[d];simp);rw[NQ I,d,qQ];exact(FK (Q:=R c) f j v q (λx _ g l p y=>S.per c k e I d x g l p y)).inv
  |rsh k J d=>
   obtain⟨f,t⟩:=sub k (by rw[d];simp);rw[N3 J,AS d,d,qQ];exact S.rsh c k e J d _ f
  |cat k k2 B d j v q A C D M=>
   obtain⟨f,t⟩:=sub k (by rw[d];simp);obtain⟨N,O⟩:=sub k2 (by rw[d];simp);rw[OS B,AS d,d,qQ,qQ]
   exact(Fx (Q:=R c) (s:=c.shape) (k:=c.axis.toNat) (n1:=k.shape.getD c.axis.toNat 0) (n2:=k2.shape.getD c.axis.toNat 0) (P1:=R k) (P2:=R k2) (by rw[C];exact f) (by rw[D];exact N) r (by rw[C];exact t) (by rw[D];exact O) M
    (λx _ g l p=>S.ct1 c k k2 e B d x (by rwa [C]at g) (by rw[q];exact l) p) (λx _ g l p=>S.ct2 c k k2 e B d x (by rwa [D]at g) (by rw[A];exact l) p)).inv
end
def qT(a:Qh):QD:=⟨a.kind,a.buffer,a.base,a.strides,a.start,a.step,a.mod⟩
def pn(x:Qa):Qk:=⟨⟨x.box.lo,x.box.hi⟩,qT x.access⟩
theorem rW:∀{l:List Qa},ja l=true->l.Pairwise λa b=>iG a.box.lo b.box.lo<0
 |[],_=>.nil
 |[a],_=>by simp
 |a::b::l,h=>by
  simp only[ja,jE,zD]at h;have d:=rW h.2;refine aT.2 ⟨λc hc=>?_,d⟩;rcases aq.1 hc with rfl|hc
  .exact h.1
  .exact oU h.1 ((aT.1 d).1 c hc)
theorem KS.dist{P:Qa->Prop}{s:fj}{L:List Qa}(h:KS P s L):(L.filter fT).Pairwise λa b=>a.box.lo≠b.box.lo:=by
 refine sL (s:=s) (λx c=>?_) λi hi=>?_
 .obtain⟨k1,k2⟩:=bk.1 c;exact(h.box x k1).2.2 k2
 .rw[rM,h.cnt i hi];exact j7 _
theorem T9:∀(lo hi c d:fj),c.length=d.length->lo.length=hi.length->c.length+lo.length<=600->YN (⟨c++lo,d++hi⟩,(c.length:Int))=some (if fW lo hi=true then .inr ()else .inl ())
 |[],[],c,d,f,j,h=>by
  rw[YN];simp only[Za,aj];rfl
 |l::lo,h::hi,c,d,f,j,hl=>by
  rw[YN];have k:idx (d++h::hi) (c.length:Int)=some h:=by rw[f];exact Qy
  have e:=T9 lo hi (c++[l]) (d++[h]) (by simp[f]) (by simpa using j) (by simp at hl |-;omega);rw[<-Qv,<-Qv]at e;simp only[Q4,ak,k,Qy,Qc,Ed hl,e,fW];by_cases g:l<h
  .rw[af (show¬l>=h by omega)];simp only[g,decide_true,aY]
  .rw[ai (show l>=h by omega)];simp only[g,y3,cu];rfl
 |[],_::_,_,_,_,h,_=>by cases h
 |_::_,[],_,_,_,h,_=>by cases h
theorem I5{lo hi:fj}(h:lo.length=hi.length)(hl:lo.length<=600):X5 ⟨lo,hi⟩=some (!fW lo hi):=by
 have e:=T9 lo hi [] [] rfl h (by simpa using hl);simp only[jQ,jL,jJ]at e;simp only[X5,e,Qc];cases fW lo hi<;>rfl
theorem BO:∀(a b p q:fj),a.length=b.length->p.length=q.length->p.length+a.length<=600->Y1 (p++a,q++b,(p.length:Int))=some (if a=b then .inr ()else .inl (decide (iG a b<0)))
 |[],[],p,q,_,_,_=>by
  rw[Y1];simp only[Za,aj,Qc,j6];rfl
 |x::a,y::b,p,q,j,d,hl=>by
  rw[Y1];have l2:((p.length:Int)<((q++y::b).length:Int)):=by rw[d];exact Q4
  have k:idx (q++y::b) (p.length:Int)=some y:=by rw[d];exact Qy
  simp only[Q4,ak,l2,decide_true,Qc,Qy,k];by_cases g:x=y
  .have f:=BO a b (p++[x]) (q++[y]) (by simpa using j) (by simp[d]) (by simp at hl |-;omega);rw[<-Qv,<-Qv]at f;subst g;simp only[ne_eq,not_true,aj];rw[Ed hl];refine f.trans ?_;simp[iG]
  .have:¬(x::a=y::b):=λe=>g (List.cons.inj e).1
   rw[af this,ai g];simp only[iG];by_cases c:x<y
   .simp[c]
   .have:y<x:=by omega
    simp[c,this]
 |[],_::_,_,_,h,_,_=>by simp at h
 |_::_,[],_,_,h,_,_=>by simp at h
theorem Kw{a b:fj}(c:a.length=b.length)(hl:a.length<=600):Jz (a,b)=some (decide (iG a b<0)):=by
 have e:=BO a b [] [] c rfl y9;simp only[jQ,jL,jJ]at e;simp only[Jz,e,Qc];by_cases g:a=b
 .subst g;simp[qF]
 .simp only[g,aj]
theorem og:∀(l h:fj) (k:Nat) (a b:Int),k<l.length->k<h.length->fW (l.set k a) (h.set k b)=(decide (a<b) &&fW (l.eraseIdx k) (h.eraseIdx k))
 |c::l,d::h,0,a,b,_,_=>by simp[fW]
 |c::l,d::h,k+1,a,b,e,f=>by
  have g:=og l h k a b (by simpa using e) (by simpa using f);simp only[bZ,fW,g,dY];cases decide (c<d)<;>cases decide (a<b)<;>simp
 |[],_,k,_,_,h,_=>by simp at h
 |_::_,[],k,_,_,_,h=>by simp at h
section
variable{P:Qa->Prop}{s:fj}{k:Nat}{n:Int}
end
def Sq(a:Qh):Prop:=W a.base=a.base/\W a.start=a.start
section
variable{P1 P2:Qa->Prop}{s:fj}{k:Nat}{n1 n2:Int}
end
theorem HC{l:fj}{i j:Nat}{v:Int}(hi:i<l.length):(l.set i v).getD j 0=if i=j then v else l.getD j 0:=by
 simp only[jB,zE,hi,ak];split <;>rfl
section
variable{P:Qa->Prop}{s s0 perm:fj}
end
theorem On{l h t n:Int}(c:0<=t):((if W (l - n)<0 then 0 else W (l - n))<(if t<W (h - n)then t else W (h - n))↔Bf l t n<GM l h t n)/\
  ((if W (l - n)<0 then 0 else W (l - n))<(if t<W (h - n)then t else W (h - n))->(if W (l - n)<0 then 0 else W (l - n))=Bf l t n/\(if t<W (h - n)then t else W (h - n))=GM l h t n):=by
 unfold GM Bf;generalize W (l - n)=x;generalize W (h - n)=y;refine⟨?_,?_⟩
 .split <;>split <;>split <;>(try split)<;>omega
 .intro h;constructor <;>(split at h<;>split at h<;>(try split)<;>(try split)<;>(try split)<;>omega)
section
variable{p0 v2 p1:Qx}{i n:Nat}{out:List Qx}{LO HI:fj}
end
section
variable{P:Qa->Prop}{s s0 st:fj}
end
-- Plain laws: small shapes, strides, indices in order.
theorem K0(p:fj)(i:Nat)(n:Int)(hi:idx p (i:Int)=some n)(out:List fj)(k:Nat)(a:fj)(c:idx out (k:Int)=some a)(f:a.length<=1000)(base:List fj):
  ∀(m j:Nat),j+m=n.toNat->base.length+n.toNat<=1000000->Xm (p,(i:Int),out,(k:Int),base++((List.range j).map λ(x:Nat)=>a++[(x:Int)]),(j:Int))=some (base++C2 n a)
 |0,j,d,e=>by
  rw[Xm]
  have:¬((j:Int)<n):=by omega
  simp only[hi,Qc,this,aj];rw[C2,<-d];rfl
 |m+1,j,d,e=>by
  rw[Xm];have g:((j:Int)<n):=by omega
  have l:=K0 p i n hi out k a c f base m (j+1) y8 e;have w:W ((j:Int)+1)=((j+1:Nat):Int):=NR y8;have q:app 8 ([]:fj) a=some a:=by rw[gj y9 y8];rfl
  have r:app 8 a [(j:Int)]=some (a++[(j:Int)]):=gj y9 y8
  have s:app 24 (base++((List.range j).map λ(x:Nat)=>a++[(x:Int)])) [a++[(j:Int)]]=some (base++((List.range (j+1)).map λ(x:Nat)=>a++[(x:Int)])):=by
   rw[gj y9 y8,ej];simp
  simp only[hi,Qc,g,ak,c,q,r,s,w,l]
theorem Lw(p:fj)(i:Nat)(n:Int)(hi:idx p (i:Int)=some n):∀(s q:List fj),(∀a∈s,a.length<=1000)->((q++s).length+1)*(max n.toNat 1)<=1000000->
  YV (q++s,p,(i:Int),oD q n,(q.length:Int))=some (oD (q++s) n)
 |[],q,d,c=>by
  rw[YV];simp only[jU,Int.lt_irrefl,aj]
 |a::s,q,d,c=>by
  rw[YV];have hm:(q++a::s).length+1<=1000000:=jW (aD _ y8) c
  have g:(oD q n).length+n.toNat<=1000000:=by
   rw[u7];have j:q.length*n.toNat+n.toNat=(q.length+1)*n.toNat:=by rw[av,bA]
   rw[j];refine jW (dA ?_ ?_) c
   .simp
   .omega
  have e:=K0 p i n hi (q++a::s) q.length a Qy (d a (jM ..)) (oD q n) n.toNat 0 y8 g;have f:=Lw p i n hi s (q++[a]) (λx k=>d x (jG _ k)) (by rw[<-Qv];exact c);rw[<-Qv]at f;simp only[List.range_zero,aN,jU,jJ]at e;have l:oD (q++[a]) n=oD q n++C2 n a:=by unfold oD;rw[dx];simp
  simp only[Q4,ak,e,Qc,lk (jf (show(q++a::s).length<=1000000 by omega)),<-l,f]
theorem IW:∀(s p:fj) (out:List fj),(p++s).length<=900->(∀a∈out,a.length=p.length)->(out.length+1)*pm s<=500000->YU (p++s,out,(p.length:Int))=some (s.foldl oD out)
 |[],p,out,c,f,d=>by
  rw[YU];simp only[Za,aj,List.foldl_nil]
 |n::s,p,out,c,f,d=>by
  rw[YU];have k:=HP s;rw[pm,<-Nat.mul_assoc]at d;have b1:(out.length+1)*max n.toNat 1<=500000:=jW (aD _ k) d;have e:YV (out,p++n::s,(p.length:Int),[],0)=some (oD out n):=Lw (p++n::s) p.length n Qy out [] (λa g=>by have:=f a g;simp at c;omega) (jW b1 y8)
  have j:=IW s (p++[n]) (oD out n) (by rw[<-Qv];exact c) (λa g=>by rw[Dc f a g];simp) (by
   refine jW (au _ ?_) d;rw[u7,av,bA];have:=e7 out.length (show n.toNat<=max n.toNat 1 by omega);omega)
  rw[<-Qv]at j;simp only[Q4,ak,e,Qc,lk (jf c),j,cd]
theorem KR{s:fj}(c:s.length<=900)(h:pm s<=250000):Yc s=some (ig s):=by
 have e:YU (s,[[]],0)=some (s.foldl oD [[]]):=IW s [] [[]] c yA (by simpa using by omega);simp only[Yc,e,Qc,Mo]
theorem Gv{m:Int}{s:fj}(h:s9 m s)(hm:1<=m/\m<=2500):Yc s=some (ig s):=KR (by have:=h.1;omega) (by have:=IC h hm.1;omega)
theorem FU:∀(s t p q:fj) (x:Int),p.length=q.length->(p++s).length<=1000->(q++t).length<=1000->YW (p++s,q++t,x,(p.length:Int))=some (l4 s t x)
 |[],t,p,q,x,h,c,d=>by
  rw[YW];simp only[Za,aj,Qc,j6,l4]
 |a::s,[],p,q,x,h,c,d=>by
  rw[YW]
  have:¬((p.length:Int)<((q++([]:fj)).length:Int)):=by simp;omega
  simp only[Q4,ak,this,y3,Qc,j6,aj,l4]
 |a::s,b::t,p,q,x,h,c,d=>by
  rw[YW];have f:((p.length:Int)<((q++b::t).length:Int)):=by simp;omega
  have g:idx (q++b::t) (p.length:Int)=some b:=by rw[h];exact Qy
  have e:=FU s t (p++[a]) (q++[b]) (W (x+W (a*b))) (by simp[h]) (by simpa using c) (by simpa using d);rw[<-Qv,<-Qv]at e;have w:W ((p.length:Int)+1)=((p++[a]).length:Int):=lk (jf c);simp only[Q4,ak,f,decide_true,Qc,Qy,g,w,e,l4]
theorem uV{a b:fj}(c:a.length<=1000)(d:b.length<=1000):Pc (a,b)=some (l4 a b 0):=by
 have e:=FU a b [] [] 0 rfl (by simpa using c) (by simpa using d);simp only[jQ,jL,jJ]at e;unfold Pc;simp only[e,Qc]
-- Plain laws: runs of origins, of the program and of the reference.
def ng(c:Qi):Prop:=(0<=c.buffer/\c.buffer<=100000)/\(0<=c.offset/\c.offset<=200)/\(c.fill=true->c.buffer=0/\c.offset=0)
def nr(c:Qi):Qw:=⟨c.fill,c.buffer,c.offset⟩
def ce(l:List Qi)(i:Nat):Qi:=l.getD i ⟨false,0,0⟩
def sR(l:List Qi)(a:Nat):Int:=if a+1<l.length/\(ce l a).fill=false/\(ce l (a+1)).fill=false/\(ce l (a+1)).buffer=(ce l a).buffer then(ce l (a+1)).offset - (ce l a).offset else 0
def pM(c:Qi)(st:Int)(k:Nat):Qi:=if c.fill=true then⟨true,0,0⟩else⟨false,c.buffer,c.offset+k*st⟩
def yh(a b:Qi):Bool:=a.fill==b.fill &&(a.buffer==b.buffer &&a.offset==b.offset)
theorem qL{a b:Qi}:yh a b=true↔a=b:=by
 obtain⟨f,x,y⟩:=a;obtain⟨g,z,w⟩:=b;simp[yh]
def E4(l:List Qi)(a k:Nat):Bool:=yh (ce l (a+k)) (pM (ce l a) (sR l a) k)
def ext(l:List Qi)(a:Nat):Nat->Nat->Nat
 |0,n=>n
 |f+1,n=>if E4 l a n=true then ext l a f (n+1)else n
def mJ(l:List Qi)(a:Nat):Nat:=ext l a (l.length - (a+1)) 1
def IL(l:List Qi)(a:Nat):Qq:=⟨a,mJ l a,(ce l a).fill,(ce l a).buffer,(ce l a).offset,sR l a⟩
def Fi(l:List Qi):Nat->Nat->List Qq
 |0,_=>[]
 |f+1,a=>if a<l.length then IL l a::Fi l f (a+mJ l a)else[]
def gm(r:Qq):Qs:=⟨r.at0_,r.len,r.fill,r.buffer,r.offset,r.step⟩
theorem Ev(l:List Qi)(a:Nat):∀f n,n<=ext l a f n/\ext l a f n<=n+f
 |0,n=>⟨j7 _,j7 _⟩
 |f+1,n=>by
  rw[ext];split
  .have:=Ev l a f (n+1);omega
  .omega
theorem AE(l:List Qi)(a:Nat):∀f n k,n<=k->k<ext l a f n->E4 l a k=true
 |0,n,k,d,c=>by rw[ext]at c;omega
 |f+1,n,k,d,c=>by
  rw[ext]at c;split at c
  .rename_i h;by_cases e:n=k
   .subst e;exact h
   .exact AE l a f (n+1) k y8 c
  .omega
theorem AD{l:List Qi}{a:Nat}(h:a<l.length):1<=mJ l a/\a+mJ l a<=l.length:=by
 have:=Ev l a (l.length - (a+1)) 1;unfold mJ;omega
theorem tb{l:List Qi}{i:Nat}(h:i<l.length):idx l (i:Int)=some (ce l i):=by
 rw[oP h];simp[ce,h]
theorem Se{l:List Qi}{i:Nat}(h:i<l.length):idx (l.map nr) (i:Int)=some (nr (ce l i)):=by
 rw[oP (by simpa using h)];simp[ce,h]
theorem lQ{l:List Qi}{i:Nat}(h:i<l.length):ce l i∈l:=by simp[ce,h]
theorem Nk{l:List Qi}(hc:∀c∈l,ng c)(a:Nat)(d:a<l.length):-200<=sR l a/\sR l a<=200:=by
 unfold sR;split
 .rename_i h;have e:=(hc _ (lQ d)).2.1;have f:=(hc _ (lQ h.1)).2.1;omega
 .omega
theorem pz{a b A B:Int}(g:-A<=a)(j:a<=A)(k:-B<=b)(l:b<=B):-(A*B)<=a*b/\a*b<=A*B:=by
 have m:0<=A:=by omega
 have hB:0<=B:=by omega
 have c:0<=(A - a)*(B+b):=cr y8 y8;have d:0<=(A+a)*(B - b):=cr y8 y8;have e:0<=(A - a)*(B - b):=cr y8 y8;have f:0<=(A+a)*(B+b):=cr y8 y8;simp only[eG,cH,eF,dD]at c d e f;constructor <;>omega
theorem M1(r:Qs)(c:Qi)(k:Nat)(n:k<=600)(f:r.fill=c.fill)(g:r.buffer=c.buffer)(j:r.offset=c.offset)(p:0<=c.offset/\c.offset<=200)(d:-200<=r.step/\r.step<=200):
  JH (r,(k:Int))=some (nr (pM c r.step k)):=by
 unfold JH pM;dsimp only;rw[f];by_cases e:c.fill=true
 .simp only[e,ak];rfl
 .have:=pz (a:=(k:Int)) (b:=r.step) (A:=600) (B:=200) y8 y8 d.1 d.2;have l:W ((k:Int)*r.step)=k*r.step:=gh y8 y8;have m:W (r.offset+k*r.step)=c.offset+k*r.step:=by rw[j];exact gh y8 y8
  simp only[e,aj,l,m,g];rfl
theorem lJ(a b:Qi):(!(((nr a).fill==(nr b).fill) &&(((nr a).buffer==(nr b).buffer) &&(((nr a).offset==(nr b).offset) &&true))))=!yh a b:=by
 simp[yh,nr]
theorem Im{l:List Qi}{a:Nat}(e:a<l.length)(hc:∀c∈l,ng c):PK ((l.drop a).map nr,(a:Int))=some ⟨a,1,(ce l a).fill,(ce l a).buffer,(ce l a).offset,sR l a⟩:=by
 have j:l.drop a=ce l a::l.drop (a+1):=by
  rw[aU e];simp[ce,e]
 unfold PK;have h0:idx ((l.drop a).map nr) 0=some (nr (ce l a)):=by rw[j];rfl
 simp only[h0,Qc];by_cases h:a+1<l.length
 .have f:l.drop (a+1)=ce l (a+1)::l.drop (a+2):=by
   rw[aU h];simp[ce,h]
  have m:idx ((l.drop a).map nr) 1=some (nr (ce l (a+1))):=by rw[j,f];rfl
  have hl:(((l.drop a).map nr).length:Int)>1:=by simp;omega
  simp only[hl,ak,Qc,m];have b1:=(hc _ (lQ e)).2.1;have b2:=(hc _ (lQ h)).2.1;have n:W ((nr (ce l (a+1))).offset - (nr (ce l a)).offset)=(ce l (a+1)).offset - (ce l a).offset:=gh (by simp[nr];omega) (by simp[nr];omega);rw[n];unfold sR;by_cases d:(ce l a).fill=true
  .simp[nr,d]
  .by_cases g:(ce l (a+1)).fill=true
   .simp[nr,d,g]
   .by_cases k:(ce l (a+1)).buffer=(ce l a).buffer
    .simp[nr,d,g,k,h]
    .simp[nr,d,g,k]
 .have hl:¬((((l.drop a).map nr).length:Int)>1):=by simp;omega
  simp only[hl,aj,Qc];simp[nr,sR,h]
theorem HN{l:List Qi}(hl:l.length<=600)(hc:∀c∈l,ng c){a:Nat}(e:a<l.length)(out:List Qs)(s:out.length<=600)(r:Qs)(g:r=⟨a,1,(ce l a).fill,(ce l a).buffer,(ce l a).offset,sR l a⟩):
  ∀(f n:Nat),1<=n->a+n+f=l.length->XB (l.map nr,r,out,(n:Int),((a+n - 1:Nat):Int))=some (((ext l a f n:Nat):Int),out++[(⟨a,((ext l a f n:Nat):Int),(ce l a).fill,(ce l a).buffer,(ce l a).offset,sR l a⟩:Qs)],((a+ext l a f n:Nat):Int))
 |0,n,t,u=>by
  rw[XB];have j:W (((a+n - 1:Nat):Int)+1)=((a+n:Nat):Int):=by rw[p5 y8];omega
  have k:(((a+n:Nat):Int)=((l.map nr).length:Int)):=by simp;omega
  subst g;simp only[j,k,ak,Qc,ext];rw[gj y9 y8,Qc]
 |f+1,n,t,u=>by
  rw[XB];have j:W (((a+n - 1:Nat):Int)+1)=((a+n:Nat):Int):=by rw[p5 y8];omega
  have k:¬(((a+n:Nat):Int)=((l.map nr).length:Int)):=by simp;omega
  have m:a+n<l.length:=by omega
  have hst:=Nk hc a e;have p:=(hc _ (lQ e)).2.1;have d:=M1 (⟨a,(n:Int),(ce l a).fill,(ce l a).buffer,(ce l a).offset,sR l a⟩:Qs) (ce l a) n y8 rfl rfl rfl p hst;have v:=HN hl hc e out s r g f (n+1) y8 y8;subst g;simp only[j,k,aj,Se m,Qc,d,lJ];have hm:E4 l a n=yh (ce l (a+n)) (pM (ce l a) (sR l a) n):=rfl;rw[ext];rw[<-hm];cases w:E4 l a n with
  |true=>
   simp only[bC,j6,aj,ak];have q:W ((n:Int)+1)=((n+1:Nat):Int):=p5 y8;rw[q,show a+n=a+(n+1) - 1 by omega];exact v
  |false=>
   simp only[Bool.not_false,ak,j6,aj];rw[gj y9 y8,Qc]
theorem I4{l:List Qi}(hl:l.length<=600)(hc:∀c∈l,ng c):∀(f a:Nat) (out:List Qs),a<=l.length->l.length - a<=f->out.length<=a->XA (l.map nr,out,(a:Int))=some (out++(Fi l f a).map gm)
 |0,a,out,g,j,k=>by
  rw[XA]
  have:¬((a:Int)<((l.map nr).length:Int)):=by simp;omega
  simp only[this,aj,Fi,aN,jU]
 |f+1,a,out,g,j,k=>by
  rw[XA,Fi];by_cases h:a<l.length
  .have d:(a:Int)<((l.map nr).length:Int):=by simp;omega
   have m:sub (l.map nr) (a:Int) ((l.map nr).length:Int)=some ((l.drop a).map nr):=by
    unfold sub;rw[ai ⟨by omega,by omega,aC _⟩];rw[List.map_drop];simp only[cJ,cO]
   have e:=HN hl hc h out y8 _ rfl (l.length - (a+1)) 1 (j7 _) y8;simp only[show a+1 - 1=a by omega]at e;have n:XB (l.map nr,⟨a,1,(ce l a).fill,(ce l a).buffer,(ce l a).offset,sR l a⟩,out,1,(a:Int))=some (((mJ l a:Nat):Int),out++[gm (IL l a)],((a+mJ l a:Nat):Int)):=e;have hn:=AD h;simp only[d,ak,m,Qc,Im h hc,n,h];rw[I4 hl hc f (a+mJ l a) _ hn.2 y8 y9];simp
  .have d:¬((a:Int)<((l.map nr).length:Int)):=by simp;omega
   simp[d,h]
def Hk(l:List Qi):List Qq:=Fi l l.length 0
theorem Oo{l:List Qi}(hl:l.length<=600)(hc:∀c∈l,ng c):Pf (l.map nr)=some ((Hk l).map gm):=by
 have e:=I4 hl hc l.length 0 [] y8 y8 yA;have e':XA (l.map nr,[],0)=some ((Hk l).map gm):=e;simp only[Pf,e',Qc]
def K8(q:List Qi)(j:Nat):Prop:=(ce q j).fill=(ce q 0).fill/\(ce q j).buffer=(ce q 0).buffer/\(ce q j).offset - (ce q (j - 1)).offset=(ce q 1).offset - (ce q 0).offset
theorem Lk{q:List Qi}(n:q.length<=600)(hc:∀c∈q,ng c):∀(f i:Nat),1<=i->i+f=q.length->∃r,Xd (q,(i:Int))=some r/\(r=.inr ()↔∀j,i<=j->j<q.length->K8 q j)
 |0,i,p,s=>by
  rw[Xd]
  have:¬((i:Int)<(q.length:Int)):=by omega
  simp only[this,aj];exact⟨_,rfl,by simp;intro j a b;omega⟩
 |f+1,i,p,s=>by
  rw[Xd];have k:(i:Int)<(q.length:Int):=by omega
  obtain⟨r,e,t⟩:=Lk n hc f (i+1) y8 y8;have u:idx q 0=some (ce q 0):=tb (i:=0) y8;have v:idx q 1=some (ce q 1):=tb (i:=1) y8;have w:idx q (i:Int)=some (ce q i):=tb y8;have m:W ((i:Int) - 1)=((i - 1:Nat):Int):=by rw[gh y8 y8];omega
  have x:idx q ((i - 1:Nat):Int)=some (ce q (i - 1)):=tb y8;have C:=(hc _ (lQ (i:=0) (l:=q) y8)).2.1;have b1:=(hc _ (lQ (i:=1) (l:=q) y8)).2.1;have bi:=(hc _ (lQ (i:=i) (l:=q) y8)).2.1;have D:=(hc _ (lQ (i:=i - 1) (l:=q) y8)).2.1;have y:W ((ce q i).offset - (ce q (i - 1)).offset)=(ce q i).offset - (ce q (i - 1)).offset:=gh y8 y8;have z:W ((ce q 1).offset - (ce q 0).offset)=(ce q 1).offset - (ce q 0).offset:=gh y8 y8;simp only[k,ak,w,u,v,m,x,Qc,y,z,p5 (show i<=1000000 by omega),e]
  have key:(∀j,i<=j->j<q.length->K8 q j)↔K8 q i/\∀j,i+1<=j->j<q.length->K8 q j:=by
   constructor
   .exact λh=>⟨h i (j7 _) y8,λj a b=>h j y8 b⟩
   .rintro⟨A,B⟩ j a b
    by_cases e:i=j
    .subst e;exact A
    .exact B j y8 b
  rw[key];by_cases c1:(ce q i).fill=(ce q 0).fill
  .by_cases c2:(ce q i).buffer=(ce q 0).buffer
   .by_cases g:(ce q i).offset - (ce q (i - 1)).offset=(ce q 1).offset - (ce q 0).offset
    .have d:K8 q i:=⟨c1,c2,g⟩;simp only[c1,c2,g,bne_self_eq_false,j6,aj,Qc];exact⟨r,rfl,by simp[t,d]⟩
    .have d:¬K8 q i:=λh=>g h.2.2
     simp[c1,c2,g,d]
   .have d:¬K8 q i:=λh=>c2 h.2.1
    simp[c1,c2,d]
  .have d:¬K8 q i:=λh=>c1 h.1
   have:((ce q i).fill !=(ce q 0).fill)=true:=by simp[c1]
   simp[this,d]
theorem Ox{l:List Qi}{a m j:Nat}(h:j<m)(c:a+m<=l.length):ce ((l.drop a).take m) j=ce l (a+j):=by
 simp[ce,jB,jR,h]
theorem rp{c:Qi}{st:Int}(d:c.fill=false)(k:Nat):pM c st k=⟨false,c.buffer,c.offset+k*st⟩:=by simp[pM,d]
theorem MH{l:List Qi}(hc:∀c∈l,ng c){a n:Nat}(hn:1<=n)(h:a+n<l.length)(g:∀k,1<=k->k<n->E4 l a k=true):
  (∀j,1<=j->j<n+1->K8 ((l.drop a).take (n+1)) j)↔E4 l a n=true:=by
 have d:∀j,j<=n->ce ((l.drop a).take (n+1)) j=ce l (a+j):=λj A=>Ox y8 y8
 have y:∀j,j<=n->(ce l (a+j)).fill=true->ce l (a+j)=⟨true,0,0⟩:=λj A p=>by
  have:=(hc _ (lQ (l:=l) (i:=a+j) y8)).2.2 p;generalize ce l (a+j)=x at p this;obtain⟨f,b,o⟩:=x;simp at p this;simp[p,this]
 have hm:∀j,E4 l a j=true↔ce l (a+j)=pM (ce l a) (sR l a) j:=λj=>qL
 by_cases p:(ce l a).fill=true
 .have q:∀j,E4 l a j=true↔ce l (a+j)=⟨true,0,0⟩:=λj=>by rw[hm,pM,ai p]
  have r:=y 0 y8 p;rw[zX a]at r;rw[q];constructor
  .intro H;have:=(H n hn y8).1;rw[d n (j7 _),d 0 y8,zX a,p]at this;exact y n (j7 _) this
  .intro H j B C
   have e:∀k,k<=n->ce l (a+k)=⟨true,0,0⟩:=λk D=>by
    by_cases t:k=0
    .subst t;exact r
    .by_cases u:k=n
     .subst u;exact H
     .exact(q k).1 (g k y8 y8)
   unfold K8;rw[d j y8,d 0 y8,d (j - 1) y8,d 1 y8,e j y8,e 0 y8,e (j - 1) y8,e 1 y8];exact⟨rfl,rfl,rfl⟩
 .have m:(ce l a).fill=false:=by simpa using p
  have q:∀j,E4 l a j=true↔ce l (a+j)=⟨false,(ce l a).buffer,(ce l a).offset+j*sR l a⟩:=λj=>by rw[hm,rp m]
  constructor
  .intro H;obtain⟨p1,z,_⟩:=H 1 (j7 _) y8;rw[d 1 y8,d 0 y8,zX a]at p1 z
   have hst:sR l a=(ce l (a+1)).offset - (ce l a).offset:=by
    unfold sR;rw[ai ⟨by omega,m,by rw[p1,m],z⟩]
   obtain⟨q1,q2,q3⟩:=H n hn y8;rw[d n (j7 _),d 0 y8,zX a]at q1 q2;rw[d n (j7 _),d 0 y8,d (n - 1) y8,d 1 y8,zX a,<-hst]at q3;rw[q]
   have s:(ce l (a+(n - 1))).offset=(ce l a).offset+((n - 1:Nat):Int)*sR l a:=by
    by_cases n1:n=1
    .subst n1;simp
    .have:=(q (n - 1)).1 (g (n - 1) y8 y8);rw[this]
   have v:(ce l (a+n)).offset=(ce l a).offset+(n:Int)*sR l a:=by
    have w:((n:Nat):Int)=((n - 1:Nat):Int)+1:=by omega
    rw[w,cH,cq];omega
   generalize E:ce l (a+n)=x at q1 q2 v;obtain⟨f,b,o⟩:=x;simp at q1 q2 v;simp[q1,m,q2,v]
  .intro H j B C
   have e:∀k,k<=n->ce l (a+k)=⟨false,(ce l a).buffer,(ce l a).offset+k*sR l a⟩:=λk D=>by
    by_cases t:k=0
    .subst t
     have:ce l (a+0)=ce l a:=rfl
     rw[this];generalize ce l a=x at m;obtain⟨f,b,o⟩:=x;simp at m;simp[m]
    .by_cases u:k=n
     .subst u;exact(q k).1 H
     .exact(q k).1 (g k y8 y8)
   unfold K8;rw[d j y8,d 0 y8,d (j - 1) y8,d 1 y8,e j y8,e 0 y8,e (j - 1) y8,e 1 y8];refine⟨rfl,rfl,?_⟩;simp only;have w:((j:Nat):Int)=((j - 1:Nat):Int)+1:=by omega
   rw[w,cH];simp;omega
theorem HR{l:List Qi}(hl:l.length<=600)(hc:∀c∈l,ng c){a:Nat}(v:a<l.length)(out:List Qq):
  ∀(f n:Nat),1<=n->a+n+f=l.length->(∀k,1<=k->k<n->E4 l a k=true)->JM ((a:Int),l,out,(n:Int))=some ((ext l a f n:Nat):Int)
 |0,n,t,w,g=>by
  rw[JM];have j:W ((a:Int)+n)=((a+n:Nat):Int):=by rw[gh y8 y8];omega
  have:¬(((a+n:Nat):Int)<(l.length:Int)):=by omega
  simp only[j,this,aj,ext,Qc,j6]
 |f+1,n,t,w,g=>by
  rw[JM,ext];have j:W ((a:Int)+n)=((a+n:Nat):Int):=by rw[gh y8 y8];omega
  have m:((a+n:Nat):Int)<(l.length:Int):=by omega
  have x:sub l (a:Int) ((a+n+1:Nat):Int)=some ((l.drop a).take (n+1)):=by
   unfold sub;rw[ai ⟨by omega,by omega,by omega⟩];rw[cJ,cJ,List.drop_take];rw[show a+n+1 - a=n+1 by omega]
  have d:((l.drop a).take (n+1)).length=n+1:=by simp;omega
  obtain⟨r,e,p⟩:=Lk (q:=(l.drop a).take (n+1)) (by rw[d];omega) (λc h=>hc c (dt (zR h))) n 1 (j7 _) (by rw[d];omega);rw[d,MH hc t y8 g]at p
  have y:Th ((l.drop a).take (n+1))=some (E4 l a n):=by
   have e':Xd ((l.drop a).take (n+1),1)=some r:=e;simp only[Th,e',Qc];cases r with
   |inl u=>cases s:E4 l a n with
    |true=>have:=p.2 s;cases this
    |false=>rfl
   |inr u=>rw[p.1 rfl]
  simp only[j,m,ak,p5 (show a+n<=1000000 by omega),x,Qc,y];cases s:E4 l a n with
  |true=>
   simp only[ak,p5 (show n<=1000000 by omega)]
   exact HR hl hc v out f (n+1) y8 y8 λk k1 k2=>by
    by_cases e:k=n
    .subst e;exact s
    .exact g k k1 y8
  |false=>simp
theorem AT{l:List Qi}(hl:l.length<=600)(hc:∀c∈l,ng c):∀(f a:Nat) (out:List Qq),a<=l.length->l.length - a<=f->out.length<=a->JL (l,out,(a:Int))=some (out++Fi l f a)
 |0,a,out,A,B,C=>by
  rw[JL]
  have:¬((a:Int)<(l.length:Int)):=by omega
  simp[this,Fi]
 |f+1,a,out,A,B,C=>by
  rw[JL,Fi];by_cases h:a<l.length
  .have p:(a:Int)<(l.length:Int):=by omega
   have hn:=AD h;have D:JM ((a:Int),l,out,1)=some ((mJ l a:Nat):Int):=HR hl hc h out (l.length - (a+1)) 1 (j7 _) y8 λk k1 k2=>by omega
   have s:W ((a:Int)+(mJ l a:Nat))=((a+mJ l a:Nat):Int):=by rw[gh y8 y8];omega
   have t:=hc _ (lQ h)
   have d:(⟨(a:Int),((mJ l a:Nat):Int),(ce l a).fill,if(ce l a).fill=false then(ce l a).buffer else 0,if(ce l a).fill=false then(ce l a).offset else 0,if(ce l a).fill=false/\((mJ l a:Nat):Int)>1 then(ce l (a+1)).offset - (ce l a).offset else 0⟩:Qq)=IL l a:=by
    unfold IL;by_cases j:(ce l a).fill=true
    .obtain⟨E,F⟩:=t.2.2 j;simp[j,E,F,sR]
    .have m:(ce l a).fill=false:=by simpa using j
     by_cases e:((mJ l a:Nat):Int)>1
     .have hm:=AE l a (l.length - (a+1)) 1 1 (j7 _) (by show 1<mJ l a;omega);have q:ce l (a+1)=pM (ce l a) (sR l a) 1:=qL.1 hm;rw[rp m]at q
      have:(ce l (a+1)).offset - (ce l a).offset=sR l a:=by rw[q];simp;omega
      simp[m,e,this]
     .have u:mJ l a=1:=by omega
      have:sR l a=0:=by
       unfold sR;split
       .rename_i v
        exfalso
        have hm:E4 l a 1=true:=by
         refine qL.2 ?_;rw[rp m];have G:sR l a=(ce l (a+1)).offset - (ce l a).offset:=by unfold sR;rw[ai v]
         rw[G];obtain⟨_,_,w,y⟩:=v;generalize ce l (a+1)=x at w y |-;obtain⟨f,b,o⟩:=x;simp at w y;simp[w,y];omega
        have:2<=mJ l a:=by
         unfold mJ;obtain⟨g,H⟩:∃g,l.length - (a+1)=g+1:=⟨l.length - (a+1) - 1,by have:=v.1;omega⟩;rw[H,ext,ai hm];exact(Ev l a g 2).1
        omega
       .rfl
      simp[m,u,this]
   rw[ai h,ai p];simp only[D,Qc,tb h];by_cases j:(ce l a).fill=false
   .by_cases e:((mJ l a:Nat):Int)>1
    .have n:a+1<l.length:=by omega
     have b1:=hc _ (lQ n);have z:W ((ce l (a+1)).offset - (ce l a).offset)=(ce l (a+1)).offset - (ce l a).offset:=gh (by have:=b1.2.1;have:=t.2.1;omega) (by have:=b1.2.1;have:=t.2.1;omega);simp only[j,e,ak,Qc,decide_true,p5 (show a<=1000000 by omega),tb n,z];simp only[j,e,ak,and_self]at d;rw[d,gj y9 y8,Qc,s,AT hl hc f (a+mJ l a) _ hn.2 y8 y9];simp
    .simp only[j,e,ak,Qc,y3,j6,aj];simp only[j,e,ak,and_false,aj]at d;rw[d,gj y9 y8,Qc,s,AT hl hc f (a+mJ l a) _ hn.2 y8 y9];simp
   .have I:¬(true=false):=by simp
    have r:(ce l a).fill=true:=by simpa using j
    simp only[r,reduceCtorEq,aj,Qc];simp only[r,reduceCtorEq,aj,false_and]at d;rw[d,gj y9 y8,Qc,s,AT hl hc f (a+mJ l a) _ hn.2 y8 y9];simp
  .have p:¬((a:Int)<(l.length:Int)):=by omega
   simp[p,h]
theorem NV{l:List Qi}(hl:l.length<=600)(hc:∀c∈l,ng c):Rk l=some (Hk l):=by
 have e:=AT hl hc l.length 0 [] y8 y8 yA;have e':JL (l,[],0)=some (Hk l):=e;simp only[Rk,e',Qc]
end Go.Proofs.Tryz
