/-
 The pure machine: indices of the heap renamed; a call that sees a stretch of the heap alone.
-/
import Derived.Test.YtjcfpjpdopfefaaGreatPmFrame
namespace Go.Pm
open Go Go.RowKit
set_option linter.all false
theorem lh(f:Nat->Nat):∀cs,PV.rens f cs=cs.map (PV.ren f)
 |[]=>rfl
 |c::r=>by simp[PV.rens,lh f r]
theorem FR(f:Nat->Nat)(ds:List fy):(ds.map PV.dat).map (PV.ren f)=ds.map PV.dat:=by
 simp[PV.ren]
theorem Ho(f:Nat->Nat)(p:PV):(p.ren f).cells=p.cells.map (PV.ren f):=by
 cases p<;>simp[PV.ren,PV.cells,lh]
theorem u6(f:Nat->Nat):∀cs,gQ (cs.map (PV.ren f))=gQ cs
 |[]=>rfl
 | .dat d::r=>by simp[gQ,PV.ren,u6 f r]
 | .agg _::_|.tup _::_|.vec ..::_|.ptr ..::_|.iptr _::_|.arr ..::_|.fn ..::_|.ms ..::_|.mp ..::_|.mapv _::_|.empv _::_|.undef::_=>by simp[gQ,PV.ren]
theorem Gt(f:Nat->Nat)(cs:List PV):mkAgg (cs.map (PV.ren f))=(mkAgg cs).ren f:=by
 unfold mkAgg;rw[u6];cases gQ cs with
 |some ds=>rfl
 |none=>simp[PV.ren,lh]
theorem GG{c d:Type}(f:c->d)(cs vs:List c)(o:Nat):nY (cs.map f) o (vs.map f)=(nY cs o vs).map (List.map f):=by
 unfold nY;simp only[jY];split <;>simp
theorem yF{d j:Type}(f:d->j)(c:Nat->Option (Nat×Nat)):∀(g:List (Nat×List d)) (cs:List d),kW c (cs.map f) (g.map λx=>(x.1,x.2.map f))=(kW c cs g).map (List.map f)
 |[],cs=>rfl
 |(i,vs)::r,cs=>by
  simp only[zU,kW];cases c i with
  |none=>rfl
  |some x=>
   simp only[jY];split
   .rw[GG];cases nY cs x.1 vs with
    |none=>rfl
    |some e=>simpa using yF f c r e
   .rfl
theorem MU{f:Nat->Nat}{c:PV}(h:c.ren f=.dat (.lst [])):c=.dat (.lst []):=by
 cases c<;>simp_all [PV.ren]
theorem oB(f:Nat->Nat):∀(p:List (Nat×TypeId)) (k k2:Nat) (d l:List PV) (bs:List fB),(∀i,f (k2+i)=k+i)->iW k (d.map (PV.ren f)) p=some (l,bs)->
  ∃g,iW k2 d p=some (g,bs)/\l=g.map (PV.ren f)
 |[],k,k2,d,l,bs,n,h=>by cases h;exact⟨d,rfl,rfl⟩
 |(j,e)::r,k,k2,d,l,bs,n,h=>by
  unfold iW at h |-;split at h
  .rename_i m;rw[jD,j5]at m;obtain⟨c,hc,m⟩:=m;rw[MU m]at hc;rw[hc];split at h
   .rename_i s t q;cases h
    have u:(d.map (PV.ren f)).set j (.vec k [])=(d.set j (.vec k2 [])).map (PV.ren f):=by
     rw[fg];simp[PV.ren];have:=n 0;simp at this;rw[this]
    rw[u]at q;obtain⟨g,v,w⟩:=oB f r (k+1) (k2+1) _ _ _ (λi=>by have:=n (1+i);rw[bP,bP];exact this) q;exact⟨g,by simp only[v],w⟩
   .cases h
  .cases h
theorem nE:∀(g:List (Nat×TypeId)) (k:Nat) (cs c:List PV) (bs:List fB),iW k cs g=some (c,bs)->∀f,bs.map (fB.ren f)=bs/\∀x∈bs,x≠.hole
 |[],k,cs,c,bs,h,f=>by cases h;exact⟨rfl,by simp⟩
 |(j,e)::r,k,cs,c,bs,h,f=>by
  unfold iW at h;split at h
  .split at h
   .rename_i l;cases h;obtain⟨m,n⟩:=nE r _ _ _ _ l f;refine⟨by simp[fB.ren,m],λx d=>?_⟩;rcases aq.1 d with rfl|d
    .intro h;cases h
    .exact n x d
   .cases h
  .cases h
structure Eg (f:Nat->Nat) (g:Gh) (N:Nat) (g':Gh) (N':Nat):Prop where
 S:g'.S=g.S
 blk:∀i,i<N->g.live i->f i<N'/\g'.live (f i)/\g'.blk (f i)=g.blk i
 own:∀t,t<N->∀x,g.own t=some x->f t<N'/\g'.own (f t)=some x
section
variable{f:Nat->Nat}{g g':Gh}{N N' B0:Nat}{P:fm}{H H':List fB}{w:fk}
theorem fC.ren(m:Eg f g N g' N'){v:fu}{p:PV}(h:fC g N w v p):fC g' N' w v (p.ren f):=by
 have A:∀{v d},fY w g.S v d->fY w g'.S v d:=λh=>by rw[m.S];exact h
 induction h with
 |dat v d h=>exact .dat _ _ (A h)
 |agg vs cs e l q=>
  simp only[PV.ren,lh];refine .agg vs _ (by simpa using e) λj v c r k=>?_
  rw[jD,j5]at k;obtain⟨s,k,rfl⟩:=k;exact q j v s r k
 |tup vs cs e l q=>
  simp only[PV.ren,lh];refine .tup vs _ (by simpa using e) λj v c r k=>?_
  rw[jD,j5]at k;obtain⟨s,k,rfl⟩:=k;exact q j v s r k
 |vec v t es v0 n e l x y z=>
  obtain⟨k1,k2⟩:=m.own t e _ x;exact .vec v _ es v0 n k1 (A l) k2 y z
 |ptr i o hi=>
  obtain⟨k1,k2,k3⟩:=m.blk i hi.1 hi.2;rw[<-k3];exact .ptr _ o ⟨k1,k2⟩
 |iptr b o cs c e l=>exact .iptr b o cs c (λi hi=>⟨(e i hi).1,by rw[m.S];exact(e i hi).2⟩) (λi u B=>A (l i u B))
 |arr i o len cap hi hc=>
  obtain⟨k1,k2,k3⟩:=m.blk i hi.1 hi.2;rw[<-k3];exact .arr _ o len cap ⟨k1,k2⟩ hc
 |fn C vs cs e l q=>
  simp only[PV.ren,lh];refine .fn C vs _ (by simpa using e) λj v c r k=>?_
  rw[jD,j5]at k;obtain⟨s,k,rfl⟩:=k;exact q j v s r k
 |ms t gg lo len cp v v0 n e l x y z=>
  obtain⟨k1,k2⟩:=m.own t e _ l;exact .ms _ gg lo len cp v v0 n k1 k2 x y z
 |mp t gg j v v0 n e l x y z=>
  obtain⟨k1,k2⟩:=m.own t e _ l;exact .mp _ gg j v v0 n k1 k2 x y z
 |mapv i hi=>
  obtain⟨k1,k2,k3⟩:=m.blk i hi.1 hi.2;rw[<-k3];exact .mapv _ ⟨k1,k2⟩
 |empv b v e l=>exact .empv b v e l
 |undef v=>exact .undef v
theorem sJ{vs:Array Value}{cs:List PV}(d:vs.size=cs.length)(e:∀(j:Nat) v c,vs[j]?=some v->cs[j]?=some c->c.ren f=c):cs.map (PV.ren f)=cs:=by
 apply bD;intro j;rw[jD];cases hc:cs[j]? with
 |none=>rfl
 |some c=>
  have g:j<vs.size:=by rw[d];exact(ae.1 hc).1
  simp[e j _ c (jA g) hc]
theorem fC.fix(d:∀i,i<N->f i=i){v:fu}{p:PV}(h:fC g N w v p):p.ren f=p:=by
 induction h with
 |agg vs cs c k e=>simp only[PV.ren,lh,sJ c e]
 |tup vs cs c k e=>simp only[PV.ren,lh,sJ c e]
 |fn l vs cs c k e=>simp only[PV.ren,lh,sJ c e]
 |vec v t es v0 n c=>simp[PV.ren,d t c]
 |ptr i o hi=>simp[PV.ren,d i hi.1]
 |arr i o len cap hi=>simp[PV.ren,d i hi.1]
 |ms t gg lo len cp v v0 n c=>simp[PV.ren,d t c]
 |mp t gg j v v0 n c=>simp[PV.ren,d t c]
 |mapv i hi=>simp[PV.ren,d i hi.1]
 |_=>rfl
theorem Qm.fix(d:Qm P g B0 N H w)(k:∀i,i<N->f i=i){i:Nat}{x:fB}(h:H[i]?=some x):x.ren f=x:=by
 cases x with
 |box cs=>
  obtain⟨_,⟨vals,t,_,m,p⟩,_⟩:=d.box i cs h;simp only[fB.ren,sJ m λj v c a b=>(p j v c a b).fix k]
 |tok e n=>rfl
 |mt e n cs=>
  obtain⟨v0,_,r⟩:=d.mt i e n cs h;rcases r with⟨rfl,_⟩|⟨b,l,cap,cur,_,_,_,_,_,q4,_,q6,_,s⟩|⟨b,l,cap,cur,size,u,_,_,_,_,_,_,rfl,_⟩
  rotate_right
  .simp only[fB.ren,zF];rfl
  .rfl
  .have:cs.map (PV.ren f)=cs:=by
    apply bD;intro j;rw[jD];cases hc:cs[j]? with
    |none=>rfl
    |some c=>
     have q:j<cur.size:=by have:=(ae.1 hc).1;omega
     simp[(s j _ c (jA q) hc).fix k]
   simp only[fB.ren,this]
 |map es=>
  obtain⟨_,⟨arr,clock,_,m,p⟩,_⟩:=d.map i es h
  have:(es.map λx=>(x.1,x.2.ren f))=es:=by
   apply bD;intro j;rw[jD];cases hc:es[j]? with
   |none=>rfl
   |some c=>
    have q:j<arr.size:=by rw[m];exact(ae.1 hc).1
    simp[(p j _ c (jA q) hc).2.fix k]
  simp only[fB.ren,this]
 |hole=>rfl
def Lc(f:Nat->Nat)(g':Gh)(H H':List fB):Prop:=
 ∀(i:Nat) y,H'[i]?=some y->(y=.hole/\¬g'.live i/\g'.own i=none)\/∃(j:Nat) (x:fB),H[j]?=some x/\x≠.hole/\f j=i/\y=x.ren f
theorem nj(l:Eg f g N g' N')(m:Qm P g B0 N H w)(hl:H.length<=N)(p:Lc f g' H H'){i b:Nat}(h:occ g' H' i=some b):∃j,f j=i/\occ g H j=some b:=by
 have d:∀{x:fB} {j:Nat},H[j]?=some x->j<N:=λh=>jP (ae.1 h).1 hl
 unfold occ at h;split at h
 .rename_i cs hi;rcases p i _ hi with⟨e,_⟩|⟨j,x,c,q,rfl,k⟩
  .cases e
  .cases x<;>simp only[fB.ren,reduceCtorEq]at k
   rw[(l.blk j (d c) (m.liveB c)).2.2]at h;exact⟨j,rfl,by rw[gw c];exact h⟩
 .rename_i e n hi;rcases p i _ hi with⟨e,_⟩|⟨j,x,c,q,rfl,k⟩
  .cases e
  .cases x<;>simp only[fB.ren,reduceCtorEq]at k
   obtain⟨v0,k1,k2⟩:=m.tok j _ _ c;rw[(l.own j (d c) _ k1).2]at h;exact⟨j,rfl,by rw[kh c,k1];exact h⟩
 .rename_i e n cs hi;rcases p i _ hi with⟨e,_⟩|⟨j,x,c,q,rfl,k⟩
  .cases e
  .cases x<;>simp only[fB.ren,reduceCtorEq]at k
   obtain⟨v0,k1,k2⟩:=m.mt j _ _ _ c;rw[(l.own j (d c) _ k1).2]at h;exact⟨j,rfl,by rw[gJ c,k1];exact h⟩
 .rename_i es hi;rcases p i _ hi with⟨e,_⟩|⟨j,x,c,q,rfl,k⟩
  .cases e
  .cases x<;>simp only[fB.ren,reduceCtorEq]at k
   rw[(l.blk j (d c) (m.liveM c)).2.2]at h;exact⟨j,rfl,by rw[iY c];exact h⟩
 .cases h
 .cases h
theorem Qm.ren(p:Eg f g N g' N')(t:Qm P g B0 N H w)(hl:H.length<=N)(A:Lc f g' H H'):Qm P g' B0 N' H' w:=by
 have s:∀{x:fB} {j:Nat},H[j]?=some x->j<N:=λh=>jP (ae.1 h).1 hl
 refine⟨λi cs hi=>?_,λi e n hi=>?_,λi e n cs hi=>?_,λi es hi=>?_,λi e cs hi=>?_,λi y hi=>?_,λi i' b m z=>?_⟩
 .rcases A i _ hi with⟨e,_⟩|⟨j,x,m,z,rfl,r⟩
  .cases e
  .cases x<;>simp only[fB.ren,reduceCtorEq]at r
   cases r;rw[(p.blk j (s m) (t.liveB m)).2.2];obtain⟨b1,⟨vals,O,b2,F,E⟩,G⟩:=t.box j _ m;refine⟨b1,⟨vals,O,b2,by simpa using F,λk v c B q=>?_⟩,by rw[p.S];exact G⟩;rw[jD,j5]at q;obtain⟨D,q,rfl⟩:=q;exact(E k v D B q).ren p
 .rcases A i _ hi with⟨e,_⟩|⟨j,x,m,z,rfl,r⟩
  .cases e
  .cases x<;>simp only[fB.ren,reduceCtorEq]at r
   cases r;obtain⟨v0,k1,k2⟩:=t.tok j _ _ m;refine⟨v0,(p.own j (s m) _ k1).2,?_⟩;rcases k2 with k2|⟨b,cap,cur,size,C,I,Q,R,T,U,V,W⟩
   .exact .inl k2
   .exact .inr ⟨b,cap,cur,size,C,I,Q,R,T,U,V,by rw[p.S];exact W⟩
 .rcases A i _ hi with⟨e,_⟩|⟨j,x,m,z,rfl,r⟩
  .cases e
  .cases x<;>simp only[fB.ren,reduceCtorEq]at r
   cases r;obtain⟨v0,k1,k2⟩:=t.mt j _ _ _ m;refine⟨v0,(p.own j (s m) _ k1).2,?_⟩;rcases k2 with⟨rfl,k2⟩|⟨b,l,cap,cur,C,q0,q1,q2,q3,q4,q5,q6,q7,J⟩|⟨b,l,cap,cur,size,X,C,q0,q1,q2,q3,K,rfl,q4,L,q5,q6,q7,J⟩
   .exact .inl ⟨rfl,k2⟩
   .refine .inr (.inl ⟨b,l,cap,cur,C,q0,q1,q2,q3,⟨by simpa using q4.1,by
     rw[aR,j8];intro x M;have:=an.1 q4.2 x M;cases x<;>first|exact this|rfl⟩,q5,q6,by rw[p.S];exact q7,λk v c B q=>?_⟩)
    rw[jD,j5]at q;obtain⟨D,q,rfl⟩:=q;exact(J k v D B q).ren p
   .refine .inr (.inr ⟨b,l,cap,cur,size,X,C,q0,q1,q2,q3,K,by rw[zF];rfl,q4,L,q5,q6,by rw[p.S];exact q7,λi j d u v B q Y=>by rw[p.S];exact J i j d u v B q Y⟩)
 .rcases A i _ hi with⟨e,_⟩|⟨j,x,m,z,rfl,r⟩
  .cases e
  .cases x<;>simp only[fB.ren,reduceCtorEq]at r
   cases r;rw[(p.blk j (s m) (t.liveM m)).2.2];obtain⟨b1,⟨arr,clock,b2,F,E⟩,G⟩:=t.map j _ m;refine⟨b1,⟨arr,clock,b2,by simpa using F,λk v c B q=>?_⟩,by rw[p.S];exact G⟩;rw[jD,j5]at q;obtain⟨D,q,rfl⟩:=q;exact⟨(E k v D B q).1,(E k v D B q).2.ren p⟩
 .rcases A i _ hi with⟨e,_⟩|⟨j,x,m,z,rfl,r⟩
  .cases e
  .cases x<;>simp only[fB.ren,reduceCtorEq]at r
   cases r;obtain⟨v0,k1,k2⟩:=t.mt0 j _ _ m;exact⟨v0,(p.own j (s m) _ k1).2,k2⟩
 .rcases A i _ hi with⟨rfl,m,z⟩|⟨j,x,m,z,rfl,rfl⟩
  .exact⟨λh=>h.elim,λ_=>⟨m,z⟩⟩
  .refine⟨λZ=>(p.blk j (s m) ((t.live j x m).1 ?_)).2.1,λM=>absurd ?_ z⟩
   .cases x<;>first|trivial|exact Z
   .cases x<;>simp[fB.ren]at M |-
 .obtain⟨j,rfl,C⟩:=nj p t hl A m;obtain⟨j',rfl,I⟩:=nj p t hl A z;rw[t.sep j j' b C I]
end
theorem MX{b n i:Nat}(h:b<=n):uZ b n (qA b n i)=i:=by
 unfold uZ qA;split <;>(try split)<;>(try split)<;>(try split)<;>omega
theorem MR{b n i:Nat}(h:b<=n):qA b n (uZ b n i)=i:=by
 unfold uZ qA;split <;>(try split)<;>(try split)<;>(try split)<;>omega
mutual
theorem u4 {f k:Nat->Nat} (h:∀i,k (f i)=i):∀p:PV,(p.ren f).ren k=p
 | .dat d=>rfl
 | .agg cs=>by simp only[PV.ren];rw[qz h cs]
 | .tup vs=>by simp only[PV.ren];rw[qz h vs]
 | .vec t es=>by simp only[PV.ren,h]
 | .ptr i o=>by simp only[PV.ren,h]
 | .iptr cs=>rfl
 | .arr i o l c=>by simp only[PV.ren,h]
 | .fn g cap=>by simp only[PV.ren];rw[qz h cap]
 | .ms t g lo len cap=>by simp only[PV.ren,h]
 | .mp t g j=>by simp only[PV.ren,h]
 | .mapv i=>by simp only[PV.ren,h]
 | .empv b=>rfl
 | .undef=>rfl
theorem qz {f k:Nat->Nat} (h:∀i,k (f i)=i):∀l:List PV,PV.rens k (PV.rens f l)=l
 |[]=>rfl
 |c::r=>by simp only[PV.rens];rw[u4 h c,qz h r]
end
theorem Mr{f k:Nat->Nat}(h:∀i,k (f i)=i)(x:fB):(x.ren f).ren k=x:=by
 cases x with
 |box cs=>simp only[fB.ren,zF];congr 1;exact(aQ λc _=>u4 h c).trans (cR _)
 |tok e n=>rfl
 |mt e g cs=>simp only[fB.ren,zF];congr 1;exact(aQ λc _=>u4 h c).trans (cR _)
 |map es=>simp only[fB.ren,zF];congr 1;exact(aQ λc _=>by simp only[Function.comp,u4 h];rfl).trans (cR _)
 |hole=>rfl
theorem Lh{f:Nat->Nat}{x:fB}(h:x.ren f=.hole):x=.hole:=by cases x<;>simp[fB.ren]at h |-
def Gh.via(g:Gh)(k:Nat->Nat):Gh:={blk:=λi=>g.blk (k i),live:=λi=>g.live (k i),own:=λi=>g.own (k i),S:=g.S}
section
variable{P:fm}{B0 N:Nat}{g:Gh}{H H':List fB}{w:fk}{f k:Nat->Nat}
theorem CB(h:∀i,k (f i)=i)(c:∀i,i<N->f i<N):Eg f g N (g.via k) N:=
 ⟨rfl,λi hi hl=>⟨c i hi,by show g.live (k (f i));rw[h];exact hl,by show g.blk (k (f i))=_;rw[h]⟩,λt d x e=>⟨c t d,by show g.own (k (f t))=_;rw[h];exact e⟩⟩
theorem CH(h:∀i,f (k i)=i)(j:Qm P g B0 N H w)(c:∀i,H'[i]?=(H[k i]?).map (fB.ren f)):Lc f (g.via k) H H':=λi y hi=>by
 rw[c,j5]at hi;obtain⟨x,d,rfl⟩:=hi;by_cases e:x=.hole
 .subst e;exact .inl ⟨rfl,(j.live _ _ d).2 rfl⟩
 .exact .inr ⟨k i,x,d,e,h i,rfl⟩
end
theorem Az{call:gk}{f:fo}{args:List PV}{m:Nat}{A Y R:List fB}{p:PV}(hm:A.length=m)(h:iI call f args m A=some (p,R)):iI call f args m (A++Y)=some (p,R++Y):=by
 have c:(A++Y).take m=A:=by rw[<-hm];exact dC
 have d:(A++Y).drop m=Y:=by rw[<-hm];exact eO
 have e:A.take m=A:=by rw[<-hm];exact cO
 have g:A.drop m=[]:=by rw[<-hm];exact dW
 unfold iI at h |-;rw[c,d];rw[e,g]at h;split at h
 case isFalse=>cases h
 rename_i hc;rw[ai ⟨by rw[jV];omega,hc.2⟩];split at h
 case h_2=>cases h
 rename_i p1 H1 j;split at h
 case isFalse=>cases h
 rename_i k;rw[ai k];simp only[jU,j9,jI]at h;rw[h.1,h.2]
theorem L7{A B C:List fB}{b m i:Nat}{F:fB->fB}(c:A.length=b)(hB:B.length=m):(B.map F++(A.map F++C.map F))[i]?=((A++(B++C))[uZ b (b+m) i]?).map F:=by
 unfold uZ;rw[show b+m - b=m by omega];by_cases d:i<m
 .rw[ai d,zO (by simpa[hB]using d),zN y8,c,show i+b - b=i by omega,zO y8,jD]
 .rw[af d,zN (by simp[hB];omega),jY,hB];by_cases e:i<b+m
  .rw[ai e,zO (by simp[c];omega),zO y8,jD]
  .rw[af e,zN (by simp[c];omega),jY,c,zN y8,c,zN y8,hB,jD];congr 2;omega
theorem Ln{A C R:List fB}{b m i:Nat}{d e:Nat->Nat}(f:A.length=b)(hR:R.length=m)(h:∀i,e (d i)=i):(A++R.map (fB.ren e)++C)[i]?=((R++(A.map (fB.ren d)++C.map (fB.ren d)))[qA b (b+m) i]?).map (fB.ren e):=by
 have c:∀o:Option fB,(o.map (fB.ren d)).map (fB.ren e)=o:=λo=>by cases o<;>simp[Mr h]
 unfold qA;rw[aB,show b+m - b=m by omega];by_cases g:i<b
 .rw[ai g,zO y8,zN y8,hR,show i+m - m=i by omega,zO y9,jD,c]
 .rw[af g,zN y8,f];by_cases j:i<b+m
  .rw[ai j,zO y9,zO y8,jD]
  .rw[af j,zN y9,jY,hR,zN y8,hR,zN y9,jY,f,jD,c];congr 1;omega
section
variable{P:fm}{B0:Nat}{w0:fk}{S0:Nat->Nat->Prop}{pf:fo->Bool}{call:gk}
theorem Om(G:iX P pf call){f:fo}{args:List PV}{b n:Nat}{H H2:List fB}{g:Gh}{w:fk}{p:PV}{vals:Array Value}(I:th call f args b n H=some (p,H2))(hn:vals.size=args.length)(hr:∀(j:Nat) v q,vals[j]?=some v->args[j]?=some q->fC g H.length w v q)(Q:Qm P g B0 H.length H w)(hi:Inv B0 w0 S0 g w)(hG:ij g w):
  (∃fn c,P.funcs[f]?=some fn/\fn.body=some c/\(fn.name== "runtime.NumGoroutine")=false)/\Calls P f vals w λe w'=>∃v g',e= .returned v/\Good P B0 w0 S0 H g w p H2 v g' w':=by
 unfold th at I;split at I
 case isFalse=>cases I
 rename_i hc;obtain⟨T,hnl⟩:=hc;split at I
 case h_2=>cases I
 rename_i p1 R d;simp only[j9,jI]at I;obtain⟨rfl,rfl⟩:=I;obtain⟨m,rfl⟩:∃m,n=b+m:=⟨n - b,by omega⟩
 obtain⟨A,B,C,rfl,D,hB⟩:∃A B C,H=A++(B++C)/\A.length=b/\B.length=m:=⟨H.take b,(H.drop b).take m,H.drop (b+m),by
  rw[show H.drop (b+m)=(H.drop b).drop m by rw[dB],y7,y7],by rw[zV];omega,by rw[zV,y6];omega⟩
 have t1:((A++(B++C)).take (b+m)).drop b=B:=by
  rw[<-D,<-hB,<-aB,<-jV,dC,eO]
 have t2:(A++(B++C)).take b=A:=by rw[<-D];exact dC
 have t3:(A++(B++C)).drop (b+m)=C:=by rw[<-D,<-hB,<-aB,<-jV];exact eO
 rw[t1,show b+m - b=m by omega]at d;rw[t2,t3];have y:∀i,uZ b (b+m) (qA b (b+m) i)=i:=λi=>MX T
 have U:∀i,qA b (b+m) (uZ b (b+m) i)=i:=λi=>MR T
 have Z:(A++(B++C)).length=b+m+C.length:=by simp[D,hB];omega
 have nu:∀i,i<(A++(B++C)).length->qA b (b+m) i<(A++(B++C)).length:=λi h=>by rw[Z]at h |-;unfold qA;split <;>(try split)<;>omega
 have nd:∀i,i<(A++(B++C)).length->uZ b (b+m) i<(A++(B++C)).length:=λi h=>by rw[Z]at h |-;unfold uZ;split <;>(try split)<;>omega
 have V:=CB (g:=g) y nu;have l:=CH (f:=qA b (b+m)) (k:=uZ b (b+m)) (H':=B.map (fB.ren (qA b (b+m)))++(A.map (fB.ren (qA b (b+m)))++C.map (fB.ren (qA b (b+m))))) U Q (λi=>L7 D hB);have E:(B.map (fB.ren (qA b (b+m)))++(A.map (fB.ren (qA b (b+m)))++C.map (fB.ren (qA b (b+m))))).length=(A++(B++C)).length:=by simp[D,hB];omega
 have hH1:=Qm.ren V Q (j7 _) l;have W:=Az (Y:=A.map (fB.ren (qA b (b+m)))++C.map (fB.ren (qA b (b+m)))) (by simpa using hB) d
 obtain⟨k1,k2⟩:=BZ G (B0:=B0) (w0:=w0) (S0:=S0) (g:=g.via (uZ b (b+m))) (w:=w) (vals:=vals) W (by simpa using hn) (λj v q a1 O=>by
  rw[jD,j5]at O;obtain⟨q',O,rfl⟩:=O;rw[E];exact(hr j v q' a1 O).ren V) (by rw[E];exact hH1) ⟨hi.below,hi.size,hi.old,hi.lt⟩ (hG.ofS λ_ _ h=>h)
 refine⟨k1,k2.mono λe w' he=>?_⟩;obtain⟨v,g1,rfl,z⟩:=he
 have J:R.length=m:=by
  unfold iI at d;split at d
  case isFalse=>cases d
  split at d
  case h_2=>cases d
  rename_i p2 H3 hcl;split at d
  case isFalse=>cases d
  simp only[j9,jI]at d;have:=z.len;rw[E,Z,<-d.2]at this;rw[<-d.2];simp only[jV,zV,y6,jY,D,hB]at this |-;omega
 have K:(R++(A.map (fB.ren (qA b (b+m)))++C.map (fB.ren (qA b (b+m))))).length=(A++(B++C)).length:=by simp[D,hB,J];omega
 have X:(A++R.map (fB.ren (uZ b (b+m)))++C).length=(A++(B++C)).length:=by simp[D,hB,J]
 have F:=z.rep;have r:=z.heap;rw[K]at F r;have L:=CB (g:=g1) U nd;have u:=CH (f:=uZ b (b+m)) (k:=qA b (b+m)) (H':=A++R.map (fB.ren (uZ b (b+m)))++C) y r (λi=>Ln D J y);have s:=z.ext;rw[E]at s;refine⟨v,g1.via (qA b (b+m)),rfl,⟨s.S,s.cell,λi M hl=>?_,λt ht3 v' n' ho=>?_⟩,by omega,?_,?_,⟨z.inv.below,z.inv.size,z.inv.old,z.inv.lt⟩,⟨z.fr.size,λx hx hnx=>?_,λi x ho hx=>?_,λx o hs=>?_⟩⟩
 .obtain⟨a1,O⟩:=s.blk (qA b (b+m) i) (nu i M) (by show g.live (uZ b (b+m) (qA b (b+m) i));rw[y];exact hl);exact⟨a1.trans (by show g.blk (uZ b (b+m) (qA b (b+m) i))=_;rw[y]),O⟩
 .exact s.own (qA b (b+m) t) (nu t ht3) v' n' (by show g.own (uZ b (b+m) (qA b (b+m) t))=_;rw[y];exact ho)
 .rw[X];exact F.ren L
 .rw[X];exact Qm.ren L r (by rw[K];exact j7 _) u
 .refine z.fr.keep x hx λi M=>?_
  obtain⟨j,_,hj⟩:=nj V Q (j7 _) l M;exact hnx j hj
 .obtain⟨j,_,hj⟩:=nj L r (by rw[K];exact j7 _) u ho;obtain⟨j',hj'⟩:=z.fr.occ j x hj hx;obtain⟨j2,_,N⟩:=nj V Q (j7 _) l hj';exact⟨j2,N⟩
 .rcases z.fr.pub x o hs with h|h|⟨j,h⟩
  .exact .inl h
  .exact .inr (.inl h)
  .obtain⟨j2,_,N⟩:=nj V Q (j7 _) l h;exact .inr (.inr ⟨j2,N⟩)
theorem oz{A C:List fB}{i:Nat}{x:fB}(h:(A++C)[i]?=some x):(i<A.length/\A[i]?=some x)\/∃j,i=j+A.length/\C[j]?=some x:=by
 rcases oF rfl h with h|⟨d,c⟩
 .exact .inl h
 .exact .inr ⟨i - A.length,by omega,c⟩
theorem OZ(V:iX P pf call){f:fo}{args:List PV}{H H2:List fB}{g:Gh}{w:fk}{p:PV}{vals:Array Value}(W:wX call f args H=some (p,H2))(hn:vals.size=args.length)(hr:∀(j:Nat) v q,vals[j]?=some v->args[j]?=some q->fC g H.length w v q)(Q:Qm P g B0 H.length H w)(hi:Inv B0 w0 S0 g w)(hG:ij g w):
  (∃fn c,P.funcs[f]?=some fn/\fn.body=some c/\(fn.name== "runtime.NumGoroutine")=false)/\Calls P f vals w λe w'=>∃v g',e= .returned v/\Good P B0 w0 S0 H g w p H2 v g' w':=by
 unfold wX at W;split at W
 case isFalse=>cases W
 rename_i hba;split at W
 case h_2=>cases W
 rename_i p1 R hcl;simp only[j9,jI]at W;obtain⟨rfl,rfl⟩:=W;obtain⟨k1,_,k3⟩:=V _ _ _ _ _ hcl;refine⟨k1,(k3 B0 w0 S0 g w vals hn (λj v q M T=>(hr j v q M T).turn (po.refl 0 g) (j7 0) (kB hba T)) (Q.first (n:=0) (po.refl 0 g) (j7 0) rfl) hi hG).mono λe w' he=>?_⟩;obtain⟨v,O,rfl,r⟩:=he
 let N:Gh:={blk:=λi=>if i<H.length then g.blk i else O.blk (i - H.length),live:=λi=>if i<H.length then g.live i else O.live (i - H.length),own:=λi=>if i<H.length then g.own i else O.own (i - H.length),S:=O.S}
 have n1:∀i,¬(i+H.length<H.length):=λi=>by omega
 have n2:∀i,i+H.length - H.length=i:=λi=>by omega
 have eb:∀i,N.blk (i+H.length)=O.blk i:=λi=>by show(if _ then _ else _)=_;rw[af (n1 i),n2]
 have el:∀i,N.live (i+H.length)=O.live i:=λi=>by show(if _ then _ else _)=_;rw[af (n1 i),n2]
 have X:∀i,N.own (i+H.length)=O.own i:=λi=>by show(if _ then _ else _)=_;rw[af (n1 i),n2]
 have ob:∀i,i<H.length->N.blk i=g.blk i:=λi h=>ai h
 have ol:∀i,i<H.length->N.live i=g.live i:=λi h=>ai h
 have Y:∀i,i<H.length->N.own i=g.own i:=λi h=>ai h
 have U:(H++R.map (fB.ren (·+H.length))).length=R.length+H.length:=by simp;omega
 have ht:Eg (·+H.length) O R.length N (R.length+H.length):=
  ⟨rfl,λi Z hl=>⟨by show i+H.length<_;omega,by rw[el];exact hl,eb i⟩,λt ht3 x d=>⟨by show t+H.length<_;omega,by rw[X];exact d⟩⟩
 have I:Ext H.length g w N w':=⟨r.ext.S,r.ext.cell,λi Z hl=>⟨ob i Z,by rw[ol i Z];exact hl⟩,λt ht3 v' n' B=>⟨v',n',by rw[Y t ht3];exact B,j7 _,λ_=>rfl⟩⟩;have hle:H.length<=R.length+H.length:=eA _ _;have D:∀i b,occ g ([]:List fB) i≠some b:=λi b h=>by simp[occ]at h
 have J:∀{i b:Nat},occ g H i=some b->b<w.heap.size:=λh=>(Q.occ_lt h).2.1
 have u:∀{i b:Nat},occ g H i=some b->w'.heap[b]?=w.heap[b]?:=λB=>r.fr.keep _ (J B) λi=>D i _
 have K:∀{i b:Nat},occ g H i=some b->∀o,N.S b o->g.S b o:=λB o hs=>by
  rcases r.fr.pub _ o hs with h|h|⟨j,h⟩
  .exact h
  .have:=J B;omega
  .exact absurd h (D j _)
 have s:∀{j:Nat} {y:fB},(R.map (fB.ren (·+H.length)))[j]?=some y->∃x,R[j]?=some x/\y=x.ren (·+H.length):=λh=>by
  rw[jD,j5]at h;obtain⟨x,E,C⟩:=h;exact⟨x,E,C.symm⟩
 have hheap:Qm P N B0 (R.length+H.length) (H++R.map (fB.ren (·+H.length))) w':=by
  have L:∀{i b:Nat},occ N (H++R.map (fB.ren (·+H.length))) i=some b->(i<H.length/\occ g H i=some b)\/∃j,i=j+H.length/\occ O R j=some b:=λ{i b} h=>by
   by_cases c:i<H.length
   .refine .inl ⟨c,?_⟩;rw[<-h];unfold occ;rw[zO c,ob i c,Y i c]
   .obtain⟨j,rfl⟩:∃j,i=j+H.length:=⟨i - H.length,by omega⟩;refine .inr ⟨j,rfl,?_⟩;rw[<-h];unfold occ;rw[zN y8,n2,jD,eb,X];cases R[j]? with
    |none=>rfl
    |some x=>cases x<;>rfl
  refine⟨λi cs h=>?_,λi e k h=>?_,λi e k cs h=>?_,λi es h=>?_,λi e cs h=>?_,λi x h=>?_,λi j b E C=>?_⟩
  .rcases oz h with⟨m,d⟩|⟨j,rfl,d⟩
   .obtain⟨E,⟨vals',ty,C,F,A⟩,h5⟩:=Q.box i cs d;rw[ob i m];exact⟨E,⟨vals',ty,by rw[u (gw d),C],F,λj v c M T=>(A j v c M T).ext I hle⟩,λo B=>h5 o (K (gw d) o B)⟩
   .obtain⟨x,F,A⟩:=s d;cases x<;>simp only[fB.ren,reduceCtorEq]at A
    cases A;rw[eb];obtain⟨b1,⟨vals,ty,b2,b3,b4⟩,b5⟩:=r.heap.box j _ F;refine⟨b1,⟨vals,ty,b2,by simpa using b3,λk v c q1 q2=>?_⟩,b5⟩;rw[jD,j5]at q2;obtain⟨c',q2,rfl⟩:=q2;exact(b4 k v c' q1 q2).ren ht
  .rcases oz h with⟨m,d⟩|⟨j,rfl,d⟩
   .obtain⟨v0,E,C⟩:=Q.tok i e k d;have B:∀b,v0.ownBlock=some b->occ g H i=some b:=λb G=>by rw[kh d,E];exact G
    exact⟨v0,by rw[Y i m];exact E,C.keep (λb G=>u (B b G)) (λb G=>K (B b G))⟩
   .obtain⟨x,F,A⟩:=s d;cases x<;>simp only[fB.ren,reduceCtorEq]at A
    cases A;obtain⟨v0,k1,k2⟩:=r.heap.tok j _ _ F;refine⟨v0,by rw[X];exact k1,?_⟩;rcases k2 with k2|⟨b,cap,cur,size,M,T,a3,a4,a5,a6,a7,a8⟩
    .exact .inl k2
    .exact .inr ⟨b,cap,cur,size,M,T,a3,a4,a5,a6,a7,a8⟩
  .rcases oz h with⟨m,d⟩|⟨j,rfl,d⟩
   .obtain⟨v0,E,C⟩:=Q.mt i e k cs d;have B:∀b,fG v0=some b->occ g H i=some b:=λb G=>by rw[gJ d,E];exact G
    exact⟨v0,by rw[Y i m];exact E,C.keep I hle (λb G=>u (B b G)) (λb G=>K (B b G))⟩
   .obtain⟨x,F,A⟩:=s d;cases x<;>simp only[fB.ren,reduceCtorEq]at A
    cases A;obtain⟨v0,k1,k2⟩:=r.heap.mt j _ _ _ F;refine⟨v0,by rw[X];exact k1,?_⟩;rcases k2 with⟨rfl,k2⟩|⟨b,l,cap,cur,M,q0,q1,q2,q3,q4,q5,q6,q7,q8⟩|⟨b,l,cap,cur,size,da,M,q0,q1,q2,q3,q3',rfl,q4,q4',q5,q6,q7,q8⟩
    .exact .inl ⟨rfl,k2⟩
    .refine .inr (.inl ⟨b,l,cap,cur,M,q0,q1,q2,q3,⟨by simpa using q4.1,by
      rw[aR,j8];intro x d;have:=an.1 q4.2 x d;cases x<;>first|exact this|rfl⟩,q5,q6,q7,λk v c z1 z2=>?_⟩)
     rw[jD,j5]at z2;obtain⟨c',z2,rfl⟩:=z2;exact(q8 k v c' z1 z2).ren ht
    .exact .inr (.inr ⟨b,l,cap,cur,size,da,M,q0,q1,q2,q3,q3',by rw[zF];rfl,q4,q4',q5,q6,q7,q8⟩)
  .rcases oz h with⟨m,d⟩|⟨j,rfl,d⟩
   .obtain⟨E,⟨arr,clock,C,F,A⟩,h5⟩:=Q.map i es d;rw[ob i m];exact⟨E,⟨arr,clock,⟨by rw[u (iY d),C.1],C.2⟩,F,λj v c M T=>⟨(A j v c M T).1,(A j v c M T).2.ext I hle⟩⟩,λo B=>h5 o (K (iY d) o B)⟩
   .obtain⟨x,F,A⟩:=s d;cases x<;>simp only[fB.ren,reduceCtorEq]at A
    cases A;rw[eb];obtain⟨b1,⟨arr,clock,b2,b3,b4⟩,b5⟩:=r.heap.map j _ F;refine⟨b1,⟨arr,clock,b2,by simpa using b3,λk v c q1 q2=>?_⟩,b5⟩;rw[jD,j5]at q2;obtain⟨c',q2,rfl⟩:=q2;exact⟨(b4 k v c' q1 q2).1,(b4 k v c' q1 q2).2.ren ht⟩
  .rcases oz h with⟨m,d⟩|⟨j,rfl,d⟩
   .obtain⟨v0,E,C⟩:=Q.mt0 i e cs d;exact⟨v0,by rw[Y i m];exact E,C⟩
   .obtain⟨x,F,A⟩:=s d;cases x<;>simp only[fB.ren,reduceCtorEq]at A
    cases A;obtain⟨v0,k1,k2⟩:=r.heap.mt0 j _ _ F;exact⟨v0,by rw[X];exact k1,k2⟩
  .rcases oz h with⟨m,d⟩|⟨j,rfl,d⟩
   .rw[ol i m,Y i m];exact Q.live i x d
   .obtain⟨y,F,rfl⟩:=s d;obtain⟨q1,q2⟩:=r.heap.live j y F;rw[el,X];refine⟨λhp=>q1 ?_,λhx2=>q2 (Lh hx2)⟩;cases y<;>first|trivial|exact hp
  .rcases L E with⟨c1,o1⟩|⟨i',rfl,o1⟩<;>rcases L C with⟨c2,o2⟩|⟨j',rfl,o2⟩
   .exact Q.sep i j b o1 o2
   .obtain⟨z,hz⟩:=r.fr.occ j' b o2 (J o1);exact absurd hz (D z b)
   .obtain⟨z,hz⟩:=r.fr.occ i' b o1 (J o2);exact absurd hz (D z b)
   .rw[r.heap.sep i' j' b o1 o2]
 refine⟨v,N,rfl,I,by omega,by rw[U];exact r.rep.ren ht,by rw[U];exact hheap,⟨r.inv.below,r.inv.size,r.inv.old,r.inv.lt⟩,⟨r.fr.size,λb G hnb=>r.fr.keep b G λi=>D i b,λi b B G=>?_,λb o hs=>?_⟩⟩
 .by_cases c:i<H.length
  .refine⟨i,?_⟩;rw[<-B];unfold occ;rw[zO c,ob i c,Y i c]
  .obtain⟨j,rfl⟩:∃j,i=j+H.length:=⟨i - H.length,by omega⟩
   have C:occ O R j=some b:=by
    rw[<-B];unfold occ;rw[zN y8,n2,jD,eb,X];cases R[j]? with
    |none=>rfl
    |some x=>cases x<;>rfl
   obtain⟨z,hz⟩:=r.fr.occ j b C G;exact absurd hz (D z b)
 .rcases r.fr.pub b o hs with h|h|⟨j,h⟩
  .exact .inl h
  .exact .inr (.inl h)
  .exact absurd h (D j b)
end
end Go.Pm
