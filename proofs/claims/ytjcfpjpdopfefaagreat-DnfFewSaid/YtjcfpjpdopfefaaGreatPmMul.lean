/-
 The pure machine: soundness of written lists whose elements have several cells, and of lists that are made to be written.
-/
import Derived.Test.YtjcfpjpdopfefaaGreatPmOps8
namespace Go.Pm
open Go Go.RowKit
set_option linter.all false
section
variable{P:fm}{B0 N:Nat}{w0:fk}{S0:Nat->Nat->Prop}{g:Gh}{H H':List fB}{w:fk}{p:PV}{o:Oper}{a:Act}{ρ:ft->PV}
def lK(cs:List PV):Nat:=match cs with
 | .dat d::_=>cs.length*d.num
 |_=>cs.length
theorem wC{cs:List PV}(h:cs.all PV.flat=true):cs.length<=lK cs:=by
 unfold lK;split
 .rename_i d r;simp only[bq,jE]at h;cases d with
  |agg=>simp[PV.flat]at h
  |raw=>simp[fy.num]
  |lst=>simp[fy.num]
 .exact j7 _
theorem En{size:Nat}{ds:List fy}(h:ds.all (fy.fits size)=true):lK (ds.map PV.dat)=ds.length*size:=by
 cases ds with
 |nil=>simp[lK]
 |cons d ds=>simp only[zU,lK];rw[gC (an.1 h d yA)];simp
def Mq(w:fk)(S:Nat->Nat->Prop)(size:Nat)(ds:List fy)(cur:Array Value):Prop:=
 ∀(i j:Nat) d u v,ds[i]?=some d->d.cells[j]?=some u->cur[i*size+j]?=some v->fY w S v u
theorem mY{size i j n:Nat}{ds:List fy}{d u:fy}(e:ds.all (fy.fits size)=true)(c:ds[i]?=some d)(f:d.cells[j]?=some u)(hn:ds.length<=n):j<size/\i<ds.length/\i*size+j<n*size:=by
 have g:j<size:=by rw[<-gC (an.1 e d (jF c)),fy.num_eq];exact(ae.1 f).1
 have hi:i<ds.length:=(ae.1 c).1
 have:(i+1)*size<=n*size:=au _ y8
 rw[av]at this;exact⟨g,hi,by omega⟩
theorem Fm{L:Nat->Nat->Prop}{e lo len:Nat}{cs:List PV}{v v0:fu}{ds:List fy}(hm:pG P g N B0 w e cs v0)(C:v=gP v0 lo len)(m:(cut cs lo len).bind gQ=some ds)(p:wQ lo ds=true)(D:∃a c,v=.slice a len c/\len<=c)(W:∀b o,g.S b o->L b o)(E:∀b o,fG v0=some b->o<lK cs->L b o):fY w L v (.lst ds):=by
 simp only[jK]at m;obtain⟨Y,m,F⟩:=m;obtain⟨c1,c2,Z⟩:=ka m;have I:=kq _ _ F;subst I;simp at c1
 have q:∀(i:Nat) d,ds[i]?=some d->cs[lo+i]?=some (.dat d):=λi d f=>by
  have:=Z i (by rw[<-c1];exact(ae.1 f).1);rw[jD,f]at this;exact this.symm
 rcases hm with⟨rfl,hn⟩|⟨b,l,cap,cur,rfl,q0,q1,q2,q3,q4,q5,q6,q7,M⟩|⟨b,l,cap,cur,size,J,rfl,q0,q1,q2,q3,q3',rfl,q4,O,q5,q6,q7,M⟩
 .simp at c2;obtain⟨rfl,rfl⟩:=c2
  have:ds=[]:=aw c1
  subst this;rcases hn with rfl|⟨a,rfl⟩
  .rw[C];exact .nil
  .rw[C];exact .empty _ _
 .have y:∀d∈ds,d.isCell=true:=λd f=>by
   obtain⟨i,hi⟩:=aL f;have:=an.1 q4.2 _ (jF (q i d hi));cases d<;>simp_all [PV.flat,fy.isCell]
  have x:∀d∈ds,d.cells=[d]:=λd f=>by
   have:=y d f;cases d<;>simp_all [fy.cells,fy.isCell]
  have hml:=wC q4.2
  have G:len<=cap - lo:=by
   obtain⟨a,c,I,e2⟩:=D;rw[C]at I;simp[gP]at I;omega
  have z:fG (.slice (some ⟨b,0,none⟩) l cap)=some b:=by simp[fG];omega
  rw[C,gP,iv,zY];refine .lst b lo len (cap - lo) 1 ds (λj=>cur.getD (lo+j) undef) c1.symm G (λd f=>by rw[fy.num_eq,x d f];rfl) (λj K=>?_) (λs j d u f A=>?_)
  .rw[aK]at K;have k:lo+j<cur.size:=by omega
   refine⟨?_,E _ _ z y8⟩;rw[cell_of_row w _ _ cur _ (0,0) q2,jH,jA k];rfl
  .rw[x d (jF f)]at A;have K:j=0:=by cases j with|zero=>rfl|succ j=>simp at A
   subst K;simp at A;subst A;have hi':s<len:=by rw[<-c1];exact(ae.1 f).1
   have k:lo+s<cur.size:=by omega
   have:=((M (lo+s) _ _ (jA k) (q s d f)).datInv).mono W (λ_ _ _=>rfl)
   simpa[jH,jA k]using this
 .have z:fG (.slice (some ⟨b,0,none⟩) l cap)=some b:=by simp[fG];omega
  rw[C,gP,iv,zY];cases t:ds with
  |nil=>
   subst t;obtain rfl:len=0:=by simpa using c1.symm
   exact .empty _ _
  |cons Q r=>
   have B:∀(i:Nat) d,ds[i]?=some d->J[lo+i]?=some d:=λi d f=>by
    have:=q i d f;rw[jD,j5]at this;obtain⟨d',R,T⟩:=this;cases T;exact R
   have U:lo=0:=by
    simp only[wQ,zS,jE,bo]at p;rcases p with p|p
    .exfalso
     have h0:=B 0 Q (by rw[t];rfl);have R:=gC (an.1 q4 _ (jF h0));have T:=an.1 p Q (by rw[t];simp);cases Q<;>simp[fy.num,fy.isCell]at R T<;>omega
    .exact p.1
   subst U
   have H:ds.all (fy.fits size)=true:=by
    rw[j8];intro d f;obtain⟨i,hi⟩:=aL f;exact an.1 q4 d (jF (B i d hi))
   rw[<-t];have V:len<=J.length:=by simpa using c2
   have hll:len*size<=J.length*size:=au _ V;have D:J.length*size<=cap*size:=au _ O;refine .lst b 0 len (cap - 0) size ds (λj=>cur.getD (0+j) undef) c1.symm y8 (λd f=>gC (an.1 H d f)) (λj K=>?_) (λs j d u f A=>?_)
   .have k:0+j<cur.size:=by omega
    refine⟨?_,E _ _ z (by rw[En q4];omega)⟩;rw[cell_of_row w _ _ cur _ (0,0) q2,jH,jA k];rfl
   .obtain⟨k1,k2,k3⟩:=mY H f A (n:=cap) y8;have k:0+(s*size+j)<cur.size:=by omega
    have X:=B s d f;rw[zY]at X;have:=(M s j d u _ X A (jA y8)).mono W (λ_ _ _=>rfl)
    simpa[jH,jA (show s*size+j<cur.size by omega)]using this
theorem D5{p:PV}{n:Nat}(h:p.numOf=some n):∃d,p=.dat d/\d.num=n:=by
 cases p with
 |dat d=>exact⟨d,rfl,by simpa[PV.numOf]using h⟩
 |_=>simp[PV.numOf]at h
theorem oQ{d:fy}{n:Nat}(h:d.num=n)(c:1<n):d=.agg d.cells:=by
 cases d with
 |agg cs=>rfl
 |raw=>simp[fy.num]at h;omega
 |lst=>simp[fy.num]at h;omega
theorem pG.mul{e:fq}{cs:List PV}{v0:fu}{i n:Nat}(h:pG P g N B0 w e cs v0)(hn:cs[i]?.bind PV.numOf=some n)(f:1<n):pq P g B0 w e cs v0:=by
 rw[jK]at hn;obtain⟨p,c,hn⟩:=hn;obtain⟨d,rfl,j⟩:=D5 hn;rcases h with⟨rfl,_⟩|⟨b,l,cap,cur,rfl,q0,q1,q2,q3,q4,_⟩|h
 .simp at c
 .have:=an.1 q4.2 _ (jF c);rw[oQ j f]at this;simp[PV.flat]at this
 .exact h
theorem pG.toMul{e size:fq}{cs:List PV}{v0:fu}(h:pG P g N B0 w e cs v0)(m:fJ P e=some size)(n:1<size)(f:cs.all (λc=>!c.flat)=true):
  (cs=[]/\(v0=.slice none 0 0\/∃a,v0=.slice (some a) 0 0))\/pq P g B0 w e cs v0:=by
 rcases h with h|⟨b,l,cap,cur,rfl,q0,q1,q2,⟨r,q3,p,k⟩,q4,q5,q6,q7,s⟩|h
 .exact .inl h
 .rw[m]at q3;cases q3;cases cs with
  |nil=>exact .inr ⟨b,l,cap,cur,size,[],rfl,q0,q1,q2,m,n,rfl,rfl,zP _,q5,k,q7,λi j d u v a=>by simp at a⟩
  |cons c cs=>
   simp only[bq,jE]at f q4;have q:=q4.2.1;rw[q]at f;exact absurd f.1 yC
 .exact .inr h
theorem Dl{t:fq}{x:ft}{K:fq}{cs:List PV}{n tt gg j:Nat}{p:PV}(L:o.op=.load t x)(M:ρ x=.mp tt gg j)(N:H[tt]?=some (.mt K gg cs))(O:pF P t=some true)(hn:fJ P t=some n)(r:1<n)(E:j%n=0)(e:cs[j/n]?.bind PV.numOf=some n)(B:cs[j/n]?=some p)(F:Qm P g B0 H.length H w)(hi:Inv B0 w0 S0 g w)(C:∀x,fC g H.length w (a.eval x) (ρ x)):
  ∃v g' w',fQ P o a w v w'/\Good P B0 w0 S0 H g w p H v g' w':=by
 have h:=C x;rw[M]at h;generalize Q:a.eval x=v at h;cases h with
 |mp t' gg' j' v v0 m h1 R h3 S h5=>
  obtain⟨v1,k1,k2⟩:=F.mt tt _ _ _ N;rw[R]at k1;simp only[j9,jI]at k1;obtain⟨rfl,rfl⟩:=k1;obtain⟨b,l,cap,G,rfl⟩:=S rfl;obtain⟨T,l',s,cur,size,ds,rfl,q0,q1,q2,q3,U,rfl,q4,V,q5,q6,q7,W⟩:=k2.mul e r;simp only[Value.slice.injEq,j9,Addr.mk.injEq]at G;obtain⟨⟨rfl,_,_⟩,_,_⟩:=G;rw[B]at e;rw[jD,j5]at B;obtain⟨d,D,rfl⟩:=B;have y:d.num=n:=by simpa[PV.numOf]using e
  have X:d.num=size:=gC (an.1 q4 d (jF D));obtain rfl:n=size:=by omega
  have z:j/n*n=j:=by have:=cj j n;rw[bB];omega
  have Y:j/n<ds.length:=(ae.1 D).1
  have I:j+n<=cur.size:=by
   have:(j/n+1)*n<=s*n:=au _ y8
   rw[av,z]at this;omega
  have f:∀(q:Nat) u,((cur.toList.drop j).take n)[q]?=some u->q<n/\cur[j+q]?=some u:=λq u k=>by
   rw[jR]at k;split at k
   .exact⟨by assumption,by simpa using k⟩
   .cases k
  have A:=oQ y r;have Z:d.cells.length=n:=by rw[<-fy.num_eq];exact y
  have hr:=ji (P:=P) (w:=w) (b:=T) (off:=j) ((cur.toList.drop j).take n) O hn y9 (λh=>by cases h) (λq u k=>by
   rw[cell_of_row w _ _ cur _ (0,0) q2];exact(f q u k).2)
  refine⟨_,g,w,.inl (by simp only[execOp,L,Q];simp[Instr.loadAt,Instr.sureAddr,hr];rfl),.same F hi (.dat _ _ ?_)⟩;rw[A];refine .agg _ _ y9 λq u c J g2=>?_
  simp only[aO]at J;obtain⟨_,k⟩:=f q u J;exact W (j/n) q d c u D g2 (by rw[z];exact k)
theorem AW{tt y gg gg' b M l1 c size:Nat}{cs:List PV}{ds':List fy}{cur new:Array Value}{v:fu}{p:PV}(E:H[tt]?=some (.mt y gg cs))(l:g.own tt=some (.slice (some ⟨b,0,none⟩) M c,gg))(q0:0<c)(q1:B0<=b)(q2:w.heap[b]?=some (.cells cur y (0,0)))(q3:fJ P y=some size)(F:1<size)(q5:c<=maxLen)(q6:cur.size=c*size)(q7:∀o,¬g.S b o)(O:ds'.all (fy.fits size)=true)(hl:ds'.length<=c)(hn:new.size=cur.size)(A:Mq w g.S size ds' new)(G:gg'=gg/\l1=M\/gg'=gg+1)(D:Qm P g B0 H.length H w)(hi:Inv B0 w0 S0 g w)(Q:fC (g.give tt (.slice (some ⟨b,0,none⟩) l1 c) gg') H.length w v p):
  Good P B0 w0 S0 H g w p (H.set tt (.mt y gg' (ds'.map .dat))) v (g.give tt (.slice (some ⟨b,0,none⟩) l1 c) gg') (w.setRow b new):=by
 have r:tt<H.length:=(ae.1 E).1;have k:occ g H tt=some b:=by rw[gJ E,l];simp[fG];omega
 have s:(w.setRow b new).heap[b]?=some (.cells new y (0,0)):=setRow_heap w _ _ _ _ _ q2
 have m:∀z o',g.S z o'->(w.setRow b new).cell? ⟨z,o',none⟩=w.cell? ⟨z,o',none⟩:=λz o' I=>cell_setRow_other w _ _ _ (λe=>by
  simp only at e;subst e;exact q7 o' I)
 have J:Ext H.length g w (g.give tt (.slice (some ⟨b,0,none⟩) l1 c) gg') (w.setRow b new):=⟨λ_ _ h=>h,m,λ_ _ h=>⟨rfl,h⟩,λN _ v n h=>by
   by_cases e':N=tt
   .subst e';rw[l]at h;cases h;refine⟨_,gg',by simp[Gh.give];rfl,by omega,λe=>?_⟩;rcases G with⟨_,rfl⟩|G
    .rfl
    .omega
   .exact⟨v,n,by simp only[Gh.give];rw[af e'];exact h,j7 _,λ_=>rfl⟩⟩
 have K:Ext H.length (g.give tt (.slice (some ⟨b,0,none⟩) l1 c) gg') w (g.give tt (.slice (some ⟨b,0,none⟩) l1 c) gg') (w.setRow b new):=⟨λ_ _ h=>h,m,λ_ _ h=>⟨rfl,h⟩,λ_ _ v n h=>⟨v,n,h,j7 _,λ_=>rfl⟩⟩;have f:(g.give tt (.slice (some ⟨b,0,none⟩) l1 c) gg').own tt=some (.slice (some ⟨b,0,none⟩) l1 c,gg'):=by simp[Gh.give]
 have B:fG (.slice (some ⟨b,0,none⟩) l1 c)=some b:=by simp[fG];omega
 refine⟨J,by simp,Q.ext K yA,?_,⟨below_setRow hi.below q1 _,by simp;exact hi.size,hi.old,λb o' I=>by simp;exact hi.lt b o' I⟩,⟨by simp,λb _ hn=>setRow_other w _ _ _ (λe=>hn tt (by rw[k,e])),λi z L _=>?_,λb o h=>.inl h⟩⟩
 .refine D.turn J yA (j7 _) _ r (λi b t x=>setRow_other w _ _ _ (λe=>t (D.sep i tt b x (by rw[k,e]))))
   (λ_ _ _ _ _ h=>h) (λN _ q=>by simp only[Gh.give];rw[af q]) (λC hc=>by cases hc) (λ_ _ h=>by cases h) (λi z t x h=>?_) (λe' n' C hc=>?_) (hmt0:=λe' C hc=>?_)
  .rw[gJ (e:=y) (n:=gg') (cs:=ds'.map .dat) (by simp[r]),f]at h;simp only[zW,B,j9]at h;subst h;exact t (D.sep i _ _ x k)
  .cases hc;exact⟨_,f,.inr (.inr ⟨b,l1,c,new,size,ds',rfl,q0,q1,s,q3,F,rfl,O,hl,q5,by omega,q7,λi j d u v R T U=>(A i j d u v R T U).ext J⟩)⟩
  .exfalso
   rcases G with⟨rfl,_⟩|rfl
   .cases hc;obtain⟨V,k1,k2⟩:=D.mt0 _ _ _ E;rw[l]at k1;cases k1;simp[fG]at k2;omega
   .cases hc
 .rcases kU r L with⟨q,h⟩|⟨rfl,h⟩
  .refine⟨i,?_⟩;unfold occ at h |-;split at h
   .exact h
   .simp only[Gh.give]at h;rw[af q]at h;exact h
   .simp only[Gh.give]at h;rw[af q]at h;exact h
   .exact h
   .cases h
   .cases h
  .refine⟨i,?_⟩;rw[f]at h;simp only[zW,B,j9]at h;subst h;exact k
theorem zt{t:fq}{x y:ft}{N:fq}{cs:List PV}{tt gg j n:Nat}{d:fy}(ho:o.op=.store t x y)(hx:ρ x=.mp tt gg j)(X:ρ y=.dat d)(Y:H[tt]?=some (.mt N gg cs))(hn:fJ P t=some n)(O:1<n)(L:d.fits n=true)(Z:j%n=0)(e:cs[j/n]?.bind PV.numOf=some n)(hH:Qm P g B0 H.length H w)(hi:Inv B0 w0 S0 g w)(A:∀x,fC g H.length w (a.eval x) (ρ x)):
  ∃v g' w',fQ P o a w v w'/\Good P B0 w0 S0 H g w (.tup []) (H.set tt (.mt N gg (cs.set (j/n) (.dat d)))) v g' w':=by
 have h:=A x;rw[hx]at h;generalize hv:a.eval x=v at h;cases h with
 |mp t' gg' j' v v0 m h1 h2 h3 h4 h5=>
  obtain⟨v1,k1,k2⟩:=hH.mt tt _ _ _ Y;have D:=h2;rw[h2]at k1;simp only[j9,jI]at k1;obtain⟨rfl,rfl⟩:=k1;obtain⟨b,l,cap,e1,rfl⟩:=h4 rfl;obtain⟨b',l',E,cur,size,ds,rfl,q0,q1,q2,q3,Q,rfl,q4,F,q5,q6,q7,q8⟩:=k2.mul e O;simp only[Value.slice.injEq,j9,Addr.mk.injEq]at e1;obtain⟨⟨rfl,_,_⟩,_,_⟩:=e1;rw[jK]at e;obtain⟨p0,G,e⟩:=e;rw[jD,j5]at G;obtain⟨R,I,rfl⟩:=G;have hds:R.num=size:=gC (an.1 q4 R (jF I));have hd0n:R.num=n:=by simpa[PV.numOf]using e
  obtain rfl:n=size:=by omega
  have k:j/n*n=j:=by have:=cj j n;rw[bB];omega
  have T:j/n<ds.length:=(ae.1 I).1
  have r:j+n<=cur.size:=by
   have:(j/n+1)*n<=E*n:=au _ y8
   rw[av,k]at this;omega
  have U:fY w g.S (a.eval y) d:=by have:=A y;rw[X]at this;exact this.datInv
  obtain⟨y1,y2⟩:=U.cells;have V:d.cells.length=n:=by rw[<-fy.num_eq];exact gC L
  have f:(a.eval y).cells.toList.length=n:=by simp;omega
  have J:∀u∈(a.eval y).cells.toList,u.oneCell'=true:=by
   refine oW (A y) ?_;rw[X];simp only[PV.cells,aR];rw[j8];intro c hc;simp only[fy.fits,jE]at L;have:=an.1 L.2 c hc;cases c<;>simp_all [PV.cell,fy.isCell]
  have hst:=run_storeCells_at P b' j N (a.eval y).cells.toList 0 cur w q2 (by rw[f];simpa using r) J;simp only[zX]at hst;generalize s:(cur.toList.take j++(a.eval y).cells.toList++cur.toList.drop (j+(a.eval y).cells.toList.length))=new at hst
  have K:∀q,new[q]?=if q<j then cur[q]? else if q<j+n then(a.eval y).cells[q - j]? else cur[q]?:=λq=>by
   rw[<-s,gH _ _ _ (by rw[f];simpa using r),f];simp
  have hg:=AW (P:=P) (S0:=S0) (w0:=w0) (gg':=m) (l1:=l') (ds':=ds.set (j/n) d) (cur:=cur) (new:=new.toArray) (v:=undef) (p:=.tup []) Y D q0 q1 q2 q3 Q q5 q6 q7
   (by
    rw[j8]at q4 |-;intro c hc;rcases dS hc with hc|rfl
    .exact q4 c hc
    .exact L) (by simpa using F) (by rw[<-s];simp only[bK,jV,zV,y6,aP,f];omega)
   (λi q d' u v' C M z=>by
    simp only[aO]at z;rw[K]at z;rw[zE]at C;by_cases B:j/n=i
    .subst B;rw[ai rfl,ai T]at C;cases C;have hq:q<n:=by rw[<-V];exact(ae.1 M).1
     rw[k,af y8,ai y8,show j+q - j=q by omega]at z;exact y2 q _ _ z M
    .rw[af B]at C;obtain⟨z1,z2,z3⟩:=mY q4 C M F
     have hc:cur[i*n+q]?=some v':=by
      have:i*n+q<j\/j+n<=i*n+q:=by
       rcases Nat.lt_or_gt_of_ne B with h|h
       .have:(j/n+1)*n<=i*n:=au _ y8
        rw[av,k]at this;omega
       .have:(i+1)*n<=(j/n)*n:=au _ y8
        rw[av,k]at this;omega
      rcases this with h|h
      .rw[ai h]at z;exact z
      .rw[af y8,af y8]at z;exact z
     exact q8 i q d' u v' C M hc)
   (.inl ⟨rfl,rfl⟩) hH hi (.tup _ _ rfl (λj v c h=>by simp at h))
  rw[fg]at hg;refine⟨undef,_,_,.inr ⟨?_,rfl⟩,hg⟩;have W:(a.eval y).cells.size=n:=by simpa using f
  simp only[execOp,ho,hv];simp[Instr.storeAt,Instr.sureAddr,storeVar,W,hZ hn,hst]
theorem Ao{tt x gg cap size:Nat}{xs es:List fy}{olds news:List Value}{zs:Array Value}{v0:fu}(r:H[tt]?=some (.mt x gg (xs.map PV.dat)))(D:g.own tt=some (v0,gg))(q3:fJ P x=some size)(L:1<size)(q4:xs.length+es.length<=cap)(q5:cap<=maxLen)(hpos:0<es.length)(y:xs.all (fy.fits size)=true)(z:es.all (fy.fits size)=true)(c:olds.length=xs.length*size)(s:news.length=es.length*size)(X:zs.size=(cap - (xs.length+es.length))*size)(E:∀(i j:Nat) d u,xs[i]?=some d->d.cells[j]?=some u->fY w g.S (olds.getD (i*size+j) undef) u)(F:∀(i j:Nat) d u,es[i]?=some d->d.cells[j]?=some u->fY w g.S (news.getD (i*size+j) undef) u)(K:Qm P g B0 H.length H w)(hi:Inv B0 w0 S0 g w)(vals:Array Value)(f:vals=olds.toArray++news.toArray++zs):
  ∃g',Good P B0 w0 S0 H g w (.ms tt (gg+1) 0 (xs.length+es.length) (xs.length+es.length)) (H.set tt (.mt x (gg+1) (xs.map PV.dat++es.map PV.dat))) (.slice (some ⟨w.heap.size,0,none⟩) (xs.length+es.length) cap) g' (w.drew.alloc (.cells vals x)):=by
 have l:tt<H.length:=(ae.1 r).1;have G:Inv B0 w0 S0 g w.drew:=⟨hi.below.drew,hi.size,hi.old,hi.lt⟩;have U:Ext H.length g w g w.drew:=⟨λ_ _ h=>h,λ_ _ _=>rfl,λ_ _ h=>⟨rfl,h⟩,λ_ _ v n h=>⟨v,n,h,j7 _,λ_=>rfl⟩⟩;have Y:Qm P g B0 H.length H w.drew:=K.keep U (j7 _) (j7 _) (λ_ _ _=>rfl) (λ_ _ _ _ h=>h) (λ_ _=>rfl)
 let A:Value:=.slice (some ⟨w.heap.size,0,none⟩) (xs.length+es.length) cap
 let k:=g.give tt A (gg+1)
 let C:=w.drew.alloc (.cells vals x)
 have k1:Ext H.length g w.drew g C:=Ext.alloc G H.length _;have m:Inv B0 w0 S0 g C:=G.alloc _;have B:C.heap[w.heap.size]?=some (.cells vals x (0,0)):=heap_alloc_new w.drew _
 have Z:Ext H.length g C k C:=⟨λ_ _ h=>h,λ_ _ _=>rfl,λ_ _ h=>⟨rfl,h⟩,λV ht' v n' h=>by
  by_cases e':V=tt
  .subst e';rw[D]at h;cases h;exact⟨A,gg+1,by simp[k,Gh.give],by omega,λe=>by omega⟩
  .exact⟨v,n',by simp only[k,Gh.give];rw[af e'];exact h,j7 _,λ_=>rfl⟩⟩
 have M:Ext H.length g w k C:=(U.trans k1 (j7 _)).trans Z (j7 _)
 have N:vals.size=cap*size:=by
  rw[f];simp only[dR,bK,c,s,X];rw[<-av,<-av];congr 1;omega
 refine⟨k,M,by simp,.ms _ _ _ _ _ _ A (gg+1) (by simpa using l) (by simp[k,Gh.give]) (j7 _) (λ_=>⟨by simp[A,gP,Addr.add],.inr (.inr ⟨_,_,_,rfl⟩)⟩) ⟨_,_,rfl,q4,q4,λ_=>rfl⟩,?_,⟨m.below,m.size,m.old,m.lt⟩,Fr.old yA (λb r=>Below.heap_alloc w.drew _ b r) (λi b h O=>?_)⟩
 case refine_2=>
  rcases kU l h with⟨p,h⟩|⟨rfl,h⟩
  .refine⟨i,?_⟩;unfold occ at h |-;split at h
   .exact h
   .simp only[k,Gh.give]at h;rw[af p]at h;exact h
   .simp only[k,Gh.give]at h;rw[af p]at h;exact h
   .exact h
   .cases h
   .cases h
  .simp[k,Gh.give,A,fG]at h;obtain⟨_,rfl⟩:=h;exact absurd O (jZ _)
 refine K.turn M yA (j7 _) _ l (λi b _ r=>Below.heap_alloc w.drew _ b (K.occ_lt r).2.1) (λi b _ r o Q=>Q) (λV _ p=>by simp only[k,Gh.give];rw[af p]) (λ_ h=>by cases h) (λ_ _ h=>by cases h) (λi b hik r h=>?_) (λe' n' cs' hc=>?_)
 .rw[gJ (e:=x) (n:=gg+1) (cs:=xs.map PV.dat++es.map PV.dat) (by simp[l])]at h;simp[k,Gh.give,A,fG]at h;obtain⟨_,rfl⟩:=h;exact jZ _ (K.occ_lt r).2.1
 .cases hc;refine⟨A,by simp[k,Gh.give],.inr (.inr ⟨w.heap.size,_,cap,vals,size,xs++es,rfl,by omega,hi.size,B,q3,L,by rw[zL],by rw[zQ,y,z];rfl,by simp;omega,q5,N,λo Q=>jZ _ (hi.lt _ _ Q),λi j d u v t I J=>?_⟩)⟩;have R:(xs++es).all (fy.fits size)=true:=by rw[zQ,y,z];rfl
  obtain⟨z1,z2,z3⟩:=mY R t I (j7 _)
  have:fY w g.S v u:=by
   rw[jT]at t;split at t
   .rename_i T;have W:i*size+j<olds.length:=by rw[c];exact(mY y t I (j7 _)).2.2
    have:=E i j d u t I;rw[f,aG,ai y9,aG,ai (by simpa using W)]at J;rw[jB,show olds[i*size+j]?=some v by simpa using J]at this;exact this
   .rename_i T;obtain⟨q,rfl⟩:∃q,i=xs.length+q:=⟨i - xs.length,by omega⟩;rw[show xs.length+q - xs.length=q by omega]at t;have W:q*size+j<news.length:=by rw[s];exact(mY z t I (j7 _)).2.2
    have hsum:(xs.length+q)*size+j=olds.length+(q*size+j):=by rw[c,av];omega
    have:=F q j d u t I;rw[f,aG,ai y9,aG,af y9]at J
    rw[jB,show news[q*size+j]?=some v by
     rw[hsum]at J
     simpa using J]at this
    exact this
  exact this.ext M
theorem xn{e bytes size tt gg lo len cap:Nat}{x s:ft}{ts:fq}(ho:o.op=.call {callee:=.builtin .append,args:=#[s,x],argTypes:=#[ts,ts]})(R:fA P ts=some e)(X:fJ P e=some size)(hb:bytesOf P e=some bytes)(hz:(fL P e).map fy.num=some size)(h0b:0<bytes)(hsv:ρ s=.ms tt gg lo len cap)(G:oy H e size bytes tt gg lo len (ρ x)=some (p,H'))(hH:Qm P g B0 H.length H w)(hi:Inv B0 w0 S0 g w)(hρ:∀x,fC g H.length w (a.eval x) (ρ x)):
  ∃v g' w',fQ P o a w v w'/\Good P B0 w0 S0 H g w p H' v g' w':=by
 unfold oy at G;split at G
 case h_2=>cases G
 rename_i es y g' cs hxv hm;split at G
 case isFalse=>cases G
 rename_i hc;obtain⟨K,he,rfl,rfl,rfl,rfl,hpos,k,hnf⟩:=hc;cases G;simp only[j5]at hz;obtain⟨z,hz,hzn⟩:=hz;obtain⟨ie,Y,i1,i2,i3,_⟩:=gE hz;have C:ie.size=size:=by simp only[fJ,i1,jN,j9]at X;exact X
 have hby:ie.bytes=bytes:=by simp only[bytesOf,i1,jN,j9]at hb;exact hb
 have hzs:Y.cells.size=size:=by rw[(i3 w g.S).cells.1,<-fy.num_eq,hzn]
 obtain⟨news,D⟩:=DR (P:=P) (size:=size) hH (hρ x) hxv he;have hone:=FG D y8 he;have l:=D.len;have I:=Zb hm;simp only at I;have E:=hρ s;rw[hsv]at E;generalize hvs:a.eval s=vs at E
 have T:∀v w',(Builtin.append_ #[ts,ts] o.type #[vs,a.eval x]).run P w=.ok v w'->fQ P o a w v w':=λv w' J=>by
  left;simp[execOp,ho,resolve,invoke,builtin,hvs,J]
 have U:cs.length+es.length<=gO:=jW (aD _ h0b) k;have A:cs.length+es.length<=maxLen:=by simp only[gO]at U;simp only[maxLen];omega
 have L:((cs.length+es.length:Nat):Int)<=9223372036854775807:=by simp only[gO]at U;omega
 obtain⟨ad,c,V,n⟩:∃ad c,a.eval x=.slice (some ad) es.length c/\∀(j:Nat) u,news[j]?=some u->w.cell? (ad.add j)=some u:=by
  rcases D.shape with⟨_,h⟩|⟨ad,c,h,h'⟩
  .subst h;simp at hpos
  .exact⟨ad,c,h,h'⟩
 cases E with
 |ms _ _ _ _ _ v v0 m k1 k2 k3 k4 k5=>
  obtain⟨v1,j1,j2⟩:=hH.mt tt _ _ _ I;have F:=k2;rw[k2]at j1;simp only[j9,jI]at j1;obtain⟨rfl,rfl⟩:=j1;obtain⟨hv,hbase⟩:=k4 rfl;rcases j2.toMul X K hnf with⟨rfl,hv0⟩|⟨b,l',f,cur,size',xs,rfl,q0,q1,q2,q3,q3',rfl,q4,q4',q5,q6,q7,q8⟩
  rotate_left
  .obtain rfl:size=size':=by rw[X]at q3;exact jS q3
   simp only[jY]at k U A L hv hsv |-;have W:vs=.slice (some ⟨b,0,none⟩) xs.length f:=by rw[hv];simp[gP,Addr.add]
   have hxc:xs.length*size<=f*size:=au _ q4';by_cases B:xs.length+es.length<=f
   .have t:xs.length*ie.size+news.length<=cur.size:=by rw[l,q6,C,<-av];exact au _ B
    have J:=run_append_room (P:=P) w ts o.type y ie (QM R) i1 b xs.length f cur q2 ad es.length c news (by rw[C];exact l) n hone B t;rw[C]at J t;generalize Z:(cur.toList.take (xs.length*size)++news++cur.toList.drop (xs.length*size+news.length))=new at J
    have hget:∀q,new[q]?=if q<xs.length*size then cur[q]? else if q<xs.length*size+news.length then news[q - xs.length*size]? else cur[q]?:=λq=>by
     rw[<-Z,gH _ _ _ (by simpa using t)];simp
    have O:=AW (P:=P) (S0:=S0) (w0:=w0) (gg':=m+1) (l1:=xs.length+es.length) (ds':=xs++es) (cur:=cur) (new:=new.toArray) (v:=.slice (some ⟨b,0,none⟩) (xs.length+es.length) f) (p:=.ms tt (m+1) 0 (xs.length+es.length) (xs.length+es.length)) I F q0 q1 q2 X K q5 q6 q7
     (by rw[zQ,q4,he];rfl) (by simpa using B) (by rw[<-Z];simp only[bK,jV,zV,y6,aP];omega)
     (λi q d u v' Q a2 a3=>by
      simp only[aO]at a3;rw[hget]at a3;rw[jT]at Q;split at Q
      .obtain⟨z1,z2,z3⟩:=mY q4 Q a2 (j7 _);rw[ai z3]at a3;exact q8 i q d u v' Q a2 a3
      .obtain⟨r,rfl⟩:∃r,i=xs.length+r:=⟨i - xs.length,by omega⟩;rw[show xs.length+r - xs.length=r by omega]at Q;obtain⟨z1,z2,z3⟩:=mY he Q a2 (j7 _);have hsum:(xs.length+r)*size+q=xs.length*size+(r*size+q):=by rw[av];omega
       rw[hsum,af y8,ai (by rw[l];omega),show xs.length*size+(r*size+q) - xs.length*size=r*size+q by omega]at a3;have:=D.rep r q d u Q a2;rw[jB,a3]at this;exact this)
     (.inr rfl) hH hi (.ms _ _ _ _ _ _ (.slice (some ⟨b,0,none⟩) (xs.length+es.length) f) (m+1) k1 (by simp[Gh.give]) (j7 _) (λ_=>⟨by simp[gP,Addr.add],.inr (.inr ⟨b,_,_,rfl⟩)⟩) ⟨_,_,rfl,B,B,λ_=>rfl⟩)
    rw[zL]at O;exact⟨_,_,_,T _ _ (by rw[V,W];exact J),O⟩
   .have holds:∀(j:Nat) v,(cur.toList.take (xs.length*size))[j]?=some v->w.cell? ((⟨b,0,none⟩:Addr).add j)=some v:=λj v h=>by
     rw[jR]at h;split at h
     .rw[iv,cell_of_row w _ _ cur _ (0,0) q2];simpa using h
     .cases h
    have J:=run_append_grow (P:=P) w ts o.type y ie Y (QM R) i1 i2 ⟨b,0,none⟩ xs.length f (cur.toList.take (xs.length*size)) (by rw[C];simp;omega) holds ad es.length c news (by rw[C];exact l) n y8 L (growslice_fits y8 (by rw[hby];exact k));have M:=grownCap_ge w (xs.length+es.length) f y;have N:=grownCap_le_maxLen w (xs.length+es.length) f y A
    obtain⟨g',O⟩:=Ao (P:=P) (S0:=S0) (w0:=w0) (olds:=cur.toList.take (xs.length*size)) (zs:=Builtin.zeroCells Y.cells (grownCap w (xs.length+es.length) f y - (xs.length+es.length))) (cap:=grownCap w (xs.length+es.length) f y) I F X K M N hpos q4 he y9 l
     (by simp[size_zeroCells,hzs]) (λi j d u Q a2=>by
      obtain⟨z1,z2,z3⟩:=mY q4 Q a2 (j7 _);have hc:cur[i*size+j]?=some (cur[i*size+j]'y8):=jA y8;have:=q8 i j d u _ Q a2 hc;rw[jB,jR,ai z3,zH,hc];exact this) D.rep hH hi _ rfl
    exact⟨_,g',_,T _ _ (by rw[V,W];exact J),O⟩
  .simp only[jL,zY]at k U A L hv hsv |-;rcases hv0 with rfl|⟨a0,rfl⟩
   .have J:=run_append_nil (P:=P) w ts o.type y ie Y (QM R) i1 i2 ad es.length c news (by rw[C];exact l) n hpos L (by rw[hby];simp only[gO]at k;omega);have M:=grownCap_ge w es.length 0 y;have N:=grownCap_le_maxLen w es.length 0 y A
    obtain⟨g',O⟩:=Ao (P:=P) (S0:=S0) (w0:=w0) (xs:=[]) (olds:=[]) (zs:=Builtin.zeroCells Y.cells (grownCap w es.length 0 y - es.length)) (cap:=grownCap w es.length 0 y) I F X K (by simpa using M) N hpos rfl he yA l
     (by simp[size_zeroCells,hzs]) (λi j d u h=>by simp at h) D.rep hH hi (news.toArray++Builtin.zeroCells Y.cells (grownCap w es.length 0 y - es.length)) yA
    simp only[jL,zY,aN,jQ]at O |-;exact⟨_,g',_,T _ _ (by rw[V,hv];exact J),O⟩
   .have W:vs=.slice (some (a0.add 0)) 0 0:=by rw[hv];simp[gP]
    have J:=run_append_grow (P:=P) w ts o.type y ie Y (QM R) i1 i2 (a0.add 0) 0 0 [] yA (λj v h=>by simp at h) ad es.length c news (by rw[C];exact l) n y8 (by simpa using L) (growslice_fits y8 (by rw[hby];simpa[gO]using k));have M:=grownCap_ge w (0+es.length) 0 y;have N:=grownCap_le_maxLen w (0+es.length) 0 y (by simpa using A)
    obtain⟨g',O⟩:=Ao (P:=P) (S0:=S0) (w0:=w0) (xs:=[]) (olds:=[]) (zs:=Builtin.zeroCells Y.cells (grownCap w (0+es.length) 0 y - (0+es.length))) (cap:=grownCap w (0+es.length) 0 y) I F X K (by simpa using M) N hpos rfl he yA l
     (by simp[size_zeroCells,hzs]) (λi j d u h=>by simp at h) D.rep hH hi _ rfl
    simp only[jL,zY,aN,jQ]at O J |-;exact⟨_,g',_,T _ _ (by rw[V,W];exact J),O⟩
theorem Iu{e len cap:Nat}{cs:List PV}(vals:Array Value)(k:len<=cap)(hpos:0<cap)(l:∀w',w'.heap[w.heap.size]?=some (.cells vals e (0,0))->Ext H.length g w g w'->∀g',Ext H.length g w g' w'->g'.S=g.S->pG P g' (H.length+1) B0 w' e cs (.slice (some ⟨w.heap.size,0,none⟩) len cap))(q:Qm P g B0 H.length H w)(hi:Inv B0 w0 S0 g w):
  ∃g',Good P B0 w0 S0 H g w (.ms H.length 1 0 len cap) (H++[.mt e 1 cs]) (.slice (some ⟨w.heap.size,0,none⟩) len cap) g' (w.alloc (.cells vals e)):=by
 let v0:Value:=.slice (some ⟨w.heap.size,0,none⟩) len cap
 have k1:Ext H.length g w g (w.alloc (.cells vals e)):=Ext.alloc hi H.length _;have m:=q.alloc hi (j7 _) (.cells vals e);have d:=hi.alloc (.cells vals e);have r:Ext H.length g (w.alloc (.cells vals e)) (g.give H.length v0 1) (w.alloc (.cells vals e)):=.giveNew _ _ _ (j7 _);have s:=k1.trans r (j7 _);have f:fG v0=some w.heap.size:=by simp[v0,fG];omega
 have c:(g.give H.length v0 1).own H.length=some (v0,1):=by simp[Gh.give]
 refine⟨g.give H.length v0 1,s,by simp,.ms _ _ _ _ _ _ v0 1 yA c (j7 _) (λ_=>⟨by simp[v0,gP,Addr.add],.inr (.inr ⟨_,_,_,rfl⟩)⟩) ⟨_,_,rfl,j7 _,k,λ_=>rfl⟩,?_,⟨d.below,d.size,d.old,d.lt⟩,Fr.old yA (λb u=>Below.heap_alloc w _ b u) λi b h u=>?_⟩
 .have v:=m.keep r (show H.length<=(H++[fB.mt e 1 cs]).length by simp) (j7 _) (λ_ _ _=>rfl) (λ_ _ _ _ h=>h) (λt z=>by simp only[Gh.give];rw[af y8]);refine v.snoc _ (λcs h=>by cases h) (λe' n h=>by cases h) (λi b h p=>?_) (λe' n cs h=>?_) (hmt0:=λ_ _ h=>by cases h)
  .rw[gJ (e:=e) (n:=1) (cs:=cs) yA,c]at p;simp only[zW,f,j9]at p;subst p;have x:occ g H i=some w.heap.size:=gD (g:=g) h (λ_ _=>rfl) (λj y=>by simp only[Gh.give];rw[af y8]);exact jZ _ (q.occ_lt x).2.1
  .cases h;refine⟨v0,c,?_⟩;have:=l (w.alloc (.cells vals e)) (heap_alloc_new w _) k1 _ s rfl
   simpa using this
 .rcases nw h with h|⟨_,h⟩
  .exact⟨i,gD (g:=g) h (λ_ _=>rfl) (λj y=>by simp only[Gh.give];rw[af y8])⟩
  .rw[c]at h;simp only[zW,f,j9]at h;omega
theorem Eh{t e size bytes:Nat}{N O:ft}{z:fy}{c:Int}(ho:o.op=.makeSlice t N O)(he:fA P t=some e)(hz:fL P e=some z)(K:fJ P e=some size)(L:bytesOf P e=some bytes)(hl:ρ N=.dat (.raw (.int .i64 c)))(hc:ρ O=.dat (.raw (.int .i64 c)))(hm:oJ H e size bytes z c=some (p,H'))(hH:Qm P g B0 H.length H w)(hi:Inv B0 w0 S0 g w)(B:∀x,fC g H.length w (a.eval x) (ρ x)):
  ∃v g' w',fQ P o a w v w'/\Good P B0 w0 S0 H g w p H' v g' w':=by
 unfold oJ at hm;split at hm
 case isFalse=>cases hm
 rename_i y;obtain⟨h0,k,Q,R,T⟩:=y;obtain⟨n,f,U,i2,i3,_⟩:=gE hz;have C:n.size=size:=by simp only[fJ,U,jN,j9]at K;exact K
 have V:n.bytes=bytes:=by simp only[bytesOf,U,jN,j9]at L;exact L
 have vl:=kj (by rw[<-hl];exact B N);have vc:=kj (by rw[<-hc];exact B O);have hr:=run_make (P:=P) w t e n f (QM he) U i2 .i64 .i64 c c h0 (aC _) (by rw[V,bj];simp only[gO]at k;omega) Q;have D:fQ P o a w (.slice (some ⟨w.heap.size,0,none⟩) c.toNat c.toNat) (w.alloc (.cells (madeCells f.cells (c.toNat*n.size)) e)):=.inl (by simp only[execOp,ho,vl,vc,Sem.run_bind];rw[hr];rfl);split at hm
 .rename_i E;subst E;cases hm;have W:=hH.alloc hi (j7 _) (.cells (madeCells f.cells ((0:Int).toNat*n.size)) e);have X:=hi.alloc (.cells (madeCells f.cells ((0:Int).toNat*n.size)) e);obtain⟨g',r⟩:=qD (P:=P) (S0:=S0) (w0:=w0) W X e (some ⟨w.heap.size,0,none⟩);refine⟨_,g',_,D,⟨(Ext.alloc hi H.length _).trans r.ext (j7 _),r.len,r.rep,r.heap,r.inv,?_⟩⟩;exact(Fr.old yA (λb L=>Below.heap_alloc w _ b L) (λi b h _=>⟨i,h⟩)).trans r.fr
 .rename_i E;cases hm;have hpos:0<c.toNat:=by omega
  have s:c.toNat<=maxLen:=by
   have h1:c.toNat*bytes<=gO:=by
    have:((c.toNat*bytes:Nat):Int)<=(gO:Int):=by rw[bR,bU h0];exact k
    omega
   have h2:c.toNat<=c.toNat*bytes:=aD _ R;simp only[gO]at h1;simp only[maxLen];omega
  have l:∀(m:Nat) v,(madeCells f.cells (c.toNat*n.size))[m]?=some v->v=f.cells[m%f.cells.size]!:=λm v h=>by
   simp only[madeCells,zK,j5]at h;obtain⟨m',q,rfl⟩:=h;rw[eT]at q;split at q
   .cases q;rfl
   .cases q
  obtain⟨g',r⟩:=Iu (P:=P) (S0:=S0) (w0:=w0) (e:=e) (len:=c.toNat) (cap:=c.toNat) (cs:=List.replicate c.toNat (.dat z)) (madeCells f.cells (c.toNat*n.size)) (j7 _) hpos (λw' F e1 g' e2 hS=>by
   obtain⟨z1,z2⟩:=(i3 w' g'.S).cells;rcases T with⟨rfl,hzc⟩|⟨Y,G⟩
   .have A:f.cells.size=1:=by rw[z1];cases z<;>simp_all [fy.cells,fy.isCell]
    have Z:(madeCells f.cells (c.toNat*n.size)).size=c.toNat:=by rw[size_madeCells,C];omega
    refine .inr (.inl ⟨w.heap.size,_,c.toNat,_,rfl,hpos,hi.size,F,⟨1,K,by decide,by omega⟩,⟨by rw[Z];simp,?_⟩,s,by omega,λo h=>?_,λj v d g1 M=>?_⟩)
    .rw[j8];intro x hx;rw[aH hx];cases z<;>simp_all [PV.flat,fy.isCell]
    .rw[hS]at h;exact jZ _ (hi.lt _ _ h)
    .obtain rfl:=aH (jF M);rw[l j v g1];have h0:f.cells[0]?=some f.cells[0]:=jA y8;have hm:j%f.cells.size=0:=by rw[A];exact dE _
     have:f.cells[j%f.cells.size]! =f.cells[0]:=by simp only[hm,cI,jH,h0,aE]
     rw[this];exact .dat _ _ (z2 0 _ z h0 (by cases z<;>simp_all [fy.cells,fy.isCell]))
   .have I:z.cells.length=size:=by rw[<-fy.num_eq];exact gC G
    have A:f.cells.size=size:=by rw[z1,I]
    refine .inr (.inr ⟨w.heap.size,_,c.toNat,_,size,List.replicate c.toNat z,rfl,hpos,hi.size,F,K,Y,by simp,?_,by simp,s,by rw[size_madeCells,C],λo h=>?_,λi j d u v g1 M g3=>?_⟩)
    .rw[j8];intro x hx;rw[aH hx];exact G
    .rw[hS]at h;exact jZ _ (hi.lt _ _ h)
    .obtain rfl:=aH (jF g1);have hj:j<size:=by rw[<-I];exact(ae.1 M).1
     rw[l _ v g3];have hm:(i*size+j)%f.cells.size=j:=by rw[A,bB,eu];exact bX hj
     have J:f.cells[j]?=some (f.cells[j]'y8):=jA y8
     have:f.cells[(i*size+j)%f.cells.size]! =f.cells[j]'y8:=by simp only[hm,cI,jH,J,aE]
     rw[this];exact z2 j _ u J M) hH hi
  exact⟨_,g',_,D,r⟩
theorem uI{t e:fq}{len size:Nat}{c:Array (Nat×Operand)}{ds:List fy}(R:o.op=.buildSlice t len c)(L:fA P t=some e)(A:fJ P e=some size)(B:(fL P e).isSome=true)(T:gp H (c.toList.map λ(_,x)=>ρ x)=some ds)(hl:c.size=len)(U:np 0 c.toList=true)(V:ds.all (fy.fits size)=true)(h0:0<size)(W:len*size<=16777216)(C:c.toList.any (λ(_,x)=>(ρ x).lends)=false)(hH:Qm P g B0 H.length H w)(hi:Inv B0 w0 S0 g w)(D:∀x,fC g H.length w (a.eval x) (ρ x)):
  ∃vals:Array Value,(execOp a.eval o).run P w=.ok (.value (.slice (some ⟨w.heap.size,0,none⟩) len len)) (w.alloc (.cells vals e))/\vals.size=len*size/\ds.length=len/\
   Mq w g.S size ds vals:=by
 obtain⟨p1,X⟩:=jl _ _ T;have n:ds.length=len:=by rw[p1];simpa using hl
 obtain⟨z,B⟩:=aA.1 B;obtain⟨M,E,N,Y,_⟩:=gE B;have l:M.size=size:=by simp only[fJ,N,jN,j9]at A;exact A
 have k:∀(i:Nat) q d,c.toList[i]?=some q->ds[i]?=some d->fY w g.S (a.eval q.2) d:=λi q d m y=>by
  have hm:q∈c.toList:=jF m;refine mv (D q.2) (X i (ρ q.2) d (by simp only[jD,m,jN]) y) ?_;have:=bp.1 C q hm
  simpa using this
 have F:∀(i:Nat) q,c.toList[i]?=some q->∃d,ds[i]?=some d:=λi q h=>⟨_,jC (by rw[p1];simpa using(ae.1 h).1)⟩
 have f:∀(i:Nat) d,ds[i]?=some d->d.num=size:=λi d h=>gC (an.1 V d (jF h))
 obtain⟨vals,Z,f2,f3,_⟩:=lS (size:=size) (c.toList.map λ(i,x)=>(i,a.eval x)) 0 ((Array.range (len*size)).map (E.cells[· %E.cells.size]!)) (λi q h=>by
  simp only[jD,j5]at h;obtain⟨G,h,rfl⟩:=h;obtain⟨d,p⟩:=F i G h;exact⟨od _ 0 U i G h,by rw[(k i G d h p).cells.1,<-fy.num_eq,f i d p]⟩) (by simp[hl])
 have r:vals.size=len*size:=by rw[f2];simp
 have hb:(Instr.buildSlice t len (c.map λ(i,x)=>(i,a.eval x))).run P w=.ok (.slice (some ⟨w.heap.size,0,none⟩) len len) (w.alloc (.cells vals e)):=by
  by_cases hpos:len*size=0
  .have I:len=0:=by
    rcases eC.1 hpos with h|h
    .exact h
    .omega
   subst I;have J:c=#[]:=by simpa using hl
   subst J
   have:vals=#[]:=by simpa using r
   subst this;simp[Instr.buildSlice,run_underlying (QM L),hZ A,Instr.fill,newRow,dP]
  .refine run_buildSlice w t e len _ vals M E (QM L) N Y (by rw[l];omega) (by rw[l];exact hpos) ?_;rw[l];simpa using Z
 refine⟨vals,by simp[execOp,R,hb],r,n,?_⟩;intro i j d u v m y g3;have s:i<ds.length:=(ae.1 m).1;obtain⟨q,O⟩:∃q,c.toList[i]?=some q:=⟨_,jC (by rw[p1]at s;simpa using s)⟩;have Q:j<size:=by rw[<-f i d m,fy.num_eq];exact(ae.1 y).1
 have K:=f3 i j (q.1,a.eval q.2) (by simp only[jD,O,jN]) Q;simp only[zY]at K;obtain⟨c1,c2⟩:=(k i q d O m).cells;have hj':j<(a.eval q.2).cells.size:=by rw[c1,<-fy.num_eq,f i d m];exact Q
 rw[g3]at K;exact c2 j v u K.symm y
theorem sk{t e:fq}{len size:Nat}{f:Array (Nat×Operand)}{ds:List fy}(L:o.op=.buildSlice t len f)(M:fA P t=some e)(p:fJ P e=some size)(N:(fL P e).isSome=true)(O:gp H (f.toList.map λ(_,x)=>ρ x)=some ds)(hl:f.size=len)(m:np 0 f.toList=true)(D:ds.all (fy.fits size)=true)(h0:0<size)(q:len*size<=16777216)(r:f.toList.any (λ(_,x)=>(ρ x).lends)=false)(s:ds.isEmpty=false)(y:size=1/\ds.all fy.isCell=true\/1<size)(E:Qm P g B0 H.length H w)(hi:Inv B0 w0 S0 g w)(z:∀x,fC g H.length w (a.eval x) (ρ x)):
  ∃v g' w',fQ P o a w v w'/\Good P B0 w0 S0 H g w (.ms H.length 1 0 ds.length ds.length) (H++[.mt e 1 (ds.map .dat)]) v g' w':=by
 obtain⟨vals,Q,R,F,G⟩:=uI (S0:=S0) (w0:=w0) L M p N O hl m D h0 q r E hi z;have hpos:0<ds.length:=by cases ds with|nil=>simp at s|cons=>simp
 have k:ds.length<=maxLen:=by
  have:len<=len*size:=aD _ h0
  simp only[maxLen];omega
 obtain⟨g',I⟩:=Iu (P:=P) (S0:=S0) (w0:=w0) (e:=e) (len:=ds.length) (cap:=ds.length) (cs:=ds.map .dat) vals (j7 _) hpos (λw' l V g' J K=>by
  rcases y with⟨rfl,hc⟩|A
  .have B:vals.size=ds.length:=by omega
   refine .inr (.inl ⟨w.heap.size,_,ds.length,_,rfl,hpos,hi.size,l,⟨1,p,by decide,by omega⟩,⟨by rw[B];simp,?_⟩,k,by omega,λo h=>?_,λj v c C n=>?_⟩)
   .rw[aR,j8];intro x S;have:=an.1 hc x S;cases x<;>simp_all [PV.flat,fy.isCell]
   .rw[K]at h;exact jZ _ (hi.lt _ _ h)
   .rw[jD,j5]at n;obtain⟨d,m,rfl⟩:=n;have T:=an.1 hc d (jF m);exact .dat _ _ ((G j 0 d d v m (by cases d<;>simp_all [fy.cells,fy.isCell]) (by simpa using C)).ext J)
  .exact .inr (.inr ⟨w.heap.size,_,ds.length,_,size,ds,rfl,hpos,hi.size,l,p,A,rfl,D,j7 _,k,by rw[R,F],λo h=>by rw[K]at h;exact jZ _ (hi.lt _ _ h),λi j d u v C n U=>(G i j d u v C n U).ext J⟩)) E hi
 rw[F]at I |-;exact⟨_,g',_,.inl Q,I⟩
end
end Go.Pm
