/-
 The pure machine: soundness of made lists and append.
-/
import Derived.Test.YtjcfpjpdopfefaaGreatPmOps6
namespace Go.Pm
open Go Go.RowKit
set_option linter.all false
section
variable{P:fm}{B0 N:Nat}{w0:fk}{S0:Nat->Nat->Prop}{g:Gh}{H H':List fB}{w:fk}{p:PV}{o:Oper}{a:Act}{ρ:ft->PV}
theorem AJ{t e:fq}{q r:ft}{z:fy}{bytes:Nat}{l c:Int}(K:o.op=.makeSlice t q r)(L:fA P t=some e)(M:fL P e=some z)(E:fJ P e=some 1)(F:bytesOf P e=some bytes)(hl:ρ q=.dat (.raw (.int .i64 l)))(hc:ρ r=.dat (.raw (.int .i64 c)))(h0:0<=l)(s:l<=c)(k:c*bytes<=gO)(u:c<=9223372036854775807)(O:z.isCell=true)(Q:Qm P g B0 H.length H w)(hi:Inv B0 w0 S0 g w)(m:∀x,fC g H.length w (a.eval x) (ρ x)):
  ∃v g' w',fQ P o a w v w'/\Good P B0 w0 S0 H g w (.arr H.length 0 l.toNat c.toNat) (H++[.box (List.replicate c.toNat (.dat z))]) v g' w':=by
 obtain⟨y,f,A,R,T,_⟩:=gE M;have B:y.size=1:=by simp only[fJ,A,jN,j9]at E;exact E
 have C:y.bytes=bytes:=by simp only[bytesOf,A,jN,j9]at F;exact F
 have U:=kj (by rw[<-hl];exact m q);have V:=kj (by rw[<-hc];exact m r);obtain⟨W,X⟩:=(T w g.S).cells;have D:f.cells.size=1:=by rw[W];cases z<;>simp_all [fy.cells,fy.isCell]
 have G:=run_make (P:=P) w t e y f (QM L) A R .i64 .i64 l c h0 s (by rw[C,bj];simp only[gO]at k;omega) u;rw[B,aK]at G
 have n:=rV (P:=P) (S0:=S0) (w0:=w0) Q hi (madeCells f.cells c.toNat) e (List.replicate c.toNat (.dat z)) (by rw[size_madeCells];simp) (λj v d I p=>by
  simp only[madeCells,zK,j5]at I;obtain⟨J,Z,rfl⟩:=I
  have Y:d=.dat z:=by
   rw[zM]at p;split at p
   .exact(jS p).symm
   .cases p
  subst Y;refine .dat _ _ ?_;have h0:f.cells[0]?=some f.cells[0]:=jA y8;have hm:J%f.cells.size=0:=by rw[D];exact dE _
  have:f.cells[J%f.cells.size]! =f.cells[0]:=by simp only[hm,cI,jH,h0,aE]
  rw[this];exact X 0 _ z h0 (by cases z<;>simp_all [fy.cells,fy.isCell]))
 refine⟨_,_,_,.inl (by simp only[execOp,K,U,V,Sem.run_bind];rw[G];rfl),n.ext,n.len,?_,n.heap,n.inv,n.fr⟩;have:=fC.arr (g:=g.box H.length w.heap.size) (N:=(H++[fB.box (List.replicate c.toNat (PV.dat z))]).length) (w:=w.alloc (.cells (madeCells f.cells c.toNat) e)) H.length 0 l.toNat c.toNat ⟨by simp,.inl rfl⟩ y8
 rwa [show(g.box H.length w.heap.size).blk H.length=w.heap.size by simp[Gh.box]]at this
theorem DZ{t:fq}{x:ft}{ds:List fy}(q:o.op=.box t x)(c:gQ (ρ x).cells=some ds)(r:Qm P g B0 H.length H w)(hi:Inv B0 w0 S0 g w)(k:∀x,fC g H.length w (a.eval x) (ρ x)):
  ∃v g' w',fQ P o a w v w'/\Good P B0 w0 S0 H g w (.iptr ds) H v g' w':=by
 have d:(ρ x).cells=ds.map .dat:=kq _ _ c;obtain⟨s,y⟩:=(k x).cells (λe=>by rw[e]at c;simp[PV.cells,gQ]at c);have f:(a.eval x).cells.size=ds.length:=by rw[s,d,jY]
 obtain⟨k1,k2⟩:=Qm.pubAlloc (ob:=.cells (a.eval x).cells t) (n:=ds.length) r hi (j7 _);refine⟨.pointer (some ⟨w.heap.size,0,none⟩),g.pub w.heap.size ds.length,w.alloc (.cells (a.eval x).cells t),.inl (by simp[execOp,q,Instr.box,newVar,newRow]),k1,j7 _,?_,k2,hi.pubAlloc,Fr.old yA (λb z=>Below.heap_alloc w _ b z) (λi b h _=>⟨i,gD (g:=g) h (λ_ _=>rfl) (λ_ _=>rfl)⟩) (λb o h=>h.imp id λh=>.inl (cb h.1.symm))⟩;refine .iptr w.heap.size 0 ds (λj=>(a.eval x).cells.getD j undef) (λi l=>⟨?_,.inr ⟨rfl,by omega⟩⟩) (λi u m=>?_)
 .rw[cell_of_row _ _ _ (a.eval x).cells t (0,0) (heap_alloc_new w _)];simp[jH,f,l]
 .have A:i<ds.length:=(ae.1 m).1;have p:(a.eval x).cells[i]?=some (a.eval x).cells[i]:=jA y8;have B:(ρ x).cells[i]?=some (.dat u):=by rw[d,jD,m];rfl
  have C:=((y i _ _ p B).ext k1 (j7 _)).datInv;simp only[jH,p,aE];exact C
theorem tG{t e:fq}{A B:ft}{z:fy}{bytes:Nat}{c:Int}(N:o.op=.makeSlice t A B)(O:fA P t=some e)(Q:fL P e=some z)(L:fJ P e=some 1)(r:bytesOf P e=some bytes)(hl:ρ A=.dat (.raw (.int .i64 c)))(hc:ρ B=.dat (.raw (.int .i64 c)))(h0:0<=c)(l:c*bytes<=gO)(C:c<=9223372036854775807)(R:z.isCell=true)(T:Qm P g B0 H.length H w)(hi:Inv B0 w0 S0 g w)(p:∀x,fC g H.length w (a.eval x) (ρ x)):
  ∃v g' w',fQ P o a w v w'/\Good P B0 w0 S0 H g w (.dat (.lst (List.replicate c.toNat z))) H v g' w':=by
 obtain⟨D,f,E,U,V,_⟩:=gE Q;have F:D.size=1:=by simp only[fJ,E,jN,j9]at L;exact L
 have G:D.bytes=bytes:=by simp only[bytesOf,E,jN,j9]at r;exact r
 have W:=kj (by rw[<-hl];exact p A);have X:=kj (by rw[<-hc];exact p B);obtain⟨Y,Z⟩:=(V (w.alloc (.cells (madeCells f.cells c.toNat) e)) (g.pub w.heap.size c.toNat).S).cells;have I:f.cells.size=1:=by rw[Y];cases z<;>simp_all [fy.cells,fy.isCell]
 have M:=run_make (P:=P) w t e D f (QM O) E U .i64 .i64 c c h0 (aC _) (by rw[G,bj];simp only[gO]at l;omega) C;rw[F,aK]at M;have J:(madeCells f.cells c.toNat).size=c.toNat:=by rw[size_madeCells]
 have k:z.cells=[z]:=by cases z<;>simp_all [fy.cells,fy.isCell]
 have q:∀j,j<c.toNat->(madeCells f.cells c.toNat).getD j undef=f.cells[0]'y8:=λj hj=>by
  have h0:f.cells[0]?=some f.cells[0]:=jA y8;have hm:j%f.cells.size=0:=by rw[I];exact dE _
  rw[jH];simp only[madeCells,zK];rw[eT,ai hj];simp only[jN,aE,hm,cI,jH,h0]
 obtain⟨k1,k2⟩:=Qm.pubAlloc (ob:=.cells (madeCells f.cells c.toNat) e) (n:=c.toNat) T hi (j7 _);refine⟨_,g.pub w.heap.size c.toNat,_,.inl (by simp only[execOp,N,W,X,Sem.run_bind];rw[M];rfl),k1,j7 _,.dat _ _ ?_,k2,hi.pubAlloc,Fr.old yA (λb r=>Below.heap_alloc w _ b r) (λi b h _=>⟨i,gD (g:=g) h (λ_ _=>rfl) (λ_ _=>rfl)⟩) (λb o h=>h.imp id λh=>.inl (cb h.1.symm))⟩;refine .lst w.heap.size 0 c.toNat c.toNat 1 (List.replicate c.toNat z) (λm=>(madeCells f.cells c.toNat).getD m undef) yA (j7 _) (λd hd=>?_) (λi hi'=>⟨?_,.inr ⟨rfl,by omega⟩⟩) (λi j d u s y=>?_)
 .rw[(dG.1 hd).2];cases z<;>simp_all [fy.num,fy.isCell]
 .rw[cell_of_row _ _ _ (madeCells f.cells c.toNat) e (0,0) (heap_alloc_new w _)];simp[jH,J,show i<c.toNat by omega]
 .rw[zM]at s;split at s
  .rename_i K;cases s;rw[k]at y;cases j with
   |zero=>
    simp only[bT,j9]at y;subst y;simp only[aK,zX];rw[q i K];exact Z 0 _ z (jA y8) (by rw[k];rfl)
   |succ j=>simp at y
  .cases s
theorem tm{t e:fq}{B C:ft}{z:fy}{bytes:Nat}{c:Int}(R:o.op=.makeSlice t B C)(S:fA P t=some e)(T:fL P e=some z)(l:fJ P e=some 1)(d:bytesOf P e=some bytes)(hl:ρ B=.dat (.raw (.int .i64 0)))(hc:ρ C=.dat (.raw (.int .i64 c)))(q:0<=c)(k:c*bytes<=gO)(D:c<=9223372036854775807)(r:0<bytes)(K:Qm P g B0 H.length H w)(hi:Inv B0 w0 S0 g w)(s:∀x,fC g H.length w (a.eval x) (ρ x)):
  ∃v g' w',fQ P o a w v w'/\Good P B0 w0 S0 H g w (.vec H.length []) (H++[.tok e 0]) v g' w':=by
 obtain⟨E,L,F,U,i3,_⟩:=gE T;have G:E.size=1:=by simp only[fJ,F,jN,j9]at l;exact l
 have I:E.bytes=bytes:=by simp only[bytesOf,F,jN,j9]at d;exact d
 have V:=kj (by rw[<-hl];exact s B);have W:=kj (by rw[<-hc];exact s C);have M:=run_make (P:=P) w t e E L (QM S) F U .i64 .i64 0 c (aC _) q (by rw[I,bj];simp only[gO]at k;omega) D;rw[G,aK]at M
 let vals:=madeCells L.cells c.toNat
 have X:vals.size=c.toNat*1:=by simp only[vals,size_madeCells,aK]
 have u:c.toNat<=maxLen:=by
  have Y:c.toNat*bytes<=gO:=by
   have:((c.toNat*bytes:Nat):Int)<=(gO:Int):=by rw[bR,bU q];exact k
   omega
  have A:c.toNat<=c.toNat*bytes:=aD _ r;simp only[gO]at Y;simp only[maxLen];omega
 let v0:Value:=.slice (some ⟨w.heap.size,0,none⟩) 0 c.toNat
 let p:=g.pub w.heap.size 0
 let f:=p.give H.length v0 0
 have m:=hi.pubAlloc (ob:=.cells vals e) (n:=0);obtain⟨k1,k2⟩:=Qm.pubAlloc (ob:=.cells vals e) (n:=0) (N:=H.length) K hi (j7 _);have O:Ext H.length p (w.alloc (.cells vals e)) f (w.alloc (.cells vals e)):=.giveNew _ _ _ (j7 _);refine⟨v0,f,_,.inl (by simp only[execOp,R,V,W,Sem.run_bind];rw[M];rfl),k1.trans O (j7 _),by simp,.vec _ _ _ v0 0 yA (.empty _ _) (by simp[f,Gh.give]) (j7 _) yB,?_,⟨m.below,m.size,m.old,m.lt⟩,Fr.old yA (λb d=>Below.heap_alloc w _ b d) (λi b h d=>?_) (λb o h=>h.imp id λh=>.inl (cb h.1.symm))⟩
 case refine_2=>
  rcases oh h with h|⟨_,⟨Z,h,_⟩|⟨e',n,_,h⟩⟩
  .exact⟨i,gD (g:=g) h (λj hj=>rfl) (λj hj=>by simp only[f,Gh.give];rw[af y8];rfl)⟩
  .cases h
  .simp[f,Gh.give,v0,Value.ownBlock]at h;subst h;exact absurd d (jZ _)
 have Q:Qm P f B0 (H++[fB.tok e 0]).length H (w.alloc (.cells vals e)):=k2.keep O yA (j7 _) (λ_ _ _=>rfl) (λ_ _ _ _ h=>h) (λt ht=>by simp only[f,Gh.give];rw[af y8]);refine Q.snoc _ (λ_ h=>by cases h) (λe' n h=>?_) (λi b d A=>?_)
 .cases h;refine⟨v0,by simp[f,Gh.give],.inr ⟨w.heap.size,c.toNat,vals,1,rfl,hi.size,heap_alloc_new w _,l,zP _,u,X,λo l=>?_⟩⟩;rcases l with l|⟨_,l⟩
  .exact absurd (hi.lt _ _ l) (jZ _)
  .exact absurd l (bL _)
 .rw[kh (e:=e) (n:=0) yA]at A;simp[f,Gh.give,v0,Value.ownBlock]at A;subst A;have y:=Q.occ_lt d
  have J:occ g H i=some w.heap.size:=by
   unfold occ at d |-;split at d
   .simpa[f,p,Gh.give,Gh.pub]using d
   .have:=y.2.2;simp only[f,p,Gh.give,Gh.pub]at d
    rwa [af y8]at d
   .have:=y.2.2;simp only[f,p,Gh.give,Gh.pub]at d
    rwa [af y8]at d
   .simpa[f,p,Gh.give,Gh.pub]using d
   .cases d
   .cases d
  exact jZ _ (K.occ_lt J).2.1
theorem K4{v:fu}{p:PV}(h:fC g H.length w v p)(c:p.isFn=true):v.cells=#[v]:=by
 cases h<;>first|rfl|cases c
theorem Ct{t e:fq}{len:Nat}{c:Array (Nat×Operand)}(G:o.op=.buildSlice t len c)(I:fA P t=some e)(y:fJ P e=some 1)(n:(fL P e).isSome=true)(hl:c.size=len)(J:np 0 c.toList=true)(K:len<=16777216)(p:c.toList.all (λ(_,x)=>(ρ x).isFn)=true)(r:c.toList≠[])(L:Qm P g B0 H.length H w)(hi:Inv B0 w0 S0 g w)(k:∀x,fC g H.length w (a.eval x) (ρ x)):
  ∃v g' w',fQ P o a w v w'/\Good P B0 w0 S0 H g w (.arr H.length 0 len len) (H++[.box (c.toList.map λ(_,x)=>ρ x)]) v g' w':=by
 obtain⟨z,n⟩:=aA.1 n;obtain⟨A,s,B,M,_⟩:=gE n;have f:A.size=1:=by simp only[fJ,B,jN,j9]at y;exact y
 have hc:∀(i:Nat) q,c.toList[i]?=some q->(a.eval q.2).cells=#[a.eval q.2]:=λi q h=>K4 (k q.2) (an.1 p q (jF h))
 obtain⟨vals,O,Q,R,_⟩:=lS (size:=1) (c.toList.map λ(i,x)=>(i,a.eval x)) 0 ((Array.range (len*1)).map (s.cells[· %s.cells.size]!)) (λi q h=>by
  simp only[jD,j5]at h;obtain⟨C,h,rfl⟩:=h;exact⟨od _ 0 J i C h,by rw[hc i C h];rfl⟩) (by simp[hl])
 have u:vals.size=len:=by rw[Q];simp
 have D:0<len:=by
  rw[<-hl];have:=eY.2 r
  simpa using this
 have S:(Instr.buildSlice t len (c.map λ(i,x)=>(i,a.eval x))).run P w=.ok (.slice (some ⟨w.heap.size,0,none⟩) len len) (w.alloc (.cells vals e)):=by
  refine run_buildSlice w t e len _ vals A s (QM I) B M (by rw[f];omega) (by rw[f];omega) ?_;rw[f];simpa using O
 have l:=rV (P:=P) (S0:=S0) (w0:=w0) L hi vals e (c.toList.map λ(_,x)=>ρ x) (by rw[u];simp[hl]) (λj v d T E=>by
  simp only[jD,j5]at E;obtain⟨q,F,rfl⟩:=E;have m:=R j 0 (q.1,a.eval q.2) (by simp only[jD,F,jN]) y8;simp only[zY,aK,zX]at m;rw[T,hc j q F]at m;simp at m;subst m;exact k q.2)
 refine⟨.slice (some ⟨w.heap.size,0,none⟩) len len,g.box H.length w.heap.size,w.alloc (.cells vals e),.inl (by simp[execOp,G,S]),l.ext,l.len,?_,l.heap,l.inv,l.fr⟩;have:=fC.arr (g:=g.box H.length w.heap.size) (N:=(H++[fB.box (c.toList.map λ(_,x)=>ρ x)]).length) (w:=w.alloc (.cells vals e)) H.length 0 len len ⟨by simp,.inl rfl⟩ (j7 _)
 rwa [show(g.box H.length w.heap.size).blk H.length=w.heap.size by simp[Gh.box]]at this
structure Src (w:fk) (S:Nat->Nat->Prop) (v:fu) (es:List fy) (size:Nat) (news:List Value):Prop where
 shape:(v=.slice none 0 0/\es=[])\/∃ad c,v=.slice (some ad) es.length c/\∀(j:Nat) u,news[j]?=some u->w.cell? (ad.add j)=some u
 len:news.length=es.length*size
 rep:∀(i j:Nat) d u,es[i]?=some d->d.cells[j]?=some u->fY w S (news.getD (i*size+j) undef) u
theorem uX{S:Nat->Nat->Prop}{v:fu}{es:List fy}{size:Nat}(h:fY w S v (.lst es))(t:es.all (fy.fits size)=true):∃news,Src w S v es size news:=by
 cases h with
 |nil=>exact⟨[],.inl ⟨rfl,rfl⟩,by simp,λi j d u h=>by simp at h⟩
 |empty ad cap=>exact⟨[],.inr ⟨ad,cap,rfl,λj u h=>by simp at h⟩,by simp,λi j d u h=>by simp at h⟩
 |lst b off len cap k es c n x p y z=>
  have f:es=[]\/k=size:=by
   cases es with
   |nil=>exact .inl rfl
   |cons d es=>exact .inr (by rw[<-p d yA];exact gC (an.1 t d yA))
  have q:len*k=es.length*size:=by rcases f with rfl|rfl<;>simp[n]
  refine⟨(List.range (es.length*size)).map c,.inr ⟨_,cap,by rw[n],λj u e=>?_⟩,by simp,λi j d u g e=>?_⟩
  .simp only[jD,j5]at e;obtain⟨B,r,rfl⟩:=e;obtain⟨A,s⟩:=ae.1 r;simp at A s;subst s;rw[iv];exact(y j y8).1
  .have hi:=(ae.1 g).1;have l:k=size:=by rcases f with rfl|f;simp at g;exact f
   subst l;have r:j<k:=by have:=(ae.1 e).1;rw[<-fy.num_eq,p d (jF g)]at this;exact this
   have m:i*k+j<es.length*k:=by
    have:(i+1)*k<=es.length*k:=au _ y8
    rw[av]at this;omega
   have:((List.range (es.length*k)).map c).getD (i*k+j) undef=c (i*k+j):=by simp[jB,m]
   rw[this];exact z i j d u g e
theorem MO{N i o len cap size:Nat}{v:fu}{es:List fy}(s:Qm P g B0 N H w)(h:fC g N w v (.arr i o len cap))(c:fR H (.arr i o len cap)=some (.lst es))(t:es.all (fy.fits size)=true):
  ∃news,Src w g.S v es size news:=by
 cases h with
 |arr i o len cap x hc=>
  simp only[fR]at c;split at c
  .rename_i cs y;simp only[j5,fy.lst.injEq]at c;obtain⟨e,c,rfl⟩:=c;obtain⟨k,E,c1,c2,F,z⟩:=uj c;obtain⟨_,⟨vals,A,k1,k2,k3⟩,_⟩:=s.box i cs y
   have m:e=[]\/k=size:=by
    cases e with
    |nil=>exact .inl rfl
    |cons d es=>exact .inr (by rw[<-c2 d yA];exact gC (an.1 t d yA))
   have hl:e.length*size=len*k:=by
    rcases m with rfl|rfl
    .simp at c1;simp[<-c1]
    .rw[c1]
   refine⟨(vals.toList.drop o).take (len*k),.inr ⟨⟨g.blk i,o,none⟩,cap,by rw[c1],λj u l=>?_⟩,by rw[hl];simp;omega,λf j d u n l=>?_⟩
   .rw[jR]at l;split at l
    .rw[iv,cell_of_row w _ _ vals A (0,0) k1];simpa using l
    .cases l
   .obtain⟨q,G⟩:=z f j d u n l;have B:k=size:=by rcases m with rfl|h;simp at n;exact h
    subst B;have C:f<len:=by rw[<-c1];exact(ae.1 n).1
    have p:f*k+j<len*k:=by
     have:(f+1)*k<=len*k:=au _ y8
     rw[av]at this;omega
    have r:o+(f*k+j)<vals.size:=by rw[k2];exact(ae.1 q).1
    have D:=(k3 _ _ _ (jA r) q).datInv
    have:((vals.toList.drop o).take (len*k)).getD (f*k+j) undef=vals[o+(f*k+j)]:=by
     simp[jB,p,r]
    rw[this];exact D
  .cases c
theorem DR{N size:Nat}{v:fu}{p:PV}{es:List fy}(k:Qm P g B0 N H w)(h:fC g N w v p)(c:iE H p=some es)(e:es.all (fy.fits size)=true):∃news,Src w g.S v es size news:=by
 cases p with
 |dat d=>
  cases d with
  |lst f=>simp[iE]at c;subst c;exact uX (qm h rfl) e
  |raw|agg=>simp[iE]at c
 |vec t f=>simp[iE]at c;subst c;exact uX (qm h rfl) e
 |arr i o len cap=>
  simp only[iE]at c;split at c
  .rename_i ds l;cases c;exact MO k h l e
  .cases c
 |empv b=>
  simp[iE]at c;subst c;cases h with
  |empv b v m n=>
   cases b with
   |true=>exact⟨[],.inl ⟨m rfl,rfl⟩,by simp,λi j d u h=>by simp at h⟩
   |false=>obtain⟨a,cap,rfl⟩:=n rfl;exact⟨[],.inr ⟨a,cap,rfl,λj u h=>by simp at h⟩,by simp,λi j d u h=>by simp at h⟩
 |_=>simp[iE]at c
theorem FG{S:Nat->Nat->Prop}{v:fu}{es:List fy}{size:Nat}{news:List Value}(h:Src w S v es size news)(h0:0<size)(k:es.all (fy.fits size)=true):∀u∈news,u.oneCell'=true:=λu l=>by
 obtain⟨m,hm⟩:=aL l;have g:m<es.length*size:=by rw[<-h.len];exact(ae.1 hm).1
 have hi:m/size<es.length:=eQ (by rw[bB];exact g);have n:es[m/size]?=some es[m/size]:=jC hi;have c:=an.1 k _ (zC hi);have e:=gC c;have j:m%size<es[m/size].cells.length:=by rw[<-fy.num_eq,e];exact bd _ h0
 have f:=h.rep _ (m%size) _ _ n (jC j);rw[show m/size*size+m%size=m by rw[bB];exact cj m size]at f;rw[jB,hm,aE]at f;simp only[fy.fits,jE]at c;have hc:=an.1 c.2 _ (zC j);generalize es[m/size].cells[m%size]=d at f hc;cases f<;>first|rfl|(simp[fy.isCell]at hc;done)|exact xd (by assumption)
theorem tN{S l:Nat->Nat->Prop}{w':fk}{b cap size n m:Nat}{xs es:List fy}{olds news:List Value}{cur:Array Value}{w:fq}(z:w'.heap[b]?=some (.cells cur w (0,0)))(x:xs.all (fy.fits size)=true)(y:es.all (fy.fits size)=true)(hn:xs.length=n)(hm:es.length=m)(f:n+m<=cap)(e:olds.length=n*size)(A:news.length=m*size)(g:∀j,j<(n+m)*size->cur[j]?=some ((olds++news).getD j undef))(B:∀j,j<(n+m)*size->l b j)(p:∀(i j:Nat) d u,xs[i]?=some d->d.cells[j]?=some u->fY w' l (olds.getD (i*size+j) undef) u)(r:∀(i j:Nat) d u,es[i]?=some d->d.cells[j]?=some u->fY w' l (news.getD (i*size+j) undef) u):
  fY w' l (.slice (some ⟨b,0,none⟩) (n+m) cap) (.lst (xs++es)):=by
 refine .lst b 0 (n+m) cap size _ (λj=>(olds++news).getD j undef) y9 f (λd c=>?_) (λi hi=>⟨?_,by simpa using B i hi⟩) (λi j d u c s=>?_)
 .rcases aV.1 c with c|c
  .exact gC (an.1 x d c)
  .exact gC (an.1 y d c)
 .rw[zY,cell_of_row w' b i cur w (0,0) z];exact g i hi
 .have k:d.num=size:=by
   rcases aV.1 (jF c)with c|c
   .exact gC (an.1 x d c)
   .exact gC (an.1 y d c)
  have C:j<size:=by rw[<-k,fy.num_eq];exact(ae.1 s).1
  rw[jT]at c;split at c
  .rename_i hi
   have t:i*size+j<olds.length:=by
    rw[e]
    have:(i+1)*size<=n*size:=au _ y8
    rw[av]at this;omega
   have:(olds++news).getD (i*size+j) undef=olds.getD (i*size+j) undef:=by
    simp only[jB,jT,ai t]
   rw[this];exact p i j d u c s
  .rename_i hi;obtain⟨q,rfl⟩:∃q,i=n+q:=⟨i - n,by omega⟩;have v:¬((n+q)*size+j<olds.length):=by rw[e,av];omega
   have:(olds++news).getD ((n+q)*size+j) undef=news.getD (q*size+j) undef:=by
    simp only[jB,jT,af v];congr 2;rw[e,av];omega
   rw[this];exact r q j d u (by rw[show q=n+q - xs.length by omega];exact c) s
theorem uY{t e:Nat}{n:Nat}{v0:fu}{b:Nat}(d:H[t]?=some (.tok e n))(c:g.own t=some (v0,n))(f:v0.ownBlock=some b):occ g H t=some b:=by
 rw[kh d,c];exact f
theorem wh{t e size n m:Nat}{xs es:List fy}{olds news:List Value}{cap:Nat}{zs:Array Value}(X:H[t]?=some (.tok e n))(k:fJ P e=some size)(Y:xs.all (fy.fits size)=true)(Z:es.all (fy.fits size)=true)(hn:xs.length=n)(hm:es.length=m)(hmp:0<m)(y:n+m<=cap)(L:cap<=maxLen)(z:olds.length=n*size)(A:news.length=m*size)(hz:zs.size=(cap - (n+m))*size){v0:fu}(E:g.own t=some (v0,n))(M:∀(i j:Nat) d u,xs[i]?=some d->d.cells[j]?=some u->fY w g.S (olds.getD (i*size+j) undef) u)(c:∀(i j:Nat) d u,es[i]?=some d->d.cells[j]?=some u->fY w g.S (news.getD (i*size+j) undef) u)(F:Qm P g B0 H.length H w)(hi:Inv B0 w0 S0 g w)(vals:Array Value)(l:vals=olds.toArray++news.toArray++zs):
  ∃g',Good P B0 w0 S0 H g w (.vec t (xs++es)) (H.set t (.tok e (n+m))) (.slice (some ⟨w.heap.size,0,none⟩) (n+m) cap) g' (w.drew.alloc (.cells vals e)):=by
 have q:t<H.length:=(ae.1 X).1;have G:Inv B0 w0 S0 g w.drew:=⟨hi.below.drew,hi.size,hi.old,hi.lt⟩;have V:Ext H.length g w g w.drew:=⟨λ_ _ h=>h,λ_ _ _=>rfl,λ_ _ h=>⟨rfl,h⟩,λ_ _ v n h=>⟨v,n,h,j7 _,λ_=>rfl⟩⟩;have O:Qm P g B0 H.length H w.drew:=F.keep V (j7 _) (j7 _) (λ_ _ _=>rfl) (λ_ _ _ _ h=>h) (λ_ _=>rfl)
 let B:Value:=.slice (some ⟨w.heap.size,0,none⟩) (n+m) cap
 let Q:=g.pub w.heap.size ((n+m)*size)
 let f:=Q.give t B (n+m)
 let D:=w.drew.alloc (.cells vals e)
 obtain⟨k1,_⟩:=Qm.pubAlloc (ob:=.cells vals e) (n:=(n+m)*size) (N:=H.length) O G (j7 _);have r:Inv B0 w0 S0 Q D:=G.pubAlloc (ob:=.cells vals e) (n:=(n+m)*size);have p:D.heap[w.heap.size]?=some (.cells vals e (0,0)):=heap_alloc_new w.drew _
 have e2:Ext H.length Q D f D:=⟨λ_ _ h=>h,λ_ _ _=>rfl,λ_ _ h=>⟨rfl,h⟩,λR ht' v n' h=>by
  by_cases e':R=t
  .subst e';have W:g.own R=some (v,n'):=h;rw[E]at W;cases W;exact⟨B,n+m,by simp[f,Gh.give],by omega,λe=>by omega⟩
  .exact⟨v,n',by simp only[f,Gh.give];rw[af e'];exact h,j7 _,λ_=>rfl⟩⟩
 have K:Ext H.length g w f D:=(V.trans k1 (j7 _)).trans e2 (j7 _)
 have T:vals.size=cap*size:=by
  rw[l];simp only[dR,bK,z,A,hz];rw[<-av,<-av];congr 1;omega
 have I:∀j,j<(n+m)*size->vals[j]?=some ((olds++news).getD j undef):=λj U=>by
  have C:j<(olds++news).length:=by simp[z,A,<-av];exact U
  have:vals[j]?=(olds++news)[j]?:=by
   rw[l,aG,ai (by simp at C |-;exact C)];simp
  rw[this,jB,jC C];rfl
 have J:fY D f.S B (.lst (xs++es)):=tN (S:=g.S) p Y Z hn hm y z A I (λj U=>.inr ⟨rfl,U⟩) (λi j d u a b=>(M i j d u a b).ext K) (λi j d u a b=>(c i j d u a b).ext K);refine⟨f,K,by simp,.vec _ _ _ B (n+m) (by simpa using q) J (by simp[f,Gh.give]) y9 yB,?_,⟨r.below,r.size,r.old,r.lt⟩,Fr.old yA (λb s=>Below.heap_alloc w.drew _ b s) (λi b h s=>?_) (λb o h=>h.imp id λh=>.inl (cb h.1.symm))⟩
 case refine_2=>
  rcases rO q h with⟨c,h⟩|⟨_,⟨cs',h,_⟩|⟨e',n',_,h⟩⟩
  .refine⟨i,?_⟩;have hil:∀x,H[i]?=some x->i<H.length:=λx hh=>(ae.1 hh).1
   unfold occ at h |-;split at h
   .exact h
   .simp only[f,Gh.give]at h;rw[af c]at h;exact h
   .simp only[f,Gh.give]at h;rw[af c]at h;exact h
   .exact h
   .cases h
   .cases h
  .cases h
  .simp[f,Gh.give,B,Value.ownBlock]at h;subst h;exact absurd s (jZ _)
 refine F.turn K yA (j7 _) _ q (λi b _ s=>Below.heap_alloc w.drew _ b (F.occ_lt s).2.1) (λi b _ s o k=>?_) (λR _ c=>by simp only[f,Gh.give];rw[af c];rfl) (λ_ h=>by cases h) (λe' n' h=>?_) (λi b hik s h=>?_)
 .rcases k with k|⟨rfl,_⟩
  .exact k
  .exact absurd (F.occ_lt s).2.1 (jZ _)
 .cases h
  exact⟨B,by simp[f,Gh.give],.inr ⟨w.heap.size,cap,vals,size,rfl,hi.size,p,k,y,L,T,λo k=>by
   rcases k with k|⟨_,k⟩
   .exact absurd (hi.lt _ _ k) (jZ _)
   .exact k⟩⟩
 .rw[kh (e:=e) (n:=n+m) (by simp[q])]at h;simp[f,Gh.give,B,Value.ownBlock]at h;subst h;exact jZ _ (F.occ_lt s).2.1
theorem GU{t e size n m b cap:Nat}{xs es:List fy}{news:List Value}{cur:Array Value}(L:H[t]?=some (.tok e n))(f:fJ P e=some size)(hx:xs.all (fy.fits size)=true)(he:es.all (fy.fits size)=true)(hn:xs.length=n)(hm:es.length=m)(z:n+m<=cap)(Y:cap<=maxLen)(E:news.length=m*size)(k:g.own t=some (.slice (some ⟨b,0,none⟩) n cap,n))(hB:B0<=b)(U:w.heap[b]?=some (.cells cur e (0,0)))(M:cur.size=cap*size)(N:∀o,g.S b o->o<n*size)(Z:fY w g.S (.slice (some ⟨b,0,none⟩) n cap) (.lst xs))(s:∀(i j:Nat) d u,es[i]?=some d->d.cells[j]?=some u->fY w g.S (news.getD (i*size+j) undef) u)(V:Qm P g B0 H.length H w)(hi:Inv B0 w0 S0 g w)(l:Array Value)(G:l=(cur.toList.take (n*size)++news++cur.toList.drop (n*size+news.length)).toArray):
  ∃g',Good P B0 w0 S0 H g w (.vec t (xs++es)) (H.set t (.tok e (n+m))) (.slice (some ⟨b,0,none⟩) (n+m) cap) g' (w.setRow b l):=by
 have F:t<H.length:=(ae.1 L).1;have hle:(n+m)*size<=cap*size:=au _ z;have A:n*size+news.length<=cur.toList.length:=by simp[E,M,<-av];exact hle
 have I:∀j,l[j]?=if j<n*size then cur[j]? else if j<(n+m)*size then news[j - n*size]? else cur[j]?:=λj=>by
  rw[G];simp only[aO];rw[gH _ _ _ A,E,<-av];simp
 have hrs:l.size=cap*size:=by
  have h1:n*size<=cur.size:=by rw[M];exact au _ y8
  have h2:n*size+news.length<=cur.size:=by simpa using A
  rw[G];simp only[bK,jV,zV,y6,aP,Nat.min_eq_left h1];omega
 let J:Value:=.slice (some ⟨b,0,none⟩) (n+m) cap
 let g1:=g.pub b ((n+m)*size)
 let y:=g1.give t J (n+m)
 let W:=w.setRow b l
 have q:W.heap[b]?=some (.cells l e (0,0)):=setRow_heap w _ _ _ _ _ U
 have r:∀p o',g.S p o'->W.cell? ⟨p,o',none⟩=w.cell? ⟨p,o',none⟩:=λp o' hs'=>by
  by_cases e':p=b
  .subst e';rw[cell_of_row _ _ _ _ _ _ q,cell_of_row _ _ _ _ _ _ U,I,ai (N o' hs')]
  .exact cell_setRow_other w _ _ _ e'
 have X:Ext H.length g w y W:=⟨λ_ _ h=>.inl h,r,λ_ _ h=>⟨rfl,h⟩,λt' ht' v n' h=>by
  by_cases e':t'=t
  .subst e';rw[k]at h;cases h;exact⟨J,n+m,by simp[y,Gh.give],by omega,λe=>by have:m=0:=y8;subst this;rfl⟩
  .exact⟨v,n',by simp only[y,Gh.give];rw[af e'];exact h,j7 _,λ_=>rfl⟩⟩
 obtain⟨olds,B⟩:∃olds,Src w g.S (.slice (some ⟨b,0,none⟩) n cap) xs size olds:=uX Z hx
 have O:∀j,j<n*size->cur[j]?=some (olds.getD j undef):=λj K=>by
  have Q:j<olds.length:=by rw[B.len,hn];exact K
  rcases B.shape with⟨h,_⟩|⟨ad,c,h,r⟩
  .cases h
  .cases h;have:=r j _ (jC Q);rw[iv,zY,cell_of_row _ _ _ _ _ _ U]at this;rw[this,jB,jC Q];rfl
 have R:∀j,j<(n+m)*size->l[j]?=some ((olds++news).getD j undef):=λj K=>by
  rw[I,jB,jT,B.len,hn];by_cases c1:j<n*size
  .rw[ai c1,ai c1,O j c1,jB]
  .rw[af c1,af c1,ai K]
   have:j - n*size<news.length:=by rw[E];rw[av]at K;omega
   rw[jC this];rfl
 have T:fY W y.S J (.lst (xs++es)):=tN (S:=g.S) q hx he hn hm z (by rw[B.len,hn]) E R (λj K=>.inr ⟨rfl,K⟩) (λi j d u a b=>(B.rep i j d u a b).ext X) (λi j d u a b=>(s i j d u a b).ext X);refine⟨y,X,by simp,.vec _ _ _ J (n+m) (by simpa using F) T (by simp[y,Gh.give]) y9 yB,?_,⟨below_setRow hi.below hB _,by simp;exact hi.size,λp o' f=>?_,λp o' f=>?_⟩,⟨by simp,λp _ hn=>setRow_other w _ _ _ (λe'=>hn t (by rw[uY L k rfl,e'])),λi p h x=>?_,λp o' h=>h.imp id λh=>.inr ⟨t,by rw[uY L k rfl,h.1]⟩⟩⟩
 .have C:occ g H t=some b:=uY L k rfl;refine V.turn X yA (j7 _) _ F (λi p D x=>setRow_other w _ _ _ (λe'=>D (V.sep i t p x (by rw[C,e'])))) (λi p D x o' f=>?_) (λt' _ s=>by simp only[y,Gh.give];rw[af s];rfl) (λ_ h=>by cases h) (λe' n' h=>?_) (λi p D x h=>?_)
  .rcases f with f|⟨rfl,_⟩
   .exact f
   .exact absurd (V.sep i t _ x C) D
  .cases h
   exact⟨J,by simp[y,Gh.give],.inr ⟨b,cap,l,size,rfl,hB,q,f,z,Y,hrs,λo f=>by
    rcases f with f|⟨_,f⟩
    .have:=N o f;rw[av];omega
    .exact f⟩⟩
  .rw[kh (e:=e) (n:=n+m) (by simp[F])]at h;simp[y,Gh.give,J,Value.ownBlock]at h;subst h;exact D (V.sep i t _ x C)
 .rcases f with f|⟨rfl,_⟩
  .exact hi.old p o' f
  .exact .inr hB
 .rcases f with f|⟨rfl,_⟩
  .simp;exact hi.lt p o' f
  .simp;exact gX U
 .rcases rO F h with⟨s,h⟩|⟨_,⟨cs',h,_⟩|⟨e',n',_,h⟩⟩
  .refine⟨i,?_⟩;unfold occ at h |-;split at h
   .exact h
   .simp only[y,Gh.give]at h;rw[af s]at h;exact h
   .simp only[y,Gh.give]at h;rw[af s]at h;exact h
   .exact h
   .cases h
   .cases h
  .cases h
  .simp[y,Gh.give,J,Value.ownBlock]at h;subst h;exact⟨t,uY L k rfl⟩
theorem me{ts e:fq}{f:fq}(d:fA P ts=some e){size:Nat}(g:fJ P e=some size)(base ad:Option Addr)(n cap c:Nat)(h:n<=cap):
  (Builtin.append_ #[ts,ts] f #[.slice base n cap,.slice ad 0 c]).run P w=.ok (.slice base n cap) w:=by
 cases base<;>cases ad<;>simp[Builtin.append_,run_underlying (QM d),hZ g,Builtin.lenOf,h,Builtin.firstCells,loadCells,loadCellsFrom,storeCells]
theorem G1{t e size bytes:Nat}{x s:ft}{ts:fq}{xs es:List fy}{n:Nat}{z:fy}(ho:o.op=.call {callee:=.builtin .append,args:=#[s,x],argTypes:=#[ts,ts]})(D:fA P ts=some e)(L:fJ P e=some size)(hb:bytesOf P e=some bytes)(hz:fL P e=some z)(hzn:z.num=size)(h0:0<size)(h0b:0<bytes)(hsv:ρ s=.vec t xs)(hxv:iE H (ρ x)=some es)(hx:xs.all (fy.fits size)=true)(V:es.all (fy.fits size)=true)(W:H[t]?=some (.tok e n))(hn:n=xs.length)(l:(xs.length+es.length)*bytes<=gO)(Q:Qm P g B0 H.length H w)(hi:Inv B0 w0 S0 g w)(X:∀x,fC g H.length w (a.eval x) (ρ x)):
  ∃v g' w',fQ P o a w v w'/\Good P B0 w0 S0 H g w (.vec t (xs++es)) (H.set t (.tok e (xs.length+es.length))) v g' w':=by
 subst hn;obtain⟨R,T,Y,i2,i3,_⟩:=gE hz;have B:R.size=size:=by simp only[fJ,Y,jN,j9]at L;exact L
 have Z:R.bytes=bytes:=by simp only[bytesOf,Y,jN,j9]at hb;exact hb
 have hzs:T.cells.size=size:=by rw[(i3 w g.S).cells.1,<-fy.num_eq,hzn]
 obtain⟨news,p⟩:=DR (P:=P) (size:=size) Q (X x) hxv V;have hone:=FG p h0 V;obtain⟨v0,f,I⟩:=Q.tok t e _ W;have q:=X s;rw[hsv]at q;have hlb:xs.length+es.length<=gO:=jW (aD _ h0b) l;have J:xs.length+es.length<=maxLen:=by simp only[gO]at hlb;simp only[maxLen];omega
 have h63:((xs.length+es.length:Nat):Int)<=9223372036854775807:=by simp only[gO]at hlb;omega
 generalize hvs:a.eval s=vs at q;cases q with
 |vec v t xs v0' n' q1 q2 q3 q4 q5=>
  rw[f]at q3;obtain⟨rfl,rfl⟩:v0=v0'/\xs.length=n':=by simpa using q3
  have hvv:=q5 rfl;subst hvv
  have E:∀v w',(Builtin.append_ #[ts,ts] o.type #[vs,a.eval x]).run P w=.ok v w'->fQ P o a w v w':=λv w' K=>by
   left;simp[execOp,ho,resolve,invoke,builtin,hvs,K]
  by_cases hm0:es.length=0
  ·-- nothing is appended
   have:es=[]:=aw hm0
   subst this
   have hset:H.set t (.tok e (xs.length+([]:List fy).length))=H:=by
    apply bD;intro i;rw[zE];split
    .rename_i e';subst e';rw[W];rfl
    .rfl
   rw[hset,jU];refine⟨vs,g,w,?_,.same Q hi (.vec _ _ _ vs xs.length q1 q2 f (j7 _) yB)⟩
   obtain⟨base,cap,M,k⟩:∃base cap,vs=.slice base xs.length cap/\xs.length<=cap:=by
    rcases I with⟨rfl,h⟩|⟨b,cap,cur,r,rfl,_,_,_,h,_⟩
    .exact⟨none,0,by rw[h],by omega⟩
    .exact⟨_,cap,rfl,h⟩
   obtain⟨ad,c,C⟩:∃ad c,a.eval x=.slice ad 0 c:=by
    rcases p.shape with⟨h,_⟩|⟨ad,c,h,_⟩
    .exact⟨none,0,h⟩
    .exact⟨some ad,c,h⟩
   refine E _ _ ?_;rw[M,C];exact me D L base ad _ cap c k
  ·-- something
   obtain⟨ad,c,C,y⟩:∃ad c,a.eval x=.slice (some ad) es.length c/\∀(j:Nat) u,news[j]?=some u->w.cell? (ad.add j)=some u:=by
    rcases p.shape with⟨_,h⟩|⟨ad,c,h,h'⟩
    .subst h;exact absurd rfl hm0
    .exact⟨ad,c,h,h'⟩
   have A:=p.len;rcases I with⟨rfl,hx0⟩|⟨b,cap,cur,r,rfl,hB,hbk,hs',hnc,N,hcs,hSb⟩
   .have hxe:xs=[]:=aw hx0;subst hxe;have K:=run_append_nil (P:=P) w ts o.type e R T (QM D) Y i2 ad es.length c news (by rw[B];exact A) y y8 (by simpa using h63) (by rw[Z];simp only[jL,zY,gO]at l;omega);have hge:=grownCap_ge w es.length 0 e;have N:=grownCap_le_maxLen w es.length 0 e (by simpa using J)
    obtain⟨g',U⟩:=wh (P:=P) (S0:=S0) (w0:=w0) (m:=es.length) (n:=0) (olds:=[]) (zs:=Builtin.zeroCells T.cells (grownCap w es.length 0 e - es.length)) (cap:=grownCap w es.length 0 e) W L hx V rfl rfl y8 y8 N
     yA A (by simp[size_zeroCells,hzs]) f (λi j d u h=>by simp at h) p.rep Q hi (news.toArray++Builtin.zeroCells T.cells (grownCap w es.length 0 e - es.length)) yA
    simp only[jL,zY]at U |-;exact⟨_,g',_,E _ _ (by rw[C];exact K),U⟩
   .have hss:r=size:=by rw[L]at hs';exact(jS hs').symm
    subst hss;by_cases k:xs.length+es.length<=cap
    .have F:xs.length*R.size+news.length<=cur.size:=by rw[A,hcs,B,<-av];exact au _ k
     have K:=run_append_room (P:=P) w ts o.type e R (QM D) Y b xs.length cap cur hbk ad es.length c news (by rw[B];exact A) y hone k F;obtain⟨g',U⟩:=GU (P:=P) (S0:=S0) (w0:=w0) (m:=es.length) (n:=xs.length) W L hx V rfl rfl k N A f hB hbk hcs hSb q2 p.rep Q hi _ rfl;rw[B]at K;exact⟨_,g',_,E _ _ (by rw[C];exact K),U⟩
    .obtain⟨olds,G⟩:=uX (size:=r) q2 hx
     have O:∀(j:Nat) v,olds[j]?=some v->w.cell? ((⟨b,0,none⟩:Addr).add j)=some v:=by
      rcases G.shape with⟨h,_⟩|⟨ad',c',h,h'⟩
      .cases h
      .cases h;exact h'
     have K:=run_append_grow (P:=P) w ts o.type e R T (QM D) Y i2 ⟨b,0,none⟩ xs.length cap olds (by rw[B];exact G.len) O ad es.length c news (by rw[B];exact A) y y8 h63 (growslice_fits y8 (by rw[Z];exact l));have hge:=grownCap_ge w (xs.length+es.length) cap e;have hcm':=grownCap_le_maxLen w (xs.length+es.length) cap e J
     obtain⟨g',U⟩:=wh (P:=P) (S0:=S0) (w0:=w0) (m:=es.length) (n:=xs.length) (olds:=olds) (zs:=Builtin.zeroCells T.cells (grownCap w (xs.length+es.length) cap e - (xs.length+es.length))) (cap:=grownCap w (xs.length+es.length) cap e) W L hx V rfl rfl y8 hge hcm'
      G.len A (by simp[size_zeroCells,hzs]) f G.rep p.rep Q hi _ rfl
     exact⟨_,g',_,E _ _ (by rw[C];exact K),U⟩
end
end Go.Pm
