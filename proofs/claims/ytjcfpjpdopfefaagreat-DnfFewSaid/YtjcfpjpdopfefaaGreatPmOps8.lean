/-
 The pure machine: soundness of lists that are appended to and written.
-/
import Derived.Test.YtjcfpjpdopfefaaGreatPmOps7
namespace Go.Pm
open Go Go.RowKit
set_option linter.all false
section
variable{P:fm}{B0:Nat}{w0:fk}{S0:Nat->Nat->Prop}{g:Gh}{H H':List fB}{w:fk}{p:PV}{o:Oper}{a:Act}{ρ:ft->PV}
theorem Zb{H:List fB}{t:Nat}{x:TypeId×Nat×List PV}(h:mtOf H t=some x):H[t]?=some (.mt x.1 x.2.1 x.2.2):=by
 simp only[mtOf,jK]at h;obtain⟨b,d,c⟩:=h;rw[d];cases b with
 |mt e g cs=>simp[fB.mtOf]at c;subst c;rfl
 |box|tok|map|hole=>simp[fB.mtOf]at c
theorem yg(f:Qm P g B0 H.length H w)(hi:Inv B0 w0 S0 g w)(e:fq):
  Good P B0 w0 S0 H g w (.ms H.length 0 0 0 0) (H++[.mt e 0 []]) (.slice none 0 0) (g.give H.length (.slice none 0 0) 0) w:=by
 have c:Ext H.length g w (g.give H.length (.slice none 0 0) 0) w:=.giveNew _ _ _ (j7 _);refine⟨c,by simp,.ms _ _ _ _ _ _ (.slice none 0 0) 0 yA (by simp[Gh.give]) (j7 _) (λ_=>⟨rfl,.inl rfl⟩) ⟨none,0,rfl,j7 _,j7 _,λh=>absurd h (jZ _)⟩,?_,⟨hi.below,hi.size,hi.old,hi.lt⟩,Fr.old (j7 _) (λ_ _=>rfl) λi b h _=>?_⟩
 case refine_2=>
  rcases nw h with h|⟨_,h⟩
  .exact⟨i,gD (g:=g) h (λ_ _=>rfl) (λj k=>by simp only[Gh.give];rw[af y8])⟩
  .simp[Gh.give,fG]at h
 refine Qm.snoc (f.keep c yA (j7 _) (λ_ _ _=>rfl) (λ_ _ _ _ h=>h) (λt l=>by simp[Gh.give];omega)) _ (λcs h=>by cases h) (λe' n h=>by cases h) (λi b h d=>?_) (λe' n cs h=>?_) (hmt0:=λ_ _ _=>⟨.slice none 0 0,by simp[Gh.give],rfl⟩)
 .rw[gJ (e:=e) (n:=0) (cs:=[]) yA]at d;simp[Gh.give,fG]at d
 .cases h;exact⟨.slice none 0 0,by simp[Gh.give],.inl ⟨rfl,.inl rfl⟩⟩
theorem AV{e:fq}(c:o.op=.assign (.const (.slice none 0 0)))(d:Qm P g B0 H.length H w)(hi:Inv B0 w0 S0 g w):
  ∃v g' w',fQ P o a w v w'/\Good P B0 w0 S0 H g w (.ms H.length 0 0 0 0) (H++[.mt e 0 []]) v g' w':=
 ⟨_,_,w,.inl (by simp[execOp,c,Act.eval]),yg d hi e⟩
theorem uH{t e:fq}{x p:ft}{k:IntKind}{n:Int}{tt gg lo len cap size:Nat}(z:o.op=.indexAddr t x p)(A:fA P t=some e)(B:fJ P e=some size)(q:ρ p=.dat (.raw (.int k n)))(C:ρ x=.ms tt gg lo len cap)(h0:0<=n)(Q:n.toNat<len)(D:Qm P g B0 H.length H w)(hi:Inv B0 w0 S0 g w)(j:∀x,fC g H.length w (a.eval x) (ρ x)):
  ∃v g' w',fQ P o a w v w'/\Good P B0 w0 S0 H g w (.mp tt gg (lo+pR size n.toNat)) H v g' w':=by
 have f:pR size n.toNat=n.toNat*size:=by
  unfold pR;split
  .rename_i h;rw[h,aK]
  .rfl
 rw[f];have r:=kj (by rw[<-q];exact j p);have s:=j x;rw[C]at s;generalize E:a.eval x=v at s;cases s with
 |ms R gg' F y cp v v0 m G I J K L=>
  obtain⟨ad,c,rfl,S,T,M⟩:=L;obtain⟨ad,rfl⟩:=aA.1 (M y8);have u:n<(len:Int):=by omega
  refine⟨.pointer (some (ad.add (n.toNat*size))),g,w,.inl ?_,.same D hi (.mp _ _ _ _ v0 m G I J (λe'=>?_) ⟨_,rfl⟩)⟩
  .simp[execOp,z,Instr.indexAt,run_underlying (QM A),r,E,asIntOf,h0,u,hZ B]
  .obtain⟨d,N⟩:=K e';rcases N with rfl|⟨U,rfl⟩|⟨b,l,O,rfl⟩
   .simp[gP]at d
   .simp[gP]at d;omega
   .simp only[gP,Value.slice.injEq,j9]at d;obtain⟨rfl,_,_⟩:=d;refine⟨b,l,O,rfl,?_⟩;simp[iv]
theorem pq.not_flat{e:fq}{cs:List PV}{v0:fu}(h:pq P g B0 w e cs v0)(j:Nat):¬cs[j]?.map PV.flat=some true:=λc=>by
 obtain⟨b,n,cap,cur,size,ds,rfl,h0,m,p,q,k,rfl,f,_⟩:=h;rw[jD,Option.map_map,j5]at c;obtain⟨d,l,c⟩:=c;have:=gC (an.1 f d (jF l));cases d with
 |agg=>simp[PV.flat]at c
 |raw=>simp[fy.num]at this;omega
 |lst=>simp[fy.num]at this;omega
theorem pq.size_ne{e:fq}{cs:List PV}{v0:fu}(h:pq P g B0 w e cs v0):fJ P e≠some 1:=λc=>by
 obtain⟨b,n,cap,cur,size,ds,rfl,h0,j,k,d,f,_⟩:=h;rw[d]at c;cases c;omega
theorem pq.pos{e:fq}{cs:List PV}{v0:fu}(h:pq P g B0 w e cs v0):fG v0≠none:=λc=>by
 obtain⟨b,n,cap,cur,size,ds,rfl,h0,_⟩:=h;simp[fG]at c;omega
theorem lq{p:PV}(h:p.cell=true):p.flat=true:=by
 cases p with
 |dat d=>cases d<;>first|rfl|(simp[PV.cell]at h)
 |_=>rfl
theorem Ko{cs:List PV}(h:cs.all PV.flat=true){p:PV}(d:p.flat=true)(j:Nat):(cs.set j p).all PV.flat=true:=by
 rw[j8]at h |-;intro x c;rcases dS c with c|rfl
 .exact h x c
 .exact d
theorem qW{cs:List PV}(h:cs.all PV.cell=true):cs.all PV.flat=true:=by
 rw[j8]at h |-;exact λx c=>lq (h x c)
theorem tz{cs:List PV}(h:cs.all PV.flat=true)(n:Nat):(cs.take n).all PV.flat=true:=by
 rw[j8]at h |-;exact λx c=>h x (zR c)
theorem Hz{cs:List PV}(h:cs.all PV.flat=true)(n:Nat):(cs.drop n).all PV.flat=true:=by
 rw[j8]at h |-;exact λx c=>h x (dt c)
theorem DP{t:fq}{x:ft}{E:fq}{cs ds:List PV}{n tt gg j:Nat}{y:Bool}{p:PV}(F:o.op=.load t x)(G:ρ x=.mp tt gg j)(I:H[tt]?=some (.mt E gg cs))(J:pF P t=some y)(hn:fJ P t=some n)(K:n=1)(k:cs[j]?.map PV.flat=some true)(hc:cut cs j n=some ds)(L:ofCells y ds=some p)(z:Qm P g B0 H.length H w)(hi:Inv B0 w0 S0 g w)(r:∀x,fC g H.length w (a.eval x) (ρ x)):
  ∃v g' w',fQ P o a w v w'/\Good P B0 w0 S0 H g w p H v g' w':=by
 obtain⟨c1,c2,M⟩:=ka hc;have h:=r x;rw[G]at h;generalize s:a.eval x=v at h;cases h with
 |mp X gg' Y v v0 m Z O h3 Q h5=>
  obtain⟨v1,k1,k2⟩:=z.mt tt _ _ _ I;rw[O]at k1;simp only[j9,jI]at k1;obtain⟨rfl,rfl⟩:=k1;obtain⟨b,l,cap,A,rfl⟩:=Q rfl;rcases k2 with⟨rfl,B⟩|⟨R,l',C,cur,rfl,q0,q1,q2,q3,q4,q5,q6,q7,S⟩|f
  rotate_right
  .exact absurd k (f.not_flat j)
  .simp at c2;omega
  .simp only[Value.slice.injEq,j9,Addr.mk.injEq]at A;obtain⟨⟨rfl,_,_⟩,_,_⟩:=A
   have d:∀(q:Nat) u,((cur.toList.drop j).take n)[q]?=some u->q<n/\cur[j+q]?=some u:=λq u e=>by
    rw[jR]at e;split at e
    .exact⟨by assumption,by simpa using e⟩
    .cases e
   obtain⟨p1,T⟩:=fC.ofCells (g:=g) (w:=w) (N:=H.length) (us:=(cur.toList.drop j).take n) (n:=n) y9 c1 (λq v c U D=>by
    obtain⟨V,s⟩:=d q v U;rw[M q V]at D;exact S _ v c s D) L
   have W:=ji (P:=P) (w:=w) (b:=R) (off:=j) ((cur.toList.drop j).take n) J hn y9 p1 (λq u e=>by
    rw[cell_of_row w _ _ cur _ (0,0) q2];exact(d q u e).2)
   exact⟨_,g,w,.inl (by simp only[execOp,F,s];simp[Instr.loadAt,Instr.sureAddr,W]),.same z hi T⟩
theorem vt{v:fu}{p:PV}{N:Nat}(h:fC g N w v p)(c:p.cell=true):v.cells=#[v]/\p.cells=[p]:=by
 have e:=kA h c;refine⟨?_,?_⟩
 .cases v<;>first|rfl|(simp[Value.oneCell']at e)
 .cases p with
  |dat d=>cases d<;>first|rfl|(simp[PV.cell]at c)
  |agg|tup|undef=>simp[PV.cell]at c
  |_=>rfl
theorem C9{t:fq}{x y:ft}{I:fq}{cs:List PV}{tt gg j:Nat}(Z:o.op=.store t x y)(hx:ρ x=.mp tt gg j)(J:H[tt]?=some (.mt I gg cs))(hn:fJ P t=some 1)(d:(ρ y).cell=true)(z:cs[j]?.map PV.flat=some true)(K:Qm P g B0 H.length H w)(hi:Inv B0 w0 S0 g w)(p:∀x,fC g H.length w (a.eval x) (ρ x)):
  ∃v g' w',fQ P o a w v w'/\Good P B0 w0 S0 H g w (.tup []) (H.set tt (.mt I gg (cs.set j (ρ y)))) v g' w':=by
 have h:=p x;rw[hx]at h;generalize hv:a.eval x=v at h;have A:tt<H.length:=(ae.1 J).1
 have U:j<cs.length:=by
  rw[j5]at z;obtain⟨_,h,_⟩:=z;exact(ae.1 h).1
 cases h with
 |mp t' gg' j' v v0 m h1 V h3 h4 h5=>
  obtain⟨v1,k1,k2⟩:=K.mt tt _ _ _ J;have f:=V;rw[V]at k1;simp only[j9,jI]at k1;obtain⟨rfl,rfl⟩:=k1;obtain⟨b,l,cap,W,rfl⟩:=h4 rfl;rcases k2 with⟨rfl,X⟩|⟨F,l',L,cur,rfl,q0,q1,q2,q3,q4,q5,q6,q7,q8⟩|M
  rotate_right
  .exact absurd z (M.not_flat j)
  .simp at U
  .simp only[Value.slice.injEq,j9,Addr.mk.injEq]at W;obtain⟨⟨rfl,_,_⟩,rfl,rfl⟩:=W;have k:occ g H tt=some F:=by rw[gJ J,f];simp[fG];omega
   obtain⟨y1,y2⟩:=vt (p y) d;have N:=kA (p y) d;have hst:=run_storeCells_at P F j I [a.eval y] 0 cur w q2 y9 (by simpa using N);simp only[zX]at hst;generalize s:(cur.toList.take j++[a.eval y]++cur.toList.drop (j+[a.eval y].length))=new at hst
   have O:∀q,new[q]?=if q<j then cur[q]? else if q<j+1 then[a.eval y][q - j]? else cur[q]?:=λq=>by
    rw[<-s,gH _ _ _ y9];simp
   have B:(w.setRow F new.toArray).heap[F]?=some (.cells new.toArray I (0,0)):=setRow_heap w _ _ _ _ _ q2
   have Q:Ext H.length g w g (w.setRow F new.toArray):=⟨λ_ _ h=>h,λb o' R=>cell_setRow_other w _ _ _ (λe=>by
    simp only at e;subst e;exact q7 o' R),λ_ _ h=>⟨rfl,h⟩,λ_ _ v n h=>⟨v,n,h,j7 _,λ_=>rfl⟩⟩
   refine⟨undef,g,_,.inr ⟨?_,rfl⟩,Q,by simp,.tup _ _ rfl (λj v c h=>by simp at h),?_,⟨?_,by simp;exact hi.size,hi.old,λb o' R=>by simp;exact hi.lt b o' R⟩,⟨by simp,λb _ hn=>setRow_other w _ _ _ (λe=>hn tt (by rw[k,e])),λi b S _=>?_,λb o h=>.inl h⟩⟩
   .simp only[execOp,Z,hv];simp[Instr.storeAt,Instr.sureAddr,storeVar,y1,hZ hn,hst]
   .refine K.turn Q yA (j7 _) _ A (λi b C D=>setRow_other w _ _ _ (λe=>C (K.sep i tt b D (by rw[k,e]))))
     (λ_ _ _ _ _ h=>h) (λ_ _ _=>rfl) (λT hc=>by cases hc) (λ_ _ h=>by cases h) (λi b C D h=>?_) (λe' n' T hc=>?_) (hmt0:=λ_ _ hc=>by cases hc;exact K.mt0 _ _ _ J)
    .rw[gJ (e:=I) (n:=m) (cs:=cs.set j (ρ y)) (by simp[A]),f]at h;simp[fG]at h;obtain⟨_,rfl⟩:=h;exact C (K.sep i _ _ D k)
    .cases hc;have E:new.toArray.size=cur.size:=by rw[<-s];simp;omega
     refine⟨_,f,.inr (.inl ⟨F,l',L,new.toArray,rfl,q0,q1,B,by rw[E];exact q3,⟨by rw[E];simpa using q4.1,Ko q4.2 (lq d) j⟩,q5,by rw[E];exact q6,q7,λq u c r G=>?_⟩)⟩;simp only[aO]at r;rw[O]at r;rw[zE]at G;by_cases Y:j=q
     .subst Y;rw[af (jZ _),ai y8,cB]at r;rw[ai rfl,ai U]at G;simp at r G;subst r;subst G;exact(p y).ext Q yA
     .rw[af Y]at G
      have:cur[q]?=some u:=by
       split at r
       .exact r
       .split at r
        .omega
        .exact r
      exact(q8 q u c this G).ext Q yA
   .exact below_setRow hi.below q1 _
   .rcases kU A S with⟨_,h⟩|⟨rfl,h⟩
    .exact⟨i,h⟩
    .exact⟨i,by rw[gJ J];exact h⟩
theorem yu{size:Nat}{ds:List fy}(h:ds.all (fy.fits size)=true)(n:Nat):(ds.take n).all (fy.fits size)=true:=by
 rw[j8]at h |-;exact λx c=>h x (zR c)
theorem pq.take{e:fq}{cs:List PV}{v0:fu}(h:pq P g B0 w e cs v0)(n:Nat):pq P g B0 w e (cs.take n) v0:=by
 obtain⟨b,n',cap,cur,size,ds,rfl,h0,m,p,q,f,rfl,k,l,r,s,t,x⟩:=h;refine⟨b,n',cap,cur,size,ds.take n,rfl,h0,m,p,q,f,by rw[dM],yu k n,by rw[zV];omega,r,s,t,λi j d u v c y z=>?_⟩;rw[jR]at c;split at c
 .exact x i j d u v c y z
 .cases c
theorem MM{s:fq}{cs:List PV}{tt gg n:Nat}(f:H[tt]?=some (.mt s gg cs))(p:Qm P g B0 H.length H w)(hi:Inv B0 w0 S0 g w):
  Good P B0 w0 S0 H g w (.tup []) (H.set tt (.mt s gg (cs.take n))) undef g w:=by
 have d:tt<H.length:=(ae.1 f).1;obtain⟨B,k1,k2⟩:=p.mt tt _ _ _ f;have A:Ext H.length g w g w:=Ext.refl _ _ _;refine⟨A,by simp,.tup _ _ rfl (λj v c h=>by simp at h),?_,hi,⟨j7 _,λ_ _ _=>rfl,λi b t _=>?_,λb o h=>.inl h⟩⟩
 .rw[zT]
  refine p.turn A (j7 _) (j7 _) _ d (λ_ _ _ _=>rfl)
   (λ_ _ _ _ _ h=>h) (λ_ _ _=>rfl) (λx hc=>by cases hc) (λ_ _ h=>by cases h) (λi b y z h=>?_) (λe' n' x hc=>?_) (hmt0:=λ_ _ hc=>by cases hc;exact p.mt0 _ _ _ f)
  .rw[gJ (e:=s) (n:=gg) (cs:=cs.take n) (by simp[d]),<-gJ f]at h;exact y (p.sep i _ _ z h)
  .cases hc;refine⟨B,k1,?_⟩;rcases k2 with⟨rfl,k⟩|⟨C,D,l,cur,rfl,q0,q1,q2,q3,q4,q5,q6,q7,E⟩|m
   .exact .inl ⟨by simp,k⟩
   .refine .inr (.inl ⟨C,D,l,cur,rfl,q0,q1,q2,q3,⟨by rw[zV];omega,tz q4.2 n⟩,q5,q6,q7,λq u c F r=>?_⟩);rw[jR]at r;split at r
    .exact E q u c F r
    .cases r
   .exact .inr (.inr (m.take n))
 .rcases kU d t with⟨_,h⟩|⟨rfl,h⟩
  .exact⟨i,h⟩
  .exact⟨i,by rw[gJ f];exact h⟩
theorem Ds{N:Nat}{v:fu}{p:PV}{n:Nat}(h:fC g N w v p)(hn:lr p=some n):∃ad cap,v=.slice ad n cap/\n<=cap/\(ad=none->cap=0):=by
 have lst:∀{v:fu} {es:List fy},fY w g.S v (.lst es)->∃ad cap,v=.slice ad es.length cap/\es.length<=cap/\(ad=none->cap=0):=λh=>by
  cases h with
  |nil=>exact⟨none,0,rfl,j7 _,λ_=>rfl⟩
  |empty a cap=>exact⟨some a,cap,rfl,zP _,λh=>by cases h⟩
  |lst b off len cap k es c f j=>exact⟨_,cap,by rw[f],by omega,λh=>by cases h⟩
 cases h with
 |dat v d h=>
  cases d with
  |lst es=>simp[lr]at hn;subst hn;exact lst h
  |_=>simp[lr]at hn
 |vec v t es v0 n' f j=>simp[lr]at hn;subst hn;exact lst j
 |arr i o len cap h l=>simp[lr]at hn;subst hn;exact⟨_,_,rfl,l,λh=>by cases h⟩
 |empv b v f j=>
  simp[lr]at hn;subst hn;cases b with
  |true=>exact⟨none,0,f rfl,j7 _,λ_=>rfl⟩
  |false=>obtain⟨a,cap,rfl⟩:=j rfl;exact⟨_,_,rfl,zP _,λh=>by cases h⟩
 |ms _ _ _ _ _ _ _ _ _ _ _ _ m=>simp[lr]at hn;subst hn;obtain⟨a,c,rfl,_,h,q⟩:=m;exact⟨_,_,rfl,h,λe=>by subst e;cases c with|zero=>rfl|succ c=>simp at q⟩
 |_=>simp[lr]at hn
theorem nU{args:Array Operand}{s x:PV}(h:args.toList.map ρ=[s,x]):∃s' c,args=#[s',c]/\s=ρ s'/\x=ρ c:=by
 obtain⟨l⟩:=args
 match l,h with
 |[s',c],h=>simp at h;exact⟨s',c,rfl,h.1.symm,h.2.symm⟩
theorem rT{args:Array Operand}{s:PV}(h:args.toList.map ρ=[s]):∃s',args=#[s']/\s=ρ s':=by
 obtain⟨l⟩:=args
 match l,h with
 |[s'],h=>simp at h;exact⟨s',rfl,h.symm⟩
theorem BQ{len cap l h m:Nat}{lo:Option Operand}{hi e:ft}(c:iD ρ 0 lo=some l)(f:pV (ρ hi)=some h)(j:pV (ρ e)=some m)(r:l<=h)(k:h<=m)(n:m<=cap)(d:∀x,fC g H.length w (a.eval x) (ρ x)):(Instr.sliceBounds true len cap (lo.map a.eval) (some (a.eval hi)) (some (a.eval e))).run P w=.ok (l,h,m) w:=by
 obtain⟨k1,p⟩:=jd (d hi) f;obtain⟨k2,q⟩:=jd (d e) j;unfold Instr.sliceBounds;cases lo with
 |none=>simp[iD]at c;subst c;simp[ia (P:=P) .slice3Acap q n w,ia (P:=P) .slice3B p k w]
 |some lo=>
  obtain⟨k3,s⟩:=jd (d lo) c;simp[ia (P:=P) .slice3Acap q n w,ia (P:=P) .slice3B p k w,ia (P:=P) .slice3C s r w]
theorem qD(f:Qm P g B0 H.length H w)(hi:Inv B0 w0 S0 g w)(e:fq)(ad:Option Addr):
  ∃g',Good P B0 w0 S0 H g w (.ms H.length 0 0 0 0) (H++[.mt e 0 []]) (.slice ad 0 0) g' w:=by
 have k:KK (.slice ad 0 0):=by cases ad with|none=>exact .inl rfl|some a=>exact .inr (.inl ⟨a,rfl⟩)
 have l:Value.slice ad 0 0=gP (.slice ad 0 0) 0 0:=by cases ad with|none=>rfl|some a=>simp[gP,Addr.add]
 have hm:fG (.slice ad 0 0)=none:=by cases ad<;>simp[fG]
 have c:Ext H.length g w (g.give H.length (.slice ad 0 0) 0) w:=.giveNew _ _ _ (j7 _);refine⟨_,c,by simp,.ms _ _ _ _ _ _ (.slice ad 0 0) 0 yA (by simp[Gh.give]) (j7 _) (λ_=>⟨l,k⟩) ⟨ad,0,rfl,j7 _,j7 _,λh=>absurd h (jZ _)⟩,?_,⟨hi.below,hi.size,hi.old,hi.lt⟩,Fr.old (j7 _) (λ_ _=>rfl) λi b h _=>?_⟩
 case refine_2=>
  rcases nw h with h|⟨_,h⟩
  .exact⟨i,gD (g:=g) h (λ_ _=>rfl) (λj m=>by simp only[Gh.give];rw[af y8])⟩
  .simp[Gh.give,hm]at h
 refine Qm.snoc (f.keep c yA (j7 _) (λ_ _ _=>rfl) (λ_ _ _ _ h=>h) (λt p=>by simp[Gh.give];omega)) _ (λcs h=>by cases h) (λe' n h=>by cases h) (λi b h d=>?_) (λe' n cs h=>?_) (hmt0:=λ_ _ _=>⟨.slice ad 0 0,by simp[Gh.give],hm⟩)
 .rw[gJ (e:=e) (n:=0) (cs:=[]) yA]at d;simp[Gh.give,hm]at d
 .cases h;refine⟨.slice ad 0 0,by simp[Gh.give],.inl ⟨rfl,?_⟩⟩;cases ad with|none=>exact .inl rfl|some a=>exact .inr ⟨a,rfl⟩
theorem Eb{t e:fq}{x:ft}{lo:Option Operand}{hi p:ft}{n l h m:Nat}(q:o.op=.slice t x lo (some hi) (some p))(r:fA P t=some e)(c:(fJ P e).isSome)(s:lr (ρ x)=some n)(f:iD ρ 0 lo=some l)(j:pV (ρ hi)=some h)(k:pV (ρ p)=some m)(u:l<=h)(v:h<=m)(A:m<=n)(d:∀x,fC g H.length w (a.eval x) (ρ x)):∃ad,fQ P o a w (.slice ad (h - l) (m - l)) w/\(ad=none->m - l=0):=by
 obtain⟨ad,cap,y,hc,hn⟩:=Ds (d x) s;obtain⟨size,c⟩:=aA.1 c;have z:=BQ (P:=P) (len:=n) (cap:=cap) f j k u v y8 d
 exact⟨_,.inl (by simp[execOp,q,Instr.sliceAt,Instr.slice,run_underlying (QM r),y,z,hZ c];rfl),λe=>by
  have:ad=none:=by split at e<;>first|exact e|exact(Option.map_eq_none_iff.1 e)
  have:=hn this;omega⟩
theorem C7{t e:fq}{x:ft}{lo hi:Option Operand}{tt gg I len cap:Nat}(J:o.op=.slice t x lo hi none)(K:fA P t=some e)(d:fJ P e=some 1\/((fJ P e).isSome=true/\lo.isNone=true))(O:ρ x=.ms tt gg I len cap)(r:sn ρ lo hi tt gg I len cap=some p)(Q:Qm P g B0 H.length H w)(B:Inv B0 w0 S0 g w)(n:∀x,fC g H.length w (a.eval x) (ρ x)):
  ∃v g' w',fQ P o a w v w'/\Good P B0 w0 S0 H g w p H v g' w':=by
 have C:=n x;rw[O]at C;generalize L:a.eval x=v at C;unfold sn at r;split at r
 .rename_i l h f j;split at r
  .rename_i hc;obtain⟨s,R⟩:=hc;cases C with
   |ms _ _ _ _ _ v v0 m k1 k2 k3 S T=>
    obtain⟨ad,c,rfl,V,W,M⟩:=T
    have D:(Instr.sliceBounds true len c (lo.map a.eval) (hi.map a.eval) none).run P w=.ok (l,h,c) w:=by
     have q:h<=c:=by omega
     unfold Instr.sliceBounds;cases hi with
     |none=>
      cases lo with
      |none=>simp[iD]at f j;subst f j;simp
      |some lo=>
       obtain⟨k,E⟩:=jd (n lo) f;simp[iD]at j;subst j;simp[ia (P:=P) .sliceB E s w]
     |some hi=>
      obtain⟨X,u⟩:=jd (n hi) j;cases lo with
      |none=>simp[iD]at f;subst f;simp[ia (P:=P) .sliceAcap u q w]
      |some lo=>
       obtain⟨k,E⟩:=jd (n lo) f;simp[ia (P:=P) .sliceB E s w,ia (P:=P) .sliceAcap u q w]
    have z:fQ P o a w (.slice (if c=l then ad else ad.map (·.add (l*1))) (h - l) (c - l)) w:=by
     rcases d with d|⟨d,A⟩
     .exact .inl (by simp[execOp,J,Instr.sliceAt,Instr.slice,run_underlying (QM K),L,D,hZ d])
     .obtain⟨size,d⟩:=aA.1 d;cases lo with
      |some y=>cases A
      |none=>
       have F:l=0:=by simpa[iD]using f.symm
       subst F;simp only[du]at D;exact .inl (by simp[execOp,J,Instr.sliceAt,Instr.slice,run_underlying (QM K),L,D,hZ d])
    refine⟨_,g,w,z,.same Q B ?_⟩;cases r;by_cases N:l=0\/l<h
    .rw[ai N]
     have G:(if c=l then ad else ad.map (·.add (l*1)))=ad.map (·.add l):=by
      split
      .rename_i e
       have:l=0:=by omega
       subst this;cases ad<;>simp[Addr.add]
      .simp
     rw[G];refine .ms _ _ _ _ _ _ v0 m k1 k2 k3 (λe'=>?_) ⟨_,_,rfl,by omega,by omega,λhl=>by simp;exact M y8⟩;obtain⟨q1,q2⟩:=S e';refine⟨?_,q2⟩;rcases q2 with rfl|⟨U,rfl⟩|⟨b,Y,Z,rfl⟩
     .simp[gP]at q1;obtain⟨rfl,rfl,rfl⟩:=q1;simp[gP];omega
     .simp[gP]at q1;obtain⟨rfl,rfl,rfl⟩:=q1
      have:l=0/\h=0:=by omega
      obtain⟨rfl,rfl⟩:=this;simp[gP,Addr.add]
     .simp[gP]at q1;obtain⟨rfl,rfl⟩:=q1;simp[gP,iv];omega
    .rw[af N]
     have:h - l=0:=by omega
     rw[this];refine .dat _ _ ?_;have hc:0<c:=by omega
     obtain⟨U,rfl⟩:=aA.1 (M hc);split <;>exact .empty _ _
  .cases r
 .cases r
theorem CP{tt C gg lo b T d:Nat}{cs es:List PV}{news:List Value}{cur:Array Value}{v0:fu}(I:H[tt]?=some (.mt C gg cs))(f:g.own tt=some (v0,gg))(L:v0=.slice (some ⟨b,0,none⟩) T d)(q0:0<d)(q1:B0<=b)(q2:w.heap[b]?=some (.cells cur C (0,0)))(q3:∃size,fJ P C=some size/\0<size/\cur.size=d*size)(q4:cs.length<=cur.size/\cs.all PV.flat=true)(q5:d<=maxLen)(q6:d<=cur.size)(q7:∀o,¬g.S b o)(U:∀(j:Nat) v c,cur[j]?=some v->cs[j]?=some c->fC g H.length w v c)(V:news.length=es.length)(M:es.all PV.flat=true)(t:lo+es.length<=cs.length)(D:∀(j:Nat) u c,news[j]?=some u->es[j]?=some c->fC g H.length w u c)(J:Qm P g B0 H.length H w)(hi:Inv B0 w0 S0 g w){v:fu}{p:PV}(W:fC g H.length w v p):
  Good P B0 w0 S0 H g w p (H.set tt (.mt C gg (cs.take lo++es++cs.drop (lo+es.length)))) v g (w.setRow b (cur.toList.take lo++news++cur.toList.drop (lo+news.length)).toArray):=by
 subst L;have x:tt<H.length:=(ae.1 I).1;have k:occ g H tt=some b:=by rw[gJ I,f];simp[fG];omega
 have E:lo+news.length<=cur.toList.length:=by simp;omega
 generalize r:(cur.toList.take lo++news++cur.toList.drop (lo+news.length))=new
 have F:∀q,new[q]?=if q<lo then cur[q]? else if q<lo+news.length then news[q - lo]? else cur[q]?:=λq=>by
  rw[<-r,gH _ _ _ E];simp
 have l:∀q,(cs.take lo++es++cs.drop (lo+es.length))[q]?=if q<lo then cs[q]? else if q<lo+es.length then es[q - lo]? else cs[q]?:=λq=>gH _ _ _ t q
 have N:(cs.take lo++es++cs.drop (lo+es.length)).length=cs.length:=by simp;omega
 have G:(cs.take lo++es++cs.drop (lo+es.length)).all PV.flat=true:=by rw[zQ,zQ,tz q4.2,M,Hz q4.2];rfl
 generalize (cs.take lo++es++cs.drop (lo+es.length))=y at l N G;have z:(w.setRow b new.toArray).heap[b]?=some (.cells new.toArray C (0,0)):=setRow_heap w _ _ _ _ _ q2
 have K:Ext H.length g w g (w.setRow b new.toArray):=⟨λ_ _ h=>h,λb o' O=>cell_setRow_other w _ _ _ (λe=>by
  simp only at e;subst e;exact q7 o' O),λ_ _ h=>⟨rfl,h⟩,λ_ _ v n h=>⟨v,n,h,j7 _,λ_=>rfl⟩⟩
 refine⟨K,by simp,W.ext K yA,?_,⟨?_,by simp;exact hi.size,hi.old,λb o' O=>by simp;exact hi.lt b o' O⟩,⟨by simp,λb _ hn=>setRow_other w _ _ _ (λe=>hn tt (by rw[k,e])),λi b Q _=>?_,λb o h=>.inl h⟩⟩
 .refine J.turn K yA (j7 _) _ x (λi b A B=>setRow_other w _ _ _ (λe=>A (J.sep i tt b B (by rw[k,e]))))
   (λ_ _ _ _ _ h=>h) (λ_ _ _=>rfl) (λy hc=>by cases hc) (λ_ _ h=>by cases h) (λi b A B h=>?_) (λe' n' y hc=>?_) (hmt0:=λ_ _ hc=>by cases hc;exact J.mt0 _ _ _ I)
  .rw[gJ (e:=C) (n:=gg) (cs:=y) (by simp[x]),f]at h;simp[fG]at h;obtain⟨_,rfl⟩:=h;exact A (J.sep i _ _ B k)
  .cases hc;have R:new.toArray.size=cur.size:=by rw[<-r];simp;simp at E;omega
   refine⟨_,f,.inr (.inl ⟨b,T,d,new.toArray,rfl,q0,q1,z,by rw[R];exact q3,⟨by omega,G⟩,q5,by omega,q7,λq u c m s=>?_⟩)⟩;simp only[aO]at m;rw[F]at m;rw[l]at s
   have:fC g H.length w u c:=by
    by_cases c1:q<lo
    .rw[ai c1]at m s;exact U q u c m s
    .rw[af c1]at m s;by_cases c2:q<lo+es.length
     .rw[ai y8]at m;rw[ai c2]at s;exact D _ u c m s
     .rw[af y8]at m;rw[af c2]at s;exact U q u c m s
   exact this.ext K yA
 .exact below_setRow hi.below q1 _
 .rcases kU x Q with⟨_,h⟩|⟨rfl,h⟩
  .exact⟨i,h⟩
  .exact⟨i,by rw[gJ I];exact h⟩
theorem Cr{tt B gg b W d size L:Nat}{cs es:List PV}{news:List Value}{cur:Array Value}{v0:fu}(T:H[tt]?=some (.mt B gg cs))(s:g.own tt=some (v0,gg))(I:v0=.slice (some ⟨b,0,none⟩) W d)(q0:0<d)(q1:B0<=b)(q2:w.heap[b]?=some (.cells cur B (0,0)))(q3:fJ P B=some size)(D:0<size)(hL:L*size=cs.length+es.length)(q4:cs.all PV.flat=true)(q5:d<=maxLen)(q6:cur.size=d*size)(q7:∀o,¬g.S b o)(X:∀(j:Nat) v c,cur[j]?=some v->cs[j]?=some c->fC g H.length w v c)(U:news.length=es.length)(J:es.all PV.flat=true)(f:L<=d)(E:∀(j:Nat) u c,news[j]?=some u->es[j]?=some c->fC g H.length w u c)(K:Qm P g B0 H.length H w)(hi:Inv B0 w0 S0 g w):
  ∃g',Good P B0 w0 S0 H g w (.ms tt (gg+1) 0 L L) (H.set tt (.mt B (gg+1) (cs++es))) (.slice (some ⟨b,0,none⟩) L d) g' (w.setRow b (cur.toList.take cs.length++news++cur.toList.drop (cs.length+news.length)).toArray):=by
 subst I;have p:tt<H.length:=(ae.1 T).1;have l:occ g H tt=some b:=by rw[gJ T,s];simp[fG];omega
 have Y:L*size<=d*size:=au _ f;have F:cs.length+news.length<=cur.toList.length:=by simp;omega
 generalize t:(cur.toList.take cs.length++news++cur.toList.drop (cs.length+news.length))=new
 have G:∀q,new[q]?=if q<cs.length then cur[q]? else if q<cs.length+news.length then news[q - cs.length]? else cur[q]?:=λq=>by
  rw[<-t,gH _ _ _ F];simp
 have x:(w.setRow b new.toArray).heap[b]?=some (.cells new.toArray B (0,0)):=setRow_heap w _ _ _ _ _ q2
 let y:Value:=.slice (some ⟨b,0,none⟩) L d
 let m:=g.give tt y (gg+1)
 have M:Ext H.length g w m (w.setRow b new.toArray):=⟨λ_ _ h=>h,λb o' N=>cell_setRow_other w _ _ _ (λe=>by
  simp only at e;subst e;exact q7 o' N),λ_ _ h=>⟨rfl,h⟩,λV _ v n h=>by
   by_cases e':V=tt
   .subst e';rw[s]at h;cases h;exact⟨y,gg+1,by simp[m,Gh.give],by omega,λe=>by omega⟩
   .exact⟨v,n,by simp only[m,Gh.give];rw[af e'];exact h,j7 _,λ_=>rfl⟩⟩
 refine⟨m,M,by simp,.ms _ _ _ _ _ _ y (gg+1) (by simpa using p) (by simp[m,Gh.give]) (j7 _) (λ_=>⟨by simp[y,gP,Addr.add],.inr (.inr ⟨b,_,_,rfl⟩)⟩) ⟨_,_,rfl,f,f,λ_=>rfl⟩,?_,⟨?_,by simp;exact hi.size,hi.old,λb o' N=>by simp;exact hi.lt b o' N⟩,⟨by simp,λb _ hn=>setRow_other w _ _ _ (λe=>hn tt (by rw[l,e])),λi Z O _=>?_,λb o h=>.inl h⟩⟩
 .refine K.turn M yA (j7 _) _ p (λi b z A=>setRow_other w _ _ _ (λe=>z (K.sep i tt b A (by rw[l,e]))))
   (λ_ _ _ _ _ h=>h) (λV _ r=>by simp only[m,Gh.give];rw[af r]) (λQ hc=>by cases hc) (λ_ _ h=>by cases h) (λi Z z A h=>?_) (λe' n' Q hc=>?_)
  .rw[gJ (e:=B) (n:=gg+1) (cs:=cs++es) (by simp[p])]at h;simp[m,Gh.give,y,fG]at h;obtain⟨_,rfl⟩:=h;exact z (K.sep i _ _ A l)
  .cases hc;have R:new.toArray.size=cur.size:=by rw[<-t];simp;simp at F;omega
   have hcc:d<=d*size:=aD _ D;refine⟨y,by simp[m,Gh.give],.inr (.inl ⟨b,_,d,new.toArray,rfl,q0,q1,x,⟨size,q3,D,by omega⟩,⟨by rw[R];simp;omega,by rw[zQ,q4,J];rfl⟩,q5,by omega,q7,λq u c k C=>?_⟩)⟩;simp only[aO]at k;rw[G]at k;rw[jT]at C
   have:fC g H.length w u c:=by
    by_cases c1:q<cs.length
    .rw[ai c1]at k C;exact X q u c k C
    .rw[af c1]at k C;have c2:q - cs.length<es.length:=(ae.1 C).1;rw[ai y8]at k;exact E _ u c k C
   exact this.ext M yA
 .exact below_setRow hi.below q1 _
 .rcases kU p O with⟨r,h⟩|⟨rfl,h⟩
  .refine⟨i,?_⟩;unfold occ at h |-;split at h
   .exact h
   .simp only[m,Gh.give]at h;rw[af r]at h;exact h
   .simp only[m,Gh.give]at h;rw[af r]at h;exact h
   .exact h
   .cases h
   .cases h
  .refine⟨i,?_⟩;simp[m,Gh.give,y,fG]at h;obtain⟨_,rfl⟩:=h;exact l
theorem Mj{tt m gg b q d:Nat}{cs es:List PV}{news:List Value}{cur:Array Value}{v0:fu}(r:H[tt]?=some (.mt m gg cs))(f:g.own tt=some (v0,gg))(n:v0=.slice (some ⟨b,0,none⟩) q d)(q0:0<d)(q1:B0<=b)(q2:w.heap[b]?=some (.cells cur m (0,0)))(q3:fJ P m=some 1)(q4:cs.all PV.flat=true)(q5:d<=maxLen)(q6:cur.size=d)(q7:∀o,¬g.S b o)(s:∀(j:Nat) v c,cur[j]?=some v->cs[j]?=some c->fC g H.length w v c)(k:news.length=es.length)(p:es.all PV.flat=true)(e:cs.length+es.length<=d)(l:∀(j:Nat) u c,news[j]?=some u->es[j]?=some c->fC g H.length w u c)(t:Qm P g B0 H.length H w)(hi:Inv B0 w0 S0 g w):
  ∃g',Good P B0 w0 S0 H g w (.ms tt (gg+1) 0 (cs.length+es.length) (cs.length+es.length)) (H.set tt (.mt m (gg+1) (cs++es))) (.slice (some ⟨b,0,none⟩) (cs.length+es.length) d) g' (w.setRow b (cur.toList.take cs.length++news++cur.toList.drop (cs.length+news.length)).toArray):=
 Cr r f n q0 q1 q2 q3 yC (aK _) q4 q5 y8 q7 s k p e l t hi
theorem uS{tt t gg cap size L:Nat}{cs es:List PV}{olds news:List Value}{zs:Array Value}{v0:fu}(s:H[tt]?=some (.mt t gg cs))(B:g.own tt=some (v0,gg))(q3:fJ P t=some size)(C:0<size)(hL:L*size=cs.length+es.length)(q4:L<=cap)(M:cs.all PV.flat=true)(N:es.all PV.flat=true)(q5:cap<=maxLen)(hpos:0<es.length)(l:olds.length=cs.length)(D:news.length=es.length)(V:zs.size=cap*size - (cs.length+es.length))(E:∀(j:Nat) u c,olds[j]?=some u->cs[j]?=some c->fC g H.length w u c)(F:∀(j:Nat) u c,news[j]?=some u->es[j]?=some c->fC g H.length w u c)(J:Qm P g B0 H.length H w)(hi:Inv B0 w0 S0 g w)(vals:Array Value)(d:vals=olds.toArray++news.toArray++zs):
  ∃g',Good P B0 w0 S0 H g w (.ms tt (gg+1) 0 L L) (H.set tt (.mt t (gg+1) (cs++es))) (.slice (some ⟨w.heap.size,0,none⟩) L cap) g' (w.drew.alloc (.cells vals t)):=by
 have m:tt<H.length:=(ae.1 s).1;have G:Inv B0 w0 S0 g w.drew:=⟨hi.below.drew,hi.size,hi.old,hi.lt⟩;have T:Ext H.length g w g w.drew:=⟨λ_ _ h=>h,λ_ _ _=>rfl,λ_ _ h=>⟨rfl,h⟩,λ_ _ v n h=>⟨v,n,h,j7 _,λ_=>rfl⟩⟩;have W:Qm P g B0 H.length H w.drew:=J.keep T (j7 _) (j7 _) (λ_ _ _=>rfl) (λ_ _ _ _ h=>h) (λ_ _=>rfl)
 let x:Value:=.slice (some ⟨w.heap.size,0,none⟩) L cap
 let k:=g.give tt x (gg+1)
 let A:=w.drew.alloc (.cells vals t)
 have k1:Ext H.length g w.drew g A:=Ext.alloc G H.length _;have p:Inv B0 w0 S0 g A:=G.alloc _;have y:A.heap[w.heap.size]?=some (.cells vals t (0,0)):=heap_alloc_new w.drew _
 have X:Ext H.length g A k A:=⟨λ_ _ h=>h,λ_ _ _=>rfl,λ_ _ h=>⟨rfl,h⟩,λU Y v n' h=>by
  by_cases e':U=tt
  .subst e';rw[B]at h;cases h;exact⟨x,gg+1,by simp[k,Gh.give],by omega,λe=>by omega⟩
  .exact⟨v,n',by simp only[k,Gh.give];rw[af e'];exact h,j7 _,λ_=>rfl⟩⟩
 have O:Ext H.length g w k A:=(T.trans k1 (j7 _)).trans X (j7 _);have Q:L*size<=cap*size:=au _ q4;have Z:cap<=cap*size:=aD _ C
 have z:0<cap:=by
  cases cap with
  |zero=>simp at Q;omega
  |succ n=>omega
 have I:vals.size=cap*size:=by
  rw[d];simp only[dR,bK,l,D,V];omega
 refine⟨k,O,by simp,.ms _ _ _ _ _ _ x (gg+1) (by simpa using m) (by simp[k,Gh.give]) (j7 _) (λ_=>⟨by simp[x,gP,Addr.add],.inr (.inr ⟨_,_,_,rfl⟩)⟩) ⟨_,_,rfl,q4,q4,λ_=>rfl⟩,?_,⟨p.below,p.size,p.old,p.lt⟩,Fr.old yA (λb s=>Below.heap_alloc w.drew _ b s) (λi b h R=>?_)⟩
 case refine_2=>
  rcases kU m h with⟨r,h⟩|⟨rfl,h⟩
  .refine⟨i,?_⟩;unfold occ at h |-;split at h
   .exact h
   .simp only[k,Gh.give]at h;rw[af r]at h;exact h
   .simp only[k,Gh.give]at h;rw[af r]at h;exact h
   .exact h
   .cases h
   .cases h
  .simp[k,Gh.give,x,fG]at h;obtain⟨_,rfl⟩:=h;exact absurd R (jZ _)
 refine J.turn O yA (j7 _) _ m (λi b _ s=>Below.heap_alloc w.drew _ b (J.occ_lt s).2.1) (λi b _ s o S=>S) (λU _ r=>by simp only[k,Gh.give];rw[af r]) (λ_ h=>by cases h) (λ_ _ h=>by cases h) (λi b hik s h=>?_) (λe' n' cs' hc=>?_)
 .rw[gJ (e:=t) (n:=gg+1) (cs:=cs++es) (by simp[m])]at h;simp[k,Gh.give,x,fG]at h;obtain⟨_,rfl⟩:=h;exact jZ _ (J.occ_lt s).2.1
 .cases hc;refine⟨x,by simp[k,Gh.give],.inr (.inl ⟨w.heap.size,_,cap,vals,rfl,z,hi.size,y,⟨size,q3,C,I⟩,⟨by rw[I];simp;omega,by rw[zQ,M,N];rfl⟩,q5,by omega,λo S=>jZ _ (hi.lt _ _ S),λq u c K f=>?_⟩)⟩;rw[jT]at f
  have:fC g H.length w u c:=by
   by_cases c1:q<cs.length
   .rw[ai c1]at f;refine E q u c ?_ f;rw[d,aG,ai y9,aG,ai y9]at K
    simpa using K
   .rw[af c1]at f;have c2:q - cs.length<es.length:=(ae.1 f).1;refine F _ u c ?_ f;rw[d,aG,ai y9,aG,af y9]at K
    simpa[l]using K
  exact this.ext O yA
theorem zo{tt n gg cap:Nat}{cs es:List PV}{olds news:List Value}{zs:Array Value}{v0:fu}(r:H[tt]?=some (.mt n gg cs))(f:g.own tt=some (v0,gg))(q3:fJ P n=some 1)(q4:cs.length+es.length<=cap)(p:cs.all PV.flat=true)(q:es.all PV.flat=true)(q5:cap<=maxLen)(hpos:0<es.length)(d:olds.length=cs.length)(k:news.length=es.length)(t:zs.size=cap - (cs.length+es.length))(l:∀(j:Nat) u c,olds[j]?=some u->cs[j]?=some c->fC g H.length w u c)(m:∀(j:Nat) u c,news[j]?=some u->es[j]?=some c->fC g H.length w u c)(s:Qm P g B0 H.length H w)(hi:Inv B0 w0 S0 g w)(vals:Array Value)(e:vals=olds.toArray++news.toArray++zs):
  ∃g',Good P B0 w0 S0 H g w (.ms tt (gg+1) 0 (cs.length+es.length) (cs.length+es.length)) (H.set tt (.mt n (gg+1) (cs++es))) (.slice (some ⟨w.heap.size,0,none⟩) (cs.length+es.length) cap) g' (w.drew.alloc (.cells vals n)):=
 uS r f q3 yC (aK _) q4 p q q5 hpos d k y8 l m s hi vals e
structure Ia (g:Gh) (N:Nat) (w:fk) (v:fu) (es:List PV) (news:List Value):Prop where
 shape:(v=.slice none 0 0/\es=[])\/∃ad c,v=.slice (some ad) es.length c/\∀(j:Nat) u,news[j]?=some u->w.cell? (ad.add j)=some u
 len:news.length=es.length
 rep:∀(j:Nat) u c,news[j]?=some u->es[j]?=some c->fC g N w u c
theorem pk{d:fy}(h:d.isCell=true):d.cells=[d]:=by cases d<;>simp_all [fy.cells,fy.isCell]
theorem vW{ds:List fy}(h:ds.all fy.isCell=true):ds.all (fy.fits 1)=true:=by
 rw[j8]at h |-;intro d e;have c:=h d e;simp[fy.fits,pk c,c,fy.num_eq]
theorem M2{N:Nat}{v:fu}{ds:List fy}{news:List Value}(h:Src w g.S v ds 1 news)(l:ds.all fy.isCell=true):Ia g N w v (ds.map .dat) news:=by
 refine⟨?_,by simp[h.len],λj u c m e=>?_⟩
 .rcases h.shape with⟨f,k⟩|⟨ad,c,f,k⟩
  .exact .inl ⟨f,by rw[k];rfl⟩
  .exact .inr ⟨ad,c,by simpa using f,k⟩
 .rw[jD,j5]at e;obtain⟨d,e,rfl⟩:=e;have hc:=an.1 l d (jF e);have:=h.rep j 0 d d e (by rw[pk hc];rfl);simp only[aK,zX,jB,m,aE]at this;exact .dat _ _ this
theorem sf{N:Nat}{v:fu}{p:PV}{es:List PV}(y:Qm P g B0 N H w)(h:fC g N w v p)(d:iR H p=some es)(l:es.all PV.cell=true):∃news,Ia g N w v es news:=by
 unfold iR at d;split at d
 .rename_i t gg lo len cp;split at d
  .rename_i M g' cs hm;split at d
   .rename_i e;subst e;have B:=Zb hm;obtain⟨c1,c2,z⟩:=ka d;cases h with
    |ms _ _ _ _ _ v v0 m O C Q D E=>
     obtain⟨R,k1,k2⟩:=y.mt t _ _ _ B;rw[C]at k1;simp only[j9,jI]at k1;obtain⟨rfl,rfl⟩:=k1;obtain⟨q,_⟩:=D rfl;rcases k2 with⟨f,x⟩|⟨F,S,n,cur,rfl,q0,q1,q2,q3,q4,q5,q6,q7,G⟩|k
     rotate_right
     .have:es=[]:=by
       cases es with
       |nil=>rfl
       |cons c es=>
        have h0:0<len:=by rw[<-c1];simp
        have:=z 0 h0;exact absurd (by rw[<-this];simp[lq (an.1 l c yA)]) (k.not_flat (lo+0))
      subst this;obtain rfl:len=0:=by simpa using c1.symm
      obtain⟨a,c,rfl,_,_,_⟩:=E;cases a with
      |none=>exact⟨[],.inl ⟨by
        obtain⟨b,n',cap,cur,size,ds,rfl,_⟩:=k;simp[gP]at q,rfl⟩,rfl,λj u c h=>by simp at h⟩
      |some a=>exact⟨[],.inr ⟨a,c,rfl,λj u h=>by simp at h⟩,rfl,λj u c h=>by simp at h⟩
     .simp only at f;subst f
      have:lo=0/\len=0:=by simp at c2;omega
      obtain⟨rfl,rfl⟩:=this;have I:es=[]:=aw y8;subst I;refine⟨[],?_,rfl,λj u c h=>by simp at h⟩;rcases x with rfl|⟨a,rfl⟩
      .exact .inl ⟨q,rfl⟩
      .exact .inr ⟨a.add 0,0,by rw[q];rfl,λj u h=>by simp at h⟩
     .refine⟨(cur.toList.drop lo).take len,.inr ⟨⟨F,lo,none⟩,n - lo,by rw[q];simp[gP,iv,c1],λj u r=>?_⟩,by simp only at q4 c2;simp;omega,λj u c s A=>?_⟩
      .rw[jR]at r;split at r
       .rw[iv,cell_of_row w _ _ cur _ (0,0) q2];simpa using r
       .cases r
      .rw[jR]at s;split at s
       .rename_i J;rw[z j J]at A;exact G (lo+j) u c (by simpa using s) A
       .cases s
   .cases d
  .cases d
 .split at d
  .rename_i ds K;split at d
   .rename_i hc;cases d;obtain⟨news,L⟩:=DR (P:=P) (size:=1) y h K (vW hc);exact⟨news,M2 L hc⟩
   .cases d
  .cases d
theorem Ia.one{N:Nat}{v:fu}{es:List PV}{news:List Value}(h:Ia g N w v es news)(hc:es.all PV.cell=true):∀u∈news,u.oneCell'=true:=λu d=>by
 obtain⟨j,c⟩:=aL d;have hl:j<es.length:=by rw[<-h.len];exact(ae.1 c).1
 exact kA (h.rep j u _ c (jC hl)) (an.1 hc _ (zC hl))
theorem ux{e size tt gg len cap:Nat}{x s:ft}{ts:fq}(y:o.op=.call {callee:=.builtin .append,args:=#[s,x],argTypes:=#[ts,ts]})(j:fA P ts=some e)(z:fJ P e=some size)(k:ρ s=.ms tt gg 0 len cap)(l:iR H (ρ x)=some [])(u:Qm P g B0 H.length H w)(hi:Inv B0 w0 S0 g w)(f:∀x,fC g H.length w (a.eval x) (ρ x)):
  ∃v g' w',fQ P o a w v w'/\Good P B0 w0 S0 H g w (.ms tt gg 0 len cap) H v g' w':=by
 obtain⟨news,n⟩:=sf (P:=P) u (f x) l rfl;have d:=f s;rw[k]at d;generalize p:a.eval s=vs at d
 have q:∀v w',(Builtin.append_ #[ts,ts] o.type #[vs,a.eval x]).run P w=.ok v w'->fQ P o a w v w':=λv w' A=>by
  left;simp[execOp,y,resolve,invoke,builtin,p,A]
 obtain⟨ad,c,r⟩:∃ad c,a.eval x=.slice ad 0 c:=by
  rcases n.shape with⟨h,_⟩|⟨ad,c,h,_⟩
  .exact⟨none,0,h⟩
  .exact⟨some ad,c,h⟩
 refine⟨vs,g,w,?_,.same u hi d⟩;cases d with
 |ms _ _ _ _ _ v v0 m k1 k2 k3 E B=>
  obtain⟨t,C,rfl,F,D,G⟩:=B;refine q _ _ ?_;rw[r];exact me j z t ad _ C c D
theorem sH{e bytes tt gg lo len cap:Nat}{x s:ft}{ts:fq}{es:List PV}(ho:o.op=.call {callee:=.builtin .append,args:=#[s,x],argTypes:=#[ts,ts]})(J:fA P ts=some e)(T:fJ P e=some 1)(hb:bytesOf P e=some bytes)(hz:(fL P e).map fy.num=some 1)(h0b:0<bytes)(hsv:ρ s=.ms tt gg lo len cap)(hxv:iR H (ρ x)=some es)(f:ku H e bytes tt gg lo len cap es=some (p,H'))(V:Qm P g B0 H.length H w)(hi:Inv B0 w0 S0 g w)(hρ:∀x,fC g H.length w (a.eval x) (ρ x)):
  ∃v g' w',fQ P o a w v w'/\Good P B0 w0 S0 H g w p H' v g' w':=by
 simp only[j5]at hz;obtain⟨z,hz,hzn⟩:=hz;obtain⟨ie,W,i1,i2,i3,_⟩:=gE hz;have r:ie.size=1:=by simp only[fJ,i1,jN,j9]at T;exact T
 have hby:ie.bytes=bytes:=by simp only[bytesOf,i1,jN,j9]at hb;exact hb
 have hzs:W.cells.size=1:=by rw[(i3 w g.S).cells.1,<-fy.num_eq,hzn]
 have F:es.all PV.cell=true:=by
  unfold ku at f;split at f
  .rename_i hc;exact hc.1
  .cases f
 have k:=qW F;obtain⟨news,A⟩:=sf (P:=P) V (hρ x) hxv F;have l:=hρ s;rw[hsv]at l;generalize hvs:a.eval s=vs at l
 have K:∀v w',(Builtin.append_ #[ts,ts] o.type #[vs,a.eval x]).run P w=.ok v w'->fQ P o a w v w':=λv w' G=>by
  left;simp[execOp,ho,resolve,invoke,builtin,hvs,G]
 unfold ku at f;split at f
 case isFalse=>cases f
 rename_i hc;obtain⟨hcell,rfl⟩:=hc;have X:=A.one hcell;split at f
 ·-- nothing is appended
  rename_i L
  have:es=[]:=by simpa using L
  subst this;cases f
  obtain⟨ad,c,C⟩:∃ad c,a.eval x=.slice ad 0 c:=by
   rcases A.shape with⟨h,_⟩|⟨ad,c,h,_⟩
   .exact⟨none,0,h⟩
   .exact⟨some ad,c,h⟩
  refine⟨vs,g,w,?_,.same V hi l⟩;cases l with
  |ms _ _ _ _ _ v v0 m k1 k2 k3 k4 k5=>
   obtain⟨ad',c',rfl,k6,k7,k8⟩:=k5;refine K _ _ ?_;rw[C];exact me J T ad' ad _ c' c k7
 rename_i L;have hpos:0<es.length:=by cases es with|nil=>simp at L|cons=>simp
 obtain⟨ad,c,C,n⟩:∃ad c,a.eval x=.slice (some ad) es.length c/\∀(j:Nat) u,news[j]?=some u->w.cell? (ad.add j)=some u:=by
  rcases A.shape with⟨_,h⟩|⟨ad,c,h,h'⟩
  .subst h;exact absurd hpos yA
  .exact⟨ad,c,h,h'⟩
 have t:=A.len;split at f
 case h_2=>cases f
 rename_i B g' cs hm;split at f
 case isFalse=>cases f
 rename_i hc;obtain⟨rfl,rfl⟩:=hc;have D:=Zb hm;simp only at D;cases l with
 |ms _ _ _ _ _ v v0 m k1 k2 k3 k4 k5=>
  obtain⟨v1,j1,j2⟩:=V.mt tt _ _ _ D;have y:=k2;rw[k2]at j1;simp only[j9,jI]at j1;obtain⟨rfl,rfl⟩:=j1;obtain⟨hv,hbase⟩:=k4 rfl;split at f
  ·-- within the list
   rename_i Y;cases f;rcases j2 with⟨M,_⟩|⟨b,l',d,cur,rfl,q0,q1,q2,q3,q4,q5,q6,q7,q8⟩|N
   rotate_right
   .exact absurd T N.size_ne
   .simp only[M,jL]at Y;omega
   .have q3':=q3;have q4':=q4;have q6':=q6;obtain⟨q3,q4,q6⟩:=E9 q3 T q4;have E:vs=.slice (some ⟨b,0,none⟩) len d:=by rw[hv];simp[gP,Addr.add]
    have G:=run_append_room (P:=P) w ts o.type B ie (QM J) i1 b len d cur q2 ad es.length c news (by rw[r,aK];exact t) n X y8 (by rw[r];omega);rw[r,aK]at G
    have O:=CP (P:=P) (S0:=S0) (w0:=w0) (lo:=len) D y rfl q0 q1 q2 q3' q4' q5 q6' q7 q8 t k Y A.rep V hi
     (v:=.slice (some ⟨b,0,none⟩) (len+es.length) d) (p:=.ms tt m 0 (len+es.length) (max cap (len+es.length))) (.ms _ _ _ _ _ _ _ m k1 y (j7 _) (λ_=>⟨by simp[gP,Addr.add],hbase⟩) ⟨_,d,rfl,by
      obtain⟨a',c',e1,e2,_⟩:=k5;rw[E]at e1;cases e1;omega,by omega,λ_=>rfl⟩)
    exact⟨_,g,_,K _ _ (by rw[C,E];exact G),O⟩
  .rename_i hnfit;split at f
   case isFalse=>cases f
   rename_i hc;obtain⟨rfl,q⟩:=hc;cases f;have hlb:cs.length+es.length<=gO:=jW (aD _ h0b) q;have I:cs.length+es.length<=maxLen:=by simp only[gO]at hlb;simp only[maxLen];omega
   have U:((cs.length+es.length:Nat):Int)<=9223372036854775807:=by simp only[gO]at hlb;omega
   rcases j2 with⟨M,hv0⟩|⟨b,l',d,cur,rfl,q0,q1,q2,q3,q4,q5,q6,q7,q8⟩|N
   rotate_right
   .exact absurd T N.size_ne
   .subst M;simp only[jL,zY]at q hlb I U hv |-;rcases hv0 with rfl|⟨a0,rfl⟩
    .have G:=run_append_nil (P:=P) w ts o.type B ie W (QM J) i1 i2 ad es.length c news (by rw[r,aK];exact t) n hpos U (by rw[hby];simp only[gO]at q;omega);have Q:=grownCap_ge w es.length 0 B;have R:=grownCap_le_maxLen w es.length 0 B I
     obtain⟨g',O⟩:=zo (P:=P) (S0:=S0) (w0:=w0) (olds:=[]) (zs:=Builtin.zeroCells W.cells (grownCap w es.length 0 B - es.length)) (cap:=grownCap w es.length 0 B) D y T (by simpa using Q) rfl k R hpos rfl t
      (by simp[size_zeroCells,hzs]) (λj u c h=>by simp at h) A.rep V hi (news.toArray++Builtin.zeroCells W.cells (grownCap w es.length 0 B - es.length)) yA
     simp only[jL,zY]at O;exact⟨_,g',_,K _ _ (by rw[C,hv];exact G),O⟩
    .have E:vs=.slice (some (a0.add 0)) 0 0:=by rw[hv];simp[gP]
     have G:=run_append_grow (P:=P) w ts o.type B ie W (QM J) i1 i2 (a0.add 0) 0 0 [] yA (λj v h=>by simp at h) ad es.length c news (by rw[r,aK];exact t) n y8 (by simpa using U) (growslice_fits y8 (by rw[hby];simpa[gO]using q));have Q:=grownCap_ge w (0+es.length) 0 B;have R:=grownCap_le_maxLen w (0+es.length) 0 B (by simpa using I)
     obtain⟨g',O⟩:=zo (P:=P) (S0:=S0) (w0:=w0) (olds:=[]) (zs:=Builtin.zeroCells W.cells (grownCap w (0+es.length) 0 B - (0+es.length))) (cap:=grownCap w (0+es.length) 0 B) D y T (by simpa using Q) rfl k R hpos rfl t
      (by simp[size_zeroCells,hzs]) (λj u c h=>by simp at h) A.rep V hi _ rfl
     simp only[jL,zY]at O G;exact⟨_,g',_,K _ _ (by rw[C,E];exact G),O⟩
   .obtain⟨q3,q4,q6⟩:=E9 q3 T q4;have E:vs=.slice (some ⟨b,0,none⟩) cs.length d:=by rw[hv];simp[gP,Addr.add]
    by_cases Z:cs.length+es.length<=d
    .have G:=run_append_room (P:=P) w ts o.type B ie (QM J) i1 b cs.length d cur q2 ad es.length c news (by rw[r,aK];exact t) n X Z (by rw[r];omega);rw[r,aK]at G;obtain⟨g',O⟩:=Mj (P:=P) (S0:=S0) (w0:=w0) D y rfl q0 q1 q2 q3 q4.2 q5 q6 q7 q8 t k Z A.rep V hi;exact⟨_,g',_,K _ _ (by rw[C,E];exact G),O⟩
    .have holds:∀(j:Nat) v,(cur.toList.take cs.length)[j]?=some v->w.cell? ((⟨b,0,none⟩:Addr).add j)=some v:=λj v h=>by
      rw[jR]at h;split at h
      .rw[iv,cell_of_row w _ _ cur _ (0,0) q2];simpa using h
      .cases h
     have G:=run_append_grow (P:=P) w ts o.type B ie W (QM J) i1 i2 ⟨b,0,none⟩ cs.length d (cur.toList.take cs.length) (by rw[r];simp;omega) holds ad es.length c news (by rw[r,aK];exact t) n y8 U (growslice_fits y8 (by rw[hby];exact q));have Q:=grownCap_ge w (cs.length+es.length) d B;have R:=grownCap_le_maxLen w (cs.length+es.length) d B I
     obtain⟨g',O⟩:=zo (P:=P) (S0:=S0) (w0:=w0) (olds:=cur.toList.take cs.length) (zs:=Builtin.zeroCells W.cells (grownCap w (cs.length+es.length) d B - (cs.length+es.length))) (cap:=grownCap w (cs.length+es.length) d B) D y T Q q4.2 k R hpos y9 t
      (by simp[size_zeroCells,hzs]) (λj u c g1 g2=>by
       rw[jR]at g1;split at g1
       .exact q8 j u c (by simpa using g1) g2
       .cases g1) A.rep V hi _ rfl
     exact⟨_,g',_,K _ _ (by rw[C,E];exact G),O⟩
theorem xu{e bytes i off:Nat}{x s:ft}{ts:fq}{es:List fy}(I:o.op=.call {callee:=.builtin .append,args:=#[s,x],argTypes:=#[ts,ts]})(D:fA P ts=some e)(J:fJ P e=some 1)(K:bytesOf P e=some bytes)(l:(fL P e).map fy.num=some 1)(E:0<bytes)(m:ρ s=.arr i off 0 0)(n:ρ x=.dat (.lst es))(f:wi H e bytes es=some (p,H'))(L:Qm P g B0 H.length H w)(hi:Inv B0 w0 S0 g w)(u:∀x,fC g H.length w (a.eval x) (ρ x)):
  ∃v g' w',fQ P o a w v w'/\Good P B0 w0 S0 H g w p H' v g' w':=by
 unfold wi at f;split at f
 case isFalse=>cases f
 rename_i hc;obtain⟨c,q⟩:=hc;have r:=u s;rw[m]at r;generalize F:a.eval s=vs at r;cases r with
 |arr _ _ _ _ M N=>
  obtain⟨O,k⟩:=qD (P:=P) (S0:=S0) (w0:=w0) L hi e (some ⟨g.blk i,off,none⟩);have Q:∀z,z=s->ρ z=.arr i off 0 0:=λz l=>by rw[l];exact m
  have G:¬x=s:=λh=>by rw[h,m]at n;cases n
  classical
  let j:ft->PV:=λz=>if z=s then .ms H.length 0 0 0 0 else ρ z
  have y:∀z,fC O (H++[fB.mt e 0 []]).length w (a.eval z) (j z):=λz=>by
   show fC _ _ _ _ (if z=s then PV.ms H.length 0 0 0 0 else ρ z)
   by_cases l:z=s
   .rw[ai l,l,F];exact k.rep
   .rw[af l];exact(u z).ext k.ext k.len
  have R:j s=.ms H.length 0 0 0 0:=ai rfl;have S:j x=.dat (.lst es):=(af G).trans n
  have A:(es.map PV.dat).all PV.cell=true:=by
   rw[aR];rw[j8]at c |-;intro d T;have:=c d T;cases d<;>simp_all [PV.cell,fy.isCell]
  have B:iR (H++[fB.mt e 0 []]) (j x)=some (es.map .dat):=by
   rw[S];simp[iR,iE,fR,iu,c]
  have hm:mtOf (H++[fB.mt e 0 []]) H.length=some (e,0,[]):=by simp[mtOf,fB.mtOf]
  have C:ku (H++[fB.mt e 0 []]) e bytes H.length 0 0 0 0 (es.map .dat)=some (p,H'):=by
   unfold ku;rw[ai ⟨A,rfl⟩];cases es with
   |nil=>simpa using f
   |cons d es=>
    simp only[zU,List.isEmpty_cons,j6,aj]at f |-;rw[hm];simp only[and_self,ak];rw[af yA,ai ⟨rfl,by simpa using q⟩];simp only[jQ];rw[<-f];simp
  obtain⟨v,U,V,W,t⟩:=sH (ρ:=j) I D J K l E R B C k.heap k.inv y;exact⟨v,U,V,W,⟨k.ext.trans t.ext k.len,jW k.len t.len,t.rep,t.heap,t.inv,k.fr.trans t.fr⟩⟩
theorem Ch{e C tt gg lo len cap:Nat}{x:ft}{ts:fq}{cs:List PV}{z:fy}(N:o.op=.call {callee:=.builtin .clear,args:=#[x],argTypes:=#[ts]})(D:fA P ts=some e)(O:fJ P e=some 1)(Q:fL P e=some z)(l:z.isCell=true)(E:ρ x=.ms tt gg lo len cap)(hm:mtOf H tt=some (C,gg,cs))(R:C=e)(hpos:0<len)(d:lo+len<=cs.length)(M:Qm P g B0 H.length H w)(hi:Inv B0 w0 S0 g w)(F:∀x,fC g H.length w (a.eval x) (ρ x)):
  ∃v g' w',fQ P o a w v w'/\Good P B0 w0 S0 H g w (.tup []) (H.set tt (.mt e gg (cs.take lo++List.replicate len (.dat z)++cs.drop (lo+(List.replicate len (PV.dat z)).length)))) v g' w':=by
 subst R;have n:=Zb hm;simp only at n;obtain⟨ie,r,T,U,V,_⟩:=gE Q;have q:fC g H.length w r (.dat z):=.dat _ _ (V w g.S);have f:(PV.dat z).cell=true:=by cases z<;>first|rfl|(simp[fy.isCell]at l)
 obtain⟨W,y2⟩:=vt q f;have s:=kA q f;have G:=F x;rw[E]at G;generalize I:a.eval x=vs at G;cases G with
 |ms _ _ _ _ _ v v0 m k1 k2 k3 X k5=>
  obtain⟨v1,J,Y⟩:=M.mt tt _ _ _ n;have t:=k2;rw[k2]at J;simp only[j9,jI]at J;obtain⟨rfl,rfl⟩:=J;obtain⟨Z,K⟩:=X rfl;rcases Y with⟨y,_⟩|⟨b,l',A,cur,rfl,q0,q1,q2,q3,q4,q5,q6,q7,q8⟩|B
  rotate_right
  .exact absurd O B.size_ne
  .rw[y]at d;simp at d;omega
  .have L:vs=.slice (some ⟨b,lo,none⟩) len (A - lo):=by rw[Z];simp[gP,iv]
   have l:(Builtin.zeroCells r.cells len).toList=List.replicate len r:=by
    rw[W];simp[Builtin.zeroCells];apply bW
    .simp
    .intro i h1 h2;simp[dE]
   have hst:=run_storeCells_at P b lo C (List.replicate len r) 0 cur w q2 y9 (λu hu=>by rw[aH hu];exact s);simp only[zX]at hst
   have hg:=CP (P:=P) (S0:=S0) (w0:=w0) (lo:=lo) (es:=List.replicate len (.dat z)) (news:=List.replicate len r) n t rfl q0 q1 q2 q3 q4 q5 q6 q7 q8 yA (by rw[j8];intro x hx;rw[aH hx];exact lq f) (by simpa using d)
    (λj u c g1 g2=>by
     rw[aH (jF g1),aH (jF g2)];exact q) M hi (v:=.tuple #[]) (p:=.tup []) (.tup _ _ rfl (λj v c h=>by simp at h))
   refine⟨_,g,_,.inl ?_,hg⟩;obtain⟨k,rfl⟩:∃k,len=k+1:=⟨len - 1,by omega⟩;simp[execOp,N,resolve,invoke,builtin,I,L,Builtin.clear_,run_underlying (QM D),zeroValue,typeInfo,T,U,l,hst]
theorem Aq{x:ft}{ts:fq}(l:o.op=.call {callee:=.builtin .clear,args:=#[x],argTypes:=#[ts]})(d:(fA P ts).isSome)(f:ρ x=.dat (.lst []))(m:Qm P g B0 H.length H w)(hi:Inv B0 w0 S0 g w)(k:∀x,fC g H.length w (a.eval x) (ρ x)):
  ∃v g' w',fQ P o a w v w'/\Good P B0 w0 S0 H g w (.tup []) H v g' w':=by
 obtain⟨e,d⟩:=aA.1 d;obtain⟨ad,cap,p⟩:=xZ (n:=0) (k x) (by rw[f];rfl);refine⟨.tuple #[],g,w,.inl ?_,.same m hi (.tup _ _ rfl (λj v c h=>by simp at h))⟩;cases ad<;>simp[execOp,l,resolve,invoke,builtin,p,Builtin.clear_,run_underlying (QM d)]
end
end Go.Pm
