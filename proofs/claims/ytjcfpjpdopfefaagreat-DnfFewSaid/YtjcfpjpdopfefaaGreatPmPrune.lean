/-
 The pure machine: soundness of what a loop's head forgets.
-/
import Derived.Test.YtjcfpjpdopfefaaGreatPmRun
namespace Go.Pm
open Go Go.RowKit
set_option linter.all false
section
variable{P:fm}{B0:Nat}{w0:fk}{S0:Nat->Nat->Prop}{Nb:Nat}{F:Fence}{m:Nat}{pf:fo->Bool}{hint:fo->Hint}{call:gk}{h:Hint}
theorem zc{H:List fB}{p:PV}{d:fy}(h:fR H p=some d)(c:p.isArr=true):∃l,d=.lst l:=by
 cases p with
 |arr i o len cap=>
  simp only[fR]at h;split at h
  .rw[j5]at h;obtain⟨ds,_,rfl⟩:=h;exact⟨_,rfl⟩
  .cases h
 |ms t g lo len cap=>
  simp only[fR]at h;split at h
  .split at h
   .rw[jK]at h;obtain⟨ds,_,h⟩:=h;split at h
    .cases h;exact⟨_,rfl⟩
    .cases h
   .cases h
  .cases h
 |_=>simp[PV.isArr]at c
theorem CC{fl:Bool}{H:List fB}{h0:Nat}{c:PV}(h:c.flat=true):(jt fl H h0 c).flat=true:=by
 cases c with
 |dat d=>exact h
 |vec t es=>simp only[jt];split <;>rfl
 |arr i o len cap=>
  simp only[jt];split
  .rfl
  .split
   .rename_i d e;obtain⟨l,rfl⟩:=zc e rfl;rfl
   .rfl
 |ms t g lo len cap=>
  simp only[jt];split
  .rfl
  .split
   .rename_i d e;obtain⟨l,rfl⟩:=zc e rfl;rfl
   .rfl
 |ptr|mp|mapv|fn=>simp only[jt];split <;>rfl
 |_=>rfl
theorem vS{fl:Bool}{g:Gh}{H:List fB}{h0:Nat}{w:fk}{v:fu}{p:PV}(k:Qm P g B0 H.length H w)(e:fC g H.length w v p):fC (g.drop H h0) h0 w v (vG fl H h0 p):=by
 unfold vG;split
 .rename_i cs;cases e with
  |agg vs cs f l=>
   refine fC.mkAgg (by simpa using f) λj v c m d=>?_
   simp only[jD,j5]at d;obtain⟨n,d,rfl⟩:=d;exact mI k (l j v n m d)
 .cases e with
  |tup vs cs f l=>exact .tup _ _ f λj v c m d=>by simp at d
 .exact mI k e
theorem xN{fl:Bool}(H:List fB)(h0:Nat)(ks:List Nat):∀(s:List PV) (i j:Nat),(qV fl H h0 ks i s)[j]?=(s[j]?).map λv=>if ks.contains (i+j)then vG fl H h0 v else .undef
 |[],i,j=>by simp[qV]
 |v::r,i,j=>by
  cases j with
  |zero=>simp[qV]
  |succ j=>simp only[qV,dZ];rw[xN H h0 ks r (i+1) j,show i+1+j=i+(j+1) by omega]
theorem su{fl:Bool}(H:List fB)(h0:Nat)(ks:List Nat):∀(s:List PV) (i:Nat),(qV fl H h0 ks i s).length=s.length
 |[],i=>rfl
 |v::r,i=>by simp[qV,su H h0 ks r (i+1)]
theorem wg{g:Gh}{st:St}{a:Act}{w:fk}{h0:Nat}(keep:Option (List Nat))(hst:kT P B0 w0 S0 h0 g st a w):∃g',Ext h0 g w g' w/\Fr g st.heap w g' (iU h0 keep st).heap w/\kT P B0 w0 S0 h0 g' (iU h0 keep st) a w:=by
 cases keep with
 |none=>exact⟨g,Ext.refl _ _ _,Fr.refl _ _ _,hst⟩
 |some ks=>
  have F:(st.heap.take h0).length=h0:=by simp[hst.base]
  have X:Ext st.heap.length g w (g.drop st.heap h0) w:=Ext.drop _ _ _
  suffices s:(∀i b,occ (g.drop st.heap h0) ((st.heap.take h0).map (fN (Ly ks) st.heap h0)) i=some b->i<h0/\occ g st.heap i=some b)/\kT P B0 w0 S0 h0 (g.drop st.heap h0) (iU h0 (some ks) st) a w from
   ⟨g.drop st.heap h0,Ext.drop _ _ _,Fr.old (j7 _) (λ_ _=>rfl) (λi b h _=>⟨i,(s.1 i b h).2⟩) (λb o h=>h.imp id λ⟨i,_,hi,_⟩=>.inr ⟨i,hi⟩),s.2⟩
  have k:∀i x,((st.heap.take h0).map (fN (Ly ks) st.heap h0))[i]?=some x->∃y,i<h0/\st.heap[i]?=some y/\x=fN (Ly ks) st.heap h0 y:=λi x I=>by
   simp only[jD,j5]at I;obtain⟨y,M,rfl⟩:=I;rw[jR]at M;split at M
   .exact⟨y,by assumption,M,rfl⟩
   .cases M
  have C:∀i b,occ (g.drop st.heap h0) ((st.heap.take h0).map (fN (Ly ks) st.heap h0)) i=some b->i<h0/\occ g st.heap i=some b:=λi b B=>by
   unfold occ at B;split at B
   .rename_i cs hi;obtain⟨y,r,m,f⟩:=k i _ hi;cases y with
    |hole=>simp[fN]at f
    |box q=>exact⟨r,by rw[gw m];exact B⟩
    |tok=>simp[fN]at f
    |mt=>simp[fN]at f
    |map=>simp[fN]at f
   .rename_i e n hi;obtain⟨y,r,m,f⟩:=k i _ hi;cases y with
    |hole=>simp[fN]at f
    |box q=>simp[fN]at f
    |tok e' n'=>exact⟨r,by rw[kh m];exact B⟩
    |mt=>simp[fN]at f
    |map=>simp[fN]at f
   .rename_i e n cs hi;obtain⟨y,r,m,f⟩:=k i _ hi;cases y with
    |hole=>simp[fN]at f
    |box q=>simp[fN]at f
    |tok e' n'=>simp[fN]at f
    |mt e' n' q=>exact⟨r,by rw[gJ m];exact B⟩
    |map=>simp[fN]at f
   .rename_i es hi;obtain⟨y,r,m,f⟩:=k i _ hi;cases y with
    |hole=>simp[fN]at f
    |box q=>simp[fN]at f
    |tok e' n'=>simp[fN]at f
    |mt e' n' q=>simp[fN]at f
    |map L=>exact⟨r,by rw[iY m];exact B⟩
   .cases B
   .cases B
  -- what was published now lies in blocks that were boxes from h0 on
  have z:∀i b o,i<h0->occ g st.heap i=some b->(g.drop st.heap h0).S b o->g.S b o:=λi b o hi B s=>by
   rcases s with s|⟨j,W,D,_⟩
   .exact s
   .have:=hst.heap.sep i j _ B D;omega
  refine⟨C,?_,?_,?_,by simp[iU];exact Nat.le_min.2 ⟨j7 _,hst.base⟩⟩
  .simp only[iU,jY,F];refine⟨λi cs hi=>?_,λi e n hi=>?_,λi e n cs hi=>?_,λi es hi=>?_,λi e cs hi=>?_,λi x hi=>?_,λi j b r m=>hst.heap.sep i j b (C i b r).2 (C j b m).2⟩
   .obtain⟨y,r,m,f⟩:=k i _ hi;cases y with
    |hole=>simp[fN]at f
    |tok=>simp[fN]at f
    |mt=>simp[fN]at f
    |map=>simp[fN]at f
    |box q=>
     simp only[fN,fB.box.injEq]at f;subst f;obtain⟨b1,⟨vals,Y,b2,O,N⟩,Q⟩:=hst.heap.box i q m;refine⟨b1,⟨vals,Y,b2,by simpa using O,λj v c H A=>?_⟩,λo E=>Q o (z i _ o r (gw m) E)⟩;simp only[jD,j5]at A;obtain⟨J,A,rfl⟩:=A;exact mI hst.heap (N j v J H A)
   .obtain⟨y,r,m,f⟩:=k i _ hi;cases y with
    |hole=>simp[fN]at f
    |box q=>simp[fN]at f
    |tok e' n'=>
     simp only[fN,fB.tok.injEq]at f;obtain⟨rfl,rfl⟩:=f;obtain⟨v0,K,R⟩:=hst.heap.tok i _ _ m;exact⟨v0,K,R.keep (λ_ _=>rfl) (λb B o E=>z i b o r (by rw[kh m,K];exact B) E)⟩
    |mt=>simp[fN]at f
    |map=>simp[fN]at f
   .obtain⟨y,r,m,f⟩:=k i _ hi;cases y with
    |hole=>simp[fN]at f
    |box q=>simp[fN]at f
    |tok e' n'=>simp[fN]at f
    |map=>simp[fN]at f
    |mt e' n' q=>
     simp only[fN,fB.mt.injEq]at f;obtain⟨rfl,rfl,rfl⟩:=f;obtain⟨v0,K,R⟩:=hst.heap.mt i _ _ _ m;refine⟨v0,K,?_⟩;rcases R with⟨rfl,hn⟩|⟨b,l,cap,cur,rfl,q0,q1,q2,q3,q4,q5,q6,q7,T⟩|⟨b,l,cap,cur,size,Z,rfl,q0,q1,q2,q3,U,rfl,q4,V,q5,q6,q7,T⟩
     .exact .inl ⟨rfl,hn⟩
     .refine .inr (.inl ⟨b,l,cap,cur,rfl,q0,q1,q2,q3,⟨by simpa using q4.1,by
       rw[aR,j8];exact λx I=>CC (an.1 q4.2 x I)⟩,q5,q6,λo E=>q7 o (z i b o r (by rw[gJ m,K];simp[fG];omega) E),λj v c H A=>?_⟩)
      simp only[jD,j5]at A;obtain⟨J,A,rfl⟩:=A;exact mI hst.heap (T j v J H A)
     .refine .inr (.inr ⟨b,l,cap,cur,size,Z,rfl,q0,q1,q2,q3,U,?_,q4,V,q5,q6,λo E=>q7 o (z i b o r (by rw[gJ m,K];simp[fG];omega) E),λi' j d u v a1 a2 a3=>(T i' j d u v a1 a2 a3).ext X⟩);rw[zF];rfl
   .obtain⟨y,r,m,f⟩:=k i _ hi;cases y with
    |hole=>simp[fN]at f
    |box q=>simp[fN]at f
    |tok e' n'=>simp[fN]at f
    |mt=>simp[fN]at f
    |map L=>
     simp only[fN,fB.map.injEq]at f;subst f;obtain⟨b1,⟨arr,clock,b2,O,N⟩,Q⟩:=hst.heap.map i L m;refine⟨b1,⟨arr,clock,b2,by simpa using O,λj v c H A=>?_⟩,λo E=>Q o (z i _ o r (iY m) E)⟩;simp only[jD,j5]at A;obtain⟨J,A,rfl⟩:=A;exact⟨(N j v J H A).1,vS hst.heap (N j v J H A).2⟩
   .obtain⟨y,r,m,f⟩:=k i _ hi;cases y with
    |hole=>simp[fN]at f
    |box q=>simp[fN]at f
    |tok e' n'=>simp[fN]at f
    |map=>simp[fN]at f
    |mt e' n' q=>
     simp only[fN,fB.mt.injEq]at f;obtain⟨rfl,rfl,rfl⟩:=f;exact hst.heap.mt0 i _ _ m
   .obtain⟨y,r,m,rfl⟩:=k i _ hi;refine⟨λhp=>(hst.heap.live i y m).1 (by cases y<;>first|trivial|exact hp),λI=>(hst.heap.live i y m).2 (by cases y<;>simp[fN]at I |-)⟩
  .refine⟨hst.inv.below,hst.inv.size,λb o s=>?_,λb o s=>?_⟩
   .rcases s with s|⟨j,W,D,_⟩
    .exact hst.inv.old b o s
    .exact .inr (hst.heap.occ_lt D).1
   .rcases s with s|⟨j,W,D,_⟩
    .exact hst.inv.lt b o s
    .exact(hst.heap.occ_lt D).2.1
  .simp only[iU,jY,F];refine⟨by rw[su];exact hst.rep.1,λt=>?_,hst.rep.glob.ofS λ_ _ h=>.inl h⟩;have G:=hst.rep.2 t;rw[jB,xN,zY];rw[jB]at G;cases s:st.slots[t]? with
   |none=>
    rw[s]at G;simp only[du,Option.getD_none]at G |-;generalize a.tmps.getD t undef=v at G |-;cases G with
    |tup vs cs r m=>exact .tup _ _ r λj v c H A=>by simp at A
   |some p=>
    rw[s]at G;simp only[jN,aE]at G |-;split
    .exact vS hst.heap G
    .exact .undef _
def xA:Ex->Exit
 | .normal=>.normal
 | .exit id=>.exit id
 | .ret=>.ret
end
end Go.Pm
