/-
 The pure machine: a call that sees the first blocks of the heap alone; what it leaves behind them is forgotten.
-/
import Derived.Test.YtjcfpjpdopfefaaGreatPmLend
import Derived.LoopNIn
import Derived.TacticsIn
namespace Go.Pm
open Go Go.RowKit
set_option linter.all false
variable{P:fm}{B0:Nat}{w0:fk}{S0:Nat->Nat->Prop}{pf:fo->Bool}{call:gk}
theorem Bl:∀{v w:fu},Gl v w=true->v=w:=by
 intro v w h;unfold Gl at h;split at h
 .simp only[jE,zD,bo]at h;rw[h.1,h.2]
 .simp only[bo]at h;rw[h]
 .rename_i a b;have h:=eq_of_beq h;cases a;cases b;simp only at h;rw[h]
 .rfl
 .rfl
 .rfl
 .rfl
 .simp only[jE,zD,dd]at h;obtain⟨⟨rfl,c,d⟩,f,g⟩:=h;have e:∀{a:Array Value},a.toList=[]->a=#[]:=λ{a} h=>by cases a;simp_all
  rw[e c,e d,e f,e g]
 .cases h
mutual
theorem BM:∀{d e:fy},pv d e=true->d=e
 | .raw v,.raw w,h=>by rw[pv]at h;rw[Bl h]
 | .lst es,.lst fs,h=>by rw[pv]at h;rw[ou h]
 | .agg es,.agg fs,h=>by rw[pv]at h;rw[ou h]
 | .raw _,.lst _,h=>by simp[pv]at h
 | .raw _,.agg _,h=>by simp[pv]at h
 | .lst _,.raw _,h=>by simp[pv]at h
 | .lst _,.agg _,h=>by simp[pv]at h
 | .agg _,.raw _,h=>by simp[pv]at h
 | .agg _,.lst _,h=>by simp[pv]at h
theorem ou:∀{l m:List fy},oO l m=true->l=m
 |[],[],_=>rfl
 |a::l,b::m,h=>by
  rw[oO,jE]at h;rw[BM h.1,ou h.2]
 |[],_::_,h=>by simp[oO]at h
 |_::_,[],h=>by simp[oO]at h
end
mutual
theorem Ck:∀{p q:PV},lJ p q=true->p=q
 | .dat d,q,h=>by
  cases q<;>simp only[lJ,reduceCtorEq]at h
  rw[BM h]
 | .agg l,q,h=>by
  cases q<;>simp only[lJ,reduceCtorEq]at h
  rw[mu h]
 | .tup l,q,h=>by
  cases q<;>simp only[lJ,reduceCtorEq]at h
  rw[mu h]
 | .vec t es,q,h=>by
  cases q<;>simp only[lJ,reduceCtorEq,jE,zD]at h
  rw[h.1,ou h.2]
 | .ptr i o,q,h=>by
  cases q<;>simp only[lJ,reduceCtorEq,jE,zD]at h
  rw[h.1,h.2]
 | .iptr cs,q,h=>by
  cases q<;>simp only[lJ,reduceCtorEq]at h
  rw[ou h]
 | .arr i o l c,q,h=>by
  cases q<;>simp only[lJ,reduceCtorEq,jE,zD]at h
  rw[h.1.1,h.1.2,h.2.1,h.2.2]
 | .fn f l,q,h=>by
  cases q<;>simp only[lJ,reduceCtorEq,jE,zD]at h
  rw[h.1,mu h.2]
 | .ms t g o l c,q,h=>by
  cases q<;>simp only[lJ,reduceCtorEq,jE,zD]at h
  rw[h.1.1,h.1.2,h.2.1,h.2.2.1,h.2.2.2]
 | .mp t g j,q,h=>by
  cases q<;>simp only[lJ,reduceCtorEq,jE,zD]at h
  rw[h.1,h.2.1,h.2.2]
 | .mapv i,q,h=>by
  cases q<;>simp only[lJ,reduceCtorEq,zD]at h
  rw[h]
 | .empv b,q,h=>by
  cases q<;>simp only[lJ,reduceCtorEq,bo]at h
  rw[h]
 | .undef,q,h=>by
  cases q<;>simp only[lJ,reduceCtorEq]at h
  rfl
theorem mu:∀{l m:List PV},nH l m=true->l=m
 |[],[],_=>rfl
 |a::l,b::m,h=>by
  rw[nH,jE]at h;rw[Ck h.1,mu h.2]
 |[],_::_,h=>by simp[nH]at h
 |_::_,[],h=>by simp[nH]at h
end
theorem Dj:∀{l m:List (Value×PV)},yQ l m=true->l=m
 |[],[],_=>rfl
 |a::l,b::m,h=>by
  rw[yQ,jE,jE]at h;rw[Dj h.2,Prod.ext (Bl h.1.1) (Ck h.1.2)]
 |[],_::_,h=>by simp[yQ]at h
 |_::_,[],h=>by simp[yQ]at h
theorem H4{a b:fB}(h:Kz a b=true):a=b:=by
 unfold Kz at h;split at h
 .rw[Dj h]
 .rw[mu h]
 .simp only[jE,zD]at h;rw[h.1,h.2]
 .simp only[jE,zD]at h;rw[h.1.1,h.1.2,mu h.2]
 .cases h
theorem r6:∀{l m:List fB},wm l m=true->l=m
 |[],[],_=>rfl
 |a::l,b::m,h=>by
  rw[wm,jE]at h;rw[H4 h.1,r6 h.2]
 |[],_::_,h=>by simp[wm]at h
 |_::_,[],h=>by simp[wm]at h
def iX(P:fm)(pf:fo->Bool)(call:gk):Prop:=
 ∀f args H p H',call f args H=some (p,H')->(∃fn c,P.funcs[f]?=some fn/\fn.body=some c/\(fn.name== "runtime.NumGoroutine")=false)/\
  (pf f=true->H'=H/\(∃ds,gp H args=some ds)/\∀H2,gp H2 args=gp H args->call f args H2=some (p,H2))/\
  ∀(B0:Nat) (w0:fk) (S0:Nat->Nat->Prop) (g:Gh) (w:fk) (vals:Array Value),vals.size=args.length->(∀(j:Nat) v q,vals[j]?=some v->args[j]?=some q->fC g H.length w v q)->
   Qm P g B0 H.length H w->Inv B0 w0 S0 g w->ij g w->Calls P f vals w λe w'=>∃v g',e=.returned v/\Good P B0 w0 S0 H g w p H' v g' w'
theorem kB{n:Nat}:∀{cs:List PV} {j:Nat} {c:PV},ly n cs=true->cs[j]?=some c->c.under n=true
 |c::cs,0,d,h,e=>by
  simp only[ly,jE]at h;cases e;exact h.1
 |c::cs,j+1,d,h,e=>by
  simp only[ly,jE]at h;exact kB h.2 (by simpa using e)
structure po (n:Nat) (g g':Gh):Prop where
 S:g'.S=g.S
 blk:∀i,i<n->g'.blk i=g.blk i
 live:∀i,i<n->(g'.live i↔g.live i)
 own:∀i,i<n->g'.own i=g.own i
theorem po.refl(n:Nat)(g:Gh):po n g g:=⟨rfl,λ_ _=>rfl,λ_ _=>Iff.rfl,λ_ _=>rfl⟩
theorem fC.turn{g g':Gh}{N N' n:Nat}{w:fk}(h:po n g g')(r:n<=N'){v:fu}{q:PV}(B:fC g N w v q):q.under n=true->fC g' N' w v q:=by
 induction B with
 |dat v d C=>intro _;exact .dat v d (h.S ▸ C)
 |agg vs cs l _ s=>intro e;exact .agg vs cs l λj v c x p=>s j v c x p (kB e p)
 |tup vs cs l _ s=>intro e;exact .tup vs cs l λj v c x p=>s j v c x p (kB e p)
 |vec v t es v0 k l m y z A=>
  intro e;have e:t<n:=by simpa[PV.under]using e
  exact .vec v t es v0 k (jP e r) (h.S ▸ m) (by rw[h.own t e];exact y) z A
 |ptr i o hi=>
  intro e;have e:i<n:=by simpa[PV.under]using e
  rw[<-h.blk i e];exact .ptr i o ⟨jP e r,(h.live i e).2 hi.2⟩
 |iptr b o cs c l m=>intro _;exact .iptr b o cs c (λi hi=>by rw[h.S];exact l i hi) (λi u D=>by rw[h.S];exact m i u D)
 |arr i o len cap hi hc=>
  intro e;have e:i<n:=by simpa[PV.under]using e
  rw[<-h.blk i e];exact .arr i o len cap ⟨jP e r,(h.live i e).2 hi.2⟩ hc
 |fn f vs cs l _ s=>intro e;exact .fn f vs cs l λj v c x p=>s j v c x p (kB e p)
 |ms t gg lo len cp v v0 k l m y z A=>
  intro e;have e:t<n:=by simpa[PV.under]using e
  exact .ms t gg lo len cp v v0 k (jP e r) (by rw[h.own t e];exact m) y z A
 |mp t gg j v v0 k l m y z A=>
  intro e;have e:t<n:=by simpa[PV.under]using e
  exact .mp t gg j v v0 k (jP e r) (by rw[h.own t e];exact m) y z A
 |mapv i hi=>
  intro e;have e:i<n:=by simpa[PV.under]using e
  rw[<-h.blk i e];exact .mapv i ⟨jP e r,(h.live i e).2 hi.2⟩
 |empv b v l m=>intro _;exact .empv b v l m
 |undef v=>intro _;exact .undef v
theorem nT{H:List fB}{n i:Nat}{x:fB}(h:(H.take n)[i]?=some x):i<n/\H[i]?=some x:=by
 rw[jR]at h;split at h
 .exact⟨‹_›,h⟩
 .cases h
theorem Kj{g:Gh}{H:List fB}{n i:Nat}(h:i<n):occ g (H.take n) i=occ g H i:=by
 unfold occ;rw[jR,ai h]
theorem kY{g:Gh}{H:List fB}{n i b:Nat}(h:occ g (H.take n) i=some b):i<n/\occ g H i=some b:=by
 have hi:i<n:=by
  unfold occ at h;rw[jR]at h;by_cases q:i<n
  .exact q
  .rw[af q]at h;cases h
 exact⟨hi,by rw[<-Kj hi];exact h⟩
theorem za{g g':Gh}{n:Nat}(h:po n g g'){H:List fB}{i:Nat}(hi:i<n):occ g' H i=occ g H i:=by
 unfold occ;rw[h.blk i hi,h.own i hi]
theorem pG.turn{g g':Gh}{N N' n:Nat}{w:fk}{e:fq}{cs:List PV}{v0:fu}(m:po n g g')(E:n<=N')(F:ly n cs=true)(h:pG P g N B0 w e cs v0):pG P g' N' B0 w e cs v0:=by
 rcases h with h|⟨b,k,cap,cur,rfl,h0,q,r,s,t,x,y,z,A⟩|⟨b,k,cap,cur,size,ds,rfl,h0,q,r,s,B,t,C,f,x,y,z,A⟩
 .exact .inl h
 .exact .inr (.inl ⟨b,k,cap,cur,rfl,h0,q,r,s,t,x,y,λo l=>z o (by rw[m.S]at l;exact l),λj v c D p=>(A j v c D p).turn m E (kB F p)⟩)
 .exact .inr (.inr ⟨b,k,cap,cur,size,ds,rfl,h0,q,r,s,B,t,C,f,x,y,λo l=>z o (by rw[m.S]at l;exact l),λi j d u v D p G=>by rw[m.S];exact A i j d u v D p G⟩)
theorem sx.turn{g g':Gh}{n:Nat}{w:fk}{e:fq}{k:Nat}{v0:fu}(d:po n g g')(h:sx P g B0 w e k v0):sx P g' B0 w e k v0:=by
 rcases h with h|⟨b,cap,cur,size,rfl,f,j,l,m,p,q,r⟩
 .exact .inl h
 .exact .inr ⟨b,cap,cur,size,rfl,f,j,l,m,p,q,λo c=>r o (by rw[d.S]at c;exact c)⟩
theorem Qm.first{g g':Gh}{N N' n:Nat}{H:List fB}{w:fk}(s:Qm P g B0 N H w)(f:po n g g')(A:n<=N')(D:(H.take n).all (fB.under n)=true):Qm P g' B0 N' (H.take n) w:=by
 have t:∀{i:Nat} {x:fB},(H.take n)[i]?=some x->x.under n=true:=λh=>an.1 D _ (jF h)
 refine⟨λi cs hi=>?_,λi e k hi=>?_,λi e k cs hi=>?_,λi es hi=>?_,λi e cs hi=>?_,λi x hi=>?_,λi j b p q=>?_⟩
 .obtain⟨d,l⟩:=nT hi;obtain⟨p,⟨vals,E,q,B,z⟩,C⟩:=s.box i cs l;rw[f.blk i d];exact⟨p,⟨vals,E,q,B,λj v c u r=>(z j v c u r).turn f A (kB (t hi) r)⟩,λo y=>C o (by rw[f.S]at y;exact y)⟩
 .obtain⟨d,l⟩:=nT hi;obtain⟨v0,p,q⟩:=s.tok i e k l;exact⟨v0,by rw[f.own i d];exact p,q.turn f⟩
 .obtain⟨d,l⟩:=nT hi;obtain⟨v0,p,q⟩:=s.mt i e k cs l;exact⟨v0,by rw[f.own i d];exact p,q.turn f A (t hi)⟩
 .obtain⟨d,l⟩:=nT hi;obtain⟨p,⟨arr,clock,q,B,z⟩,C⟩:=s.map i es l;rw[f.blk i d];refine⟨p,⟨arr,clock,q,B,λj m c u r=>⟨(z j m c u r).1,(z j m c u r).2.turn f A ?_⟩⟩,λo y=>C o (by rw[f.S]at y;exact y)⟩;have:=t hi;simp only[fB.under,j8]at this;exact this c (jF r)
 .obtain⟨d,l⟩:=nT hi;rw[f.own i d];exact s.mt0 i e cs l
 .obtain⟨d,l⟩:=nT hi;obtain⟨q1,q2⟩:=s.live i x l;refine⟨λF=>(f.live i d).2 (q1 F),λG=>?_⟩;obtain⟨u,r⟩:=q2 G;exact⟨λhl=>u ((f.live i d).1 hl),by rw[f.own i d];exact r⟩
 .obtain⟨l1,o1⟩:=kY p;obtain⟨l2,o2⟩:=kY q;rw[za f l1]at o1;rw[za f l2]at o2;exact s.sep i j b o1 o2
theorem oF{A C:List fB}{n i:Nat}{x:fB}(c:A.length=n)(h:(A++C)[i]?=some x):(i<n/\A[i]?=some x)\/(n<=i/\C[i - n]?=some x):=by
 rw[jT]at h;split at h
 .exact .inl ⟨by omega,h⟩
 .exact .inr ⟨by omega,by rw[<-c];exact h⟩
theorem BZ(U:iX P pf call){f:fo}{args:List PV}{n:Nat}{H H2:List fB}{g:Gh}{w:fk}{p:PV}{vals:Array Value}(M:iI call f args n H=some (p,H2))(hn:vals.size=args.length)(hr:∀(j:Nat) v q,vals[j]?=some v->args[j]?=some q->fC g H.length w v q)(J:Qm P g B0 H.length H w)(hi:Inv B0 w0 S0 g w)(hG:ij g w):
  (∃fn c,P.funcs[f]?=some fn/\fn.body=some c/\(fn.name== "runtime.NumGoroutine")=false)/\Calls P f vals w λe w'=>∃v g',e= .returned v/\Good P B0 w0 S0 H g w p H2 v g' w':=by
 unfold iI at M;split at M
 case isFalse=>cases M
 rename_i hc;obtain⟨hlen,hba,hbH⟩:=hc;split at M
 case h_2=>cases M
 rename_i p1 H1 hcl;split at M
 case isFalse=>cases M
 rename_i hq;obtain⟨hbp,hbH1⟩:=hq;simp only[j9,jI]at M;obtain⟨rfl,rfl⟩:=M;have V:(H.take n).length=n:=by rw[zV];omega
 obtain⟨k1,_,k3⟩:=U _ _ _ _ _ hcl;refine⟨k1,(k3 B0 w0 S0 g w vals hn (λj v q Q N=>?_) ?_ hi hG).mono λe w' W=>?_⟩
 .rw[V];exact(hr j v q Q N).turn (po.refl n g) (j7 n) (kB hba N)
 .rw[V];exact J.first (po.refl n g) (j7 n) hbH
 obtain⟨v,R,rfl,C⟩:=W;have hl1:n<=H1.length:=by have:=C.len;omega
 have T:(H1.take n).length=n:=by rw[zV];omega
 -- the ghosts joined
 let K:Gh:={blk:=λi=>if i<n then R.blk i else g.blk i,live:=λi=>if i<n then R.live i else g.live i,own:=λi=>if i<n then R.own i else g.own i,S:=R.S}
 have E:po n R K:=⟨rfl,λi h=>ai h,λi h=>by show(if i<n then R.live i else g.live i)↔_;rw[ai h],λi h=>ai h⟩
 have G:Ext H.length g w K w':=by
  have W:=C.ext;rw[V]at W;refine⟨W.S,W.cell,λi hi2 hl=>?_,λt ht v n' s=>?_⟩
  .by_cases h:i<n
   .obtain⟨Q,N⟩:=W.blk i h hl;exact⟨(E.blk i h).trans Q,(E.live i h).2 N⟩
   .exact⟨af h,by show(if i<n then R.live i else g.live i);rw[af h];exact hl⟩
  .by_cases h:t<n
   .rw[E.own t h];exact W.own t h v n' s
   .exact⟨v,n',(af h).trans s,j7 _,λ_=>rfl⟩
 have L:(H1.take n++H.drop n).length=H.length:=by rw[jV,T,y6];omega
 have r:∀{i:Nat} {x:fB},n<=i->(H.drop n)[i - n]?=some x->H[i]?=some x:=λ{i x} d h=>by
  rw[zI,show n+(i - n)=i by omega]at h;exact h
 -- the old blocks from n on stay
 have u:∀i,n<=i->occ K (H1.take n++H.drop n) i=occ g H i:=λi d=>by
  have e:(H1.take n++H.drop n)[i]?=H[i]?:=by
   rw[zN y8,T,zI];congr 1;omega
  have eb:K.blk i=g.blk i:=af y8;have eo:K.own i=g.own i:=af y8;unfold occ;rw[e,eb,eo]
 have y:∀i,i<n->occ K (H1.take n++H.drop n) i=occ R H1 i:=λi X=>by
  have e:(H1.take n++H.drop n)[i]?=H1[i]?:=by
   rw[zO y8,jR,ai X]
  unfold occ;rw[e,E.blk i X,E.own i X]
 have O:∀{i b:Nat},n<=i->occ g H i=some b->∀j,occ g (H.take n) j≠some b:=λd s j hj=>by
  obtain⟨l,o⟩:=kY hj;have:=J.sep _ _ _ s o;omega
 have B:∀{i b:Nat},n<=i->occ g H i=some b->w'.heap[b]?=w.heap[b]?:=λd s=>C.fr.keep _ (J.occ_lt s).2.1 (O d s)
 have I:∀{i b:Nat},n<=i->occ g H i=some b->∀o,K.S b o->g.S b o:=λd s o hs=>by
  rcases C.fr.pub _ o hs with h|h|⟨j,h⟩
  .exact h
  .have:=(J.occ_lt s).2.1;omega
  .exact absurd h (O d s j)
 have m:=C.heap.first E (show n<=H.length by omega) hbH1
 have Y:Qm P K B0 H.length (H1.take n++H.drop n) w':=by
  refine⟨λi cs h=>?_,λi e k h=>?_,λi e k cs h=>?_,λi es h=>?_,λi e cs h=>?_,λi x h=>?_,λi j b z A=>?_⟩
  .rcases oF T h with⟨_,h⟩|⟨d,h⟩
   .exact m.box i cs h
   .have D:=r d h;obtain⟨z,⟨Z,ty,A,h3,h4⟩,h5⟩:=J.box i cs D;rw[show K.blk i=g.blk i from af y8];exact⟨z,⟨Z,ty,by rw[B d (gw D),A],h3,λj v c Q N=>(h4 j v c Q N).ext G (j7 _)⟩,λo s=>h5 o (I d (gw D) o s)⟩
  .rcases oF T h with⟨_,h⟩|⟨d,h⟩
   .exact m.tok i e k h
   .have D:=r d h;obtain⟨v0,z,A⟩:=J.tok i e k D;have s:∀b,v0.ownBlock=some b->occ g H i=some b:=λb F=>by rw[kh D,z];exact F
    exact⟨v0,(af y8).trans z,A.keep (λb F=>B d (s b F)) (λb F=>I d (s b F))⟩
  .rcases oF T h with⟨_,h⟩|⟨d,h⟩
   .exact m.mt i e k cs h
   .have D:=r d h;obtain⟨v0,z,A⟩:=J.mt i e k cs D;have s:∀b,fG v0=some b->occ g H i=some b:=λb F=>by rw[gJ D,z];exact F
    exact⟨v0,(af y8).trans z,A.keep G (j7 _) (λb F=>B d (s b F)) (λb F=>I d (s b F))⟩
  .rcases oF T h with⟨_,h⟩|⟨d,h⟩
   .exact m.map i es h
   .have D:=r d h;obtain⟨z,⟨arr,clock,A,h3,h4⟩,h5⟩:=J.map i es D;rw[show K.blk i=g.blk i from af y8];exact⟨z,⟨arr,clock,⟨by rw[B d (iY D),A.1],A.2⟩,h3,λj v c Q N=>⟨(h4 j v c Q N).1,(h4 j v c Q N).2.ext G (j7 _)⟩⟩,λo s=>h5 o (I d (iY D) o s)⟩
  .rcases oF T h with⟨_,h⟩|⟨d,h⟩
   .exact m.mt0 i e cs h
   .have D:=r d h;obtain⟨v0,z,A⟩:=J.mt0 i e cs D;exact⟨v0,(af y8).trans z,A⟩
  .rcases oF T h with⟨_,h⟩|⟨d,h⟩
   .exact m.live i x h
   .have D:=r d h;obtain⟨q1,q2⟩:=J.live i x D;have el:K.live i=g.live i:=af y8;have eo:K.own i=g.own i:=af y8;rw[el,eo];exact⟨q1,q2⟩
  .by_cases c1:i<n<;>by_cases c2:j<n
   .rw[y i c1]at z;rw[y j c2]at A;exact C.heap.sep i j b z A
   .rw[y i c1]at z;rw[u j y8]at A;obtain⟨j',hj'⟩:=C.fr.occ i b z (J.occ_lt A).2.1;exact absurd hj' (O y8 A j')
   .rw[u i y8]at z;rw[y j c2]at A;obtain⟨j',hj'⟩:=C.fr.occ j b A (J.occ_lt z).2.1;exact absurd hj' (O y8 z j')
   .rw[u i y8]at z;rw[u j y8]at A;exact J.sep i j b z A
 refine⟨v,K,rfl,G,by omega,?_,?_,⟨C.inv.below,C.inv.size,C.inv.old,C.inv.lt⟩,⟨C.fr.size,λb F hnb=>?_,λi b s F=>?_,λb o hs=>?_⟩⟩
 .rw[L];exact C.rep.turn E hlen hbp
 .rw[L];exact Y
 .exact C.fr.keep b F (λi hi2=>hnb i (kY hi2).2)
 .by_cases c:i<n
  .rw[y i c]at s;obtain⟨j,hj⟩:=C.fr.occ i b s F;exact⟨j,(kY hj).2⟩
  .rw[u i y8]at s;exact⟨i,s⟩
 .rcases C.fr.pub b o hs with h|h|⟨j,h⟩
  .exact .inl h
  .exact .inr (.inl h)
  .exact .inr (.inr ⟨j,(kY h).2⟩)
end Go.Pm
