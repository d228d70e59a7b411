/-
 The pure machine: soundness of calls, by summaries, alone, and in the caller's heap.
-/
import Derived.Test.YtjcfpjpdopfefaaGreatPmOrder
import Derived.Test.YtjcfpjpdopfefaaGreatPmCtl
import Derived.RangeFuncLeaves
namespace Go.Pm
open Go Go.RowKit
set_option linter.all false
def PV.out:PV->Bool
 | .dat _=>true
 | .tup vs=>vs.all λ|.dat _=>true|_=>false
 | .fn _ caps=>caps.all PV.still
 |_=>false
theorem fC.outMono{g g':Gh}{N N':Nat}{w:fk}{v:fu}{p:PV}(h:fC g N w v p)(e:∀b o,g.S b o->g'.S b o)(l:p.out=true):fC g' N' w v p:=by
 cases h with
 |dat v d m=>exact .dat _ _ (m.mono e λ_ _ _=>rfl)
 |tup vs cs n q=>
  refine .tup _ _ n λj v c r k=>?_
  have hm:=an.1 l c (jF k);cases c with
  |dat d=>exact .dat _ _ ((q j v _ r k).datInv.mono e λ_ _ _=>rfl)
  |_=>simp at hm
 |fn f vs cs n q=>
  refine .fn _ _ _ n λj v c r k=>?_
  have hm:=an.1 l c (jF k);have s:=q j v c r k;cases s with
  |dat v d m=>exact .dat _ _ (m.mono e λ_ _ _=>rfl)
  |iptr b o cs c k1 k2=>exact .iptr b o cs c (λi hi=>⟨(k1 i hi).1,e _ _ (k1 i hi).2⟩) λi u t=>(k2 i u t).mono e λ_ _ _=>rfl
  |_=>simp[PV.still]at hm
 |_=>simp[PV.out]at l
def mH(P:fm)(f:fo)(ds:List fy)(p:PV):Prop:=
 ∀(w:fk) (S:Nat->Nat->Prop) (vals:Array Value),(∀b o,S b o->b<w.heap.size)->vals.size=ds.length->(∀(j:Nat) v d,vals[j]?=some v->ds[j]?=some d->fY w S v d)->ij (gS S) w->
  Calls P f vals w λe w'=>∃v,e=.returned v/\Below w.heap.size w w'/\fC (gS λb o=>S b o\/(w.heap.size<=b/\b<w'.heap.size)) 0 w' v p
section
variable{P:fm}{B0:Nat}{w0:fk}{S0:Nat->Nat->Prop}{g:Gh}{H H':List fB}{w:fk}{p:PV}
theorem fC.tupInv{N:Nat}{v:fu}{cs:List PV}(h:fC g N w v (.tup cs)):∃vs:Array Value,v=.tuple vs/\vs.size=cs.length/\∀(j:Nat) u c,vs[j]?=some u->cs[j]?=some c->fC g N w u c:=by
 cases h with
 |tup vs cs d e=>exact⟨vs,rfl,d,e⟩
theorem xp{g':Gh}{N N':Nat}{w':fk}{v:fu}{p:PV}(h:fC g N w v p)(e:la p=true):fC g' N' w' v p:=by
 cases p with
 |dat d=>exact .dat _ _ (mQ h.datInv e)
 |tup cs=>
  obtain⟨vs,rfl,k,l⟩:=h.tupInv;refine .tup _ _ k λj v c m f=>?_
  have hm:=an.1 e c (jF f);cases c with
  |dat d=>exact .dat _ _ (mQ (l j v _ m f).datInv hm)
  |_=>simp at hm
 |_=>simp[la]at e
def yK(P:fm)(f:fo)(ds:List fy)(p:PV):Prop:=
 ∀(w:fk) (S:Nat->Nat->Prop) (vals:Array Value),(∀b o,S b o->b<w.heap.size)->vals.size=ds.length->(∀(j:Nat) v d,vals[j]?=some v->ds[j]?=some d->fY w S v d)->ij (gS S) w->
  Calls P f vals w λe w'=>∃v,e=.returned v/\Below w.heap.size w w'/\fC (gS λb o=>w.heap.size<=b/\b<w'.heap.size) 0 w' v p
theorem tO{S g:Nat->Nat->Prop}{v:fu}{d:fy}(h:fY w S v d)(e:sc d=true):fY w g v d:=by
 cases h with
 |raw v h=>exact .raw v h
 |nil=>exact .nil
 |empty a cap=>exact .empty a cap
 |lst b off len cap k es c f j l m n=>
  have:es=[]:=by simpa[sc]using e
  subst this;simp at f;subst f;exact .empty _ _
 |agg=>simp[sc]at e
theorem Ef{S m:Nat->Nat->Prop}{v:fu}{d:fy}(h:fY w S v d)(g:IY d=true):fY w m v d:=by
 cases h with
 |agg vs cs e f=>exact .agg vs cs e λj v c n l=>tO (f j v c n l) (an.1 g c (jF l))
 |raw v h=>exact .raw v h
 |nil=>exact .nil
 |empty a cap=>exact .empty a cap
 |lst b off len cap k es c e f p q r=>exact tO (.lst b off len cap k es c e f p q r) g
theorem vy{S g:Nat->Nat->Prop}{v:fu}{d:fy}(h:fY w S v d)(l:xi (some d)=true)(p:∀b off len cap,v=.slice (some ⟨b,off,none⟩) len cap->0<len->∀o,g b o):fY w g v d:=by
 cases h with
 |raw v h=>exact .raw v h
 |nil=>exact .nil
 |empty a cap=>exact .empty a cap
 |agg=>simp[xi]at l
 |lst b off len cap k es c q r s t z=>
  refine .lst b off len cap k es c q r s (λi hi=>⟨(t i hi).1,p b off len cap rfl ?_ _⟩) λi j d u m f=>?_
  .exact Nat.pos_of_ne_zero λe=>by subst e;simp at hi
  .have A:d.isRaw=true:=an.1 l d (jF m);have n:=z i j d u m f;cases d with
   |raw x=>
    cases j with
    |zero=>
     simp[fy.cells]at f;subst f;generalize c (i*k+0)=y at n |-;cases n with
     |raw _ h=>exact .raw _ h
    |succ j=>simp[fy.cells]at f
   |_=>simp[fy.isRaw]at A
theorem yr{v:fu}{q:PV}{d:fy}(p:Qm P g B0 H.length H w)(u:fC g H.length w v q)(c:fR H q=some d)(e:lF H q=true):fY w (λb o=>B0<=b/\b<w.heap.size) v d:=by
 have r:=mL p u c;cases q with
 |dat E=>simp[fR]at c;subst c;exact Ef r e
 |arr i o len cap=>
  refine vy r (by simp only[lF,c]at e;exact e) λb off f j x hpos o'=>?_
  cases u with
  |arr _ _ _ _ hi hc=>
   cases x;simp only[fR]at c;split at c
   .rename_i cs y;have:=p.occ_lt (gw (g:=g) y);exact⟨this.1,this.2.1⟩
   .cases c
 |ms t gg lo len cp=>
  refine vy r (by simp only[lF,c]at e;exact e) λb off f j x hpos o'=>?_
  cases u with
  |ms _ _ _ _ _ _ v0 n r A F B G=>
   simp only[fR]at c;split at c
   .rename_i I g' cs y;split at c
    .rename_i z;subst z;have k:=Zb y;obtain⟨J,k1,k2⟩:=p.mt t _ _ _ k;rw[A]at k1;simp only[j9,jI]at k1;obtain⟨rfl,rfl⟩:=k1;obtain⟨s,_⟩:=B rfl;subst x;rcases k2 with⟨rfl,hn⟩|⟨C,l,m,cur,rfl,q0,_⟩|⟨C,l,m,cur,size,ds,rfl,q0,_⟩
     .exfalso
      rw[jK]at c;obtain⟨ds,hc,_⟩:=c;rw[jK]at hc;obtain⟨D,hc,_⟩:=hc;have:=(ka hc).2.1;simp at this;rcases hn with rfl|⟨a,rfl⟩
      .simp[gP]at s
      .simp[gP]at s;omega
     all_goals
      simp only[gP,iv,Value.slice.injEq,j9,Addr.mk.injEq]at s;obtain⟨⟨rfl,_,_⟩,_,_⟩:=s;have:=p.occ_lt (i:=t) (b:=b) (by rw[gJ k,A];simp[fG];omega);exact⟨this.1,this.2.1⟩
    .cases c
   .cases c
 |_=>simp[lF]at e
theorem xT{v:fu}{q:PV}{d:fy}(f:Qm P g B0 H.length H w)(k:fC g H.length w v q)(c:iu H q=some d)(l:A1 H q=true):fY w (λb o=>B0<=b/\b<w.heap.size) v d:=by
 cases q with
 |agg cs=>
  simp only[iu,j5]at c;obtain⟨ds,c,rfl⟩:=c;obtain⟨p1,n⟩:=k9 _ _ c;cases k with
  |agg vs cs s p=>
   refine .agg _ _ y8 λj v d r m=>?_
   have e:j<cs.length:=by rw[<-p1];exact(ae.1 m).1
   have hc:cs[j]?=some cs[j]:=jC e;exact yr f (p j v _ r hc) (n j _ d hc m) (an.1 l _ (jF hc))
 |_=>exact yr f k c l
theorem B1{v:fu}{q p:PV}(r:Qm P g B0 H.length H w)(s:fC g H.length w v q)(e:gM H q=some p)(k:kN H q=true):fC (gS λb o=>B0<=b/\b<w.heap.size) 0 w v p:=by
 unfold gM at e;split at e
 .rename_i vs;simp only[j5]at e;obtain⟨ds,l,rfl⟩:=e;obtain⟨p1,z⟩:=jl _ _ l;obtain⟨us,rfl,t,x⟩:=s.tupInv;refine .tup _ _ y9 λj u c A y=>?_
  simp only[jD,j5]at y;obtain⟨d,f,rfl⟩:=y;have m:j<vs.length:=by rw[<-p1];exact(ae.1 f).1
  have n:vs[j]?=some vs[j]:=jC m;exact .dat _ _ (xT r (x j u _ A n) (z j _ d n f) (an.1 k _ (jF n)))
 .simp[kN,A1,lF]at k
 .rename_i t x;simp only[j5]at e;obtain⟨d,f,rfl⟩:=e;refine .dat _ _ (xT r s f ?_);cases q with
  |tup vs=>exact absurd rfl (t vs)
  |_=>exact k
theorem zd{f:fo}{args:List PV}{ds:List fy}(B:mH P f ds p)(s:p.out=true)(F:gp H args=some ds)(hl:args.any PV.lends=true->la p=true\/yK P f ds p){vals:Array Value}(hn:vals.size=args.length)(N:∀(j:Nat) v q,vals[j]?=some v->args[j]?=some q->fC g H.length w v q)(x:Qm P g B0 H.length H w)(hi:Inv B0 w0 S0 g w)(G:ij g w):
  Calls P f vals w λe w'=>∃v g',e=.returned v/\Good P B0 w0 S0 H g w p H v g' w':=by
 obtain⟨p1,O⟩:=jl _ _ F
 have k:∀(j:Nat) v d,vals[j]?=some v->ds[j]?=some d->∃q,args[j]?=some q/\fC g H.length w v q/\iu H q=some d:=λj v d y t=>by
  have I:j<args.length:=by rw[<-p1];exact(ae.1 t).1
  have J:args[j]?=some args[j]:=jC I;exact⟨_,J,N j v _ y J,O j _ d J t⟩
 -- behind the call
 have fin:∀(S:Nat->Nat->Prop) (w':fk) (v:fu),Below w.heap.size w w'->(∃q,fC {g with S:=λb o=>g.S b o\/(w.heap.size<=b/\b<w'.heap.size)} H.length w' v q/\q=p)->
   ∃g',Good P B0 w0 S0 H g w p H v g' w':=λS w' v l r=>by
  obtain⟨q,r,rfl⟩:=r
  have u:Ext H.length g w {g with S:=λb o=>g.S b o\/(w.heap.size<=b/\b<w'.heap.size)} w':=
   ⟨λ_ _ h=>.inl h,λb o c=>l.cell (p:=⟨b,o,none⟩) (hi.lt b o c),λ_ _ h=>⟨rfl,h⟩,λ_ _ v n h=>⟨v,n,h,j7 _,λ_=>rfl⟩⟩
  refine⟨_,u,j7 _,r,x.keep u (j7 _) (j7 _) (λi b h=>l.block b (x.occ_lt h).2.1) (λi b h o c=>?_) (λ_ _=>rfl),⟨hi.below.trans (l.mono hi.size),jW hi.size l.size,λb o c=>?_,λb o c=>?_⟩,Fr.old l.size (λb h=>l.block b h) (λi b h _=>⟨i,gD (g:=g) h (λ_ _=>rfl) (λ_ _=>rfl)⟩) (λb o h=>h.imp id λh=>.inl h.1)⟩
  .rcases c with c|⟨c,_⟩
   .exact c
   .exact absurd (x.occ_lt h).2.1 y8
  .rcases c with c|⟨c,_⟩
   .exact hi.old b o c
   .exact .inr (jW hi.size c)
  .rcases c with c|⟨_,c⟩
   .exact jP (hi.lt b o c) l.size
   .exact c
 by_cases m:args.any PV.lends=true
 .rcases hl m with K|L
  rotate_left
  .refine(L w (g.drop H 0).S vals (λb o c=>?_) y8 (λj v d y t=>?_) (G.ofS λ_ _ h=>.inl h)).mono λe w' u=>?_
   .rcases c with c|⟨j,Q,z,_⟩
    .exact hi.lt b o c
    .exact(x.occ_lt z).2.1
   .obtain⟨q,M,C,D⟩:=k j v d y t;exact lL x C D
   .obtain⟨v,rfl,l,r⟩:=u;have A:fC {g with S:=λb o=>g.S b o\/(w.heap.size<=b/\b<w'.heap.size)} H.length w' v p:=r.outMono (λb o h=>.inr h) s;obtain⟨g',E⟩:=fin (λ_ _=>True) w' v l ⟨p,A,rfl⟩;exact⟨v,g',rfl,E⟩
  refine(B w (g.drop H 0).S vals (λb o c=>?_) y8 (λj v d y t=>?_) (G.ofS λ_ _ h=>.inl h)).mono λe w' u=>?_
  .rcases c with c|⟨j,Q,z,_⟩
   .exact hi.lt b o c
   .exact(x.occ_lt z).2.1
  .obtain⟨q,M,C,D⟩:=k j v d y t;exact lL x C D
  .obtain⟨v,rfl,l,r⟩:=u;obtain⟨g',E⟩:=fin (λ_ _=>True) w' v l ⟨p,xp r K,rfl⟩;exact⟨v,g',rfl,E⟩
 .refine(B w g.S vals hi.lt y8 (λj v d y t=>?_) (G.ofS λ_ _ h=>h)).mono λe w' u=>?_
  .obtain⟨q,M,C,D⟩:=k j v d y t;refine mv C D ?_;have:=bp.1 (by simpa using m) q (jF M)
   simpa using this
  .obtain⟨v,rfl,l,r⟩:=u;have A:fC {g with S:=λb o=>g.S b o\/(w.heap.size<=b/\b<w'.heap.size)} H.length w' v p:=r.outMono (λb o h=>h) s;obtain⟨g',E⟩:=fin (λ_ _=>True) w' v l ⟨p,A,rfl⟩;exact⟨v,g',rfl,E⟩
def AB(tmps:Array Value):ResultVar->Sem Value
 | .tmp t=>pure (tmps.getD t undef)
 | .cell a t=>do loadVar t (<-asAddr (tmps.getD a undef))
theorem Dv(fn:Func)(tmps:Array Value):results fn tmps=(do let vs <-fn.results.mapM (AB tmps);pure (if h:vs.size=1 then vs[0]else .tuple vs)):=by
 have:AB tmps=λr=>(match r with|.tmp t=>pure (tmps.getD t undef)|.cell a t=>do loadVar t (<-asAddr (tmps.getD a undef)):Sem Value):=by funext r;cases r<;>rfl
 rw[this];rfl
theorem Ol{N:Nat}{tmps:Array Value}{s:List PV}{r:ResultVar}{q:PV}(x:Qm P g B0 H.length H w)(m:qP g H.length w tmps s)(h:EV P s H r=some q):
  ∃u,(AB tmps r).run P w=.ok u w/\fC g H.length w u q:=by
 cases r with
 |tmp t=>
  simp only[EV,j9]at h;subst h;exact⟨_,rfl,m.2 t⟩
 |cell a t=>
  simp only[EV]at h;split at h
  .rename_i K size i off y k z;split at h
   .rename_i cs A;simp only[jK]at h;obtain⟨ds,hc,B⟩:=h;obtain⟨c1,c2,C⟩:=ka hc;have f:=m.2 a;rw[z]at f;generalize l:tmps.getD a undef=L at f;cases f with
    |ptr i o D=>
     obtain⟨_,⟨vals,E,k1,k2,k3⟩,_⟩:=x.box i cs A
     have d:∀(j:Nat) u,((vals.toList.drop off).take size)[j]?=some u->j<size/\vals[off+j]?=some u:=λj u e=>by
      rw[jR]at e;split at e
      .exact⟨by assumption,by simpa using e⟩
      .cases e
     obtain⟨p1,F⟩:=fC.ofCells (g:=g) (w:=w) (N:=H.length) (us:=(vals.toList.drop off).take size) (n:=size) y9 c1 (λj v c G p=>by
      obtain⟨I,f⟩:=d j v G;rw[C j I]at p;exact k3 _ v c f p) B
     have J:=ji (P:=P) (w:=w) (b:=g.blk i) (off:=off) ((vals.toList.drop off).take size) y k y9 p1 (λj u e=>by
      rw[cell_of_row w _ _ vals E (0,0) k1];exact(d j u e).2)
     refine⟨_,?_,F⟩;show(Sem.run P (do loadVar t (<-asAddr (tmps.getD a undef))) w)=_
     rw[l];exact J
   .cases h
  .cases h
theorem EN{tmps:Array Value}{s:List PV}(l:Qm P g B0 H.length H w)(m:qP g H.length w tmps s):∀(d:List ResultVar) (c:List PV),ir P s H d=some c->
  ∃us:List Value,(d.mapM (AB tmps)).run P w=.ok us w/\us.length=c.length/\
   ∀(j:Nat) u q,us[j]?=some u->c[j]?=some q->fC g H.length w u q
 |[],c,h=>by cases h;exact⟨[],rfl,rfl,λj u q h=>by simp at h⟩
 |r::d,c,h=>by
  simp only[ir]at h;split at h
  .rename_i q e n p;cases h;obtain⟨u,t,v⟩:=Ol (N:=0) l m n;obtain⟨us,k1,k2,k3⟩:=EN l m d e p;refine⟨u::us,?_,by simp[k2],λj x y f k=>?_⟩
   .rw[List.mapM_cons,Sem.run_bind,t,Result.andThen_ok,Sem.run_bind,k1,Result.andThen_ok];rfl
   .cases j with
    |zero=>simp at f k;subst f k;exact v
    |succ j=>exact k3 j x y (by simpa using f) (by simpa using k)
  .cases h
theorem DW{fn:Func}{tmps:Array Value}{s:List PV}{d:List PV}(e:Qm P g B0 H.length H w)(f:qP g H.length w tmps s)(h:ir P s H fn.results.toList=some d):
  ∃v,(results fn tmps).run P w=.ok v w/\fC g H.length w v (iO d):=by
 obtain⟨us,k1,k2,k3⟩:=EN e f _ _ h
 have k:(results fn tmps).run P w=.ok (if h:us.toArray.size=1 then us.toArray[0]else .tuple us.toArray) w:=by
  rw[Dv];simp only[Array.mapM_eq_mapM_toList];simp[k1]
 refine⟨_,k,?_⟩
 match us,d,k2,k3 with
 |[],[],_,k3=>exact .tup _ _ rfl (λj v c h=>by simp at h)
 |[u],[q],_,k3=>exact k3 0 u q rfl rfl
 |n::p::us,q1::q2::d,k2,k3=>
  simp only[iO];rw[dif_neg yA];exact .tup _ _ (by simpa using k2) λj v c l m=>k3 j v c (by simpa using l) m
theorem ES{F:Fence}{n:Nat}{fn:Func}{R:Ending->fk->Prop}{N:Nat}{g':Gh}{st:St}{w:fk}:∀(ms:List Nat) (tmps:Array Value) (c:fk),ms.Nodup->(∀r,r∈ms->w.heap.size<=r/\c.heap[r]?=some (.deferred (some [])))->B0<=w.heap.size->
  Ext N g w g' c->Fr g H w g' st.heap c->kT P B0 w0 S0 N g' st {tmps:=tmps,defers:=[]} c->
  (∀f,Ext N g w g' f->Fr g H w g' st.heap f->kT P B0 w0 S0 N g' st {tmps:=tmps,defers:=[]} f->∃v,(results fn tmps).run P f=.ok v f/\R (.returned v) f)->
  LeavesInM F n P fn tmps R (ms.map mark) .returning c
 |[],tmps,c,hn,hm,hB,m,p,j,q=>q c m p j
 |r::ms,tmps,c,hn,hm,hB,m,p,j,q=>by
  obtain⟨s,l⟩:=hm r yA;have k:=ea.1 hn;refine⟨by simp,.inl ⟨r,_,rfl,run_takeDeferred l,?_⟩⟩
  exact ES ms tmps _ k.2 (λt d=>⟨(hm t (by simp[d])).1,(World.putObj_heap_other (λe=>k.1 (by rw[<-e];exact d))).trans (hm t (by simp[d])).2⟩) hB
   (m.trans (Ext.put N g' l rfl rfl) (j7 _)) (p.put s) ⟨j.heap.put (j7 _) l rfl rfl,j.inv.put (jW hB s),j.rep.ext (Ext.put _ g' l rfl rfl) (j7 _),j.base⟩ q
theorem wT{E:Env}{call:gk}(m:iX P E.pf call){n:Nat}{f:fo}(p:tf P call E.pf (E.hint f)){args:List PV}{q:PV}(k:qh P E call n f args H=some (q,H')){vals:Array Value}(hn:vals.size=args.length)(I:∀(j:Nat) v q,vals[j]?=some v->args[j]?=some q->fC g H.length w v q)(J:Qm P g B0 H.length H w)(hi:Inv B0 w0 S0 g w)(K:ij g w):
  Calls P f vals w λe w'=>∃v g',e=.returned v/\Good P B0 w0 S0 H g w q H' v g' w':=by
 unfold qh at k;split at k
 .rename_i fn L;split at k
  .rename_i c hc;split at k
   .cases k
   .rename_i e st B r;simp only[j5,jI]at k;obtain⟨M,C,rfl,rfl⟩:=k;refine callsIn_wide.1 (callsIn_of_wp_marks (n:=0) L hc trivial ?_);refine((Cc m p n).1 true c _ st e r) B0 w0 S0 H.length g _ w Fence.wide 0 _ (.inl rfl) yB ⟨J,hi,⟨by simp[hn],λt=>?_,K⟩,j7 _⟩ λg' y w' N D hst O=>?_
    .simp only[jH,jB,aG,jT,hn];by_cases s:t<args.length
     .rw[ai s,ai s];have z:vals[t]?=some vals[t]:=jA y8;have A:args[t]?=some args[t]:=jC s;rw[z,A];exact I t _ _ z A
     .rw[af s,af s];simp only[dX,zM];split <;>exact mw
    .obtain⟨ms,m1,m2,m3⟩:=O
     have l:=ES (F:=Fence.wide) (n:=0) (fn:=fn) (R:=λe w'=>∃v g',e=.returned v/\Good P B0 w0 S0 H g w (iO M) st.heap v g' w') ms y.tmps w' m2 m3 hi.size N D ⟨hst.heap,hst.inv,hst.rep,hst.base⟩ λQ G u d=>by
      obtain⟨v,z,A⟩:=DW d.heap d.rep C;exact⟨v,z,v,g',rfl,G,hst.base,A,d.heap,d.inv,u⟩
     have x:y.defers=ms.map mark:=by simpa using m1
     cases e with
     |normal=>show LeavesInM _ _ _ _ _ _ y.defers _ _;rw[x];exact l
     |ret=>show LeavesInM _ _ _ _ _ _ y.defers _ _;rw[x];exact l
     |exit id=>exact(B id rfl).elim
   .cases k
  .cases k
 .cases k
theorem xo{c d:Option (PV×List fB)}{q:PV}{H':List fB}(h:mN c d=some (q,H')):c=some (q,H')/\d=some (q,H'):=by
 unfold mN at h;split at h
 .split at h
  .rename_i e;subst e;cases h;exact⟨rfl,rfl⟩
  .cases h
 .cases h
theorem sZ{E:Env}{call:gk}(d:iX P E.pf call){n:Nat}{f:fo}(l:tf P call E.pf (E.hint f)){args:List PV}{q:PV}(s:kV P E call n f args H=some (q,H')){vals:Array Value}(hn:vals.size=args.length)(x:∀(j:Nat) v q,vals[j]?=some v->args[j]?=some q->fC g H.length w v q)(t:Qm P g B0 H.length H w)(hi:Inv B0 w0 S0 g w)(u:ij g w):
  Calls P f vals w λe w'=>∃v g',e=.returned v/\Good P B0 w0 S0 H g w q H' v g' w':=by
 unfold kV at s;split at s
 .rename_i hc;simp only[jE,dd]at hc;obtain⟨_,p,rfl⟩:=hc;obtain⟨z,A⟩:=xo s
  have B:args=[.dat (.lst [])]:=by
   unfold nm at p;split at p
   .rfl
   .cases p
  subst B;have C:vals.size=1:=hn;have h0:vals[0]?=some vals[0]:=jA y8;have y:=(x 0 _ _ h0 rfl).datInv
  have key:(vals[0]=.slice none 0 0)\/∃a cap,vals[0]=.slice (some a) 0 cap:=by
   generalize vals[0]=v at y;cases y with
   |nil=>exact .inl rfl
   |empty a cap=>exact .inr ⟨a,cap,rfl⟩
   |lst b off len cap k es c D=>exact .inr ⟨_,cap,by rw[D];rfl⟩
  rcases key with key|⟨a,cap,key⟩
  .exact wT d l z (by simpa using hn) (λj v q r m=>by
    match j,m with
    |0,m=>
     simp at m;subst m;rw[h0]at r;cases r;exact .empv _ _ (λ_=>key) (λh=>by cases h)
    |j+1,m=>simp at m) t hi u
  .exact wT d l A (by simpa using hn) (λj v q r m=>by
    match j,m with
    |0,m=>
     simp at m;subst m;rw[h0]at r;cases r;exact .empv _ _ (λh=>by cases h) (λ_=>⟨a,cap,key⟩)
    |j+1,m=>simp at m) t hi u
 .exact wT d l s hn x t hi u
theorem yO{v:fu}{q p:PV}(l:Qm P g B0 H.length H w)(m:fC g H.length w v q)(e:rA H q=some p):p.still=true/\fC (g.drop H 0) 0 w v p:=by
 unfold rA at e;split at e
 .rename_i i o;split at e
  .rename_i cs n;simp only[j5]at e;obtain⟨ds,r,rfl⟩:=e;obtain⟨p1,t⟩:=k9 _ _ r;cases m with
   |ptr i o hi=>
    obtain⟨_,⟨vals,x,k1,k2,k3⟩,_⟩:=l.box i cs n;refine⟨rfl,.iptr _ _ _ (λj=>vals.getD (o+j) undef) (λj y=>?_) λj u k=>?_⟩
    .have f:o+j<vals.size:=by rw[y6]at p1;omega
     refine⟨?_,.inr ⟨i,zP _,gw n,by simp only[MF,n];omega⟩⟩;rw[cell_of_row w _ _ vals x (0,0) k1,jH,jA f];rfl
    .have y:j<ds.length:=(ae.1 k).1;have f:o+j<vals.size:=by rw[y6]at p1;omega
     have hc:(cs.drop o)[j]?=some cs[o+j]:=by rw[zI];exact jC y8
     have z:=k3 (o+j) _ _ (jA f) (by rw[<-zI];exact hc);rw[jH,jA f];exact mL l z (t j _ u hc k)
  .cases e
 .rename_i cs;cases e;cases m with
  |iptr b o _ c s A=>exact⟨rfl,.iptr (g:=g.drop H 0) b o cs c (λi hi=>⟨(s i hi).1,.inl (s i hi).2⟩) λi u k=>(A i u k).mono (λ_ _ h=>.inl h) λ_ _ _=>rfl⟩
 .simp only[j5]at e;obtain⟨d,B,rfl⟩:=e;exact⟨rfl,.dat _ _ (mL l m B)⟩
theorem oE:∀(cs e:List PV),uJ H cs=some e->e.length=cs.length/\∀(j:Nat) c p,cs[j]?=some c->e[j]?=some p->rA H c=some p
 |[],e,h=>by cases h;exact⟨rfl,λj c p h=>by simp at h⟩
 |c::cs,e,h=>by
  simp only[uJ]at h;split at h
  .rename_i d ds k l;cases h;obtain⟨k1,k2⟩:=oE cs ds l;refine⟨by simp[k1],λj m n f g=>?_⟩;cases j with
   |zero=>simp at f g;subst f g;exact k
   |succ j=>exact k2 j m n (by simpa using f) (by simpa using g)
  .cases h
theorem AG{c p:PV}(h:rA H c=some p):p.still=true:=by
 unfold rA at h;split at h
 .split at h
  .simp only[j5]at h;obtain⟨ds,_,rfl⟩:=h;rfl
  .cases h
 .cases h;rfl
 .simp only[j5]at h;obtain⟨ds,_,rfl⟩:=h;rfl
theorem BJ{q p:PV}(e:gM H q=some p):p.out=true:=by
 unfold gM at e;split at e
 .simp only[j5]at e;obtain⟨ds,_,rfl⟩:=e;simp[PV.out]
 .simp only[j5]at e;obtain⟨cs,f,rfl⟩:=e;obtain⟨p1,k⟩:=oE _ _ f;refine an.2 λc hc=>?_
  obtain⟨j,g⟩:=aL hc;have l:=(ae.1 g).1;exact AG (k j _ c (jC y8) g)
 .simp only[j5]at e;obtain⟨d,_,rfl⟩:=e;rfl
theorem Ey{v:fu}{q p:PV}(n:Qm P g B0 H.length H w)(t:fC g H.length w v q)(e:gM H q=some p):p.out=true/\fC (g.drop H 0) 0 w v p:=by
 unfold gM at e;split at e
 .rename_i vs;simp only[j5]at e;obtain⟨ds,x,rfl⟩:=e;obtain⟨p1,y⟩:=jl _ _ x;obtain⟨us,rfl,C,r⟩:=t.tupInv;refine⟨by simp[PV.out],.tup _ _ y9 λj u c z k=>?_⟩;simp only[jD,j5]at k;obtain⟨d,s,rfl⟩:=k;have l:j<vs.length:=by rw[<-p1];exact(ae.1 s).1
  have m:vs[j]?=some vs[j]:=jC l;exact .dat _ _ (lL n (r j u _ z m) (y j _ d m s))
 .rename_i f caps;simp only[j5]at e;obtain⟨cs,A,rfl⟩:=e;obtain⟨p1,y⟩:=oE _ _ A;cases t with
  |fn _ vs _ C r=>
   have key:∀(j:Nat) c,cs[j]?=some c->∃q,caps[j]?=some q/\rA H q=some c:=λj c k=>by
    have l:j<caps.length:=by rw[<-p1];exact(ae.1 k).1
    have m:caps[j]?=some caps[j]:=jC l;exact⟨_,m,y j _ c m k⟩
   refine⟨?_,.fn _ _ _ y8 λj u c z k=>?_⟩
   .refine an.2 λc hc=>?_
    obtain⟨j,D⟩:=aL hc;obtain⟨q,q1,q2⟩:=key j c D;have B:j<vs.size:=by rw[C];exact(ae.1 q1).1
    exact(yO n (r j _ q (jA B) q1) q2).1
   .obtain⟨q,q1,q2⟩:=key j c k;exact(yO n (r j u q z q1) q2).2
 .simp only[j5]at e;obtain⟨d,s,rfl⟩:=e;exact⟨rfl,.dat _ _ (lL n t s)⟩
theorem HA{E:Env}{call:gk}(c:iX P E.pf call){n:Nat}{f:fo}(k:tf P call E.pf (E.hint f)){ds:List fy}{r p:PV}(z:kV P E call n f (ds.map .dat) []=some (r,H'))(x:gM H' r=some p):
  mH P f ds p/\p.out=true:=by
 refine⟨λw S vals A hn B C=>?_,BJ x⟩
 .refine(sZ (B0:=w.heap.size) (w0:=w) (S0:=S) (g:=gS S) c k z (by simpa using hn) (λj v q D y=>?_) lX ⟨Below.refl _ _,j7 _,λb o h=>.inl h,A⟩ C).mono λe w' F=>?_
  .simp only[jD,j5]at y;obtain⟨d,G,rfl⟩:=y;exact .dat _ _ (B j v d D G)
  .obtain⟨v,g',rfl,l⟩:=F;obtain⟨o1,o2⟩:=Ey l.heap l.rep x;refine⟨v,rfl,l.inv.below,?_⟩
   have u:∀b o,(g'.drop H' 0).S b o->S b o\/(w.heap.size<=b/\b<w'.heap.size):=λb o s=>by
    have t:b<w'.heap.size:=by
     rcases s with s|⟨j,_,m,_⟩
     .exact l.inv.lt b o s
     .exact(l.heap.occ_lt m).2.1
    rcases s with s|⟨j,_,m,_⟩
    .rcases l.inv.old b o s with h|h
     .exact .inl h
     .exact .inr ⟨h,t⟩
    .exact .inr ⟨(l.heap.occ_lt m).1,t⟩
   exact o2.outMono u o1
theorem EK{E:Env}{call:gk}(c:iX P E.pf call){n:Nat}{f:fo}(k:tf P call E.pf (E.hint f)){ds:List fy}{r p:PV}(s:kV P E call n f (ds.map .dat) []=some (r,H'))(t:gM H' r=some p)(u:kN H' r=true):
  yK P f ds p:=λw S vals x hn y z=>by
 refine(sZ (B0:=w.heap.size) (w0:=w) (S0:=S) (g:=gS S) c k s (by simpa using hn) (λj v q A m=>?_) lX ⟨Below.refl _ _,j7 _,λb o h=>.inl h,x⟩ z).mono λe w' B=>?_
 .simp only[jD,j5]at m;obtain⟨d,C,rfl⟩:=m;exact .dat _ _ (y j v d A C)
 .obtain⟨v,g',rfl,l⟩:=B;exact⟨v,rfl,l.inv.below,B1 l.heap l.rep t u⟩
theorem Gs{E:Env}(m:∀f G,E.hsum f=some G->E.pure f=false){n:Nat}{f:fo}{args:List PV}(c:E.pf f=true)(h:jq P E n f args H=some (p,H')):H'=H/\(∃ds,gp H args=some ds)/\∀H2,gp H2 args=gp H args->jq P E n f args H2=some (p,H2):=by
 cases n with
 |zero=>simp[jq]at h
 |succ n=>
  simp only[jq]at h;simp only[Env.pf,zS]at c;split at h
  .cases h
  .rename_i g;split at h
   .rename_i G j;split at h
    .rename_i F k;rw[k]at c;simp only[Option.isNone_some,dz,j6,or_false]at c;exact absurd c (by rw[m f F k];simp)
    rename_i k;split at h
    .rename_i ds d;split at h
     .rename_i v l;split at h
      .cases h
      .rename_i hl;cases h;refine⟨rfl,⟨ds,d⟩,λH2 e=>?_⟩;rw[d]at e;simp only[jq,af g,j,k,e,l,af hl]
     .cases h
    .cases h
   .rename_i j;rw[j]at c;simp only[Option.isSome_none,cu,j6,or_false]at c;rw[ai c]at h;split at h
    .rename_i ds d;split at h
     .rename_i r H1 q;split at h
      .rename_i v l;split at h
       .cases h
       .rename_i hl;cases h;refine⟨rfl,⟨ds,d⟩,λH2 e=>?_⟩;rw[d]at e;simp only[jq,af g,j,ai c,e,q,l,af hl]
      .cases h
     .cases h
    .cases h
def wK(P:fm)(f:fo)(args:List PV)(H:List fB)(p:PV)(H':List fB):Prop:=
 ∀(B0:Nat) (w0:fk) (S0:Nat->Nat->Prop) (g:Gh) (w:fk) (vals:Array Value),vals.size=args.length->(∀(j:Nat) v q,vals[j]?=some v->args[j]?=some q->fC g H.length w v q)->
  Qm P g B0 H.length H w->Inv B0 w0 S0 g w->ij g w->Calls P f vals w λe w'=>∃v g',e=.returned v/\Good P B0 w0 S0 H g w p H' v g' w'
def EH(P:fm)(E:Env):Prop:=(∀f G,E.summ f=some G->∀ds p,G ds=some p->mH P f ds p/\p.out=true)/\
 ∀f G,E.hsum f=some G->E.pure f=false/\∀args H p H',G args H=some (p,H')->wK P f args H p H'
theorem vA{E:Env}(hsum:EH P E)(j:P.follows .mixedOrders=true):∀n,iX P E.pf (jq P E n)
 |0=>λf args H p H' h=>by simp[jq]at h
 |n+1=>λf args H p H' h=>by
  have m:=vA hsum j n;have h0:=h;simp only[jq]at h;split at h
  .cases h
  .rename_i d
   have u:∃fn c,P.funcs[f]?=some fn/\fn.body=some c/\(fn.name== "runtime.NumGoroutine")=false:=by
    have d:mO P f=true:=by simpa using d
    unfold mO at d;split at d
    .rename_i fn C;simp only[jE,cm]at d;obtain⟨c,hc⟩:=aA.1 d.1;exact⟨fn,c,C,hc,d.2⟩
    .cases d
   refine⟨u,λx=>?_,λB0 w0 S0 g w vals hn q s hi e=>?_⟩
   .exact Gs (λf G y=>(hsum.2 f G y).1) x h0
   split at h
   .rename_i G y;split at h
    .rename_i F D;exact(hsum.2 f F D).2 args H p H' h B0 w0 S0 g w vals hn q s hi e
    split at h
    .rename_i ds k;split at h
     .rename_i v t;split at h
      .cases h
      .rename_i hl;cases h;obtain⟨z,A⟩:=hsum.1 f G y ds _ t;exact zd z A k (λl=>.inl (by simpa[l]using hl)) hn q s hi e
     .cases h
    .cases h
   .split at h
    .split at h
     .rename_i ds k;split at h
      .rename_i r H1 B;split at h
       .rename_i v t;split at h
        .cases h
        .rename_i hl;cases h;obtain⟨z,A⟩:=HA m (Al j m) B t;refine zd z A k (λl=>?_) hn q s hi e;simp only[l,aY,bb,Bool.not_eq_false',zS]at hl;rcases hl with hl|hl
         .exact .inl hl
         .exact .inr (EK m (Al j m) B t hl)
       .cases h
      .cases h
     .cases h
    .exact sZ m (Al j m) h hn q s hi e
theorem DS{E:Env}(hsum:EH P E)(c:P.follows .mixedOrders=true){n:Nat}{f:fo}{ds:List fy}{p:PV}{H':List fB}(h:jq P E n f (ds.map .dat) []=some (p,H'))(r:p.out=true):
  mH P f ds p:=by
 intro w S vals s hn t u;refine((vA hsum c n f _ [] p H' h).2.2 w.heap.size w S (gS S) w vals (by simpa using hn) (λj v q x l=>?_) lX ⟨Below.refl _ _,j7 _,λb o h=>.inl h,s⟩ u).mono λe w' y=>?_
 .simp only[jD,j5]at l;obtain⟨d,z,rfl⟩:=l;exact .dat _ _ (t j v d x z)
 .obtain⟨v,g',rfl,g⟩:=y;refine⟨v,rfl,g.inv.below,?_⟩
  have k:∀b o,g'.S b o->S b o\/(w.heap.size<=b/\b<w'.heap.size):=λb o m=>by
   rcases g.inv.old b o m with h|h
   .exact .inl h
   .exact .inr ⟨h,g.inv.lt b o m⟩
  exact g.rep.outMono k r
end
end Go.Pm
