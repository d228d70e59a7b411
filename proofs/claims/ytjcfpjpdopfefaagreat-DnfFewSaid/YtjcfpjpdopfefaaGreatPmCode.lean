/-
 The pure machine: soundness of control, of loops, of ranges over functions.
-/
import Derived.Test.YtjcfpjpdopfefaaGreatPmIter
import Derived.RangeFuncRecord
namespace Go.Pm
open Go Go.RowKit
set_option linter.all false
def mark(r:Nat):Deferred:={target:=.collected r,args:=#[]}
def Df(a:Act)(w:fk)(c:Act)(w':fk):Prop:=
 ∃ms:List Nat,c.defers=ms.map mark++a.defers/\ms.Nodup/\∀r,r∈ms->w.heap.size<=r/\w'.heap[r]?=some (.deferred (some []))
theorem Df.same{a c:Act}{w w':fk}(h:c.defers=a.defers):Df a w c w':=⟨[],by simpa using h,by simp,λr h=>by simp at h⟩
theorem Df.trans{P:fm}{B0 N:Nat}{j p:Gh}{H1 H2:List fB}{a l m:Act}{w d g:fk}(h:Df a w l d)(q:w.heap.size<=d.heap.size)(s:Qm P j B0 N H1 d)(f:Fr j H1 d p H2 g)(k:Df l d m g):Df a w m g:=by
 obtain⟨ms,t,u,n⟩:=h;obtain⟨ks,k1,k2,k3⟩:=k;refine⟨ks++ms,by simp[k1,t],?_,λr c=>?_⟩
 .refine List.nodup_append.2 ⟨k2,u,λx v y z e=>?_⟩;subst e;have:=(k3 x v).1;have:=gX (n x z).2;omega
 .rcases aV.1 c with c|c
  .exact⟨jW q (k3 r c).1,(k3 r c).2⟩
  .obtain⟨c1,c2⟩:=n r c;exact⟨c1,(f.keep r (gX c2) (s.occ_not c2 rfl rfl)).trans c2⟩
section
variable{P:fm}{B0:Nat}{w0:fk}{S0:Nat->Nat->Prop}{Nb:Nat}{F:Fence}{m:Nat}{pf:fo->Bool}{hint:fo->Hint}{call:gk}{h:Hint}
def Ae(P:fm)(call:gk)(f:Bool)(c:Code)(st:St)(e:Ex)(st':St):Prop:=
 ∀(B0:Nat) (w0:fk) (S0:Nat->Nat->Prop) (Nb:Nat) (g:Gh) (a:Act) (w:fk) (F:Fence) (m:Nat) (Q:Exit->Act->fk->Prop),rm F->(f=true->F=Fence.wide)->kT P B0 w0 S0 Nb g st a w->
  (∀g' d w',Ext Nb g w g' w'->Fr g st.heap w g' st'.heap w'->kT P B0 w0 S0 Nb g' st' d w'->Df a w d w'->Q (xA e) d w')->c.wpIn F m P Q a w
def tf(P:fm)(call:gk)(pf:fo->Bool)(h:Hint):Prop:=
 ∀(r:Nat) (ops:Array Oper) (st st':St) (fl:List Nat),kR st.heap.length ops fl=true->gR P call pf h r ops 0 ops.toList st=some (st',fl)->Ae P call false (.region r ops true) st .normal st'
theorem yU{g:Gh}{N:Nat}{w:fk}:∀(ts:List Tmp) (ds:List fy) (s sl:List PV) (tmps:Array Value) (vals:List Value),sC s ts ds=some sl->vals.length=ds.length->qP g N w tmps s->
  (∀(j:Nat) v d,vals[j]?=some v->ds[j]?=some d->fY w g.S v d)->qP g N w ((ts.zip vals).foldl (λt (x:Tmp×Value)=>t.setIfInBounds x.1 x.2) tmps) sl/\ts.length=ds.length
 |[],[],s,sl,tmps,vals,e,hl,f,k=>by cases e;exact⟨f,rfl⟩
 |[],_::_,s,sl,tmps,vals,e,hl,f,k=>by simp[sC]at e
 |_::_,[],s,sl,tmps,vals,e,hl,f,k=>by simp[sC]at e
 |t::ts,d::ds,s,sl,tmps,[],e,hl,f,k=>by simp at hl
 |t::ts,d::ds,s,sl,tmps,v::vals,e,hl,f,k=>by
  simp only[sC]at e;have:=yU ts ds (s.set t (.dat d)) sl (tmps.setIfInBounds t v) vals e (by simpa using hl) (f.put (a:={tmps:=tmps,defers:=[]}) (some t) (.dat v d (k 0 v d rfl rfl))) (λj u c l m=>k (j+1) u c (by simpa using l) (by simpa using m));exact⟨this.1,by simp[this.2]⟩
def Ax:Ex->Code
 | .normal=>.skip
 | .exit id=>.exit id
 | .ret=>.ret
theorem fC.still{g:Gh}{N N':Nat}{w:fk}{v:fu}{p:PV}(h:fC g N w v p)(e:p.still=true):fC (gS g.S) N' w v p:=by
 cases p with
 |dat d=>exact .dat _ _ h.datInv
 |iptr cs=>cases h with|iptr b o cs c f j=>exact .iptr b o cs c f j
 |_=>simp[PV.still]at e
theorem Gu{h0:Nat}{ks:List Nat}{st:St}(h:h0<=st.heap.length):(iU h0 (some ks) st).heap.length=h0:=by simp[iU,h]
theorem CI{V J:St->Option (Ex×St)}{assign body:Code}(hA:∀st e st',V st=some (e,st')->Ae P call false assign st e st')(hB:∀st e st',J st=some (e,st')->Ae P call false body st e st')(X:iX P pf call){gf:fo}{caps:List PV}{n:Nat}{st st':St}{e:Ex}{f:ft}{I:Array Tmp}(q:nc P call hint (ll V J st.heap.length st.slots I.toList) n st gf caps=some (e,st')){g:Gh}{a:Act}{w:fk}{u:Array Value}(hf:a.eval f=.func (.func gf) #[] u)(hcs:u.size=caps.length)(hcr:∀(j:Nat) v c,u[j]?=some v->caps[j]?=some c->fC g st.heap.length w v c)(hst:kT P B0 w0 S0 Nb g st a w){Q:Exit->Act->fk->Prop}(hQ:∀g' Y w',Ext st.heap.length g w g' w'->Fr g st.heap w g' st'.heap w'->kT P B0 w0 S0 Nb g' st' Y w'->Df a w Y w'->Q (xA e) Y w'):(Code.rangeFunc f I assign body).wpIn Fence.wide m P Q a w:=by
 unfold nc at q;split at q
 case h_2=>cases q
 rename_i fn hfn;split at q
 case isTrue=>cases q
 rename_i Z;split at q
 case h_2=>cases q
 rename_i x K;simp only[j9,jI]at q;obtain⟨rfl,rfl⟩:=q;unfold Kl at K;split at K
 case h_2=>cases K
 rename_i c hc;split at K
 case isFalse=>cases K
 rename_i O;simp only[jE]at O;obtain⟨L,hres⟩:=O;split at K
 .cases K
 case h_3=>cases K
 rename_i e0 is' hne hic;cases K;have hne0:∀id,e0≠.exit id:=λid h=>hne id h
 refine wpIn_rangeFunc λfn0 _=>?_
 let D:=w.heap.size
 let l:=D+1
 let k:LoopState->Option Code->Loop:=λs pe=>{state:=s,pending:=pe,fn:=fn0,tmps:=a.tmps,params:=I,assign,body,defers:=D}
 let T:=(w.alloc (.deferred (some []))).alloc (.loop (k .ready none))
 let Out:yX->Gh->List fB->fk->Prop:=λs gi Hi W=>∃gc,s.heap.length=st.heap.length/\
  uz P B0 w0 S0 st.heap.length g st.heap w D l (k (if s.pend.isNone then .ready else .done) (s.pend.map Ax)) gc s.heap gi Hi W
 have hmk:=lE hfn hc (by simpa using Z);have hi1:=(hst.inv.alloc (.deferred (some []))).alloc (.loop (k .ready none));have he1:∀N,Ext N g w g T:=λN=>(Ext.alloc hst.inv N _).trans (Ext.alloc (hst.inv.alloc _) N _) (j7 _)
 have hL1:T.heap[l]?=some (.loop (k .ready none)):=by
  have:=World.alloc_heap_new (w.alloc (.deferred (some []))) (.loop (k .ready none));rwa [World.size_alloc]at this
 have hD1:T.heap[D]?=some (.deferred (some [])):=(Below.heap_alloc _ _ _ (by simp[D])).trans (World.alloc_heap_new w _)
 have hst0:nV P B0 w0 S0 Out:=by
  intro s gi Hi W gi' Hi' W' hO he hfr hh hi;obtain⟨gc,y,B⟩:=hO;exact⟨_,y,B.inner he hfr hh hi⟩
 have hY:RC P B0 w0 S0 l (ll V J st.heap.length st.slots I.toList) Out:=by
  intro gi Hi W vals ds s s' b m F hO hhi hinv hvs hvr;obtain⟨gc,y,B⟩:=hO;unfold ll at F;split at F
  .cases F
  rename_i hpend;split at F
  case h_2=>cases F
  rename_i sl hsl;split at F
  case h_2=>cases F
  rename_i st1 has;rw[hpend]at B;have hrep0:qP gc s.heap.length W a.tmps st.slots:=hst.rep.ext B.ext (cb y.symm);obtain⟨hrep1,hpl⟩:=yU I.toList ds st.slots sl a.tmps vals.toList hsl (by simpa using hvs) hrep0 (λj v d g1 g2=>by rw[B.S];exact hvr j v d (by simpa using g1) g2)
  have hfold:(I.zip vals).foldl (λtmps (x:Tmp×Value)=>match x with|(t,a)=>tmps.setIfInBounds t a) a.tmps=(I.toList.zip vals.toList).foldl (λt (x:Tmp×Value)=>t.setIfInBounds x.1 x.2) a.tmps:=by
   rw[<-dJ,Array.toList_zip]
  refine⟨fn0,_,assign,body,run_yield B.loop (by simp at hpl;show vals.size=I.size;omega),roundIn_of_wpIn trivial ?_⟩;show assign.wpIn _ _ _ _ {tmps:=(I.zip vals).foldl _ a.tmps,defers:=[]} W
  rw[show(I.zip vals).foldl (λ(tmps:Array Value) (x:Tmp×Value)=>match x with|(t,a)=>tmps.setIfInBounds t a) a.tmps=_ from hfold];refine hA _ _ _ has B0 w0 S0 st.heap.length gc _ W (Fence.wide.inRound l) m _ (.inr ⟨l,rfl⟩) (λh=>by cases h) ⟨B.hc,B.inv,hrep1,cb y.symm⟩ λg1 a1 w1 e1 f1 C _=>?_
  obtain⟨hb1,x1⟩:=B.outer e1 f1 C.heap C.inv Hi.length;have hb2:=hb1.put (k .busy none);have y2:=hb1.putExt (k .busy none);refine⟨_,run_beginRound hb1.loop rfl,?_⟩
  have fin:∀(e:Ex) (z:St),J st1=some (e,z)->(∀p,(p=none/\e=.normal\/p=some (Ax e))->s'=⟨(iU st.heap.length (some []) z).heap,if p.isNone then none else some e⟩->b=p.isNone->
    ∀R,(∀w',(∃g',Ext Hi.length gi W g' w'/\Qm P g' B0 Hi.length Hi w'/\Inv B0 w0 S0 g' w'/\Out s' g' Hi w')->R (Ending.returned (.bool b)) w')->
    (∀(a2:Act) (w2:fk),(∃v w',(Instr.endRound l p).run P w2=.ok v w'/\R (.returned v) w')->roundPost P l R (xA e) a2 w2)->
    body.wpIn (Fence.wide.inRound l) m P (roundPost P l R) a1 (w1.putObj l (.loop (k .busy none)))):=λe z H p hj hs' hbj R hR hpost=>by
   refine hB _ _ _ H B0 w0 S0 st.heap.length g1 a1 _ (Fence.wide.inRound l) m _ (.inr ⟨l,rfl⟩) (λh=>by cases h) ⟨hb2.hc,hb2.inv,C.rep.ext (y2 _ _) (j7 _),C.base⟩ λg2 a2 w2 e2 f2 A _=>hpost a2 w2 ?_
   obtain⟨hb3,x3⟩:=hb2.outer e2 f2 A.heap A.inv Hi.length;have E:=run_endRound (P:=P) p hb3.loop;have hb4:=hb3.put {k .busy none with state:=if p.isNone then .ready else .done,pending:=p};have y4:=hb3.putExt {k .busy none with state:=if p.isNone then .ready else .done,pending:=p};have hst4:kT P B0 w0 S0 st.heap.length g2 z a2 _:=⟨hb4.hc,hb4.inv,A.rep.ext (y4 _ _) (j7 _),A.base⟩;obtain⟨g5,e5,f5,U⟩:=wg (some []) hst4;obtain⟨M,x5⟩:=hb4.outer e5 f5 U.heap U.inv Hi.length;refine⟨_,_,E,?_⟩
   have hg:=hR _ ⟨_,(((x1.trans (y2 Hi.length _) (j7 _)).trans x3 (j7 _)).trans (y4 Hi.length _) (j7 _)).trans x5 (j7 _),M.hi,M.inv.ofS rfl,g5,(by rw[hs'];exact Gu (ks:=[]) A.base),(by
    rw[hs'];rcases hj with⟨rfl,rfl⟩|rfl
    .exact M
    .exact M)⟩
   rw[hbj]at hg;exact hg
  split at F
  .rename_i z H;simp only[j9,jI]at F;obtain⟨rfl,rfl⟩:=F;exact fin .normal z H none (.inl ⟨rfl,rfl⟩) rfl rfl _ (λw' h=>⟨rfl,h⟩) (λa2 w2 h=>h)
  .rename_i e2 z hne2 H;simp only[j9,jI]at F;obtain⟨rfl,rfl⟩:=F;refine fin e2 z H (some (Ax e2)) (.inr rfl) rfl rfl _ (λw' h=>⟨rfl,h⟩) (λa2 w2 h=>?_);cases e2 with
   |normal=>exact(hne2 rfl).elim
   |exit id=>exact h
   |ret=>exact h
  .cases F
 refine⟨l,[mark D],T,{target:=.fn (.func gf) u,args:=#[.func (.yield l) #[] #[]]},T,gf,#[.func (.yield l) #[] #[]]++u,T,run_enterLoop_outer _ _ _ _ _,?_,λf' _=>trivial,?_,λh=>by simp[Fence.wide]at h,callsIn_wide.2 ?_⟩
 .simp only[resolve,hf];simp[go_sem]
 .simp[invoke,go_sem,hmk]
 .refine(callsIn_wide.1 (callsIn_of_wp (n:=0) (R:=λe W=>(∃v,e=.returned v)/\∃gi Hi,Out is'.out gi Hi W) hfn hc trivial ?_)).mono ?_
  .refine(BN (Out:=Out) (l:=l) X hst0 hY n).1 c _ is' e0 hic 0 (gS g.S) _ T 0 _ ⟨⟨lX,hi1.ofS rfl,⟨?_,λt=>?_,(hst.rep.glob.ext (he1 0)).ofS λ_ _ h=>h⟩,zP _⟩,λt ht=>?_,g,rfl,?_⟩ λg' Y w' he hI hd=>?_
   .simp[hcs,Nat.add_comm]
   .cases t with
    |zero=>exact .undef _
    |succ t=>
     simp only[jH,jB,aW,dZ];rw[aG,jT];by_cases ht:t<caps.length
     .have h1:u[t]?=some u[t]:=jA y8;have h2:caps[t]?=some caps[t]:=jC ht;rw[ai y9,ai ht,h2]
      have h3:(#[Value.func (.yield l) #[] #[]]++u)[t+1]?=some u[t]:=by
       rw[aG,af yA];simp
      rw[h3];exact((hcr t _ _ h1 h2).ext (he1 _) (j7 _)).still (an.1 L _ (zC ht))
     .rw[af y9,af ht];simp only[dX,zM];split <;>split <;>exact mw
   .simp only[jX]at ht;subst ht;simp[aG]
   .refine⟨(hst.heap.alloc hst.inv (j7 _) _).alloc (hst.inv.alloc _) (j7 _) _,lX,hi1,rfl,he1 _,Fr.old (by simp[T];omega) (λb B=>?_) (λi b h _=>⟨i,h⟩),λi j b _ h=>by simp[occ]at h,λj b h=>by simp[occ]at h,hL1,hD1,hst.inv.size,j7 _,eH _,by simp[l]⟩;exact(Below.heap_alloc _ _ b y9).trans (Below.heap_alloc w _ b B)
   .have hres':fn.results.toList=[]:=by simpa using hres
    have hrs:(results fn Y.tmps).run P w'=.ok (.tuple #[]) w':=by
     have he:fn.results=#[]:=by simpa using hres'
     simp[results,he]
    have E:Y.defers=[]/\∃v,(results fn Y.tmps).run P w'=.ok v w'/\((∃v',Ending.returned v=.returned v')/\∃gi Hi,Out is'.out gi Hi w'):=⟨hd,_,hrs,⟨_,rfl⟩,g',_,hI.out⟩;cases e0 with
    |normal=>exact E
    |ret=>exact E
    |exit id=>exact(hne0 id rfl).elim
  .rintro e2 W2 ⟨⟨v,rfl⟩,gi,Hi,gc,y,B⟩
   refine⟨_,_,run_endLoop B.loop (by cases is'.out.pend<;>simp[k]),?_⟩;have G:=B.put {k (if is'.out.pend.isNone then .ready else .done) (is'.out.pend.map Ax)with state:=.exhausted}
   have key:=hQ gc {a with defers:=[mark D]++a.defers} _ G.ext G.fr ⟨G.hc,G.inv,hst.rep.ext G.ext (cb y.symm),by rw[y];exact hst.base⟩ ⟨[D],rfl,by simp,λr hr=>by
    simp only[jX]at hr;subst hr;exact⟨j7 _,G.dfr⟩⟩
   cases hp:is'.out.pend with
   |none=>simp only[hp]at key |-;exact key
   |some e3=>
    simp only[hp]at key |-;cases e3 with
    |normal=>exact wpIn_skip key
    |exit id=>exact wpIn_exit key
    |ret=>exact wpIn_ret key
end
end Go.Pm
