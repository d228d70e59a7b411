/-
 The pure machine: two parties (an iterator, and the loop that ranges over it), and soundness of the iterator's code.
-/
import Derived.Test.YtjcfpjpdopfefaaGreatPmPrune
import Derived.RangeFuncOwn
namespace Go.Pm
open Go Go.RowKit
set_option linter.all false
section
variable{P:fm}{B0 N:Nat}{w0 w:fk}{S0:Nat->Nat->Prop}{g g0:Gh}{H H0:List fB}{r:Nat}{o o':Obj}
def we:Obj->Bool
 | .map _ _|.stringIter _ _=>true
 |_=>false
theorem Qm.occ_cells{W:fk}(f:Qm P g B0 N H W){i b:Nat}(h:occ g H i=some b):∃x,W.heap[b]?=some x/\(x.isCells=true\/we x=true):=by
 unfold occ at h;split at h
 .rename_i cs hi;cases h;obtain⟨d,⟨vals,q,c,_⟩,_⟩:=f.box i cs hi;exact⟨_,c,.inl rfl⟩
 .rename_i e n hi;obtain⟨v0,d,c⟩:=f.tok i e n hi;rw[d]at h;rcases c with⟨rfl,_⟩|⟨p,cap,cur,size,rfl,j,k,_⟩
  .simp[Value.ownBlock]at h
  .simp[Value.ownBlock]at h;subst h;exact⟨_,k,.inl rfl⟩
 .rename_i e n cs hi;obtain⟨v0,d,c⟩:=f.mt i e n cs hi;rw[d]at h;rcases c with⟨_,rfl|⟨a,rfl⟩⟩|⟨p,l,cap,cur,rfl,j,k,m,_⟩|⟨p,l,cap,cur,size,ds,rfl,j,k,m,_⟩
  .simp[fG]at h
  .simp[fG]at h
  .simp[fG]at h;obtain⟨_,rfl⟩:=h;exact⟨_,m,.inl rfl⟩
  .simp[fG]at h;obtain⟨_,rfl⟩:=h;exact⟨_,m,.inl rfl⟩
 .rename_i es hi;cases h;obtain⟨d,⟨arr,o,⟨c,j⟩,_⟩,_⟩:=f.map i es hi;exact⟨_,c,.inr (by cases o<;>first|rfl|cases j)⟩
 .cases h
 .cases h
theorem Qm.occ_not{W:fk}(d:Qm P g B0 N H W)(h:W.heap[r]?=some o)(j:o.isCells=false)(f:we o=false)(i:Nat):occ g H i≠some r:=λe=>by
 obtain⟨x,hc,c⟩:=d.occ_cells e;rw[h]at hc;cases hc;rcases c with c|c<;>simp_all
theorem Qm.put{W:fk}(f:Qm P g B0 N H W)(hl:H.length<=N)(h:W.heap[r]?=some o)(j:o.isCells=false)(c:o'.isCells=false)(d:we o=false:=by rfl):Qm P g B0 N H (W.putObj r o'):=
 f.keep (Ext.put N g h j c) (j7 _) hl (λi b k=>World.putObj_heap_other λe=>f.occ_not h j d i (by rw[k,e])) (λ_ _ _ _ h=>h) (λ_ _=>rfl)
theorem Inv.put{W:fk}(hi:Inv B0 w0 S0 g W)(c:B0<=r):Inv B0 w0 S0 g (W.putObj r o'):=
 ⟨Below.putObj hi.below c,by simpa using hi.size,hi.old,λb o h=>by simpa using hi.lt b o h⟩
theorem Fr.put{W:fk}(c:Fr g0 H0 w g H W)(e:w.heap.size<=r):Fr g0 H0 w g H (W.putObj r o'):=
 ⟨by simpa using c.size,λb d hn=>(World.putObj_heap_other y8).trans (c.keep b d hn),c.occ,c.pub⟩
theorem Re{k g':Gh}{K H':List fB}{w':fk}(d:Qm P k B0 N K w)(hl:K.length<=N)(f:k.S=g.S)(r:Ext 0 g w g' w')(l:Fr g H w g' H' w')(m:∀i j b,occ k K i=some b->occ g H j=some b->False)(M:Nat):
  Ext M k w {k with S:=g'.S} w'/\Qm P {k with S:=g'.S} B0 N K w'/\∀i j b,occ {k with S:=g'.S} K i=some b->occ g' H' j=some b->False:=by
 have s:∀M,Ext M k w {k with S:=g'.S} w':=λM=>⟨λb o h=>r.S b o (f ▸ h),λb o h=>r.cell b o (f ▸ h),λ_ _ h=>⟨rfl,h⟩,λ_ _ v n h=>⟨v,n,h,j7 _,λ_=>rfl⟩⟩
 refine⟨s M,d.keep (s N) (j7 _) hl (λi b c=>l.keep b (d.occ_lt c).2.1 λj p=>m i j b c p) (λi b c o t=>?_) (λ_ _=>rfl),λi j b e u=>?_⟩
 .rcases l.pub b o t with h|h|⟨j,p⟩
  .rw[f];exact h
  .exact absurd (d.occ_lt c).2.1 y8
  .exact(m i j b c p).elim
 .have e:occ k K i=some b:=e;obtain⟨x,q⟩:=l.occ j b u (d.occ_lt e).2.1;exact m i x b e q
end
structure uz (P:fm) (B0:Nat) (w0:fk) (S0:Nat->Nat->Prop) (h0:Nat) (g:Gh) (H:List fB) (w:fk) (D l:Nat) (r:Loop) (gc:Gh) (Hc:List fB) (gi:Gh) (Hi:List fB) (W:fk):Prop where
 hc:Qm P gc B0 Hc.length Hc W
 hi:Qm P gi B0 Hi.length Hi W
 inv:Inv B0 w0 S0 gc W
 S:gc.S=gi.S
 ext:Ext h0 g w gc W
 fr:Fr g H w gc Hc W
 dis:∀i j b,occ gc Hc i=some b->occ gi Hi j=some b->False
 new:∀j b,occ gi Hi j=some b->w.heap.size<=b
 loop:W.heap[l]?=some (.loop r)
 dfr:W.heap[D]?=some (.deferred (some []))
 hB:B0<=w.heap.size
 hD:w.heap.size<=D
 hl:w.heap.size<=l
 ne:D≠l
section
variable{P:fm}{B0 h0 D l:Nat}{w0 w W W':fk}{S0:Nat->Nat->Prop}{g gc gi gc' gi':Gh}{H Hc Hi Hc' Hi':List fB}{r:Loop}
theorem Inv.ofS{g g':Gh}(h:Inv B0 w0 S0 g w)(e:g'.S=g.S):Inv B0 w0 S0 g' w:=⟨h.below,h.size,λb o c=>h.old b o (e ▸ c),λb o c=>h.lt b o (e ▸ c)⟩
theorem uz.inner(c:uz P B0 w0 S0 h0 g H w D l r gc Hc gi Hi W)(p:Ext 0 gi W gi' W')(e:Fr gi Hi W gi' Hi' W')(m:Qm P gi' B0 Hi'.length Hi' W')(f:Inv B0 w0 S0 gi' W'):
  uz P B0 w0 S0 h0 g H w D l r {gc with S:=gi'.S} Hc gi' Hi' W':=by
 obtain⟨q,s,t⟩:=Re c.hc (j7 _) c.S p e c.dis h0;refine⟨s,m,f.ofS rfl,rfl,c.ext.trans q (j7 _),⟨jW c.fr.size e.size,λb d hn=>?_,c.fr.occ,λb o u=>?_⟩,t,λj b k=>?_,?_,?_,c.hB,c.hD,c.hl,c.ne⟩
 .exact(e.keep b (jP d c.fr.size) λj k=>by have:=c.new j b k;omega).trans (c.fr.keep b d hn)
 .rcases e.pub b o u with h|h|⟨j,k⟩
  .exact c.fr.pub b o (by rw[c.S];exact h)
  .exact .inr (.inl (jW c.fr.size h))
  .exact .inr (.inl (c.new j b k))
 .by_cases d:b<W.heap.size
  .obtain⟨v,n⟩:=e.occ j b k d;exact c.new v b n
  .have:=c.fr.size;omega
 .exact(e.keep l (gX c.loop) (c.hi.occ_not c.loop rfl rfl)).trans c.loop
 .exact(e.keep D (gX c.dfr) (c.hi.occ_not c.dfr rfl rfl)).trans c.dfr
theorem uz.outer(c:uz P B0 w0 S0 h0 g H w D l r gc Hc gi Hi W)(n:Ext h0 gc W gc' W')(e:Fr gc Hc W gc' Hc' W')(f:Qm P gc' B0 Hc'.length Hc' W')(d:Inv B0 w0 S0 gc' W')(M:Nat):
  uz P B0 w0 S0 h0 g H w D l r gc' Hc' {gi with S:=gc'.S} Hi W'/\Ext M gi W {gi with S:=gc'.S} W':=by
 obtain⟨p,q,s⟩:=Re c.hi (j7 _) c.S.symm (n.less (zP _)) e (λi j b k m=>c.dis j i b m k) M;refine⟨⟨f,q,d,rfl,c.ext.trans n (j7 _),c.fr.trans e,λi j b k m=>s j i b m k,c.new,?_,?_,c.hB,c.hD,c.hl,c.ne⟩,p⟩
 .exact(e.keep l (gX c.loop) (c.hc.occ_not c.loop rfl rfl)).trans c.loop
 .exact(e.keep D (gX c.dfr) (c.hc.occ_not c.dfr rfl rfl)).trans c.dfr
theorem uz.put(c:uz P B0 w0 S0 h0 g H w D l r gc Hc gi Hi W)(d:Loop):uz P B0 w0 S0 h0 g H w D l d gc Hc gi Hi (W.putObj l (.loop d)):=
 ⟨c.hc.put (j7 _) c.loop rfl rfl,c.hi.put (j7 _) c.loop rfl rfl,c.inv.put (jW c.hB c.hl),c.S,c.ext.trans (Ext.put h0 gc c.loop rfl rfl) (j7 _),c.fr.put c.hl,c.dis,c.new,
  World.putObj_heap_same (gX c.loop),(World.putObj_heap_other c.ne).trans c.dfr,c.hB,c.hD,c.hl,c.ne⟩
theorem uz.putExt(c:uz P B0 w0 S0 h0 g H w D l r gc Hc gi Hi W)(d:Loop)(N:Nat)(k:Gh):Ext N k W k (W.putObj l (.loop d)):=Ext.put N k c.loop rfl rfl
end
section
variable{σ:Type}{P:fm}{B0:Nat}{w0:fk}{S0:Nat->Nat->Prop}{Nb l:Nat}{m:Nat}{pf:fo->Bool}{call:gk}{h:Hint}{Y:List fy->σ->Option (Bool×σ)}{Out:σ->Gh->List fB->fk->Prop}
def nV(P:fm)(B0:Nat)(w0:fk)(S0:Nat->Nat->Prop)(Out:σ->Gh->List fB->fk->Prop):Prop:=
 ∀s g H w g' H' w',Out s g H w->Ext 0 g w g' w'->Fr g H w g' H' w'->Qm P g' B0 H'.length H' w'->Inv B0 w0 S0 g' w'->Out s g' H' w'
def RC(P:fm)(B0:Nat)(w0:fk)(S0:Nat->Nat->Prop)(l:Nat)(Y:List fy->σ->Option (Bool×σ))(Out:σ->Gh->List fB->fk->Prop):Prop:=
 ∀(g:Gh) (H:List fB) (w:fk) (vals:Array Value) (ds:List fy) (s s':σ) (b:Bool) (m:Nat),Y ds s=some (b,s')->Out s g H w->Qm P g B0 H.length H w->Inv B0 w0 S0 g w->
  vals.size=ds.length->(∀(j:Nat) v d,vals[j]?=some v->ds[j]?=some d->fY w g.S v d)->
  ∃fn tmps assign body,(Instr.yield l vals).run P w=.ok (.round l fn tmps assign body) w/\
   RoundIn Fence.wide m P l fn tmps assign body w λe w'=>e=.returned (.bool b)/\∃g',Ext H.length g w g' w'/\Qm P g' B0 H.length H w'/\Inv B0 w0 S0 g' w'/\Out s' g' H w'
structure Ms (P:fm) (B0:Nat) (w0:fk) (S0:Nat->Nat->Prop) (l Nb:Nat) (Out:σ->Gh->List fB->fk->Prop) (g:Gh) (is:nQ σ) (a:Act) (w:fk):Prop where
 st:kT P B0 w0 S0 Nb g is.st a w
 ys:∀t,t∈is.ys->a.tmps[t]?=some (.func (.yield l) #[] #[])
 out:Out is.out g is.st.heap w
theorem G8{k:Option (List Nat)}{ys:List Tmp}{t:Tmp}(h:t∈ze k ys):t∈ys:=by
 cases k with
 |none=>exact h
 |some ks=>exact(bk.mp h).1
theorem zz{ys:List Tmp}{a:Act}{d:Option Tmp}{v:fu}(h:∀t,t∈ys->a.tmps[t]?=some (.func (.yield l) #[] #[])):∀t,t∈rJ ys d->(a.put d v).tmps[t]?=some (.func (.yield l) #[] #[]):=λt c=>by
 cases d with
 |none=>exact h t c
 |some d=>
  simp only[rJ,bk,bne_iff_ne,ne_eq]at c;show(a.tmps.setIfInBounds d v)[t]?=_
  rw[di (λe=>c.2 e.symm)];exact h t c.1
def Kc(P:fm)(B0:Nat)(w0:fk)(S0:Nat->Nat->Prop)(l:Nat)(Out:σ->Gh->List fB->fk->Prop)(ops:Array Oper)(o:Oper)(is c:nQ σ):Prop:=
 ∀(Nb:Nat) (g:Gh) (a:Act) (w:fk) (m:Nat) (K:Act->fk->Prop) (Q:Exit->Act->fk->Prop),Ms P B0 w0 S0 l Nb Out g is a w->
  (∀g' d w',Ext Nb g w g' w'->Ms P B0 w0 S0 l Nb Out g' c d w'->d.defers=a.defers->K d w')->
  (if Region.wanted o (yielded ops a.tmps)then o.wpIn Fence.wide m P a w K Q else(∀f,o.about P w a.eval=some f->Fence.wide.fn f)/\K (a.put o.dst undef) w)
theorem MN(d:iX P pf call)(hst:nV P B0 w0 S0 Out){r i:Nat}{ops:Array Oper}{o:Oper}{is:nQ σ}{k:St}(e:iJ P call h r ops i o is.st=some k):
  Kc P B0 w0 S0 l Out ops o is ⟨k,rJ is.ys o.dst,is.out⟩:=by
 intro Nb g a w m K Q c p;have q:rm Fence.wide:=.inl rfl;unfold iJ at e;split at e
 .rename_i hw;rw[jw c.st.rep hw,ai rfl];split at e
  .rename_i v H n;cases e;refine s6 q d n c.st λu g' w' j=>?_
   exact p g' _ w' (j.ext.less c.st.base) ⟨c.st.put j o.dst,zz c.ys,hst _ _ _ _ _ _ _ c.out (j.ext.less (zP _)) j.fr j.heap j.inv⟩ (iH _ _ _)
  .cases e
 .rename_i hw;rw[jw c.st.rep hw];simp only[j6,aj];cases e;exact⟨λf _=>q.fn f,p g _ w (Ext.refl _ _ _) ⟨⟨c.st.heap,c.st.inv,c.st.rep.put o.dst mw,c.st.base⟩,zz c.ys,c.out⟩ (iH _ _ _)⟩
 .cases e
theorem tQ{o:Oper}(h:o.guard=none)(y:Nat->Option Bool):Region.wanted o y=true:=by simp[Region.wanted,h]
theorem OW(y:iX P pf call)(hst:nV P B0 w0 S0 Out)(T:RC P B0 w0 S0 l Y Out){r i:Nat}{ops:Array Oper}{o:Oper}{is n:nQ σ}(c:ln P call h Y r ops i o is=some n):
  Kc P B0 w0 S0 l Out ops o is n:=by
 unfold ln at c
 have z:∀{n},((iJ P call h r ops i o is.st).map λst=>(⟨st,rJ is.ys o.dst,is.out⟩:nQ σ))=some n->Kc P B0 w0 S0 l Out ops o is n:=λc=>by
  simp only[j5]at c;obtain⟨U,c,rfl⟩:=c;exact MN y hst c
 split at c
 .rename_i t A C;split at c
  .rename_i q;split at c
   .rename_i d B;split at c
    .rename_i D;cases c;intro Nb g a w m K Q k E;rw[tQ C,ai rfl];have F:rm Fence.wide:=.inl rfl;refine⟨λf _=>F.fn f,?_⟩;rw[Oper.semAt_eq _ _ _ (by simp[A])];have s:(execOp a.eval o).run P w=.ok (.value (a.eval (.tmp t))) w:=by simp[execOp,A]
     rw[s];have G:a.tmps[t]?=some (.func (.yield l) #[] #[]):=k.ys t (by simpa using q);have H:a.eval (.tmp t)=.func (.yield l) #[] #[]:=by show a.tmps.getD t undef=_;simp[jH,G]
     refine E g _ w (Ext.refl _ _ _) ⟨⟨k.st.heap,k.st.inv,?_,k.st.base⟩,λI J=>?_,k.out⟩ (iH _ _ _)
     .have:=k.st.rep.put (a:=a) o.dst (v:=a.eval (.tmp t)) (p:=.undef) (.undef _);rw[B]at this |-;exact this
     .rw[B];show(a.tmps.setIfInBounds d _)[I]?=_
      by_cases e:I=d
      .subst e;rw[Array.getElem?_setIfInBounds_self_of_lt (by rw[k.st.rep.1];exact D),H]
      .rw[di (λe'=>e e'.symm)];rcases aq.1 J with h|h
       .exact absurd h e
       .exact k.ys I h
    .cases c
   .cases c
  .exact z c
 .rename_i t args ts A C;split at c
  .rename_i q;split at c
   .rename_i ds L;split at c
    .cases c
    .rename_i M;split at c
     .rename_i b out V;cases c;intro Nb g a w m K Q k E;rw[tQ C,ai rfl];have F:rm Fence.wide:=.inl rfl;refine⟨λf _=>F.fn f,?_⟩;rw[Oper.semAt_eq _ _ _ (by simp[A])];have G:a.tmps[t]?=some (.func (.yield l) #[] #[]):=k.ys t (by simpa using q);have H:a.eval (.tmp t)=.func (.yield l) #[] #[]:=by show a.tmps.getD t undef=_;simp[jH,G]
      obtain⟨p1,W⟩:=jl _ _ L
      obtain⟨fn,tmps,assign,body,s,u⟩:=T g is.st.heap w (args.map a.eval) ds is.out out b (m - 1) V k.out k.st.heap k.st.inv (by simp at p1 |-;omega) (λj v d O X=>by
       simp only[zK,j5]at O;obtain⟨x,Z,rfl⟩:=O;have R:(args.toList.map (ev is.st.slots))[j]?=some (ev is.st.slots x):=by simp[Z]
       refine mv (k.st.rep.ev x) (W j _ d R X) ?_;have:=bp.1 (by simpa using M) _ (jF R)
       simpa using this)
      have N:(execOp a.eval o).run P w=.ok (.round l fn tmps assign body) w:=by
       simp[execOp,A,resolve,H,Deferred.ofValue,invoke,s]
      rw[N,Oper.uponIn_round];refine⟨λB=>by simp[Fence.wide]at B,u.mono λe w' he=>?_⟩;obtain⟨rfl,g',S,e2,e3,e4⟩:=he;exact E g' _ w' (S.less k.st.base) ⟨⟨e2,e3,(k.st.rep.ext S (j7 _)).put o.dst (.dat _ _ (.raw _ rfl)),k.st.base⟩,zz k.ys,e4⟩ (iH _ _ _)
     .cases c
   .cases c
  .exact z c
 .exact z c
theorem vI(c:iX P pf call)(hst:nV P B0 w0 S0 Out)(q:RC P B0 w0 S0 l Y Out){r:Nat}{ops:Array Oper}{Q:Exit->Act->fk->Prop}:∀(os:List Oper) (i:Nat) (is is':nQ σ) (g:Gh) (a:Act) (w:fk),
  jr P call h Y r ops i os is=some is'->(∀j,os[j]?=ops[i+j]?)->Ms P B0 w0 S0 l Nb Out g is a w->
  (∀g' e w',Ext Nb g w g' w'->Ms P B0 w0 S0 l Nb Out g' is' e w'->e.defers=a.defers->Q .normal e w')->wpOpsIn Fence.wide m P ops Q (List.range' i os.length) a w
 |[],i,is,is',g,a,w,d,_,f,k=>by
  cases d;exact k g a w (Ext.refl _ _ _) f rfl
 |o::os,i,is,is',g,a,w,d,hl,f,k=>by
  have h0:ops[i]?=some o:=by simpa using(hl 0).symm
  have n:∀j,os[j]?=ops[i+1+j]?:=λj=>by have:=hl (j+1);rw[show i+1+j=i+(j+1) by omega];simpa using this
  simp only[zG,cA,wpOpsIn,h0];unfold jr at d;split at d
  .rename_i p s;refine OW c hst q s Nb g a w m _ Q f λt u v x y z=>?_
   exact vI c hst q os (i+1) p is' t u v d n y λA B C D E F=>k A B C (x.trans D (j7 _)) E (F.trans z)
  .cases d
def LW(P:fm)(B0:Nat)(w0:fk)(S0:Nat->Nat->Prop)(l:Nat)(Out:σ->Gh->List fB->fk->Prop)(c:Code)(is:nQ σ)(e:Ex)(is':nQ σ):Prop:=
 ∀(Nb:Nat) (g:Gh) (a:Act) (w:fk) (m:Nat) (Q:Exit->Act->fk->Prop),Ms P B0 w0 S0 l Nb Out g is a w->
  (∀g' d w',Ext Nb g w g' w'->Ms P B0 w0 S0 l Nb Out g' is' d w'->d.defers=a.defers->Q (xA e) d w')->c.wpIn Fence.wide m P Q a w
theorem BN(G:iX P pf call)(hst:nV P B0 w0 S0 Out)(V:RC P B0 w0 S0 l Y Out):∀(n:Nat),
  (∀(c:Code) (is is':nQ σ) (e:Ex),gA P call h Y n c is=some (e,is')->LW P B0 w0 S0 l Out c is e is')/\
  (∀(b:Code) (h0:Nat) (is is':nQ σ) (e:Ex),gA.iloop P call h Y b h0 n is=some (e,is')->h0<=is.st.heap.length->
   ∀(g:Gh) (a:Act) (w:fk) (m:Nat) (Q:Exit->Act->fk->Prop),Ms P B0 w0 S0 l h0 Out g is a w->
    (∀g' K w',Ext h0 g w g' w'->Ms P B0 w0 S0 l h0 Out g' is' K w'->K.defers=a.defers->Q (xA e) K w')->Code.roundsIn Fence.wide m P b Q n a w):=by
 intro n;induction n with
 |zero=>exact⟨λc is is' e d=>by simp[gA]at d,λb h0 is is' e d=>by simp[gA.iloop]at d⟩
 |succ n W=>
  obtain⟨p,I⟩:=W;refine⟨λc is is' e d=>?_,λb h0 is is' e d X=>?_⟩
  .intro Nb g a w m Q f s;cases c with
   |skip=>simp only[gA,j9,jI]at d;obtain⟨rfl,rfl⟩:=d;exact wpIn_skip (s g a w (Ext.refl _ _ _) f rfl)
   |region r ops J=>
    cases J
    .simp only[gA]at d;simp only[j5]at d;obtain⟨q,d,F⟩:=d;simp only[jI]at F;obtain⟨rfl,rfl⟩:=F;refine wpIn_region ?_;have:=vI (Q:=Q) (m:=m) G hst V ops.toList 0 is q g a w d (λj=>by simp) f s
     rwa [aP,<-dw]at this
    .simp[gA]at d
   |seq x y=>
    simp only[gA]at d;refine wpIn_seq ?_;split at d
    .rename_i q F;refine p x is q .normal F Nb g a w m _ f λu v A B k C=>?_
     exact p y q is' e d Nb u v A m Q k λL M N O R S=>s L M N (B.trans O (j7 _)) R (S.trans C)
    .rename_i D;refine p x is is' e d Nb g a w m _ f λu v A B k C=>?_
     have:=s u v A B k C;cases e with
     |normal=>exact absurd d (D is')
     |exit id=>exact this
     |ret=>exact this
   |cond x y z=>
    simp only[gA]at d;split at d
    .rename_i T;exact wpIn_cond_true (mz (f.st.rep.ev x) T) (p y is is' e d Nb g a w m Q f s)
    .rename_i T;exact wpIn_cond_false (mz (f.st.rep.ev x) T) (p z is is' e d Nb g a w m Q f s)
    .cases d
   |block id b=>
    simp only[gA]at d;refine wpIn_block ?_;split at d
    .rename_i Z q F;refine p b is q _ F Nb g a w m _ f λu v A B k C=>?_
     split at d
     .rename_i H;simp only[j9,jI]at d;obtain⟨rfl,rfl⟩:=d;have:=s u v A B k C
      simpa[xA,Exit.inBlock,H]using this
     .rename_i H;simp only[j9,jI]at d;obtain⟨rfl,rfl⟩:=d;have:=s u v A B k C
      simpa[xA,Exit.inBlock,H]using this
    .rename_i D;refine p b is is' e d Nb g a w m _ f λu v A B k C=>?_
     have:=s u v A B k C;cases e with
     |normal=>exact this
     |exit id=>exact absurd d (D id is')
     |ret=>exact this
   |loop b=>
    simp only[gA]at d;refine wpIn_loop_rounds n ?_;refine I b is.st.heap.length is is' e d (j7 _) g a w m Q ⟨⟨f.st.heap,f.st.inv,f.st.rep,j7 _⟩,f.ys,f.out⟩ λu v A B k C=>?_
    exact s u v A (B.less f.st.base) ⟨⟨k.st.heap,k.st.inv,k.st.rep,jW f.st.base k.st.base⟩,k.ys,k.out⟩ C
   |exit id=>simp only[gA,j9,jI]at d;obtain⟨rfl,rfl⟩:=d;exact wpIn_exit (s g a w (Ext.refl _ _ _) f rfl)
   |ret=>simp only[gA,j9,jI]at d;obtain⟨rfl,rfl⟩:=d;exact wpIn_ret (s g a w (Ext.refl _ _ _) f rfl)
   |_=>simp[gA]at d
  .intro g a w m Q f s;rw[roundsIn_succ];simp only[gA.iloop]at d;obtain⟨g0,e0,f0,E⟩:=wg ((Q0 b).bind h.keepAt) f.st;have U:Ms P B0 w0 S0 l h0 Out g0 ⟨iU h0 ((Q0 b).bind h.keepAt) is.st,ze ((Q0 b).bind h.keepAt) is.ys,is.out⟩ a w:=⟨E,λt ht=>f.ys t (G8 ht),hst _ _ _ _ _ _ _ f.out (e0.less (zP _)) f0 E.heap E.inv⟩;split at d
   .rename_i q F;refine p b _ q .normal F h0 g0 a w m _ U λu v A B k C=>?_
    exact I b h0 q is' e d k.st.base u v A m Q k λL M N O R S=>s L M N ((e0.trans B (j7 _)).trans O (j7 _)) R (S.trans C)
   .rename_i D;refine p b _ is' e d h0 g0 a w m _ U λu v A B k C=>?_
    have:=s u v A (e0.trans B (j7 _)) k C;cases e with
    |normal=>exact absurd d (D is')
    |exit id=>exact this
    |ret=>exact this
end
end Go.Pm
